/-
The drawn regions of the program's May: their operations, and the order in which they may be taken.
-/
import Derived.Test.YtpmafghknafhaaaHeldA
set_option linter.unusedVariables false
set_option linter.unusedSimpArgs false
namespace Go.Proofs.Ytpmafghknafhaaa
open Go.RowKit
noncomputable def opsja : Array Oper := Held.inBody 8 Try.f12.body
def ordja : List Nat := [0, 1, 2, 3, 4, 5, 6, 7, 8, 9, 10, 11, 12, 13, 14, 15, 16, 17, 18, 19, 20, 21, 22, 23, 24, 25, 26, 27, 28, 29, 30, 31, 32]
set_option maxRecDepth 100000 in
theorem sizja : opsja.size = 33 := by kernel_rfl
set_option maxRecDepth 100000 in
theorem nosja : Region.noSelect opsja = true := by kernel_rfl
set_option maxRecDepth 100000 in
theorem okkja_0 : Held.okAt opsja ordja 0 = true := by kernel_rfl
set_option maxRecDepth 100000 in
theorem okkja_1 : Held.okAt opsja ordja 1 = true := by kernel_rfl
set_option maxRecDepth 100000 in
theorem okkja_3 : Held.okAt opsja ordja 3 = true := by kernel_rfl
set_option maxRecDepth 100000 in
theorem okkja_4 : Held.okAt opsja ordja 4 = true := by kernel_rfl
set_option maxRecDepth 100000 in
theorem okkja_5 : Held.okAt opsja ordja 5 = true := by kernel_rfl
set_option maxRecDepth 100000 in
theorem okkja_6 : Held.okAt opsja ordja 6 = true := by kernel_rfl
set_option maxRecDepth 100000 in
theorem okkja_7 : Held.okAt opsja ordja 7 = true := by kernel_rfl
set_option maxRecDepth 100000 in
theorem okkja_8 : Held.okAt opsja ordja 8 = true := by kernel_rfl
set_option maxRecDepth 100000 in
theorem okkja_9 : Held.okAt opsja ordja 9 = true := by kernel_rfl
set_option maxRecDepth 100000 in
theorem okkja_10 : Held.okAt opsja ordja 10 = true := by kernel_rfl
set_option maxRecDepth 100000 in
theorem okkja_11 : Held.okAt opsja ordja 11 = true := by kernel_rfl
set_option maxRecDepth 100000 in
theorem okkja_12 : Held.okAt opsja ordja 12 = true := by kernel_rfl
set_option maxRecDepth 100000 in
theorem okkja_13 : Held.okAt opsja ordja 13 = true := by kernel_rfl
set_option maxRecDepth 100000 in
theorem okkja_14 : Held.okAt opsja ordja 14 = true := by kernel_rfl
set_option maxRecDepth 100000 in
theorem okkja_15 : Held.okAt opsja ordja 15 = true := by kernel_rfl
set_option maxRecDepth 100000 in
theorem okkja_16 : Held.okAt opsja ordja 16 = true := by kernel_rfl
set_option maxRecDepth 100000 in
theorem okkja_17 : Held.okAt opsja ordja 17 = true := by kernel_rfl
set_option maxRecDepth 100000 in
theorem okkja_18 : Held.okAt opsja ordja 18 = true := by kernel_rfl
set_option maxRecDepth 100000 in
theorem okkja_19 : Held.okAt opsja ordja 19 = true := by kernel_rfl
set_option maxRecDepth 100000 in
theorem okkja_20 : Held.okAt opsja ordja 20 = true := by kernel_rfl
set_option maxRecDepth 100000 in
theorem okkja_21 : Held.okAt opsja ordja 21 = true := by kernel_rfl
set_option maxRecDepth 100000 in
theorem okkja_22 : Held.okAt opsja ordja 22 = true := by kernel_rfl
set_option maxRecDepth 100000 in
theorem okkja_23 : Held.okAt opsja ordja 23 = true := by kernel_rfl
set_option maxRecDepth 100000 in
theorem okkja_24 : Held.okAt opsja ordja 24 = true := by kernel_rfl
set_option maxRecDepth 100000 in
theorem okkja_25 : Held.okAt opsja ordja 25 = true := by kernel_rfl
set_option maxRecDepth 100000 in
theorem okkja_26 : Held.okAt opsja ordja 26 = true := by kernel_rfl
set_option maxRecDepth 100000 in
theorem okkja_27 : Held.okAt opsja ordja 27 = true := by kernel_rfl
set_option maxRecDepth 100000 in
theorem okkja_28 : Held.okAt opsja ordja 28 = true := by kernel_rfl
set_option maxRecDepth 100000 in
theorem okkja_29 : Held.okAt opsja ordja 29 = true := by kernel_rfl
set_option maxRecDepth 100000 in
theorem okkja_30 : Held.okAt opsja ordja 30 = true := by kernel_rfl
set_option maxRecDepth 100000 in
theorem okkja_31 : Held.okAt opsja ordja 31 = true := by kernel_rfl
set_option maxRecDepth 100000 in
theorem okkja_32 : Held.okAt opsja ordja 32 = true := by kernel_rfl
set_option maxRecDepth 100000 in
theorem rdyja_2 : Region.ready .any opsja (Held.lst 33 ordja 2) = [2] := by kernel_rfl
noncomputable def opsjb : Array Oper := Held.inBody 8 Try.f12.body
def ordjb : List Nat := [0, 1, 2, 3, 4, 5, 6, 7, 8, 9, 10, 11, 12, 13, 14, 15, 16, 17, 18, 19, 20, 21, 22, 23, 24, 25, 26, 27, 28, 29, 30, 31, 32]
set_option maxRecDepth 100000 in
theorem sizjb : opsjb.size = 33 := by kernel_rfl
set_option maxRecDepth 100000 in
theorem nosjb : Region.noSelect opsjb = true := by kernel_rfl
set_option maxRecDepth 100000 in
theorem okkjb_0 : Held.okAt opsjb ordjb 0 = true := by kernel_rfl
set_option maxRecDepth 100000 in
theorem okkjb_1 : Held.okAt opsjb ordjb 1 = true := by kernel_rfl
set_option maxRecDepth 100000 in
theorem okkjb_3 : Held.okAt opsjb ordjb 3 = true := by kernel_rfl
set_option maxRecDepth 100000 in
theorem okkjb_4 : Held.okAt opsjb ordjb 4 = true := by kernel_rfl
set_option maxRecDepth 100000 in
theorem okkjb_5 : Held.okAt opsjb ordjb 5 = true := by kernel_rfl
set_option maxRecDepth 100000 in
theorem okkjb_6 : Held.okAt opsjb ordjb 6 = true := by kernel_rfl
set_option maxRecDepth 100000 in
theorem okkjb_8 : Held.okAt opsjb ordjb 8 = true := by kernel_rfl
set_option maxRecDepth 100000 in
theorem okkjb_9 : Held.okAt opsjb ordjb 9 = true := by kernel_rfl
set_option maxRecDepth 100000 in
theorem okkjb_10 : Held.okAt opsjb ordjb 10 = true := by kernel_rfl
set_option maxRecDepth 100000 in
theorem okkjb_11 : Held.okAt opsjb ordjb 11 = true := by kernel_rfl
set_option maxRecDepth 100000 in
theorem okkjb_12 : Held.okAt opsjb ordjb 12 = true := by kernel_rfl
set_option maxRecDepth 100000 in
theorem okkjb_13 : Held.okAt opsjb ordjb 13 = true := by kernel_rfl
set_option maxRecDepth 100000 in
theorem okkjb_14 : Held.okAt opsjb ordjb 14 = true := by kernel_rfl
set_option maxRecDepth 100000 in
theorem okkjb_15 : Held.okAt opsjb ordjb 15 = true := by kernel_rfl
set_option maxRecDepth 100000 in
theorem okkjb_16 : Held.okAt opsjb ordjb 16 = true := by kernel_rfl
set_option maxRecDepth 100000 in
theorem okkjb_17 : Held.okAt opsjb ordjb 17 = true := by kernel_rfl
set_option maxRecDepth 100000 in
theorem okkjb_18 : Held.okAt opsjb ordjb 18 = true := by kernel_rfl
set_option maxRecDepth 100000 in
theorem okkjb_19 : Held.okAt opsjb ordjb 19 = true := by kernel_rfl
set_option maxRecDepth 100000 in
theorem okkjb_20 : Held.okAt opsjb ordjb 20 = true := by kernel_rfl
set_option maxRecDepth 100000 in
theorem okkjb_21 : Held.okAt opsjb ordjb 21 = true := by kernel_rfl
set_option maxRecDepth 100000 in
theorem okkjb_22 : Held.okAt opsjb ordjb 22 = true := by kernel_rfl
set_option maxRecDepth 100000 in
theorem okkjb_23 : Held.okAt opsjb ordjb 23 = true := by kernel_rfl
set_option maxRecDepth 100000 in
theorem okkjb_24 : Held.okAt opsjb ordjb 24 = true := by kernel_rfl
set_option maxRecDepth 100000 in
theorem okkjb_25 : Held.okAt opsjb ordjb 25 = true := by kernel_rfl
set_option maxRecDepth 100000 in
theorem okkjb_26 : Held.okAt opsjb ordjb 26 = true := by kernel_rfl
set_option maxRecDepth 100000 in
theorem okkjb_27 : Held.okAt opsjb ordjb 27 = true := by kernel_rfl
set_option maxRecDepth 100000 in
theorem okkjb_28 : Held.okAt opsjb ordjb 28 = true := by kernel_rfl
set_option maxRecDepth 100000 in
theorem okkjb_29 : Held.okAt opsjb ordjb 29 = true := by kernel_rfl
set_option maxRecDepth 100000 in
theorem okkjb_30 : Held.okAt opsjb ordjb 30 = true := by kernel_rfl
set_option maxRecDepth 100000 in
theorem okkjb_31 : Held.okAt opsjb ordjb 31 = true := by kernel_rfl
set_option maxRecDepth 100000 in
theorem okkjb_32 : Held.okAt opsjb ordjb 32 = true := by kernel_rfl
set_option maxRecDepth 100000 in
theorem rdyjb_2 : Region.ready .any opsjb (Held.lst 33 ordjb 2) = [2] := by kernel_rfl
set_option maxRecDepth 100000 in
theorem rdyjb_7 : Region.ready .any opsjb (Held.lst 33 ordjb 7) = [7] := by kernel_rfl
noncomputable def opsjc : Array Oper := Held.inBody 8 Try.f12.body
def ordjc : List Nat := [0, 1, 2, 3, 4, 5, 6, 7, 8, 9, 10, 11, 12, 13, 14, 15, 16, 17, 18, 19, 20, 21, 22, 23, 24, 25, 26, 27, 28, 29, 30, 31, 32]
set_option maxRecDepth 100000 in
theorem sizjc : opsjc.size = 33 := by kernel_rfl
set_option maxRecDepth 100000 in
theorem nosjc : Region.noSelect opsjc = true := by kernel_rfl
set_option maxRecDepth 100000 in
theorem okkjc_0 : Held.okAt opsjc ordjc 0 = true := by kernel_rfl
set_option maxRecDepth 100000 in
theorem okkjc_1 : Held.okAt opsjc ordjc 1 = true := by kernel_rfl
set_option maxRecDepth 100000 in
theorem okkjc_3 : Held.okAt opsjc ordjc 3 = true := by kernel_rfl
set_option maxRecDepth 100000 in
theorem okkjc_4 : Held.okAt opsjc ordjc 4 = true := by kernel_rfl
set_option maxRecDepth 100000 in
theorem okkjc_5 : Held.okAt opsjc ordjc 5 = true := by kernel_rfl
set_option maxRecDepth 100000 in
theorem okkjc_6 : Held.okAt opsjc ordjc 6 = true := by kernel_rfl
set_option maxRecDepth 100000 in
theorem okkjc_8 : Held.okAt opsjc ordjc 8 = true := by kernel_rfl
set_option maxRecDepth 100000 in
theorem okkjc_9 : Held.okAt opsjc ordjc 9 = true := by kernel_rfl
set_option maxRecDepth 100000 in
theorem okkjc_10 : Held.okAt opsjc ordjc 10 = true := by kernel_rfl
set_option maxRecDepth 100000 in
theorem okkjc_11 : Held.okAt opsjc ordjc 11 = true := by kernel_rfl
set_option maxRecDepth 100000 in
theorem okkjc_12 : Held.okAt opsjc ordjc 12 = true := by kernel_rfl
set_option maxRecDepth 100000 in
theorem okkjc_13 : Held.okAt opsjc ordjc 13 = true := by kernel_rfl
set_option maxRecDepth 100000 in
theorem okkjc_14 : Held.okAt opsjc ordjc 14 = true := by kernel_rfl
set_option maxRecDepth 100000 in
theorem okkjc_15 : Held.okAt opsjc ordjc 15 = true := by kernel_rfl
set_option maxRecDepth 100000 in
theorem okkjc_16 : Held.okAt opsjc ordjc 16 = true := by kernel_rfl
set_option maxRecDepth 100000 in
theorem okkjc_17 : Held.okAt opsjc ordjc 17 = true := by kernel_rfl
set_option maxRecDepth 100000 in
theorem okkjc_18 : Held.okAt opsjc ordjc 18 = true := by kernel_rfl
set_option maxRecDepth 100000 in
theorem okkjc_19 : Held.okAt opsjc ordjc 19 = true := by kernel_rfl
set_option maxRecDepth 100000 in
theorem okkjc_20 : Held.okAt opsjc ordjc 20 = true := by kernel_rfl
set_option maxRecDepth 100000 in
theorem okkjc_21 : Held.okAt opsjc ordjc 21 = true := by kernel_rfl
set_option maxRecDepth 100000 in
theorem okkjc_22 : Held.okAt opsjc ordjc 22 = true := by kernel_rfl
set_option maxRecDepth 100000 in
theorem okkjc_23 : Held.okAt opsjc ordjc 23 = true := by kernel_rfl
set_option maxRecDepth 100000 in
theorem okkjc_24 : Held.okAt opsjc ordjc 24 = true := by kernel_rfl
set_option maxRecDepth 100000 in
theorem okkjc_25 : Held.okAt opsjc ordjc 25 = true := by kernel_rfl
set_option maxRecDepth 100000 in
theorem okkjc_26 : Held.okAt opsjc ordjc 26 = true := by kernel_rfl
set_option maxRecDepth 100000 in
theorem okkjc_27 : Held.okAt opsjc ordjc 27 = true := by kernel_rfl
set_option maxRecDepth 100000 in
theorem okkjc_28 : Held.okAt opsjc ordjc 28 = true := by kernel_rfl
set_option maxRecDepth 100000 in
theorem okkjc_29 : Held.okAt opsjc ordjc 29 = true := by kernel_rfl
set_option maxRecDepth 100000 in
theorem okkjc_30 : Held.okAt opsjc ordjc 30 = true := by kernel_rfl
set_option maxRecDepth 100000 in
theorem okkjc_31 : Held.okAt opsjc ordjc 31 = true := by kernel_rfl
set_option maxRecDepth 100000 in
theorem okkjc_32 : Held.okAt opsjc ordjc 32 = true := by kernel_rfl
set_option maxRecDepth 100000 in
theorem rdyjc_2 : Region.ready .any opsjc (Held.lst 33 ordjc 2) = [2] := by kernel_rfl
set_option maxRecDepth 100000 in
theorem rdyjc_7 : Region.ready .any opsjc (Held.lst 33 ordjc 7) = [7] := by kernel_rfl
noncomputable def opsjd : Array Oper := Held.inBody 8 Try.f12.body
def ordjd : List Nat := [0, 1, 2, 3, 4, 5, 6, 7, 8, 9, 10, 11, 12, 13, 14, 15, 16, 17, 18, 19, 20, 21, 22, 23, 24, 25, 26, 27, 28, 29, 30, 31, 32]
set_option maxRecDepth 100000 in
theorem sizjd : opsjd.size = 33 := by kernel_rfl
set_option maxRecDepth 100000 in
theorem nosjd : Region.noSelect opsjd = true := by kernel_rfl
set_option maxRecDepth 100000 in
theorem okkjd_0 : Held.okAt opsjd ordjd 0 = true := by kernel_rfl
set_option maxRecDepth 100000 in
theorem okkjd_1 : Held.okAt opsjd ordjd 1 = true := by kernel_rfl
set_option maxRecDepth 100000 in
theorem okkjd_3 : Held.okAt opsjd ordjd 3 = true := by kernel_rfl
set_option maxRecDepth 100000 in
theorem okkjd_4 : Held.okAt opsjd ordjd 4 = true := by kernel_rfl
set_option maxRecDepth 100000 in
theorem okkjd_5 : Held.okAt opsjd ordjd 5 = true := by kernel_rfl
set_option maxRecDepth 100000 in
theorem okkjd_6 : Held.okAt opsjd ordjd 6 = true := by kernel_rfl
set_option maxRecDepth 100000 in
theorem okkjd_8 : Held.okAt opsjd ordjd 8 = true := by kernel_rfl
set_option maxRecDepth 100000 in
theorem okkjd_9 : Held.okAt opsjd ordjd 9 = true := by kernel_rfl
set_option maxRecDepth 100000 in
theorem okkjd_10 : Held.okAt opsjd ordjd 10 = true := by kernel_rfl
set_option maxRecDepth 100000 in
theorem okkjd_11 : Held.okAt opsjd ordjd 11 = true := by kernel_rfl
set_option maxRecDepth 100000 in
theorem okkjd_12 : Held.okAt opsjd ordjd 12 = true := by kernel_rfl
set_option maxRecDepth 100000 in
theorem okkjd_13 : Held.okAt opsjd ordjd 13 = true := by kernel_rfl
set_option maxRecDepth 100000 in
theorem okkjd_14 : Held.okAt opsjd ordjd 14 = true := by kernel_rfl
set_option maxRecDepth 100000 in
theorem okkjd_15 : Held.okAt opsjd ordjd 15 = true := by kernel_rfl
set_option maxRecDepth 100000 in
theorem okkjd_16 : Held.okAt opsjd ordjd 16 = true := by kernel_rfl
set_option maxRecDepth 100000 in
theorem okkjd_17 : Held.okAt opsjd ordjd 17 = true := by kernel_rfl
set_option maxRecDepth 100000 in
theorem okkjd_18 : Held.okAt opsjd ordjd 18 = true := by kernel_rfl
set_option maxRecDepth 100000 in
theorem okkjd_19 : Held.okAt opsjd ordjd 19 = true := by kernel_rfl
set_option maxRecDepth 100000 in
theorem okkjd_20 : Held.okAt opsjd ordjd 20 = true := by kernel_rfl
set_option maxRecDepth 100000 in
theorem okkjd_21 : Held.okAt opsjd ordjd 21 = true := by kernel_rfl
set_option maxRecDepth 100000 in
theorem okkjd_22 : Held.okAt opsjd ordjd 22 = true := by kernel_rfl
set_option maxRecDepth 100000 in
theorem okkjd_23 : Held.okAt opsjd ordjd 23 = true := by kernel_rfl
set_option maxRecDepth 100000 in
theorem okkjd_24 : Held.okAt opsjd ordjd 24 = true := by kernel_rfl
set_option maxRecDepth 100000 in
theorem okkjd_25 : Held.okAt opsjd ordjd 25 = true := by kernel_rfl
set_option maxRecDepth 100000 in
theorem okkjd_26 : Held.okAt opsjd ordjd 26 = true := by kernel_rfl
set_option maxRecDepth 100000 in
theorem okkjd_27 : Held.okAt opsjd ordjd 27 = true := by kernel_rfl
set_option maxRecDepth 100000 in
theorem okkjd_28 : Held.okAt opsjd ordjd 28 = true := by kernel_rfl
set_option maxRecDepth 100000 in
theorem okkjd_29 : Held.okAt opsjd ordjd 29 = true := by kernel_rfl
set_option maxRecDepth 100000 in
theorem okkjd_30 : Held.okAt opsjd ordjd 30 = true := by kernel_rfl
set_option maxRecDepth 100000 in
theorem okkjd_31 : Held.okAt opsjd ordjd 31 = true := by kernel_rfl
set_option maxRecDepth 100000 in
theorem okkjd_32 : Held.okAt opsjd ordjd 32 = true := by kernel_rfl
set_option maxRecDepth 100000 in
theorem rdyjd_2 : Region.ready .any opsjd (Held.lst 33 ordjd 2) = [2] := by kernel_rfl
set_option maxRecDepth 100000 in
theorem rdyjd_7 : Region.ready .any opsjd (Held.lst 33 ordjd 7) = [7] := by kernel_rfl
noncomputable def opsj0p : Array Oper := Held.inBody 11 Try.f12.body
def ordj0p : List Nat := [0, 1, 2, 3, 4, 5, 6, 7, 8, 9, 10, 11, 12, 13, 14, 15, 16, 17, 18, 19, 20, 21, 22, 23, 24, 25]
set_option maxRecDepth 100000 in
theorem sizj0p : opsj0p.size = 26 := by kernel_rfl
set_option maxRecDepth 100000 in
theorem nosj0p : Region.noSelect opsj0p = true := by kernel_rfl
set_option maxRecDepth 100000 in
theorem okkj0p_0 : Held.okAt opsj0p ordj0p 0 = true := by kernel_rfl
set_option maxRecDepth 100000 in
theorem okkj0p_1 : Held.okAt opsj0p ordj0p 1 = true := by kernel_rfl
set_option maxRecDepth 100000 in
theorem okkj0p_2 : Held.okAt opsj0p ordj0p 2 = true := by kernel_rfl
set_option maxRecDepth 100000 in
theorem okkj0p_3 : Held.okAt opsj0p ordj0p 3 = true := by kernel_rfl
set_option maxRecDepth 100000 in
theorem okkj0p_4 : Held.okAt opsj0p ordj0p 4 = true := by kernel_rfl
set_option maxRecDepth 100000 in
theorem okkj0p_5 : Held.okAt opsj0p ordj0p 5 = true := by kernel_rfl
set_option maxRecDepth 100000 in
theorem okkj0p_6 : Held.okAt opsj0p ordj0p 6 = true := by kernel_rfl
set_option maxRecDepth 100000 in
theorem okkj0p_7 : Held.okAt opsj0p ordj0p 7 = true := by kernel_rfl
set_option maxRecDepth 100000 in
theorem okkj0p_8 : Held.okAt opsj0p ordj0p 8 = true := by kernel_rfl
set_option maxRecDepth 100000 in
theorem okkj0p_9 : Held.okAt opsj0p ordj0p 9 = true := by kernel_rfl
set_option maxRecDepth 100000 in
theorem okkj0p_10 : Held.okAt opsj0p ordj0p 10 = true := by kernel_rfl
set_option maxRecDepth 100000 in
theorem okkj0p_11 : Held.okAt opsj0p ordj0p 11 = true := by kernel_rfl
set_option maxRecDepth 100000 in
theorem okkj0p_12 : Held.okAt opsj0p ordj0p 12 = true := by kernel_rfl
set_option maxRecDepth 100000 in
theorem okkj0p_13 : Held.okAt opsj0p ordj0p 13 = true := by kernel_rfl
set_option maxRecDepth 100000 in
theorem okkj0p_14 : Held.okAt opsj0p ordj0p 14 = true := by kernel_rfl
set_option maxRecDepth 100000 in
theorem okkj0p_15 : Held.okAt opsj0p ordj0p 15 = true := by kernel_rfl
set_option maxRecDepth 100000 in
theorem okkj0p_16 : Held.okAt opsj0p ordj0p 16 = true := by kernel_rfl
set_option maxRecDepth 100000 in
theorem okkj0p_17 : Held.okAt opsj0p ordj0p 17 = true := by kernel_rfl
set_option maxRecDepth 100000 in
theorem okkj0p_18 : Held.okAt opsj0p ordj0p 18 = true := by kernel_rfl
set_option maxRecDepth 100000 in
theorem okkj0p_19 : Held.okAt opsj0p ordj0p 19 = true := by kernel_rfl
set_option maxRecDepth 100000 in
theorem okkj0p_20 : Held.okAt opsj0p ordj0p 20 = true := by kernel_rfl
set_option maxRecDepth 100000 in
theorem okkj0p_21 : Held.okAt opsj0p ordj0p 21 = true := by kernel_rfl
set_option maxRecDepth 100000 in
theorem okkj0p_22 : Held.okAt opsj0p ordj0p 22 = true := by kernel_rfl
set_option maxRecDepth 100000 in
theorem okkj0p_23 : Held.okAt opsj0p ordj0p 23 = true := by kernel_rfl
set_option maxRecDepth 100000 in
theorem okkj0p_24 : Held.okAt opsj0p ordj0p 24 = true := by kernel_rfl
set_option maxRecDepth 100000 in
theorem okkj0p_25 : Held.okAt opsj0p ordj0p 25 = true := by kernel_rfl
noncomputable def opsj1p : Array Oper := Held.inBody 11 Try.f12.body
def ordj1p : List Nat := [0, 1, 2, 3, 4, 5, 6, 7, 8, 9, 10, 11, 12, 13, 14, 15, 16, 17, 18, 19, 20, 21, 22, 23, 24, 25]
set_option maxRecDepth 100000 in
theorem sizj1p : opsj1p.size = 26 := by kernel_rfl
set_option maxRecDepth 100000 in
theorem nosj1p : Region.noSelect opsj1p = true := by kernel_rfl
set_option maxRecDepth 100000 in
theorem okkj1p_0 : Held.okAt opsj1p ordj1p 0 = true := by kernel_rfl
set_option maxRecDepth 100000 in
theorem okkj1p_1 : Held.okAt opsj1p ordj1p 1 = true := by kernel_rfl
set_option maxRecDepth 100000 in
theorem okkj1p_2 : Held.okAt opsj1p ordj1p 2 = true := by kernel_rfl
set_option maxRecDepth 100000 in
theorem okkj1p_3 : Held.okAt opsj1p ordj1p 3 = true := by kernel_rfl
set_option maxRecDepth 100000 in
theorem okkj1p_4 : Held.okAt opsj1p ordj1p 4 = true := by kernel_rfl
set_option maxRecDepth 100000 in
theorem okkj1p_5 : Held.okAt opsj1p ordj1p 5 = true := by kernel_rfl
set_option maxRecDepth 100000 in
theorem okkj1p_6 : Held.okAt opsj1p ordj1p 6 = true := by kernel_rfl
set_option maxRecDepth 100000 in
theorem okkj1p_7 : Held.okAt opsj1p ordj1p 7 = true := by kernel_rfl
set_option maxRecDepth 100000 in
theorem okkj1p_8 : Held.okAt opsj1p ordj1p 8 = true := by kernel_rfl
set_option maxRecDepth 100000 in
theorem okkj1p_9 : Held.okAt opsj1p ordj1p 9 = true := by kernel_rfl
set_option maxRecDepth 100000 in
theorem okkj1p_11 : Held.okAt opsj1p ordj1p 11 = true := by kernel_rfl
set_option maxRecDepth 100000 in
theorem okkj1p_12 : Held.okAt opsj1p ordj1p 12 = true := by kernel_rfl
set_option maxRecDepth 100000 in
theorem okkj1p_13 : Held.okAt opsj1p ordj1p 13 = true := by kernel_rfl
set_option maxRecDepth 100000 in
theorem okkj1p_14 : Held.okAt opsj1p ordj1p 14 = true := by kernel_rfl
set_option maxRecDepth 100000 in
theorem okkj1p_15 : Held.okAt opsj1p ordj1p 15 = true := by kernel_rfl
set_option maxRecDepth 100000 in
theorem okkj1p_16 : Held.okAt opsj1p ordj1p 16 = true := by kernel_rfl
set_option maxRecDepth 100000 in
theorem okkj1p_17 : Held.okAt opsj1p ordj1p 17 = true := by kernel_rfl
set_option maxRecDepth 100000 in
theorem okkj1p_18 : Held.okAt opsj1p ordj1p 18 = true := by kernel_rfl
set_option maxRecDepth 100000 in
theorem okkj1p_19 : Held.okAt opsj1p ordj1p 19 = true := by kernel_rfl
set_option maxRecDepth 100000 in
theorem okkj1p_20 : Held.okAt opsj1p ordj1p 20 = true := by kernel_rfl
set_option maxRecDepth 100000 in
theorem okkj1p_21 : Held.okAt opsj1p ordj1p 21 = true := by kernel_rfl
set_option maxRecDepth 100000 in
theorem okkj1p_22 : Held.okAt opsj1p ordj1p 22 = true := by kernel_rfl
set_option maxRecDepth 100000 in
theorem okkj1p_23 : Held.okAt opsj1p ordj1p 23 = true := by kernel_rfl
set_option maxRecDepth 100000 in
theorem okkj1p_24 : Held.okAt opsj1p ordj1p 24 = true := by kernel_rfl
set_option maxRecDepth 100000 in
theorem okkj1p_25 : Held.okAt opsj1p ordj1p 25 = true := by kernel_rfl
set_option maxRecDepth 100000 in
theorem rdyj1p_10 : Region.ready .any opsj1p (Held.lst 26 ordj1p 10) = [10] := by kernel_rfl
noncomputable def opsj2p : Array Oper := Held.inBody 11 Try.f12.body
def ordj2p : List Nat := [0, 1, 2, 3, 4, 5, 6, 7, 8, 9, 10, 11, 12, 13, 14, 15, 16, 17, 18, 19, 20, 21, 22, 23, 24, 25]
set_option maxRecDepth 100000 in
theorem sizj2p : opsj2p.size = 26 := by kernel_rfl
set_option maxRecDepth 100000 in
theorem nosj2p : Region.noSelect opsj2p = true := by kernel_rfl
set_option maxRecDepth 100000 in
theorem okkj2p_0 : Held.okAt opsj2p ordj2p 0 = true := by kernel_rfl
set_option maxRecDepth 100000 in
theorem okkj2p_1 : Held.okAt opsj2p ordj2p 1 = true := by kernel_rfl
set_option maxRecDepth 100000 in
theorem okkj2p_2 : Held.okAt opsj2p ordj2p 2 = true := by kernel_rfl
set_option maxRecDepth 100000 in
theorem okkj2p_3 : Held.okAt opsj2p ordj2p 3 = true := by kernel_rfl
set_option maxRecDepth 100000 in
theorem okkj2p_4 : Held.okAt opsj2p ordj2p 4 = true := by kernel_rfl
set_option maxRecDepth 100000 in
theorem okkj2p_5 : Held.okAt opsj2p ordj2p 5 = true := by kernel_rfl
set_option maxRecDepth 100000 in
theorem okkj2p_6 : Held.okAt opsj2p ordj2p 6 = true := by kernel_rfl
set_option maxRecDepth 100000 in
theorem okkj2p_7 : Held.okAt opsj2p ordj2p 7 = true := by kernel_rfl
set_option maxRecDepth 100000 in
theorem okkj2p_8 : Held.okAt opsj2p ordj2p 8 = true := by kernel_rfl
set_option maxRecDepth 100000 in
theorem okkj2p_9 : Held.okAt opsj2p ordj2p 9 = true := by kernel_rfl
set_option maxRecDepth 100000 in
theorem okkj2p_11 : Held.okAt opsj2p ordj2p 11 = true := by kernel_rfl
set_option maxRecDepth 100000 in
theorem okkj2p_12 : Held.okAt opsj2p ordj2p 12 = true := by kernel_rfl
set_option maxRecDepth 100000 in
theorem okkj2p_13 : Held.okAt opsj2p ordj2p 13 = true := by kernel_rfl
set_option maxRecDepth 100000 in
theorem okkj2p_14 : Held.okAt opsj2p ordj2p 14 = true := by kernel_rfl
set_option maxRecDepth 100000 in
theorem okkj2p_15 : Held.okAt opsj2p ordj2p 15 = true := by kernel_rfl
set_option maxRecDepth 100000 in
theorem okkj2p_17 : Held.okAt opsj2p ordj2p 17 = true := by kernel_rfl
set_option maxRecDepth 100000 in
theorem okkj2p_18 : Held.okAt opsj2p ordj2p 18 = true := by kernel_rfl
set_option maxRecDepth 100000 in
theorem okkj2p_19 : Held.okAt opsj2p ordj2p 19 = true := by kernel_rfl
set_option maxRecDepth 100000 in
theorem okkj2p_20 : Held.okAt opsj2p ordj2p 20 = true := by kernel_rfl
set_option maxRecDepth 100000 in
theorem okkj2p_21 : Held.okAt opsj2p ordj2p 21 = true := by kernel_rfl
set_option maxRecDepth 100000 in
theorem okkj2p_22 : Held.okAt opsj2p ordj2p 22 = true := by kernel_rfl
set_option maxRecDepth 100000 in
theorem okkj2p_23 : Held.okAt opsj2p ordj2p 23 = true := by kernel_rfl
set_option maxRecDepth 100000 in
theorem okkj2p_24 : Held.okAt opsj2p ordj2p 24 = true := by kernel_rfl
set_option maxRecDepth 100000 in
theorem okkj2p_25 : Held.okAt opsj2p ordj2p 25 = true := by kernel_rfl
set_option maxRecDepth 100000 in
theorem rdyj2p_10 : Region.ready .any opsj2p (Held.lst 26 ordj2p 10) = [10] := by kernel_rfl
set_option maxRecDepth 100000 in
theorem rdyj2p_16 : Region.ready .any opsj2p (Held.lst 26 ordj2p 16) = [16] := by kernel_rfl
noncomputable def opsj3p : Array Oper := Held.inBody 11 Try.f12.body
def ordj3p : List Nat := [0, 1, 2, 3, 4, 5, 6, 7, 8, 9, 10, 11, 12, 13, 14, 15, 16, 17, 18, 19, 20, 21, 22, 23, 24, 25]
set_option maxRecDepth 100000 in
theorem sizj3p : opsj3p.size = 26 := by kernel_rfl
set_option maxRecDepth 100000 in
theorem nosj3p : Region.noSelect opsj3p = true := by kernel_rfl
set_option maxRecDepth 100000 in
theorem okkj3p_0 : Held.okAt opsj3p ordj3p 0 = true := by kernel_rfl
set_option maxRecDepth 100000 in
theorem okkj3p_1 : Held.okAt opsj3p ordj3p 1 = true := by kernel_rfl
set_option maxRecDepth 100000 in
theorem okkj3p_2 : Held.okAt opsj3p ordj3p 2 = true := by kernel_rfl
set_option maxRecDepth 100000 in
theorem okkj3p_3 : Held.okAt opsj3p ordj3p 3 = true := by kernel_rfl
set_option maxRecDepth 100000 in
theorem okkj3p_4 : Held.okAt opsj3p ordj3p 4 = true := by kernel_rfl
set_option maxRecDepth 100000 in
theorem okkj3p_5 : Held.okAt opsj3p ordj3p 5 = true := by kernel_rfl
set_option maxRecDepth 100000 in
theorem okkj3p_6 : Held.okAt opsj3p ordj3p 6 = true := by kernel_rfl
set_option maxRecDepth 100000 in
theorem okkj3p_7 : Held.okAt opsj3p ordj3p 7 = true := by kernel_rfl
set_option maxRecDepth 100000 in
theorem okkj3p_8 : Held.okAt opsj3p ordj3p 8 = true := by kernel_rfl
set_option maxRecDepth 100000 in
theorem okkj3p_9 : Held.okAt opsj3p ordj3p 9 = true := by kernel_rfl
set_option maxRecDepth 100000 in
theorem okkj3p_11 : Held.okAt opsj3p ordj3p 11 = true := by kernel_rfl
set_option maxRecDepth 100000 in
theorem okkj3p_12 : Held.okAt opsj3p ordj3p 12 = true := by kernel_rfl
set_option maxRecDepth 100000 in
theorem okkj3p_13 : Held.okAt opsj3p ordj3p 13 = true := by kernel_rfl
set_option maxRecDepth 100000 in
theorem okkj3p_14 : Held.okAt opsj3p ordj3p 14 = true := by kernel_rfl
set_option maxRecDepth 100000 in
theorem okkj3p_15 : Held.okAt opsj3p ordj3p 15 = true := by kernel_rfl
set_option maxRecDepth 100000 in
theorem okkj3p_17 : Held.okAt opsj3p ordj3p 17 = true := by kernel_rfl
set_option maxRecDepth 100000 in
theorem okkj3p_18 : Held.okAt opsj3p ordj3p 18 = true := by kernel_rfl
set_option maxRecDepth 100000 in
theorem okkj3p_19 : Held.okAt opsj3p ordj3p 19 = true := by kernel_rfl
set_option maxRecDepth 100000 in
theorem okkj3p_20 : Held.okAt opsj3p ordj3p 20 = true := by kernel_rfl
set_option maxRecDepth 100000 in
theorem okkj3p_21 : Held.okAt opsj3p ordj3p 21 = true := by kernel_rfl
set_option maxRecDepth 100000 in
theorem okkj3p_22 : Held.okAt opsj3p ordj3p 22 = true := by kernel_rfl
set_option maxRecDepth 100000 in
theorem okkj3p_24 : Held.okAt opsj3p ordj3p 24 = true := by kernel_rfl
set_option maxRecDepth 100000 in
theorem okkj3p_25 : Held.okAt opsj3p ordj3p 25 = true := by kernel_rfl
set_option maxRecDepth 100000 in
theorem rdyj3p_10 : Region.ready .any opsj3p (Held.lst 26 ordj3p 10) = [10] := by kernel_rfl
set_option maxRecDepth 100000 in
theorem rdyj3p_16 : Region.ready .any opsj3p (Held.lst 26 ordj3p 16) = [16] := by kernel_rfl
set_option maxRecDepth 100000 in
theorem rdyj3p_23 : Region.ready .any opsj3p (Held.lst 26 ordj3p 23) = [23] := by kernel_rfl
noncomputable def opsj4p : Array Oper := Held.inBody 11 Try.f12.body
def ordj4p : List Nat := [0, 1, 2, 3, 4, 5, 6, 7, 8, 9, 10, 11, 12, 13, 14, 15, 16, 17, 18, 19, 20, 21, 22, 23, 24, 25]
set_option maxRecDepth 100000 in
theorem sizj4p : opsj4p.size = 26 := by kernel_rfl
set_option maxRecDepth 100000 in
theorem nosj4p : Region.noSelect opsj4p = true := by kernel_rfl
set_option maxRecDepth 100000 in
theorem okkj4p_0 : Held.okAt opsj4p ordj4p 0 = true := by kernel_rfl
set_option maxRecDepth 100000 in
theorem okkj4p_1 : Held.okAt opsj4p ordj4p 1 = true := by kernel_rfl
set_option maxRecDepth 100000 in
theorem okkj4p_2 : Held.okAt opsj4p ordj4p 2 = true := by kernel_rfl
set_option maxRecDepth 100000 in
theorem okkj4p_3 : Held.okAt opsj4p ordj4p 3 = true := by kernel_rfl
set_option maxRecDepth 100000 in
theorem okkj4p_4 : Held.okAt opsj4p ordj4p 4 = true := by kernel_rfl
set_option maxRecDepth 100000 in
theorem okkj4p_5 : Held.okAt opsj4p ordj4p 5 = true := by kernel_rfl
set_option maxRecDepth 100000 in
theorem okkj4p_6 : Held.okAt opsj4p ordj4p 6 = true := by kernel_rfl
set_option maxRecDepth 100000 in
theorem okkj4p_7 : Held.okAt opsj4p ordj4p 7 = true := by kernel_rfl
set_option maxRecDepth 100000 in
theorem okkj4p_8 : Held.okAt opsj4p ordj4p 8 = true := by kernel_rfl
set_option maxRecDepth 100000 in
theorem okkj4p_9 : Held.okAt opsj4p ordj4p 9 = true := by kernel_rfl
set_option maxRecDepth 100000 in
theorem okkj4p_11 : Held.okAt opsj4p ordj4p 11 = true := by kernel_rfl
set_option maxRecDepth 100000 in
theorem okkj4p_12 : Held.okAt opsj4p ordj4p 12 = true := by kernel_rfl
set_option maxRecDepth 100000 in
theorem okkj4p_13 : Held.okAt opsj4p ordj4p 13 = true := by kernel_rfl
set_option maxRecDepth 100000 in
theorem okkj4p_14 : Held.okAt opsj4p ordj4p 14 = true := by kernel_rfl
set_option maxRecDepth 100000 in
theorem okkj4p_15 : Held.okAt opsj4p ordj4p 15 = true := by kernel_rfl
set_option maxRecDepth 100000 in
theorem okkj4p_17 : Held.okAt opsj4p ordj4p 17 = true := by kernel_rfl
set_option maxRecDepth 100000 in
theorem okkj4p_18 : Held.okAt opsj4p ordj4p 18 = true := by kernel_rfl
set_option maxRecDepth 100000 in
theorem okkj4p_19 : Held.okAt opsj4p ordj4p 19 = true := by kernel_rfl
set_option maxRecDepth 100000 in
theorem okkj4p_20 : Held.okAt opsj4p ordj4p 20 = true := by kernel_rfl
set_option maxRecDepth 100000 in
theorem okkj4p_21 : Held.okAt opsj4p ordj4p 21 = true := by kernel_rfl
set_option maxRecDepth 100000 in
theorem okkj4p_22 : Held.okAt opsj4p ordj4p 22 = true := by kernel_rfl
set_option maxRecDepth 100000 in
theorem okkj4p_24 : Held.okAt opsj4p ordj4p 24 = true := by kernel_rfl
set_option maxRecDepth 100000 in
theorem okkj4p_25 : Held.okAt opsj4p ordj4p 25 = true := by kernel_rfl
set_option maxRecDepth 100000 in
theorem rdyj4p_10 : Region.ready .any opsj4p (Held.lst 26 ordj4p 10) = [10] := by kernel_rfl
set_option maxRecDepth 100000 in
theorem rdyj4p_16 : Region.ready .any opsj4p (Held.lst 26 ordj4p 16) = [16] := by kernel_rfl
set_option maxRecDepth 100000 in
theorem rdyj4p_23 : Region.ready .any opsj4p (Held.lst 26 ordj4p 23) = [23] := by kernel_rfl
noncomputable def opsje : Array Oper := Held.inBody 8 Try.f12.body
def ordje : List Nat := [0, 1, 2, 3, 4, 5, 6, 7, 8, 9, 10, 11, 12, 13, 14, 15, 16, 17, 18, 19, 20, 21, 22, 23, 24, 25, 27, 26, 28, 29, 30, 31, 32]
set_option maxRecDepth 100000 in
theorem sizje : opsje.size = 33 := by kernel_rfl
set_option maxRecDepth 100000 in
theorem nosje : Region.noSelect opsje = true := by kernel_rfl
set_option maxRecDepth 100000 in
theorem okkje_0 : Held.okAt opsje ordje 0 = true := by kernel_rfl
set_option maxRecDepth 100000 in
theorem okkje_1 : Held.okAt opsje ordje 1 = true := by kernel_rfl
set_option maxRecDepth 100000 in
theorem okkje_3 : Held.okAt opsje ordje 3 = true := by kernel_rfl
set_option maxRecDepth 100000 in
theorem okkje_4 : Held.okAt opsje ordje 4 = true := by kernel_rfl
set_option maxRecDepth 100000 in
theorem okkje_5 : Held.okAt opsje ordje 5 = true := by kernel_rfl
set_option maxRecDepth 100000 in
theorem okkje_6 : Held.okAt opsje ordje 6 = true := by kernel_rfl
set_option maxRecDepth 100000 in
theorem okkje_8 : Held.okAt opsje ordje 8 = true := by kernel_rfl
set_option maxRecDepth 100000 in
theorem okkje_9 : Held.okAt opsje ordje 9 = true := by kernel_rfl
set_option maxRecDepth 100000 in
theorem okkje_10 : Held.okAt opsje ordje 10 = true := by kernel_rfl
set_option maxRecDepth 100000 in
theorem okkje_11 : Held.okAt opsje ordje 11 = true := by kernel_rfl
set_option maxRecDepth 100000 in
theorem okkje_12 : Held.okAt opsje ordje 12 = true := by kernel_rfl
set_option maxRecDepth 100000 in
theorem okkje_13 : Held.okAt opsje ordje 13 = true := by kernel_rfl
set_option maxRecDepth 100000 in
theorem okkje_14 : Held.okAt opsje ordje 14 = true := by kernel_rfl
set_option maxRecDepth 100000 in
theorem okkje_15 : Held.okAt opsje ordje 15 = true := by kernel_rfl
set_option maxRecDepth 100000 in
theorem okkje_16 : Held.okAt opsje ordje 16 = true := by kernel_rfl
set_option maxRecDepth 100000 in
theorem okkje_17 : Held.okAt opsje ordje 17 = true := by kernel_rfl
set_option maxRecDepth 100000 in
theorem okkje_18 : Held.okAt opsje ordje 18 = true := by kernel_rfl
set_option maxRecDepth 100000 in
theorem okkje_19 : Held.okAt opsje ordje 19 = true := by kernel_rfl
set_option maxRecDepth 100000 in
theorem okkje_20 : Held.okAt opsje ordje 20 = true := by kernel_rfl
set_option maxRecDepth 100000 in
theorem okkje_21 : Held.okAt opsje ordje 21 = true := by kernel_rfl
set_option maxRecDepth 100000 in
theorem okkje_22 : Held.okAt opsje ordje 22 = true := by kernel_rfl
set_option maxRecDepth 100000 in
theorem okkje_23 : Held.okAt opsje ordje 23 = true := by kernel_rfl
set_option maxRecDepth 100000 in
theorem okkje_24 : Held.okAt opsje ordje 24 = true := by kernel_rfl
set_option maxRecDepth 100000 in
theorem okkje_25 : Held.okAt opsje ordje 25 = true := by kernel_rfl
set_option maxRecDepth 100000 in
theorem okkje_26 : Held.okAt opsje ordje 26 = true := by kernel_rfl
set_option maxRecDepth 100000 in
theorem okkje_30 : Held.okAt opsje ordje 30 = true := by kernel_rfl
set_option maxRecDepth 100000 in
theorem okkje_31 : Held.okAt opsje ordje 31 = true := by kernel_rfl
set_option maxRecDepth 100000 in
theorem okkje_32 : Held.okAt opsje ordje 32 = true := by kernel_rfl
set_option maxRecDepth 100000 in
theorem rdyje_2 : Region.ready .any opsje (Held.lst 33 ordje 2) = [2] := by kernel_rfl
set_option maxRecDepth 100000 in
theorem rdyje_7 : Region.ready .any opsje (Held.lst 33 ordje 7) = [7] := by kernel_rfl
set_option maxRecDepth 100000 in
theorem rdyje_27 : Region.ready .any opsje (Held.lst 33 ordje 27) = [26] := by kernel_rfl
set_option maxRecDepth 100000 in
theorem rdyje_28 : Region.ready .any opsje (Held.lst 33 ordje 28) = [28] := by kernel_rfl
set_option maxRecDepth 100000 in
theorem rdyje_29 : Region.ready .any opsje (Held.lst 33 ordje 29) = [29] := by kernel_rfl
noncomputable def opsjf : Array Oper := Held.inBody 8 Try.f12.body
def ordjf : List Nat := [0, 1, 2, 3, 4, 5, 6, 7, 8, 9, 10, 11, 12, 13, 14, 15, 16, 17, 18, 19, 20, 21, 22, 23, 24, 25, 27, 26, 28, 29, 30, 31, 32]
set_option maxRecDepth 100000 in
theorem sizjf : opsjf.size = 33 := by kernel_rfl
set_option maxRecDepth 100000 in
theorem nosjf : Region.noSelect opsjf = true := by kernel_rfl
set_option maxRecDepth 100000 in
theorem okkjf_0 : Held.okAt opsjf ordjf 0 = true := by kernel_rfl
set_option maxRecDepth 100000 in
theorem okkjf_1 : Held.okAt opsjf ordjf 1 = true := by kernel_rfl
set_option maxRecDepth 100000 in
theorem okkjf_3 : Held.okAt opsjf ordjf 3 = true := by kernel_rfl
set_option maxRecDepth 100000 in
theorem okkjf_4 : Held.okAt opsjf ordjf 4 = true := by kernel_rfl
set_option maxRecDepth 100000 in
theorem okkjf_5 : Held.okAt opsjf ordjf 5 = true := by kernel_rfl
set_option maxRecDepth 100000 in
theorem okkjf_6 : Held.okAt opsjf ordjf 6 = true := by kernel_rfl
set_option maxRecDepth 100000 in
theorem okkjf_8 : Held.okAt opsjf ordjf 8 = true := by kernel_rfl
set_option maxRecDepth 100000 in
theorem okkjf_9 : Held.okAt opsjf ordjf 9 = true := by kernel_rfl
set_option maxRecDepth 100000 in
theorem okkjf_10 : Held.okAt opsjf ordjf 10 = true := by kernel_rfl
set_option maxRecDepth 100000 in
theorem okkjf_11 : Held.okAt opsjf ordjf 11 = true := by kernel_rfl
set_option maxRecDepth 100000 in
theorem okkjf_12 : Held.okAt opsjf ordjf 12 = true := by kernel_rfl
set_option maxRecDepth 100000 in
theorem okkjf_13 : Held.okAt opsjf ordjf 13 = true := by kernel_rfl
set_option maxRecDepth 100000 in
theorem okkjf_14 : Held.okAt opsjf ordjf 14 = true := by kernel_rfl
set_option maxRecDepth 100000 in
theorem okkjf_15 : Held.okAt opsjf ordjf 15 = true := by kernel_rfl
set_option maxRecDepth 100000 in
theorem okkjf_16 : Held.okAt opsjf ordjf 16 = true := by kernel_rfl
set_option maxRecDepth 100000 in
theorem okkjf_17 : Held.okAt opsjf ordjf 17 = true := by kernel_rfl
set_option maxRecDepth 100000 in
theorem okkjf_18 : Held.okAt opsjf ordjf 18 = true := by kernel_rfl
set_option maxRecDepth 100000 in
theorem okkjf_19 : Held.okAt opsjf ordjf 19 = true := by kernel_rfl
set_option maxRecDepth 100000 in
theorem okkjf_20 : Held.okAt opsjf ordjf 20 = true := by kernel_rfl
set_option maxRecDepth 100000 in
theorem okkjf_21 : Held.okAt opsjf ordjf 21 = true := by kernel_rfl
set_option maxRecDepth 100000 in
theorem okkjf_22 : Held.okAt opsjf ordjf 22 = true := by kernel_rfl
set_option maxRecDepth 100000 in
theorem okkjf_23 : Held.okAt opsjf ordjf 23 = true := by kernel_rfl
set_option maxRecDepth 100000 in
theorem okkjf_24 : Held.okAt opsjf ordjf 24 = true := by kernel_rfl
set_option maxRecDepth 100000 in
theorem okkjf_25 : Held.okAt opsjf ordjf 25 = true := by kernel_rfl
set_option maxRecDepth 100000 in
theorem okkjf_26 : Held.okAt opsjf ordjf 26 = true := by kernel_rfl
set_option maxRecDepth 100000 in
theorem okkjf_30 : Held.okAt opsjf ordjf 30 = true := by kernel_rfl
set_option maxRecDepth 100000 in
theorem okkjf_31 : Held.okAt opsjf ordjf 31 = true := by kernel_rfl
set_option maxRecDepth 100000 in
theorem okkjf_32 : Held.okAt opsjf ordjf 32 = true := by kernel_rfl
set_option maxRecDepth 100000 in
theorem rdyjf_2 : Region.ready .any opsjf (Held.lst 33 ordjf 2) = [2] := by kernel_rfl
set_option maxRecDepth 100000 in
theorem rdyjf_7 : Region.ready .any opsjf (Held.lst 33 ordjf 7) = [7] := by kernel_rfl
set_option maxRecDepth 100000 in
theorem rdyjf_27 : Region.ready .any opsjf (Held.lst 33 ordjf 27) = [26] := by kernel_rfl
set_option maxRecDepth 100000 in
theorem rdyjf_28 : Region.ready .any opsjf (Held.lst 33 ordjf 28) = [28] := by kernel_rfl
set_option maxRecDepth 100000 in
theorem rdyjf_29 : Region.ready .any opsjf (Held.lst 33 ordjf 29) = [29] := by kernel_rfl
noncomputable def opsj0q : Array Oper := Held.inBody 11 Try.f12.body
def ordj0q : List Nat := [0, 1, 2, 3, 4, 5, 6, 7, 8, 9, 10, 11, 12, 13, 14, 15, 16, 17, 18, 19, 20, 21, 22, 23, 24, 25]
set_option maxRecDepth 100000 in
theorem sizj0q : opsj0q.size = 26 := by kernel_rfl
set_option maxRecDepth 100000 in
theorem nosj0q : Region.noSelect opsj0q = true := by kernel_rfl
set_option maxRecDepth 100000 in
theorem okkj0q_0 : Held.okAt opsj0q ordj0q 0 = true := by kernel_rfl
set_option maxRecDepth 100000 in
theorem okkj0q_1 : Held.okAt opsj0q ordj0q 1 = true := by kernel_rfl
set_option maxRecDepth 100000 in
theorem okkj0q_2 : Held.okAt opsj0q ordj0q 2 = true := by kernel_rfl
set_option maxRecDepth 100000 in
theorem okkj0q_3 : Held.okAt opsj0q ordj0q 3 = true := by kernel_rfl
set_option maxRecDepth 100000 in
theorem okkj0q_4 : Held.okAt opsj0q ordj0q 4 = true := by kernel_rfl
set_option maxRecDepth 100000 in
theorem okkj0q_5 : Held.okAt opsj0q ordj0q 5 = true := by kernel_rfl
set_option maxRecDepth 100000 in
theorem okkj0q_6 : Held.okAt opsj0q ordj0q 6 = true := by kernel_rfl
set_option maxRecDepth 100000 in
theorem okkj0q_7 : Held.okAt opsj0q ordj0q 7 = true := by kernel_rfl
set_option maxRecDepth 100000 in
theorem okkj0q_8 : Held.okAt opsj0q ordj0q 8 = true := by kernel_rfl
set_option maxRecDepth 100000 in
theorem okkj0q_9 : Held.okAt opsj0q ordj0q 9 = true := by kernel_rfl
set_option maxRecDepth 100000 in
theorem okkj0q_10 : Held.okAt opsj0q ordj0q 10 = true := by kernel_rfl
set_option maxRecDepth 100000 in
theorem okkj0q_11 : Held.okAt opsj0q ordj0q 11 = true := by kernel_rfl
set_option maxRecDepth 100000 in
theorem okkj0q_12 : Held.okAt opsj0q ordj0q 12 = true := by kernel_rfl
set_option maxRecDepth 100000 in
theorem okkj0q_13 : Held.okAt opsj0q ordj0q 13 = true := by kernel_rfl
set_option maxRecDepth 100000 in
theorem okkj0q_14 : Held.okAt opsj0q ordj0q 14 = true := by kernel_rfl
set_option maxRecDepth 100000 in
theorem okkj0q_15 : Held.okAt opsj0q ordj0q 15 = true := by kernel_rfl
set_option maxRecDepth 100000 in
theorem okkj0q_16 : Held.okAt opsj0q ordj0q 16 = true := by kernel_rfl
set_option maxRecDepth 100000 in
theorem okkj0q_17 : Held.okAt opsj0q ordj0q 17 = true := by kernel_rfl
set_option maxRecDepth 100000 in
theorem okkj0q_18 : Held.okAt opsj0q ordj0q 18 = true := by kernel_rfl
set_option maxRecDepth 100000 in
theorem okkj0q_19 : Held.okAt opsj0q ordj0q 19 = true := by kernel_rfl
set_option maxRecDepth 100000 in
theorem okkj0q_20 : Held.okAt opsj0q ordj0q 20 = true := by kernel_rfl
set_option maxRecDepth 100000 in
theorem okkj0q_21 : Held.okAt opsj0q ordj0q 21 = true := by kernel_rfl
set_option maxRecDepth 100000 in
theorem okkj0q_22 : Held.okAt opsj0q ordj0q 22 = true := by kernel_rfl
set_option maxRecDepth 100000 in
theorem okkj0q_23 : Held.okAt opsj0q ordj0q 23 = true := by kernel_rfl
set_option maxRecDepth 100000 in
theorem okkj0q_24 : Held.okAt opsj0q ordj0q 24 = true := by kernel_rfl
set_option maxRecDepth 100000 in
theorem okkj0q_25 : Held.okAt opsj0q ordj0q 25 = true := by kernel_rfl
noncomputable def opsj1q : Array Oper := Held.inBody 11 Try.f12.body
def ordj1q : List Nat := [0, 1, 2, 3, 4, 5, 6, 7, 8, 9, 10, 11, 12, 13, 14, 15, 16, 17, 18, 19, 20, 21, 22, 23, 24, 25]
set_option maxRecDepth 100000 in
theorem sizj1q : opsj1q.size = 26 := by kernel_rfl
set_option maxRecDepth 100000 in
theorem nosj1q : Region.noSelect opsj1q = true := by kernel_rfl
set_option maxRecDepth 100000 in
theorem okkj1q_0 : Held.okAt opsj1q ordj1q 0 = true := by kernel_rfl
set_option maxRecDepth 100000 in
theorem okkj1q_1 : Held.okAt opsj1q ordj1q 1 = true := by kernel_rfl
set_option maxRecDepth 100000 in
theorem okkj1q_2 : Held.okAt opsj1q ordj1q 2 = true := by kernel_rfl
set_option maxRecDepth 100000 in
theorem okkj1q_3 : Held.okAt opsj1q ordj1q 3 = true := by kernel_rfl
set_option maxRecDepth 100000 in
theorem okkj1q_4 : Held.okAt opsj1q ordj1q 4 = true := by kernel_rfl
set_option maxRecDepth 100000 in
theorem okkj1q_5 : Held.okAt opsj1q ordj1q 5 = true := by kernel_rfl
set_option maxRecDepth 100000 in
theorem okkj1q_6 : Held.okAt opsj1q ordj1q 6 = true := by kernel_rfl
set_option maxRecDepth 100000 in
theorem okkj1q_7 : Held.okAt opsj1q ordj1q 7 = true := by kernel_rfl
set_option maxRecDepth 100000 in
theorem okkj1q_8 : Held.okAt opsj1q ordj1q 8 = true := by kernel_rfl
set_option maxRecDepth 100000 in
theorem okkj1q_9 : Held.okAt opsj1q ordj1q 9 = true := by kernel_rfl
set_option maxRecDepth 100000 in
theorem okkj1q_11 : Held.okAt opsj1q ordj1q 11 = true := by kernel_rfl
set_option maxRecDepth 100000 in
theorem okkj1q_12 : Held.okAt opsj1q ordj1q 12 = true := by kernel_rfl
set_option maxRecDepth 100000 in
theorem okkj1q_13 : Held.okAt opsj1q ordj1q 13 = true := by kernel_rfl
set_option maxRecDepth 100000 in
theorem okkj1q_14 : Held.okAt opsj1q ordj1q 14 = true := by kernel_rfl
set_option maxRecDepth 100000 in
theorem okkj1q_15 : Held.okAt opsj1q ordj1q 15 = true := by kernel_rfl
set_option maxRecDepth 100000 in
theorem okkj1q_16 : Held.okAt opsj1q ordj1q 16 = true := by kernel_rfl
set_option maxRecDepth 100000 in
theorem okkj1q_17 : Held.okAt opsj1q ordj1q 17 = true := by kernel_rfl
set_option maxRecDepth 100000 in
theorem okkj1q_18 : Held.okAt opsj1q ordj1q 18 = true := by kernel_rfl
set_option maxRecDepth 100000 in
theorem okkj1q_19 : Held.okAt opsj1q ordj1q 19 = true := by kernel_rfl
set_option maxRecDepth 100000 in
theorem okkj1q_20 : Held.okAt opsj1q ordj1q 20 = true := by kernel_rfl
set_option maxRecDepth 100000 in
theorem okkj1q_21 : Held.okAt opsj1q ordj1q 21 = true := by kernel_rfl
set_option maxRecDepth 100000 in
theorem okkj1q_22 : Held.okAt opsj1q ordj1q 22 = true := by kernel_rfl
set_option maxRecDepth 100000 in
theorem okkj1q_23 : Held.okAt opsj1q ordj1q 23 = true := by kernel_rfl
set_option maxRecDepth 100000 in
theorem okkj1q_24 : Held.okAt opsj1q ordj1q 24 = true := by kernel_rfl
set_option maxRecDepth 100000 in
theorem okkj1q_25 : Held.okAt opsj1q ordj1q 25 = true := by kernel_rfl
set_option maxRecDepth 100000 in
theorem rdyj1q_10 : Region.ready .any opsj1q (Held.lst 26 ordj1q 10) = [10] := by kernel_rfl
noncomputable def opsj2q : Array Oper := Held.inBody 11 Try.f12.body
def ordj2q : List Nat := [0, 1, 2, 3, 4, 5, 6, 7, 8, 9, 10, 11, 12, 13, 14, 15, 16, 17, 18, 19, 20, 21, 22, 23, 24, 25]
set_option maxRecDepth 100000 in
theorem sizj2q : opsj2q.size = 26 := by kernel_rfl
set_option maxRecDepth 100000 in
theorem nosj2q : Region.noSelect opsj2q = true := by kernel_rfl
set_option maxRecDepth 100000 in
theorem okkj2q_0 : Held.okAt opsj2q ordj2q 0 = true := by kernel_rfl
set_option maxRecDepth 100000 in
theorem okkj2q_1 : Held.okAt opsj2q ordj2q 1 = true := by kernel_rfl
set_option maxRecDepth 100000 in
theorem okkj2q_2 : Held.okAt opsj2q ordj2q 2 = true := by kernel_rfl
set_option maxRecDepth 100000 in
theorem okkj2q_3 : Held.okAt opsj2q ordj2q 3 = true := by kernel_rfl
set_option maxRecDepth 100000 in
theorem okkj2q_4 : Held.okAt opsj2q ordj2q 4 = true := by kernel_rfl
set_option maxRecDepth 100000 in
theorem okkj2q_5 : Held.okAt opsj2q ordj2q 5 = true := by kernel_rfl
set_option maxRecDepth 100000 in
theorem okkj2q_6 : Held.okAt opsj2q ordj2q 6 = true := by kernel_rfl
set_option maxRecDepth 100000 in
theorem okkj2q_7 : Held.okAt opsj2q ordj2q 7 = true := by kernel_rfl
set_option maxRecDepth 100000 in
theorem okkj2q_8 : Held.okAt opsj2q ordj2q 8 = true := by kernel_rfl
set_option maxRecDepth 100000 in
theorem okkj2q_9 : Held.okAt opsj2q ordj2q 9 = true := by kernel_rfl
set_option maxRecDepth 100000 in
theorem okkj2q_11 : Held.okAt opsj2q ordj2q 11 = true := by kernel_rfl
set_option maxRecDepth 100000 in
theorem okkj2q_12 : Held.okAt opsj2q ordj2q 12 = true := by kernel_rfl
set_option maxRecDepth 100000 in
theorem okkj2q_13 : Held.okAt opsj2q ordj2q 13 = true := by kernel_rfl
set_option maxRecDepth 100000 in
theorem okkj2q_14 : Held.okAt opsj2q ordj2q 14 = true := by kernel_rfl
set_option maxRecDepth 100000 in
theorem okkj2q_15 : Held.okAt opsj2q ordj2q 15 = true := by kernel_rfl
set_option maxRecDepth 100000 in
theorem okkj2q_17 : Held.okAt opsj2q ordj2q 17 = true := by kernel_rfl
set_option maxRecDepth 100000 in
theorem okkj2q_18 : Held.okAt opsj2q ordj2q 18 = true := by kernel_rfl
set_option maxRecDepth 100000 in
theorem okkj2q_19 : Held.okAt opsj2q ordj2q 19 = true := by kernel_rfl
set_option maxRecDepth 100000 in
theorem okkj2q_20 : Held.okAt opsj2q ordj2q 20 = true := by kernel_rfl
set_option maxRecDepth 100000 in
theorem okkj2q_21 : Held.okAt opsj2q ordj2q 21 = true := by kernel_rfl
set_option maxRecDepth 100000 in
theorem okkj2q_22 : Held.okAt opsj2q ordj2q 22 = true := by kernel_rfl
set_option maxRecDepth 100000 in
theorem okkj2q_23 : Held.okAt opsj2q ordj2q 23 = true := by kernel_rfl
set_option maxRecDepth 100000 in
theorem okkj2q_24 : Held.okAt opsj2q ordj2q 24 = true := by kernel_rfl
set_option maxRecDepth 100000 in
theorem okkj2q_25 : Held.okAt opsj2q ordj2q 25 = true := by kernel_rfl
set_option maxRecDepth 100000 in
theorem rdyj2q_10 : Region.ready .any opsj2q (Held.lst 26 ordj2q 10) = [10] := by kernel_rfl
set_option maxRecDepth 100000 in
theorem rdyj2q_16 : Region.ready .any opsj2q (Held.lst 26 ordj2q 16) = [16] := by kernel_rfl
noncomputable def opsj3q : Array Oper := Held.inBody 11 Try.f12.body
def ordj3q : List Nat := [0, 1, 2, 3, 4, 5, 6, 7, 8, 9, 10, 11, 12, 13, 14, 15, 16, 17, 18, 19, 20, 21, 22, 23, 24, 25]
set_option maxRecDepth 100000 in
theorem sizj3q : opsj3q.size = 26 := by kernel_rfl
set_option maxRecDepth 100000 in
theorem nosj3q : Region.noSelect opsj3q = true := by kernel_rfl
set_option maxRecDepth 100000 in
theorem okkj3q_0 : Held.okAt opsj3q ordj3q 0 = true := by kernel_rfl
set_option maxRecDepth 100000 in
theorem okkj3q_1 : Held.okAt opsj3q ordj3q 1 = true := by kernel_rfl
set_option maxRecDepth 100000 in
theorem okkj3q_2 : Held.okAt opsj3q ordj3q 2 = true := by kernel_rfl
set_option maxRecDepth 100000 in
theorem okkj3q_3 : Held.okAt opsj3q ordj3q 3 = true := by kernel_rfl
set_option maxRecDepth 100000 in
theorem okkj3q_4 : Held.okAt opsj3q ordj3q 4 = true := by kernel_rfl
set_option maxRecDepth 100000 in
theorem okkj3q_5 : Held.okAt opsj3q ordj3q 5 = true := by kernel_rfl
set_option maxRecDepth 100000 in
theorem okkj3q_6 : Held.okAt opsj3q ordj3q 6 = true := by kernel_rfl
set_option maxRecDepth 100000 in
theorem okkj3q_7 : Held.okAt opsj3q ordj3q 7 = true := by kernel_rfl
set_option maxRecDepth 100000 in
theorem okkj3q_8 : Held.okAt opsj3q ordj3q 8 = true := by kernel_rfl
set_option maxRecDepth 100000 in
theorem okkj3q_9 : Held.okAt opsj3q ordj3q 9 = true := by kernel_rfl
set_option maxRecDepth 100000 in
theorem okkj3q_11 : Held.okAt opsj3q ordj3q 11 = true := by kernel_rfl
set_option maxRecDepth 100000 in
theorem okkj3q_12 : Held.okAt opsj3q ordj3q 12 = true := by kernel_rfl
set_option maxRecDepth 100000 in
theorem okkj3q_13 : Held.okAt opsj3q ordj3q 13 = true := by kernel_rfl
set_option maxRecDepth 100000 in
theorem okkj3q_14 : Held.okAt opsj3q ordj3q 14 = true := by kernel_rfl
set_option maxRecDepth 100000 in
theorem okkj3q_15 : Held.okAt opsj3q ordj3q 15 = true := by kernel_rfl
set_option maxRecDepth 100000 in
theorem okkj3q_17 : Held.okAt opsj3q ordj3q 17 = true := by kernel_rfl
set_option maxRecDepth 100000 in
theorem okkj3q_18 : Held.okAt opsj3q ordj3q 18 = true := by kernel_rfl
set_option maxRecDepth 100000 in
theorem okkj3q_19 : Held.okAt opsj3q ordj3q 19 = true := by kernel_rfl
set_option maxRecDepth 100000 in
theorem okkj3q_20 : Held.okAt opsj3q ordj3q 20 = true := by kernel_rfl
set_option maxRecDepth 100000 in
theorem okkj3q_21 : Held.okAt opsj3q ordj3q 21 = true := by kernel_rfl
set_option maxRecDepth 100000 in
theorem okkj3q_22 : Held.okAt opsj3q ordj3q 22 = true := by kernel_rfl
set_option maxRecDepth 100000 in
theorem okkj3q_24 : Held.okAt opsj3q ordj3q 24 = true := by kernel_rfl
set_option maxRecDepth 100000 in
theorem okkj3q_25 : Held.okAt opsj3q ordj3q 25 = true := by kernel_rfl
set_option maxRecDepth 100000 in
theorem rdyj3q_10 : Region.ready .any opsj3q (Held.lst 26 ordj3q 10) = [10] := by kernel_rfl
set_option maxRecDepth 100000 in
theorem rdyj3q_16 : Region.ready .any opsj3q (Held.lst 26 ordj3q 16) = [16] := by kernel_rfl
set_option maxRecDepth 100000 in
theorem rdyj3q_23 : Region.ready .any opsj3q (Held.lst 26 ordj3q 23) = [23] := by kernel_rfl
noncomputable def opsj4q : Array Oper := Held.inBody 11 Try.f12.body
def ordj4q : List Nat := [0, 1, 2, 3, 4, 5, 6, 7, 8, 9, 10, 11, 12, 13, 14, 15, 16, 17, 18, 19, 20, 21, 22, 23, 24, 25]
set_option maxRecDepth 100000 in
theorem sizj4q : opsj4q.size = 26 := by kernel_rfl
set_option maxRecDepth 100000 in
theorem nosj4q : Region.noSelect opsj4q = true := by kernel_rfl
set_option maxRecDepth 100000 in
theorem okkj4q_0 : Held.okAt opsj4q ordj4q 0 = true := by kernel_rfl
set_option maxRecDepth 100000 in
theorem okkj4q_1 : Held.okAt opsj4q ordj4q 1 = true := by kernel_rfl
set_option maxRecDepth 100000 in
theorem okkj4q_2 : Held.okAt opsj4q ordj4q 2 = true := by kernel_rfl
set_option maxRecDepth 100000 in
theorem okkj4q_3 : Held.okAt opsj4q ordj4q 3 = true := by kernel_rfl
set_option maxRecDepth 100000 in
theorem okkj4q_4 : Held.okAt opsj4q ordj4q 4 = true := by kernel_rfl
set_option maxRecDepth 100000 in
theorem okkj4q_5 : Held.okAt opsj4q ordj4q 5 = true := by kernel_rfl
set_option maxRecDepth 100000 in
theorem okkj4q_6 : Held.okAt opsj4q ordj4q 6 = true := by kernel_rfl
set_option maxRecDepth 100000 in
theorem okkj4q_7 : Held.okAt opsj4q ordj4q 7 = true := by kernel_rfl
set_option maxRecDepth 100000 in
theorem okkj4q_8 : Held.okAt opsj4q ordj4q 8 = true := by kernel_rfl
set_option maxRecDepth 100000 in
theorem okkj4q_9 : Held.okAt opsj4q ordj4q 9 = true := by kernel_rfl
set_option maxRecDepth 100000 in
theorem okkj4q_11 : Held.okAt opsj4q ordj4q 11 = true := by kernel_rfl
set_option maxRecDepth 100000 in
theorem okkj4q_12 : Held.okAt opsj4q ordj4q 12 = true := by kernel_rfl
set_option maxRecDepth 100000 in
theorem okkj4q_13 : Held.okAt opsj4q ordj4q 13 = true := by kernel_rfl
set_option maxRecDepth 100000 in
theorem okkj4q_14 : Held.okAt opsj4q ordj4q 14 = true := by kernel_rfl
set_option maxRecDepth 100000 in
theorem okkj4q_15 : Held.okAt opsj4q ordj4q 15 = true := by kernel_rfl
set_option maxRecDepth 100000 in
theorem okkj4q_17 : Held.okAt opsj4q ordj4q 17 = true := by kernel_rfl
set_option maxRecDepth 100000 in
theorem okkj4q_18 : Held.okAt opsj4q ordj4q 18 = true := by kernel_rfl
set_option maxRecDepth 100000 in
theorem okkj4q_19 : Held.okAt opsj4q ordj4q 19 = true := by kernel_rfl
set_option maxRecDepth 100000 in
theorem okkj4q_20 : Held.okAt opsj4q ordj4q 20 = true := by kernel_rfl
set_option maxRecDepth 100000 in
theorem okkj4q_21 : Held.okAt opsj4q ordj4q 21 = true := by kernel_rfl
set_option maxRecDepth 100000 in
theorem okkj4q_22 : Held.okAt opsj4q ordj4q 22 = true := by kernel_rfl
set_option maxRecDepth 100000 in
theorem okkj4q_24 : Held.okAt opsj4q ordj4q 24 = true := by kernel_rfl
set_option maxRecDepth 100000 in
theorem okkj4q_25 : Held.okAt opsj4q ordj4q 25 = true := by kernel_rfl
set_option maxRecDepth 100000 in
theorem rdyj4q_10 : Region.ready .any opsj4q (Held.lst 26 ordj4q 10) = [10] := by kernel_rfl
set_option maxRecDepth 100000 in
theorem rdyj4q_16 : Region.ready .any opsj4q (Held.lst 26 ordj4q 16) = [16] := by kernel_rfl
set_option maxRecDepth 100000 in
theorem rdyj4q_23 : Region.ready .any opsj4q (Held.lst 26 ordj4q 23) = [23] := by kernel_rfl
end Go.Proofs.Ytpmafghknafhaaa
