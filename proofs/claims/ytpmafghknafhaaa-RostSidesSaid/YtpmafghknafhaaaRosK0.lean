/-
The drawn region of the document's May: its operations, and the order in which they may be taken.
-/
import Derived.Test.YtpmafghknafhaaaHeldA
set_option linter.unusedVariables false
set_option linter.unusedSimpArgs false
namespace Go.Proofs.Ytpmafghknafhaaa
open Go.RowKit
noncomputable def opska : Array Oper := Held.inBody 5 Try.f13.body
def ordka : List Nat := [0, 1, 2, 3, 4, 5, 6, 7, 8, 9, 10, 11, 12, 13, 14, 15, 16, 17, 18, 19, 20, 21, 22, 23, 24, 25, 26, 27, 28, 29, 30, 31, 32, 33, 34, 35, 36, 37, 38]
set_option maxRecDepth 100000 in
theorem sizka : opska.size = 39 := by kernel_rfl
set_option maxRecDepth 100000 in
theorem noska : Region.noSelect opska = true := by kernel_rfl
set_option maxRecDepth 100000 in
theorem okkka_0 : Held.okAt opska ordka 0 = true := by kernel_rfl
set_option maxRecDepth 100000 in
theorem okkka_1 : Held.okAt opska ordka 1 = true := by kernel_rfl
set_option maxRecDepth 100000 in
theorem okkka_3 : Held.okAt opska ordka 3 = true := by kernel_rfl
set_option maxRecDepth 100000 in
theorem okkka_4 : Held.okAt opska ordka 4 = true := by kernel_rfl
set_option maxRecDepth 100000 in
theorem okkka_5 : Held.okAt opska ordka 5 = true := by kernel_rfl
set_option maxRecDepth 100000 in
theorem okkka_6 : Held.okAt opska ordka 6 = true := by kernel_rfl
set_option maxRecDepth 100000 in
theorem okkka_7 : Held.okAt opska ordka 7 = true := by kernel_rfl
set_option maxRecDepth 100000 in
theorem okkka_8 : Held.okAt opska ordka 8 = true := by kernel_rfl
set_option maxRecDepth 100000 in
theorem okkka_9 : Held.okAt opska ordka 9 = true := by kernel_rfl
set_option maxRecDepth 100000 in
theorem okkka_10 : Held.okAt opska ordka 10 = true := by kernel_rfl
set_option maxRecDepth 100000 in
theorem okkka_11 : Held.okAt opska ordka 11 = true := by kernel_rfl
set_option maxRecDepth 100000 in
theorem okkka_12 : Held.okAt opska ordka 12 = true := by kernel_rfl
set_option maxRecDepth 100000 in
theorem okkka_13 : Held.okAt opska ordka 13 = true := by kernel_rfl
set_option maxRecDepth 100000 in
theorem okkka_14 : Held.okAt opska ordka 14 = true := by kernel_rfl
set_option maxRecDepth 100000 in
theorem okkka_15 : Held.okAt opska ordka 15 = true := by kernel_rfl
set_option maxRecDepth 100000 in
theorem okkka_16 : Held.okAt opska ordka 16 = true := by kernel_rfl
set_option maxRecDepth 100000 in
theorem okkka_17 : Held.okAt opska ordka 17 = true := by kernel_rfl
set_option maxRecDepth 100000 in
theorem okkka_18 : Held.okAt opska ordka 18 = true := by kernel_rfl
set_option maxRecDepth 100000 in
theorem okkka_19 : Held.okAt opska ordka 19 = true := by kernel_rfl
set_option maxRecDepth 100000 in
theorem okkka_20 : Held.okAt opska ordka 20 = true := by kernel_rfl
set_option maxRecDepth 100000 in
theorem okkka_21 : Held.okAt opska ordka 21 = true := by kernel_rfl
set_option maxRecDepth 100000 in
theorem okkka_22 : Held.okAt opska ordka 22 = true := by kernel_rfl
set_option maxRecDepth 100000 in
theorem okkka_23 : Held.okAt opska ordka 23 = true := by kernel_rfl
set_option maxRecDepth 100000 in
theorem okkka_24 : Held.okAt opska ordka 24 = true := by kernel_rfl
set_option maxRecDepth 100000 in
theorem okkka_25 : Held.okAt opska ordka 25 = true := by kernel_rfl
set_option maxRecDepth 100000 in
theorem okkka_26 : Held.okAt opska ordka 26 = true := by kernel_rfl
set_option maxRecDepth 100000 in
theorem okkka_27 : Held.okAt opska ordka 27 = true := by kernel_rfl
set_option maxRecDepth 100000 in
theorem okkka_28 : Held.okAt opska ordka 28 = true := by kernel_rfl
set_option maxRecDepth 100000 in
theorem okkka_29 : Held.okAt opska ordka 29 = true := by kernel_rfl
set_option maxRecDepth 100000 in
theorem okkka_30 : Held.okAt opska ordka 30 = true := by kernel_rfl
set_option maxRecDepth 100000 in
theorem okkka_31 : Held.okAt opska ordka 31 = true := by kernel_rfl
set_option maxRecDepth 100000 in
theorem okkka_32 : Held.okAt opska ordka 32 = true := by kernel_rfl
set_option maxRecDepth 100000 in
theorem okkka_33 : Held.okAt opska ordka 33 = true := by kernel_rfl
set_option maxRecDepth 100000 in
theorem okkka_34 : Held.okAt opska ordka 34 = true := by kernel_rfl
set_option maxRecDepth 100000 in
theorem okkka_35 : Held.okAt opska ordka 35 = true := by kernel_rfl
set_option maxRecDepth 100000 in
theorem okkka_36 : Held.okAt opska ordka 36 = true := by kernel_rfl
set_option maxRecDepth 100000 in
theorem okkka_37 : Held.okAt opska ordka 37 = true := by kernel_rfl
set_option maxRecDepth 100000 in
theorem okkka_38 : Held.okAt opska ordka 38 = true := by kernel_rfl
set_option maxRecDepth 100000 in
theorem rdyka_2 : Region.ready .any opska (Held.lst 39 ordka 2) = [2] := by kernel_rfl
noncomputable def opskb : Array Oper := Held.inBody 5 Try.f13.body
def ordkb : List Nat := [0, 1, 2, 3, 4, 5, 6, 7, 8, 9, 10, 11, 12, 13, 14, 15, 16, 17, 18, 19, 20, 21, 22, 23, 24, 25, 26, 27, 28, 29, 30, 31, 32, 33, 34, 35, 36, 37, 38]
set_option maxRecDepth 100000 in
theorem sizkb : opskb.size = 39 := by kernel_rfl
set_option maxRecDepth 100000 in
theorem noskb : Region.noSelect opskb = true := by kernel_rfl
set_option maxRecDepth 100000 in
theorem okkkb_0 : Held.okAt opskb ordkb 0 = true := by kernel_rfl
set_option maxRecDepth 100000 in
theorem okkkb_1 : Held.okAt opskb ordkb 1 = true := by kernel_rfl
set_option maxRecDepth 100000 in
theorem okkkb_3 : Held.okAt opskb ordkb 3 = true := by kernel_rfl
set_option maxRecDepth 100000 in
theorem okkkb_4 : Held.okAt opskb ordkb 4 = true := by kernel_rfl
set_option maxRecDepth 100000 in
theorem okkkb_5 : Held.okAt opskb ordkb 5 = true := by kernel_rfl
set_option maxRecDepth 100000 in
theorem okkkb_6 : Held.okAt opskb ordkb 6 = true := by kernel_rfl
set_option maxRecDepth 100000 in
theorem okkkb_8 : Held.okAt opskb ordkb 8 = true := by kernel_rfl
set_option maxRecDepth 100000 in
theorem okkkb_9 : Held.okAt opskb ordkb 9 = true := by kernel_rfl
set_option maxRecDepth 100000 in
theorem okkkb_10 : Held.okAt opskb ordkb 10 = true := by kernel_rfl
set_option maxRecDepth 100000 in
theorem okkkb_11 : Held.okAt opskb ordkb 11 = true := by kernel_rfl
set_option maxRecDepth 100000 in
theorem okkkb_12 : Held.okAt opskb ordkb 12 = true := by kernel_rfl
set_option maxRecDepth 100000 in
theorem okkkb_13 : Held.okAt opskb ordkb 13 = true := by kernel_rfl
set_option maxRecDepth 100000 in
theorem okkkb_14 : Held.okAt opskb ordkb 14 = true := by kernel_rfl
set_option maxRecDepth 100000 in
theorem okkkb_15 : Held.okAt opskb ordkb 15 = true := by kernel_rfl
set_option maxRecDepth 100000 in
theorem okkkb_16 : Held.okAt opskb ordkb 16 = true := by kernel_rfl
set_option maxRecDepth 100000 in
theorem okkkb_17 : Held.okAt opskb ordkb 17 = true := by kernel_rfl
set_option maxRecDepth 100000 in
theorem okkkb_18 : Held.okAt opskb ordkb 18 = true := by kernel_rfl
set_option maxRecDepth 100000 in
theorem okkkb_19 : Held.okAt opskb ordkb 19 = true := by kernel_rfl
set_option maxRecDepth 100000 in
theorem okkkb_20 : Held.okAt opskb ordkb 20 = true := by kernel_rfl
set_option maxRecDepth 100000 in
theorem okkkb_21 : Held.okAt opskb ordkb 21 = true := by kernel_rfl
set_option maxRecDepth 100000 in
theorem okkkb_22 : Held.okAt opskb ordkb 22 = true := by kernel_rfl
set_option maxRecDepth 100000 in
theorem okkkb_23 : Held.okAt opskb ordkb 23 = true := by kernel_rfl
set_option maxRecDepth 100000 in
theorem okkkb_24 : Held.okAt opskb ordkb 24 = true := by kernel_rfl
set_option maxRecDepth 100000 in
theorem okkkb_25 : Held.okAt opskb ordkb 25 = true := by kernel_rfl
set_option maxRecDepth 100000 in
theorem okkkb_26 : Held.okAt opskb ordkb 26 = true := by kernel_rfl
set_option maxRecDepth 100000 in
theorem okkkb_27 : Held.okAt opskb ordkb 27 = true := by kernel_rfl
set_option maxRecDepth 100000 in
theorem okkkb_28 : Held.okAt opskb ordkb 28 = true := by kernel_rfl
set_option maxRecDepth 100000 in
theorem okkkb_29 : Held.okAt opskb ordkb 29 = true := by kernel_rfl
set_option maxRecDepth 100000 in
theorem okkkb_30 : Held.okAt opskb ordkb 30 = true := by kernel_rfl
set_option maxRecDepth 100000 in
theorem okkkb_31 : Held.okAt opskb ordkb 31 = true := by kernel_rfl
set_option maxRecDepth 100000 in
theorem okkkb_32 : Held.okAt opskb ordkb 32 = true := by kernel_rfl
set_option maxRecDepth 100000 in
theorem okkkb_33 : Held.okAt opskb ordkb 33 = true := by kernel_rfl
set_option maxRecDepth 100000 in
theorem okkkb_34 : Held.okAt opskb ordkb 34 = true := by kernel_rfl
set_option maxRecDepth 100000 in
theorem okkkb_35 : Held.okAt opskb ordkb 35 = true := by kernel_rfl
set_option maxRecDepth 100000 in
theorem okkkb_36 : Held.okAt opskb ordkb 36 = true := by kernel_rfl
set_option maxRecDepth 100000 in
theorem okkkb_37 : Held.okAt opskb ordkb 37 = true := by kernel_rfl
set_option maxRecDepth 100000 in
theorem okkkb_38 : Held.okAt opskb ordkb 38 = true := by kernel_rfl
set_option maxRecDepth 100000 in
theorem rdykb_2 : Region.ready .any opskb (Held.lst 39 ordkb 2) = [2] := by kernel_rfl
set_option maxRecDepth 100000 in
theorem rdykb_7 : Region.ready .any opskb (Held.lst 39 ordkb 7) = [7] := by kernel_rfl
noncomputable def opskc : Array Oper := Held.inBody 5 Try.f13.body
def ordkc : List Nat := [0, 1, 2, 3, 4, 5, 6, 7, 8, 9, 10, 11, 12, 13, 14, 15, 16, 17, 18, 19, 20, 21, 22, 23, 24, 25, 26, 27, 28, 29, 30, 31, 32, 33, 34, 35, 36, 37, 38]
set_option maxRecDepth 100000 in
theorem sizkc : opskc.size = 39 := by kernel_rfl
set_option maxRecDepth 100000 in
theorem noskc : Region.noSelect opskc = true := by kernel_rfl
set_option maxRecDepth 100000 in
theorem okkkc_0 : Held.okAt opskc ordkc 0 = true := by kernel_rfl
set_option maxRecDepth 100000 in
theorem okkkc_1 : Held.okAt opskc ordkc 1 = true := by kernel_rfl
set_option maxRecDepth 100000 in
theorem okkkc_3 : Held.okAt opskc ordkc 3 = true := by kernel_rfl
set_option maxRecDepth 100000 in
theorem okkkc_4 : Held.okAt opskc ordkc 4 = true := by kernel_rfl
set_option maxRecDepth 100000 in
theorem okkkc_5 : Held.okAt opskc ordkc 5 = true := by kernel_rfl
set_option maxRecDepth 100000 in
theorem okkkc_6 : Held.okAt opskc ordkc 6 = true := by kernel_rfl
set_option maxRecDepth 100000 in
theorem okkkc_8 : Held.okAt opskc ordkc 8 = true := by kernel_rfl
set_option maxRecDepth 100000 in
theorem okkkc_9 : Held.okAt opskc ordkc 9 = true := by kernel_rfl
set_option maxRecDepth 100000 in
theorem okkkc_10 : Held.okAt opskc ordkc 10 = true := by kernel_rfl
set_option maxRecDepth 100000 in
theorem okkkc_11 : Held.okAt opskc ordkc 11 = true := by kernel_rfl
set_option maxRecDepth 100000 in
theorem okkkc_12 : Held.okAt opskc ordkc 12 = true := by kernel_rfl
set_option maxRecDepth 100000 in
theorem okkkc_13 : Held.okAt opskc ordkc 13 = true := by kernel_rfl
set_option maxRecDepth 100000 in
theorem okkkc_14 : Held.okAt opskc ordkc 14 = true := by kernel_rfl
set_option maxRecDepth 100000 in
theorem okkkc_15 : Held.okAt opskc ordkc 15 = true := by kernel_rfl
set_option maxRecDepth 100000 in
theorem okkkc_16 : Held.okAt opskc ordkc 16 = true := by kernel_rfl
set_option maxRecDepth 100000 in
theorem okkkc_17 : Held.okAt opskc ordkc 17 = true := by kernel_rfl
set_option maxRecDepth 100000 in
theorem okkkc_18 : Held.okAt opskc ordkc 18 = true := by kernel_rfl
set_option maxRecDepth 100000 in
theorem okkkc_19 : Held.okAt opskc ordkc 19 = true := by kernel_rfl
set_option maxRecDepth 100000 in
theorem okkkc_20 : Held.okAt opskc ordkc 20 = true := by kernel_rfl
set_option maxRecDepth 100000 in
theorem okkkc_21 : Held.okAt opskc ordkc 21 = true := by kernel_rfl
set_option maxRecDepth 100000 in
theorem okkkc_22 : Held.okAt opskc ordkc 22 = true := by kernel_rfl
set_option maxRecDepth 100000 in
theorem okkkc_23 : Held.okAt opskc ordkc 23 = true := by kernel_rfl
set_option maxRecDepth 100000 in
theorem okkkc_24 : Held.okAt opskc ordkc 24 = true := by kernel_rfl
set_option maxRecDepth 100000 in
theorem okkkc_25 : Held.okAt opskc ordkc 25 = true := by kernel_rfl
set_option maxRecDepth 100000 in
theorem okkkc_26 : Held.okAt opskc ordkc 26 = true := by kernel_rfl
set_option maxRecDepth 100000 in
theorem okkkc_27 : Held.okAt opskc ordkc 27 = true := by kernel_rfl
set_option maxRecDepth 100000 in
theorem okkkc_28 : Held.okAt opskc ordkc 28 = true := by kernel_rfl
set_option maxRecDepth 100000 in
theorem okkkc_29 : Held.okAt opskc ordkc 29 = true := by kernel_rfl
set_option maxRecDepth 100000 in
theorem okkkc_30 : Held.okAt opskc ordkc 30 = true := by kernel_rfl
set_option maxRecDepth 100000 in
theorem okkkc_31 : Held.okAt opskc ordkc 31 = true := by kernel_rfl
set_option maxRecDepth 100000 in
theorem okkkc_32 : Held.okAt opskc ordkc 32 = true := by kernel_rfl
set_option maxRecDepth 100000 in
theorem okkkc_33 : Held.okAt opskc ordkc 33 = true := by kernel_rfl
set_option maxRecDepth 100000 in
theorem okkkc_34 : Held.okAt opskc ordkc 34 = true := by kernel_rfl
set_option maxRecDepth 100000 in
theorem okkkc_35 : Held.okAt opskc ordkc 35 = true := by kernel_rfl
set_option maxRecDepth 100000 in
theorem okkkc_36 : Held.okAt opskc ordkc 36 = true := by kernel_rfl
set_option maxRecDepth 100000 in
theorem okkkc_37 : Held.okAt opskc ordkc 37 = true := by kernel_rfl
set_option maxRecDepth 100000 in
theorem okkkc_38 : Held.okAt opskc ordkc 38 = true := by kernel_rfl
set_option maxRecDepth 100000 in
theorem rdykc_2 : Region.ready .any opskc (Held.lst 39 ordkc 2) = [2] := by kernel_rfl
set_option maxRecDepth 100000 in
theorem rdykc_7 : Region.ready .any opskc (Held.lst 39 ordkc 7) = [7] := by kernel_rfl
noncomputable def opskd1 : Array Oper := Held.inBody 5 Try.f13.body
def ordkd1 : List Nat := [0, 1, 2, 3, 4, 5, 6, 7, 8, 9, 10, 11, 12, 13, 14, 15, 16, 17, 18, 19, 20, 21, 22, 23, 24, 25, 26, 27, 28, 29, 30, 31, 32, 33, 34, 35, 36, 37, 38]
set_option maxRecDepth 100000 in
theorem sizkd1 : opskd1.size = 39 := by kernel_rfl
set_option maxRecDepth 100000 in
theorem noskd1 : Region.noSelect opskd1 = true := by kernel_rfl
set_option maxRecDepth 100000 in
theorem okkkd1_0 : Held.okAt opskd1 ordkd1 0 = true := by kernel_rfl
set_option maxRecDepth 100000 in
theorem okkkd1_1 : Held.okAt opskd1 ordkd1 1 = true := by kernel_rfl
set_option maxRecDepth 100000 in
theorem okkkd1_3 : Held.okAt opskd1 ordkd1 3 = true := by kernel_rfl
set_option maxRecDepth 100000 in
theorem okkkd1_4 : Held.okAt opskd1 ordkd1 4 = true := by kernel_rfl
set_option maxRecDepth 100000 in
theorem okkkd1_5 : Held.okAt opskd1 ordkd1 5 = true := by kernel_rfl
set_option maxRecDepth 100000 in
theorem okkkd1_6 : Held.okAt opskd1 ordkd1 6 = true := by kernel_rfl
set_option maxRecDepth 100000 in
theorem okkkd1_8 : Held.okAt opskd1 ordkd1 8 = true := by kernel_rfl
set_option maxRecDepth 100000 in
theorem okkkd1_9 : Held.okAt opskd1 ordkd1 9 = true := by kernel_rfl
set_option maxRecDepth 100000 in
theorem okkkd1_10 : Held.okAt opskd1 ordkd1 10 = true := by kernel_rfl
set_option maxRecDepth 100000 in
theorem okkkd1_11 : Held.okAt opskd1 ordkd1 11 = true := by kernel_rfl
set_option maxRecDepth 100000 in
theorem okkkd1_12 : Held.okAt opskd1 ordkd1 12 = true := by kernel_rfl
set_option maxRecDepth 100000 in
theorem okkkd1_13 : Held.okAt opskd1 ordkd1 13 = true := by kernel_rfl
set_option maxRecDepth 100000 in
theorem okkkd1_14 : Held.okAt opskd1 ordkd1 14 = true := by kernel_rfl
set_option maxRecDepth 100000 in
theorem okkkd1_15 : Held.okAt opskd1 ordkd1 15 = true := by kernel_rfl
set_option maxRecDepth 100000 in
theorem okkkd1_16 : Held.okAt opskd1 ordkd1 16 = true := by kernel_rfl
set_option maxRecDepth 100000 in
theorem okkkd1_17 : Held.okAt opskd1 ordkd1 17 = true := by kernel_rfl
set_option maxRecDepth 100000 in
theorem okkkd1_18 : Held.okAt opskd1 ordkd1 18 = true := by kernel_rfl
set_option maxRecDepth 100000 in
theorem okkkd1_19 : Held.okAt opskd1 ordkd1 19 = true := by kernel_rfl
set_option maxRecDepth 100000 in
theorem okkkd1_20 : Held.okAt opskd1 ordkd1 20 = true := by kernel_rfl
set_option maxRecDepth 100000 in
theorem okkkd1_21 : Held.okAt opskd1 ordkd1 21 = true := by kernel_rfl
set_option maxRecDepth 100000 in
theorem okkkd1_22 : Held.okAt opskd1 ordkd1 22 = true := by kernel_rfl
set_option maxRecDepth 100000 in
theorem okkkd1_23 : Held.okAt opskd1 ordkd1 23 = true := by kernel_rfl
set_option maxRecDepth 100000 in
theorem okkkd1_24 : Held.okAt opskd1 ordkd1 24 = true := by kernel_rfl
set_option maxRecDepth 100000 in
theorem okkkd1_25 : Held.okAt opskd1 ordkd1 25 = true := by kernel_rfl
set_option maxRecDepth 100000 in
theorem okkkd1_26 : Held.okAt opskd1 ordkd1 26 = true := by kernel_rfl
set_option maxRecDepth 100000 in
theorem okkkd1_27 : Held.okAt opskd1 ordkd1 27 = true := by kernel_rfl
set_option maxRecDepth 100000 in
theorem okkkd1_28 : Held.okAt opskd1 ordkd1 28 = true := by kernel_rfl
set_option maxRecDepth 100000 in
theorem okkkd1_29 : Held.okAt opskd1 ordkd1 29 = true := by kernel_rfl
set_option maxRecDepth 100000 in
theorem okkkd1_30 : Held.okAt opskd1 ordkd1 30 = true := by kernel_rfl
set_option maxRecDepth 100000 in
theorem okkkd1_31 : Held.okAt opskd1 ordkd1 31 = true := by kernel_rfl
set_option maxRecDepth 100000 in
theorem okkkd1_32 : Held.okAt opskd1 ordkd1 32 = true := by kernel_rfl
set_option maxRecDepth 100000 in
theorem okkkd1_33 : Held.okAt opskd1 ordkd1 33 = true := by kernel_rfl
set_option maxRecDepth 100000 in
theorem okkkd1_34 : Held.okAt opskd1 ordkd1 34 = true := by kernel_rfl
set_option maxRecDepth 100000 in
theorem okkkd1_36 : Held.okAt opskd1 ordkd1 36 = true := by kernel_rfl
set_option maxRecDepth 100000 in
theorem okkkd1_37 : Held.okAt opskd1 ordkd1 37 = true := by kernel_rfl
set_option maxRecDepth 100000 in
theorem okkkd1_38 : Held.okAt opskd1 ordkd1 38 = true := by kernel_rfl
set_option maxRecDepth 100000 in
theorem rdykd1_2 : Region.ready .any opskd1 (Held.lst 39 ordkd1 2) = [2] := by kernel_rfl
set_option maxRecDepth 100000 in
theorem rdykd1_7 : Region.ready .any opskd1 (Held.lst 39 ordkd1 7) = [7] := by kernel_rfl
set_option maxRecDepth 100000 in
theorem rdykd1_35 : Region.ready .any opskd1 (Held.lst 39 ordkd1 35) = [35] := by kernel_rfl
noncomputable def opskd2 : Array Oper := Held.inBody 5 Try.f13.body
def ordkd2 : List Nat := [0, 1, 2, 3, 4, 5, 6, 7, 8, 9, 10, 11, 12, 13, 14, 15, 16, 17, 18, 19, 20, 21, 22, 23, 24, 25, 26, 27, 28, 29, 30, 31, 32, 33, 34, 35, 36, 37, 38]
set_option maxRecDepth 100000 in
theorem sizkd2 : opskd2.size = 39 := by kernel_rfl
set_option maxRecDepth 100000 in
theorem noskd2 : Region.noSelect opskd2 = true := by kernel_rfl
set_option maxRecDepth 100000 in
theorem okkkd2_0 : Held.okAt opskd2 ordkd2 0 = true := by kernel_rfl
set_option maxRecDepth 100000 in
theorem okkkd2_1 : Held.okAt opskd2 ordkd2 1 = true := by kernel_rfl
set_option maxRecDepth 100000 in
theorem okkkd2_3 : Held.okAt opskd2 ordkd2 3 = true := by kernel_rfl
set_option maxRecDepth 100000 in
theorem okkkd2_4 : Held.okAt opskd2 ordkd2 4 = true := by kernel_rfl
set_option maxRecDepth 100000 in
theorem okkkd2_5 : Held.okAt opskd2 ordkd2 5 = true := by kernel_rfl
set_option maxRecDepth 100000 in
theorem okkkd2_6 : Held.okAt opskd2 ordkd2 6 = true := by kernel_rfl
set_option maxRecDepth 100000 in
theorem okkkd2_8 : Held.okAt opskd2 ordkd2 8 = true := by kernel_rfl
set_option maxRecDepth 100000 in
theorem okkkd2_9 : Held.okAt opskd2 ordkd2 9 = true := by kernel_rfl
set_option maxRecDepth 100000 in
theorem okkkd2_10 : Held.okAt opskd2 ordkd2 10 = true := by kernel_rfl
set_option maxRecDepth 100000 in
theorem okkkd2_11 : Held.okAt opskd2 ordkd2 11 = true := by kernel_rfl
set_option maxRecDepth 100000 in
theorem okkkd2_12 : Held.okAt opskd2 ordkd2 12 = true := by kernel_rfl
set_option maxRecDepth 100000 in
theorem okkkd2_13 : Held.okAt opskd2 ordkd2 13 = true := by kernel_rfl
set_option maxRecDepth 100000 in
theorem okkkd2_14 : Held.okAt opskd2 ordkd2 14 = true := by kernel_rfl
set_option maxRecDepth 100000 in
theorem okkkd2_15 : Held.okAt opskd2 ordkd2 15 = true := by kernel_rfl
set_option maxRecDepth 100000 in
theorem okkkd2_16 : Held.okAt opskd2 ordkd2 16 = true := by kernel_rfl
set_option maxRecDepth 100000 in
theorem okkkd2_17 : Held.okAt opskd2 ordkd2 17 = true := by kernel_rfl
set_option maxRecDepth 100000 in
theorem okkkd2_18 : Held.okAt opskd2 ordkd2 18 = true := by kernel_rfl
set_option maxRecDepth 100000 in
theorem okkkd2_19 : Held.okAt opskd2 ordkd2 19 = true := by kernel_rfl
set_option maxRecDepth 100000 in
theorem okkkd2_20 : Held.okAt opskd2 ordkd2 20 = true := by kernel_rfl
set_option maxRecDepth 100000 in
theorem okkkd2_21 : Held.okAt opskd2 ordkd2 21 = true := by kernel_rfl
set_option maxRecDepth 100000 in
theorem okkkd2_22 : Held.okAt opskd2 ordkd2 22 = true := by kernel_rfl
set_option maxRecDepth 100000 in
theorem okkkd2_23 : Held.okAt opskd2 ordkd2 23 = true := by kernel_rfl
set_option maxRecDepth 100000 in
theorem okkkd2_24 : Held.okAt opskd2 ordkd2 24 = true := by kernel_rfl
set_option maxRecDepth 100000 in
theorem okkkd2_25 : Held.okAt opskd2 ordkd2 25 = true := by kernel_rfl
set_option maxRecDepth 100000 in
theorem okkkd2_26 : Held.okAt opskd2 ordkd2 26 = true := by kernel_rfl
set_option maxRecDepth 100000 in
theorem okkkd2_27 : Held.okAt opskd2 ordkd2 27 = true := by kernel_rfl
set_option maxRecDepth 100000 in
theorem okkkd2_28 : Held.okAt opskd2 ordkd2 28 = true := by kernel_rfl
set_option maxRecDepth 100000 in
theorem okkkd2_29 : Held.okAt opskd2 ordkd2 29 = true := by kernel_rfl
set_option maxRecDepth 100000 in
theorem okkkd2_30 : Held.okAt opskd2 ordkd2 30 = true := by kernel_rfl
set_option maxRecDepth 100000 in
theorem okkkd2_31 : Held.okAt opskd2 ordkd2 31 = true := by kernel_rfl
set_option maxRecDepth 100000 in
theorem okkkd2_32 : Held.okAt opskd2 ordkd2 32 = true := by kernel_rfl
set_option maxRecDepth 100000 in
theorem okkkd2_33 : Held.okAt opskd2 ordkd2 33 = true := by kernel_rfl
set_option maxRecDepth 100000 in
theorem okkkd2_34 : Held.okAt opskd2 ordkd2 34 = true := by kernel_rfl
set_option maxRecDepth 100000 in
theorem okkkd2_36 : Held.okAt opskd2 ordkd2 36 = true := by kernel_rfl
set_option maxRecDepth 100000 in
theorem okkkd2_37 : Held.okAt opskd2 ordkd2 37 = true := by kernel_rfl
set_option maxRecDepth 100000 in
theorem okkkd2_38 : Held.okAt opskd2 ordkd2 38 = true := by kernel_rfl
set_option maxRecDepth 100000 in
theorem rdykd2_2 : Region.ready .any opskd2 (Held.lst 39 ordkd2 2) = [2] := by kernel_rfl
set_option maxRecDepth 100000 in
theorem rdykd2_7 : Region.ready .any opskd2 (Held.lst 39 ordkd2 7) = [7] := by kernel_rfl
set_option maxRecDepth 100000 in
theorem rdykd2_35 : Region.ready .any opskd2 (Held.lst 39 ordkd2 35) = [35] := by kernel_rfl
noncomputable def opske : Array Oper := Held.inBody 5 Try.f13.body
def ordke : List Nat := [0, 1, 2, 3, 4, 5, 6, 7, 8, 9, 10, 11, 12, 13, 14, 15, 16, 17, 18, 19, 20, 21, 22, 23, 24, 25, 26, 27, 28, 29, 30, 31, 32, 33, 34, 35, 36, 37, 38]
set_option maxRecDepth 100000 in
theorem sizke : opske.size = 39 := by kernel_rfl
set_option maxRecDepth 100000 in
theorem noske : Region.noSelect opske = true := by kernel_rfl
set_option maxRecDepth 100000 in
theorem okkke_0 : Held.okAt opske ordke 0 = true := by kernel_rfl
set_option maxRecDepth 100000 in
theorem okkke_1 : Held.okAt opske ordke 1 = true := by kernel_rfl
set_option maxRecDepth 100000 in
theorem okkke_3 : Held.okAt opske ordke 3 = true := by kernel_rfl
set_option maxRecDepth 100000 in
theorem okkke_4 : Held.okAt opske ordke 4 = true := by kernel_rfl
set_option maxRecDepth 100000 in
theorem okkke_5 : Held.okAt opske ordke 5 = true := by kernel_rfl
set_option maxRecDepth 100000 in
theorem okkke_6 : Held.okAt opske ordke 6 = true := by kernel_rfl
set_option maxRecDepth 100000 in
theorem okkke_8 : Held.okAt opske ordke 8 = true := by kernel_rfl
set_option maxRecDepth 100000 in
theorem okkke_9 : Held.okAt opske ordke 9 = true := by kernel_rfl
set_option maxRecDepth 100000 in
theorem okkke_10 : Held.okAt opske ordke 10 = true := by kernel_rfl
set_option maxRecDepth 100000 in
theorem okkke_11 : Held.okAt opske ordke 11 = true := by kernel_rfl
set_option maxRecDepth 100000 in
theorem okkke_12 : Held.okAt opske ordke 12 = true := by kernel_rfl
set_option maxRecDepth 100000 in
theorem okkke_13 : Held.okAt opske ordke 13 = true := by kernel_rfl
set_option maxRecDepth 100000 in
theorem okkke_14 : Held.okAt opske ordke 14 = true := by kernel_rfl
set_option maxRecDepth 100000 in
theorem okkke_15 : Held.okAt opske ordke 15 = true := by kernel_rfl
set_option maxRecDepth 100000 in
theorem okkke_16 : Held.okAt opske ordke 16 = true := by kernel_rfl
set_option maxRecDepth 100000 in
theorem okkke_17 : Held.okAt opske ordke 17 = true := by kernel_rfl
set_option maxRecDepth 100000 in
theorem okkke_18 : Held.okAt opske ordke 18 = true := by kernel_rfl
set_option maxRecDepth 100000 in
theorem okkke_19 : Held.okAt opske ordke 19 = true := by kernel_rfl
set_option maxRecDepth 100000 in
theorem okkke_20 : Held.okAt opske ordke 20 = true := by kernel_rfl
set_option maxRecDepth 100000 in
theorem okkke_21 : Held.okAt opske ordke 21 = true := by kernel_rfl
set_option maxRecDepth 100000 in
theorem okkke_22 : Held.okAt opske ordke 22 = true := by kernel_rfl
set_option maxRecDepth 100000 in
theorem okkke_23 : Held.okAt opske ordke 23 = true := by kernel_rfl
set_option maxRecDepth 100000 in
theorem okkke_24 : Held.okAt opske ordke 24 = true := by kernel_rfl
set_option maxRecDepth 100000 in
theorem okkke_25 : Held.okAt opske ordke 25 = true := by kernel_rfl
set_option maxRecDepth 100000 in
theorem okkke_26 : Held.okAt opske ordke 26 = true := by kernel_rfl
set_option maxRecDepth 100000 in
theorem okkke_28 : Held.okAt opske ordke 28 = true := by kernel_rfl
set_option maxRecDepth 100000 in
theorem okkke_29 : Held.okAt opske ordke 29 = true := by kernel_rfl
set_option maxRecDepth 100000 in
theorem okkke_30 : Held.okAt opske ordke 30 = true := by kernel_rfl
set_option maxRecDepth 100000 in
theorem okkke_31 : Held.okAt opske ordke 31 = true := by kernel_rfl
set_option maxRecDepth 100000 in
theorem okkke_32 : Held.okAt opske ordke 32 = true := by kernel_rfl
set_option maxRecDepth 100000 in
theorem okkke_33 : Held.okAt opske ordke 33 = true := by kernel_rfl
set_option maxRecDepth 100000 in
theorem okkke_34 : Held.okAt opske ordke 34 = true := by kernel_rfl
set_option maxRecDepth 100000 in
theorem okkke_35 : Held.okAt opske ordke 35 = true := by kernel_rfl
set_option maxRecDepth 100000 in
theorem okkke_36 : Held.okAt opske ordke 36 = true := by kernel_rfl
set_option maxRecDepth 100000 in
theorem okkke_37 : Held.okAt opske ordke 37 = true := by kernel_rfl
set_option maxRecDepth 100000 in
theorem okkke_38 : Held.okAt opske ordke 38 = true := by kernel_rfl
set_option maxRecDepth 100000 in
theorem rdyke_2 : Region.ready .any opske (Held.lst 39 ordke 2) = [2] := by kernel_rfl
set_option maxRecDepth 100000 in
theorem rdyke_7 : Region.ready .any opske (Held.lst 39 ordke 7) = [7] := by kernel_rfl
set_option maxRecDepth 100000 in
theorem rdyke_27 : Region.ready .any opske (Held.lst 39 ordke 27) = [27] := by kernel_rfl
noncomputable def opskf1 : Array Oper := Held.inBody 5 Try.f13.body
def ordkf1 : List Nat := [0, 1, 2, 3, 4, 5, 6, 7, 8, 9, 10, 11, 12, 13, 14, 15, 16, 17, 18, 19, 20, 21, 22, 23, 24, 25, 26, 27, 28, 29, 30, 31, 32, 33, 34, 35, 36, 37, 38]
set_option maxRecDepth 100000 in
theorem sizkf1 : opskf1.size = 39 := by kernel_rfl
set_option maxRecDepth 100000 in
theorem noskf1 : Region.noSelect opskf1 = true := by kernel_rfl
set_option maxRecDepth 100000 in
theorem okkkf1_0 : Held.okAt opskf1 ordkf1 0 = true := by kernel_rfl
set_option maxRecDepth 100000 in
theorem okkkf1_1 : Held.okAt opskf1 ordkf1 1 = true := by kernel_rfl
set_option maxRecDepth 100000 in
theorem okkkf1_3 : Held.okAt opskf1 ordkf1 3 = true := by kernel_rfl
set_option maxRecDepth 100000 in
theorem okkkf1_4 : Held.okAt opskf1 ordkf1 4 = true := by kernel_rfl
set_option maxRecDepth 100000 in
theorem okkkf1_5 : Held.okAt opskf1 ordkf1 5 = true := by kernel_rfl
set_option maxRecDepth 100000 in
theorem okkkf1_6 : Held.okAt opskf1 ordkf1 6 = true := by kernel_rfl
set_option maxRecDepth 100000 in
theorem okkkf1_8 : Held.okAt opskf1 ordkf1 8 = true := by kernel_rfl
set_option maxRecDepth 100000 in
theorem okkkf1_9 : Held.okAt opskf1 ordkf1 9 = true := by kernel_rfl
set_option maxRecDepth 100000 in
theorem okkkf1_10 : Held.okAt opskf1 ordkf1 10 = true := by kernel_rfl
set_option maxRecDepth 100000 in
theorem okkkf1_11 : Held.okAt opskf1 ordkf1 11 = true := by kernel_rfl
set_option maxRecDepth 100000 in
theorem okkkf1_12 : Held.okAt opskf1 ordkf1 12 = true := by kernel_rfl
set_option maxRecDepth 100000 in
theorem okkkf1_13 : Held.okAt opskf1 ordkf1 13 = true := by kernel_rfl
set_option maxRecDepth 100000 in
theorem okkkf1_14 : Held.okAt opskf1 ordkf1 14 = true := by kernel_rfl
set_option maxRecDepth 100000 in
theorem okkkf1_15 : Held.okAt opskf1 ordkf1 15 = true := by kernel_rfl
set_option maxRecDepth 100000 in
theorem okkkf1_16 : Held.okAt opskf1 ordkf1 16 = true := by kernel_rfl
set_option maxRecDepth 100000 in
theorem okkkf1_17 : Held.okAt opskf1 ordkf1 17 = true := by kernel_rfl
set_option maxRecDepth 100000 in
theorem okkkf1_18 : Held.okAt opskf1 ordkf1 18 = true := by kernel_rfl
set_option maxRecDepth 100000 in
theorem okkkf1_19 : Held.okAt opskf1 ordkf1 19 = true := by kernel_rfl
set_option maxRecDepth 100000 in
theorem okkkf1_20 : Held.okAt opskf1 ordkf1 20 = true := by kernel_rfl
set_option maxRecDepth 100000 in
theorem okkkf1_21 : Held.okAt opskf1 ordkf1 21 = true := by kernel_rfl
set_option maxRecDepth 100000 in
theorem okkkf1_22 : Held.okAt opskf1 ordkf1 22 = true := by kernel_rfl
set_option maxRecDepth 100000 in
theorem okkkf1_23 : Held.okAt opskf1 ordkf1 23 = true := by kernel_rfl
set_option maxRecDepth 100000 in
theorem okkkf1_24 : Held.okAt opskf1 ordkf1 24 = true := by kernel_rfl
set_option maxRecDepth 100000 in
theorem okkkf1_25 : Held.okAt opskf1 ordkf1 25 = true := by kernel_rfl
set_option maxRecDepth 100000 in
theorem okkkf1_26 : Held.okAt opskf1 ordkf1 26 = true := by kernel_rfl
set_option maxRecDepth 100000 in
theorem okkkf1_28 : Held.okAt opskf1 ordkf1 28 = true := by kernel_rfl
set_option maxRecDepth 100000 in
theorem okkkf1_29 : Held.okAt opskf1 ordkf1 29 = true := by kernel_rfl
set_option maxRecDepth 100000 in
theorem okkkf1_30 : Held.okAt opskf1 ordkf1 30 = true := by kernel_rfl
set_option maxRecDepth 100000 in
theorem okkkf1_31 : Held.okAt opskf1 ordkf1 31 = true := by kernel_rfl
set_option maxRecDepth 100000 in
theorem okkkf1_32 : Held.okAt opskf1 ordkf1 32 = true := by kernel_rfl
set_option maxRecDepth 100000 in
theorem okkkf1_33 : Held.okAt opskf1 ordkf1 33 = true := by kernel_rfl
set_option maxRecDepth 100000 in
theorem okkkf1_34 : Held.okAt opskf1 ordkf1 34 = true := by kernel_rfl
set_option maxRecDepth 100000 in
theorem okkkf1_36 : Held.okAt opskf1 ordkf1 36 = true := by kernel_rfl
set_option maxRecDepth 100000 in
theorem okkkf1_37 : Held.okAt opskf1 ordkf1 37 = true := by kernel_rfl
set_option maxRecDepth 100000 in
theorem okkkf1_38 : Held.okAt opskf1 ordkf1 38 = true := by kernel_rfl
set_option maxRecDepth 100000 in
theorem rdykf1_2 : Region.ready .any opskf1 (Held.lst 39 ordkf1 2) = [2] := by kernel_rfl
set_option maxRecDepth 100000 in
theorem rdykf1_7 : Region.ready .any opskf1 (Held.lst 39 ordkf1 7) = [7] := by kernel_rfl
set_option maxRecDepth 100000 in
theorem rdykf1_27 : Region.ready .any opskf1 (Held.lst 39 ordkf1 27) = [27] := by kernel_rfl
set_option maxRecDepth 100000 in
theorem rdykf1_35 : Region.ready .any opskf1 (Held.lst 39 ordkf1 35) = [35] := by kernel_rfl
noncomputable def opskf2 : Array Oper := Held.inBody 5 Try.f13.body
def ordkf2 : List Nat := [0, 1, 2, 3, 4, 5, 6, 7, 8, 9, 10, 11, 12, 13, 14, 15, 16, 17, 18, 19, 20, 21, 22, 23, 24, 25, 26, 27, 28, 29, 30, 31, 32, 33, 34, 35, 36, 37, 38]
set_option maxRecDepth 100000 in
theorem sizkf2 : opskf2.size = 39 := by kernel_rfl
set_option maxRecDepth 100000 in
theorem noskf2 : Region.noSelect opskf2 = true := by kernel_rfl
set_option maxRecDepth 100000 in
theorem okkkf2_0 : Held.okAt opskf2 ordkf2 0 = true := by kernel_rfl
set_option maxRecDepth 100000 in
theorem okkkf2_1 : Held.okAt opskf2 ordkf2 1 = true := by kernel_rfl
set_option maxRecDepth 100000 in
theorem okkkf2_3 : Held.okAt opskf2 ordkf2 3 = true := by kernel_rfl
set_option maxRecDepth 100000 in
theorem okkkf2_4 : Held.okAt opskf2 ordkf2 4 = true := by kernel_rfl
set_option maxRecDepth 100000 in
theorem okkkf2_5 : Held.okAt opskf2 ordkf2 5 = true := by kernel_rfl
set_option maxRecDepth 100000 in
theorem okkkf2_6 : Held.okAt opskf2 ordkf2 6 = true := by kernel_rfl
set_option maxRecDepth 100000 in
theorem okkkf2_8 : Held.okAt opskf2 ordkf2 8 = true := by kernel_rfl
set_option maxRecDepth 100000 in
theorem okkkf2_9 : Held.okAt opskf2 ordkf2 9 = true := by kernel_rfl
set_option maxRecDepth 100000 in
theorem okkkf2_10 : Held.okAt opskf2 ordkf2 10 = true := by kernel_rfl
set_option maxRecDepth 100000 in
theorem okkkf2_11 : Held.okAt opskf2 ordkf2 11 = true := by kernel_rfl
set_option maxRecDepth 100000 in
theorem okkkf2_12 : Held.okAt opskf2 ordkf2 12 = true := by kernel_rfl
set_option maxRecDepth 100000 in
theorem okkkf2_13 : Held.okAt opskf2 ordkf2 13 = true := by kernel_rfl
set_option maxRecDepth 100000 in
theorem okkkf2_14 : Held.okAt opskf2 ordkf2 14 = true := by kernel_rfl
set_option maxRecDepth 100000 in
theorem okkkf2_15 : Held.okAt opskf2 ordkf2 15 = true := by kernel_rfl
set_option maxRecDepth 100000 in
theorem okkkf2_16 : Held.okAt opskf2 ordkf2 16 = true := by kernel_rfl
set_option maxRecDepth 100000 in
theorem okkkf2_17 : Held.okAt opskf2 ordkf2 17 = true := by kernel_rfl
set_option maxRecDepth 100000 in
theorem okkkf2_18 : Held.okAt opskf2 ordkf2 18 = true := by kernel_rfl
set_option maxRecDepth 100000 in
theorem okkkf2_19 : Held.okAt opskf2 ordkf2 19 = true := by kernel_rfl
set_option maxRecDepth 100000 in
theorem okkkf2_20 : Held.okAt opskf2 ordkf2 20 = true := by kernel_rfl
set_option maxRecDepth 100000 in
theorem okkkf2_21 : Held.okAt opskf2 ordkf2 21 = true := by kernel_rfl
set_option maxRecDepth 100000 in
theorem okkkf2_22 : Held.okAt opskf2 ordkf2 22 = true := by kernel_rfl
set_option maxRecDepth 100000 in
theorem okkkf2_23 : Held.okAt opskf2 ordkf2 23 = true := by kernel_rfl
set_option maxRecDepth 100000 in
theorem okkkf2_24 : Held.okAt opskf2 ordkf2 24 = true := by kernel_rfl
set_option maxRecDepth 100000 in
theorem okkkf2_25 : Held.okAt opskf2 ordkf2 25 = true := by kernel_rfl
set_option maxRecDepth 100000 in
theorem okkkf2_26 : Held.okAt opskf2 ordkf2 26 = true := by kernel_rfl
set_option maxRecDepth 100000 in
theorem okkkf2_28 : Held.okAt opskf2 ordkf2 28 = true := by kernel_rfl
set_option maxRecDepth 100000 in
theorem okkkf2_29 : Held.okAt opskf2 ordkf2 29 = true := by kernel_rfl
set_option maxRecDepth 100000 in
theorem okkkf2_30 : Held.okAt opskf2 ordkf2 30 = true := by kernel_rfl
set_option maxRecDepth 100000 in
theorem okkkf2_31 : Held.okAt opskf2 ordkf2 31 = true := by kernel_rfl
set_option maxRecDepth 100000 in
theorem okkkf2_32 : Held.okAt opskf2 ordkf2 32 = true := by kernel_rfl
set_option maxRecDepth 100000 in
theorem okkkf2_33 : Held.okAt opskf2 ordkf2 33 = true := by kernel_rfl
set_option maxRecDepth 100000 in
theorem okkkf2_34 : Held.okAt opskf2 ordkf2 34 = true := by kernel_rfl
set_option maxRecDepth 100000 in
theorem okkkf2_36 : Held.okAt opskf2 ordkf2 36 = true := by kernel_rfl
set_option maxRecDepth 100000 in
theorem okkkf2_37 : Held.okAt opskf2 ordkf2 37 = true := by kernel_rfl
set_option maxRecDepth 100000 in
theorem okkkf2_38 : Held.okAt opskf2 ordkf2 38 = true := by kernel_rfl
set_option maxRecDepth 100000 in
theorem rdykf2_2 : Region.ready .any opskf2 (Held.lst 39 ordkf2 2) = [2] := by kernel_rfl
set_option maxRecDepth 100000 in
theorem rdykf2_7 : Region.ready .any opskf2 (Held.lst 39 ordkf2 7) = [7] := by kernel_rfl
set_option maxRecDepth 100000 in
theorem rdykf2_27 : Region.ready .any opskf2 (Held.lst 39 ordkf2 27) = [27] := by kernel_rfl
set_option maxRecDepth 100000 in
theorem rdykf2_35 : Region.ready .any opskf2 (Held.lst 39 ordkf2 35) = [35] := by kernel_rfl
end Go.Proofs.Ytpmafghknafhaaa
