/-
The drawn region of Do's test: its operations, and the order in which they may be taken.
-/
import Derived.Test.YtpmafghknafhaaaHeldA
set_option linter.unusedVariables false
set_option linter.unusedSimpArgs false
namespace Go.Proofs.Ytpmafghknafhaaa
open Go.RowKit
noncomputable def opsla : Array Oper := Held.inBody 1 Try.f49.body
def ordla : List Nat := [0, 2, 3, 4, 1, 5, 6, 7, 8, 9, 10, 11, 12, 13, 14, 15, 16]
set_option maxRecDepth 100000 in
theorem sizla : opsla.size = 17 := by kernel_rfl
set_option maxRecDepth 100000 in
theorem nosla : Region.noSelect opsla = true := by kernel_rfl
set_option maxRecDepth 100000 in
theorem okkla_0 : Held.okAt opsla ordla 0 = true := by kernel_rfl
set_option maxRecDepth 100000 in
theorem okkla_1 : Held.okAt opsla ordla 1 = true := by kernel_rfl
set_option maxRecDepth 100000 in
theorem okkla_2 : Held.okAt opsla ordla 2 = true := by kernel_rfl
set_option maxRecDepth 100000 in
theorem okkla_3 : Held.okAt opsla ordla 3 = true := by kernel_rfl
set_option maxRecDepth 100000 in
theorem okkla_6 : Held.okAt opsla ordla 6 = true := by kernel_rfl
set_option maxRecDepth 100000 in
theorem okkla_7 : Held.okAt opsla ordla 7 = true := by kernel_rfl
set_option maxRecDepth 100000 in
theorem okkla_8 : Held.okAt opsla ordla 8 = true := by kernel_rfl
set_option maxRecDepth 100000 in
theorem okkla_9 : Held.okAt opsla ordla 9 = true := by kernel_rfl
set_option maxRecDepth 100000 in
theorem okkla_10 : Held.okAt opsla ordla 10 = true := by kernel_rfl
set_option maxRecDepth 100000 in
theorem okkla_11 : Held.okAt opsla ordla 11 = true := by kernel_rfl
set_option maxRecDepth 100000 in
theorem okkla_12 : Held.okAt opsla ordla 12 = true := by kernel_rfl
set_option maxRecDepth 100000 in
theorem okkla_13 : Held.okAt opsla ordla 13 = true := by kernel_rfl
set_option maxRecDepth 100000 in
theorem okkla_14 : Held.okAt opsla ordla 14 = true := by kernel_rfl
set_option maxRecDepth 100000 in
theorem okkla_15 : Held.okAt opsla ordla 15 = true := by kernel_rfl
set_option maxRecDepth 100000 in
theorem okkla_16 : Held.okAt opsla ordla 16 = true := by kernel_rfl
set_option maxRecDepth 100000 in
theorem rdyla_4 : Region.ready .any opsla (Held.lst 17 ordla 4) = [1] := by kernel_rfl
set_option maxRecDepth 100000 in
theorem rdyla_5 : Region.ready .any opsla (Held.lst 17 ordla 5) = [5] := by kernel_rfl
noncomputable def opslb : Array Oper := Held.inBody 1 Try.f49.body
def ordlb : List Nat := [0, 2, 3, 4, 1, 5, 6, 7, 8, 10, 11, 12, 9, 13, 14, 15, 16]
set_option maxRecDepth 100000 in
theorem sizlb : opslb.size = 17 := by kernel_rfl
set_option maxRecDepth 100000 in
theorem noslb : Region.noSelect opslb = true := by kernel_rfl
set_option maxRecDepth 100000 in
theorem okklb_0 : Held.okAt opslb ordlb 0 = true := by kernel_rfl
set_option maxRecDepth 100000 in
theorem okklb_1 : Held.okAt opslb ordlb 1 = true := by kernel_rfl
set_option maxRecDepth 100000 in
theorem okklb_2 : Held.okAt opslb ordlb 2 = true := by kernel_rfl
set_option maxRecDepth 100000 in
theorem okklb_3 : Held.okAt opslb ordlb 3 = true := by kernel_rfl
set_option maxRecDepth 100000 in
theorem okklb_6 : Held.okAt opslb ordlb 6 = true := by kernel_rfl
set_option maxRecDepth 100000 in
theorem okklb_7 : Held.okAt opslb ordlb 7 = true := by kernel_rfl
set_option maxRecDepth 100000 in
theorem okklb_8 : Held.okAt opslb ordlb 8 = true := by kernel_rfl
set_option maxRecDepth 100000 in
theorem okklb_9 : Held.okAt opslb ordlb 9 = true := by kernel_rfl
set_option maxRecDepth 100000 in
theorem okklb_10 : Held.okAt opslb ordlb 10 = true := by kernel_rfl
set_option maxRecDepth 100000 in
theorem okklb_11 : Held.okAt opslb ordlb 11 = true := by kernel_rfl
set_option maxRecDepth 100000 in
theorem okklb_14 : Held.okAt opslb ordlb 14 = true := by kernel_rfl
set_option maxRecDepth 100000 in
theorem okklb_15 : Held.okAt opslb ordlb 15 = true := by kernel_rfl
set_option maxRecDepth 100000 in
theorem okklb_16 : Held.okAt opslb ordlb 16 = true := by kernel_rfl
set_option maxRecDepth 100000 in
theorem rdylb_4 : Region.ready .any opslb (Held.lst 17 ordlb 4) = [1] := by kernel_rfl
set_option maxRecDepth 100000 in
theorem rdylb_5 : Region.ready .any opslb (Held.lst 17 ordlb 5) = [5] := by kernel_rfl
set_option maxRecDepth 100000 in
theorem rdylb_12 : Region.ready .any opslb (Held.lst 17 ordlb 12) = [9] := by kernel_rfl
set_option maxRecDepth 100000 in
theorem rdylb_13 : Region.ready .any opslb (Held.lst 17 ordlb 13) = [13] := by kernel_rfl
end Go.Proofs.Ytpmafghknafhaaa
