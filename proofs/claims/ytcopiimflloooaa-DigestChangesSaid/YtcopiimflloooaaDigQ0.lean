/-
Layer 5: the last statement of 'live': its operations, and the order in which they may be taken.
-/
import Derived.Test.YtcopiimflloooaaHeldA
set_option linter.unusedVariables false
set_option linter.unusedSimpArgs false
namespace Go.Proofs.Ytcopiimflloooaa
open Go.RowKit
noncomputable def opsv : Array Oper := Held.ofBody 11 Try.f32.body
def ordv : List Nat := [0, 1, 2, 3, 4, 5, 6, 7, 8, 9, 10, 11, 12, 13, 14, 15, 16, 17, 18, 19, 20, 21, 22, 23, 24, 25, 26, 27, 28, 29, 30, 31, 32, 33, 34, 35, 36, 37, 38, 39, 40, 41, 42, 43, 44, 45, 46, 47, 48, 49, 50, 51, 52, 53, 54, 55, 56, 57, 58, 59, 60, 61, 62, 63, 64, 65, 66, 67, 68, 69, 70, 71, 72, 73, 74, 75, 76, 77, 78, 79, 81, 80, 82, 83, 84, 85, 86, 87, 88, 89, 90, 91, 92, 93, 94, 95, 96, 97, 98, 99, 100]
set_option maxRecDepth 100000 in
theorem sizv : opsv.size = 101 := by kernel_rfl
set_option maxRecDepth 100000 in
theorem nosv : Region.noSelect opsv = true := by kernel_rfl
set_option maxRecDepth 100000 in
theorem okkv_0 : Held.okAt opsv ordv 0 = true := by kernel_rfl
set_option maxRecDepth 100000 in
theorem okkv_1 : Held.okAt opsv ordv 1 = true := by kernel_rfl
set_option maxRecDepth 100000 in
theorem okkv_2 : Held.okAt opsv ordv 2 = true := by kernel_rfl
set_option maxRecDepth 100000 in
theorem okkv_3 : Held.okAt opsv ordv 3 = true := by kernel_rfl
set_option maxRecDepth 100000 in
theorem okkv_4 : Held.okAt opsv ordv 4 = true := by kernel_rfl
set_option maxRecDepth 100000 in
theorem okkv_5 : Held.okAt opsv ordv 5 = true := by kernel_rfl
set_option maxRecDepth 100000 in
theorem okkv_6 : Held.okAt opsv ordv 6 = true := by kernel_rfl
set_option maxRecDepth 100000 in
theorem okkv_7 : Held.okAt opsv ordv 7 = true := by kernel_rfl
set_option maxRecDepth 100000 in
theorem okkv_9 : Held.okAt opsv ordv 9 = true := by kernel_rfl
set_option maxRecDepth 100000 in
theorem okkv_10 : Held.okAt opsv ordv 10 = true := by kernel_rfl
set_option maxRecDepth 100000 in
theorem okkv_11 : Held.okAt opsv ordv 11 = true := by kernel_rfl
set_option maxRecDepth 100000 in
theorem okkv_12 : Held.okAt opsv ordv 12 = true := by kernel_rfl
set_option maxRecDepth 100000 in
theorem okkv_13 : Held.okAt opsv ordv 13 = true := by kernel_rfl
set_option maxRecDepth 100000 in
theorem okkv_14 : Held.okAt opsv ordv 14 = true := by kernel_rfl
set_option maxRecDepth 100000 in
theorem okkv_15 : Held.okAt opsv ordv 15 = true := by kernel_rfl
set_option maxRecDepth 100000 in
theorem okkv_16 : Held.okAt opsv ordv 16 = true := by kernel_rfl
set_option maxRecDepth 100000 in
theorem okkv_17 : Held.okAt opsv ordv 17 = true := by kernel_rfl
set_option maxRecDepth 100000 in
theorem okkv_18 : Held.okAt opsv ordv 18 = true := by kernel_rfl
set_option maxRecDepth 100000 in
theorem okkv_19 : Held.okAt opsv ordv 19 = true := by kernel_rfl
set_option maxRecDepth 100000 in
theorem okkv_20 : Held.okAt opsv ordv 20 = true := by kernel_rfl
set_option maxRecDepth 100000 in
theorem okkv_21 : Held.okAt opsv ordv 21 = true := by kernel_rfl
set_option maxRecDepth 100000 in
theorem okkv_22 : Held.okAt opsv ordv 22 = true := by kernel_rfl
set_option maxRecDepth 100000 in
theorem okkv_23 : Held.okAt opsv ordv 23 = true := by kernel_rfl
set_option maxRecDepth 100000 in
theorem okkv_24 : Held.okAt opsv ordv 24 = true := by kernel_rfl
set_option maxRecDepth 100000 in
theorem okkv_25 : Held.okAt opsv ordv 25 = true := by kernel_rfl
set_option maxRecDepth 100000 in
theorem okkv_26 : Held.okAt opsv ordv 26 = true := by kernel_rfl
set_option maxRecDepth 100000 in
theorem okkv_27 : Held.okAt opsv ordv 27 = true := by kernel_rfl
set_option maxRecDepth 100000 in
theorem okkv_28 : Held.okAt opsv ordv 28 = true := by kernel_rfl
set_option maxRecDepth 100000 in
theorem okkv_29 : Held.okAt opsv ordv 29 = true := by kernel_rfl
set_option maxRecDepth 100000 in
theorem okkv_30 : Held.okAt opsv ordv 30 = true := by kernel_rfl
set_option maxRecDepth 100000 in
theorem okkv_31 : Held.okAt opsv ordv 31 = true := by kernel_rfl
set_option maxRecDepth 100000 in
theorem okkv_32 : Held.okAt opsv ordv 32 = true := by kernel_rfl
set_option maxRecDepth 100000 in
theorem okkv_33 : Held.okAt opsv ordv 33 = true := by kernel_rfl
set_option maxRecDepth 100000 in
theorem okkv_34 : Held.okAt opsv ordv 34 = true := by kernel_rfl
set_option maxRecDepth 100000 in
theorem okkv_35 : Held.okAt opsv ordv 35 = true := by kernel_rfl
set_option maxRecDepth 100000 in
theorem okkv_36 : Held.okAt opsv ordv 36 = true := by kernel_rfl
set_option maxRecDepth 100000 in
theorem okkv_37 : Held.okAt opsv ordv 37 = true := by kernel_rfl
set_option maxRecDepth 100000 in
theorem okkv_38 : Held.okAt opsv ordv 38 = true := by kernel_rfl
set_option maxRecDepth 100000 in
theorem okkv_39 : Held.okAt opsv ordv 39 = true := by kernel_rfl
set_option maxRecDepth 100000 in
theorem okkv_40 : Held.okAt opsv ordv 40 = true := by kernel_rfl
set_option maxRecDepth 100000 in
theorem okkv_41 : Held.okAt opsv ordv 41 = true := by kernel_rfl
set_option maxRecDepth 100000 in
theorem okkv_42 : Held.okAt opsv ordv 42 = true := by kernel_rfl
set_option maxRecDepth 100000 in
theorem okkv_43 : Held.okAt opsv ordv 43 = true := by kernel_rfl
set_option maxRecDepth 100000 in
theorem okkv_44 : Held.okAt opsv ordv 44 = true := by kernel_rfl
set_option maxRecDepth 100000 in
theorem okkv_45 : Held.okAt opsv ordv 45 = true := by kernel_rfl
set_option maxRecDepth 100000 in
theorem okkv_46 : Held.okAt opsv ordv 46 = true := by kernel_rfl
set_option maxRecDepth 100000 in
theorem okkv_47 : Held.okAt opsv ordv 47 = true := by kernel_rfl
set_option maxRecDepth 100000 in
theorem okkv_48 : Held.okAt opsv ordv 48 = true := by kernel_rfl
set_option maxRecDepth 100000 in
theorem okkv_49 : Held.okAt opsv ordv 49 = true := by kernel_rfl
set_option maxRecDepth 100000 in
theorem okkv_50 : Held.okAt opsv ordv 50 = true := by kernel_rfl
set_option maxRecDepth 100000 in
theorem okkv_51 : Held.okAt opsv ordv 51 = true := by kernel_rfl
set_option maxRecDepth 100000 in
theorem okkv_52 : Held.okAt opsv ordv 52 = true := by kernel_rfl
set_option maxRecDepth 100000 in
theorem okkv_53 : Held.okAt opsv ordv 53 = true := by kernel_rfl
set_option maxRecDepth 100000 in
theorem okkv_54 : Held.okAt opsv ordv 54 = true := by kernel_rfl
set_option maxRecDepth 100000 in
theorem okkv_55 : Held.okAt opsv ordv 55 = true := by kernel_rfl
set_option maxRecDepth 100000 in
theorem okkv_56 : Held.okAt opsv ordv 56 = true := by kernel_rfl
set_option maxRecDepth 100000 in
theorem okkv_57 : Held.okAt opsv ordv 57 = true := by kernel_rfl
set_option maxRecDepth 100000 in
theorem okkv_58 : Held.okAt opsv ordv 58 = true := by kernel_rfl
set_option maxRecDepth 100000 in
theorem okkv_59 : Held.okAt opsv ordv 59 = true := by kernel_rfl
set_option maxRecDepth 100000 in
theorem okkv_60 : Held.okAt opsv ordv 60 = true := by kernel_rfl
set_option maxRecDepth 100000 in
theorem okkv_61 : Held.okAt opsv ordv 61 = true := by kernel_rfl
set_option maxRecDepth 100000 in
theorem okkv_62 : Held.okAt opsv ordv 62 = true := by kernel_rfl
set_option maxRecDepth 100000 in
theorem okkv_63 : Held.okAt opsv ordv 63 = true := by kernel_rfl
set_option maxRecDepth 100000 in
theorem okkv_64 : Held.okAt opsv ordv 64 = true := by kernel_rfl
set_option maxRecDepth 100000 in
theorem okkv_65 : Held.okAt opsv ordv 65 = true := by kernel_rfl
set_option maxRecDepth 100000 in
theorem okkv_66 : Held.okAt opsv ordv 66 = true := by kernel_rfl
set_option maxRecDepth 100000 in
theorem okkv_67 : Held.okAt opsv ordv 67 = true := by kernel_rfl
set_option maxRecDepth 100000 in
theorem okkv_68 : Held.okAt opsv ordv 68 = true := by kernel_rfl
set_option maxRecDepth 100000 in
theorem okkv_69 : Held.okAt opsv ordv 69 = true := by kernel_rfl
set_option maxRecDepth 100000 in
theorem okkv_70 : Held.okAt opsv ordv 70 = true := by kernel_rfl
set_option maxRecDepth 100000 in
theorem okkv_71 : Held.okAt opsv ordv 71 = true := by kernel_rfl
set_option maxRecDepth 100000 in
theorem okkv_72 : Held.okAt opsv ordv 72 = true := by kernel_rfl
set_option maxRecDepth 100000 in
theorem okkv_73 : Held.okAt opsv ordv 73 = true := by kernel_rfl
set_option maxRecDepth 100000 in
theorem okkv_74 : Held.okAt opsv ordv 74 = true := by kernel_rfl
set_option maxRecDepth 100000 in
theorem okkv_76 : Held.okAt opsv ordv 76 = true := by kernel_rfl
set_option maxRecDepth 100000 in
theorem okkv_77 : Held.okAt opsv ordv 77 = true := by kernel_rfl
set_option maxRecDepth 100000 in
theorem okkv_78 : Held.okAt opsv ordv 78 = true := by kernel_rfl
set_option maxRecDepth 100000 in
theorem okkv_79 : Held.okAt opsv ordv 79 = true := by kernel_rfl
set_option maxRecDepth 100000 in
theorem okkv_80 : Held.okAt opsv ordv 80 = true := by kernel_rfl
set_option maxRecDepth 100000 in
theorem okkv_83 : Held.okAt opsv ordv 83 = true := by kernel_rfl
set_option maxRecDepth 100000 in
theorem okkv_84 : Held.okAt opsv ordv 84 = true := by kernel_rfl
set_option maxRecDepth 100000 in
theorem okkv_85 : Held.okAt opsv ordv 85 = true := by kernel_rfl
set_option maxRecDepth 100000 in
theorem okkv_86 : Held.okAt opsv ordv 86 = true := by kernel_rfl
set_option maxRecDepth 100000 in
theorem okkv_88 : Held.okAt opsv ordv 88 = true := by kernel_rfl
set_option maxRecDepth 100000 in
theorem okkv_89 : Held.okAt opsv ordv 89 = true := by kernel_rfl
set_option maxRecDepth 100000 in
theorem okkv_90 : Held.okAt opsv ordv 90 = true := by kernel_rfl
set_option maxRecDepth 100000 in
theorem okkv_91 : Held.okAt opsv ordv 91 = true := by kernel_rfl
set_option maxRecDepth 100000 in
theorem okkv_92 : Held.okAt opsv ordv 92 = true := by kernel_rfl
set_option maxRecDepth 100000 in
theorem okkv_93 : Held.okAt opsv ordv 93 = true := by kernel_rfl
set_option maxRecDepth 100000 in
theorem okkv_94 : Held.okAt opsv ordv 94 = true := by kernel_rfl
set_option maxRecDepth 100000 in
theorem okkv_95 : Held.okAt opsv ordv 95 = true := by kernel_rfl
set_option maxRecDepth 100000 in
theorem okkv_98 : Held.okAt opsv ordv 98 = true := by kernel_rfl
set_option maxRecDepth 100000 in
theorem okkv_99 : Held.okAt opsv ordv 99 = true := by kernel_rfl
set_option maxRecDepth 100000 in
theorem okkv_100 : Held.okAt opsv ordv 100 = true := by kernel_rfl
set_option maxRecDepth 100000 in
theorem rdyv_8 : Region.ready .any opsv (Held.lst 101 ordv 8) = [8] := by kernel_rfl
set_option maxRecDepth 100000 in
theorem rdyv_75 : Region.ready .any opsv (Held.lst 101 ordv 75) = [75] := by kernel_rfl
set_option maxRecDepth 100000 in
theorem rdyv_81 : Region.ready .any opsv (Held.lst 101 ordv 81) = [80] := by kernel_rfl
set_option maxRecDepth 100000 in
theorem rdyv_82 : Region.ready .any opsv (Held.lst 101 ordv 82) = [82] := by kernel_rfl
set_option maxRecDepth 100000 in
theorem rdyv_87 : Region.ready .any opsv (Held.lst 101 ordv 87) = [87] := by kernel_rfl
set_option maxRecDepth 100000 in
theorem rdyv_96 : Region.ready .any opsv (Held.lst 101 ordv 96) = [96] := by kernel_rfl
set_option maxRecDepth 100000 in
theorem rdyv_97 : Region.ready .any opsv (Held.lst 101 ordv 97) = [97] := by kernel_rfl
end Go.Proofs.Ytcopiimflloooaa
