/-
Layer 2: what is sealed is opened.
-/
import Derived.Test.YtobhlcogopcbdaaCrcC
set_option linter.unusedVariables false
set_option linter.unusedSimpArgs false
namespace Go.Proofs.Ytobhlcogopcbdaa
open Go.RowKit Sp

set_option maxHeartbeats 1000000 in
set_option maxRecDepth 100000 in
theorem refOpen_calls (s : ByteArray) (w : World) (hs : s.size ≤ 140737488351232) :
    Calls Try.prog 59 #[.string s] w fun e w' => e = .returned (.tuple #[.string (openS s).1, .int .i64 (openS s).2]) ∧ Below w.heap.size w w' := by
  by_cases h4 : (s.size : Int) < 4
  · have HV : Hid (openS s = (⟨#[]⟩, 2)) := by show _ = _; rw [openS, if_pos (by omega)]
    go_enter Try.func59, Try.ntmps59
    go_wp2
    go_ret2
    rw [HV.out]
    exact ⟨rfl, Below.refl _ _⟩
  · have hz : (s.extract 0 (s.size - 4)).size ≤ 140737488351232 := by rw [ByteArray.size_extract]; omega
    by_cases he : sealS (s.extract 0 (s.size - 4)) = s
    · have HV : Hid (openS s = (s.extract 0 (s.size - 4), 0)) := by show _ = _; rw [openS, if_neg (by omega), if_pos he]
      have hne : (!((sealS (s.extract 0 (s.size - 4))).toList == s.toList)) = false := by rw [he]; simp
      clear he
      go_enter Try.func59, Try.ntmps59
      go_wp2_with fail
      refine (refSeal_calls _ _ hz).mono ?_
      rintro e w1 ⟨rfl, b1⟩
      go_wp2
      go_ret2
      rw [HV.out]
      exact ⟨rfl, b1⟩
    · have HV : Hid (openS s = (⟨#[]⟩, 4)) := by show _ = _; rw [openS, if_neg (by omega), if_neg he]
      have hne : (!((sealS (s.extract 0 (s.size - 4))).toList == s.toList)) = true := by
        simp only [Bool.not_eq_true', beq_eq_false_iff_ne]
        exact fun e => he (toList_inj'.1 e)
      clear he
      go_enter Try.func59, Try.ntmps59
      go_wp2_with fail
      refine (refSeal_calls _ _ hz).mono ?_
      rintro e w1 ⟨rfl, b1⟩
      go_wp2
      go_ret2
      rw [HV.out]
      exact ⟨rfl, b1⟩

set_option maxHeartbeats 1000000 in
set_option maxRecDepth 100000 in
theorem crcOpen_calls (s : ByteArray) (w : World) (hs : s.size ≤ 140737488351232) :
    Calls Try.prog 57 #[.string s] w fun e w' => e = .returned (.tuple #[.string (openS s).1, .int .i64 (openS s).2]) ∧ Below w.heap.size w w' := by
  by_cases h4 : (s.size : Int) < 4
  · have HV : Hid (openS s = (⟨#[]⟩, 2)) := by show _ = _; rw [openS, if_pos (by omega)]
    go_enter Try.func57, Try.ntmps57
    go_wp2
    go_ret2
    rw [HV.out]
    exact ⟨rfl, Below.refl _ _⟩
  · have hz : (s.extract 0 (s.size - 4)).size ≤ 140737488351232 := by rw [ByteArray.size_extract]; omega
    by_cases he : sealS (s.extract 0 (s.size - 4)) = s
    · have HV : Hid (openS s = (s.extract 0 (s.size - 4), 0)) := by show _ = _; rw [openS, if_neg (by omega), if_pos he]
      have hne : (!((sealS (s.extract 0 (s.size - 4))).toList == s.toList)) = false := by rw [he]; simp
      clear he
      go_enter Try.func57, Try.ntmps57
      go_wp2_with fail
      refine (crcSeal_calls _ _ hz).mono ?_
      rintro e w1 ⟨rfl, b1⟩
      go_wp2
      go_ret2
      rw [HV.out]
      exact ⟨rfl, b1⟩
    · have HV : Hid (openS s = (⟨#[]⟩, 4)) := by show _ = _; rw [openS, if_neg (by omega), if_neg he]
      have hne : (!((sealS (s.extract 0 (s.size - 4))).toList == s.toList)) = true := by
        simp only [Bool.not_eq_true', beq_eq_false_iff_ne]
        exact fun e => he (toList_inj'.1 e)
      clear he
      go_enter Try.func57, Try.ntmps57
      go_wp2_with fail
      refine (crcSeal_calls _ _ hz).mono ?_
      rintro e w1 ⟨rfl, b1⟩
      go_wp2
      go_ret2
      rw [HV.out]
      exact ⟨rfl, b1⟩
end Go.Proofs.Ytobhlcogopcbdaa
