/-
Contracts: how two entries' places stand.
-/
import Derived.Test.YtpmafghknafhaaaRosH
set_option linter.unusedVariables false
set_option linter.unusedSimpArgs false
namespace Go.Proofs.Ytpmafghknafhaaa
open Go.RowKit
open Sp
def cmpRo (a b : EnK) : Int := if a = b then 0 else if ltRo a b then -1 else 1
theorem cmpRo_ge (a b : EnK) : decide (0 ≤ cmpRo a b) = !ltRo a b := by
  unfold cmpRo
  by_cases h : a = b
  · rw [if_pos h, h, ltRo_ord.irr]; rfl
  · rw [if_neg h]
    cases ltRo a b <;> rfl
theorem cellsKr {W : World} {g : Nat} {u v : ByteArray} (h : W.heap[g]? = some (bxKr u v)) : W.cell? ⟨g, 0, none⟩ = some (.string u) ∧ W.cell? ⟨g, 1, none⟩ = some (.string v) := ⟨by simp [World.cell?, h], by simp [World.cell?, h]⟩
set_option maxHeartbeats 8000000 in
set_option maxRecDepth 100000 in
theorem orderR_calls (u v u' v' : ByteArray) (w : World) :
    Calls Try.prog 36 #[agKr u v, agKr u' v'] w fun e w' => e = .returned (.int .i64 (cmpRo (u, v) (u', v'))) ∧ Below w.heap.size w w' := by
  have D := below_alloc0 (below_box (w := w) (bxKr u v)) (bxKr u' v')
  have ha := halloc (heap_alloc_new w (bxKr u v)) (bxKr u' v')
  have hb := heap_alloc_new (w.alloc (bxKr u v)) (bxKr u' v')
  rw [size_alloc] at hb
  have hE := eqlKr u v u' v'
  by_cases h : ((u, v) : EnK) = (u', v')
  · have HF : Hid (cmpRo (u, v) (u', v') = 0) := if_pos h
    rw [decide_eq_true h] at hE
    obtain ⟨k0, k1⟩ := cellsKr ha
    obtain ⟨j0, j1⟩ := cellsKr hb
    clear h
    go_enter Try.func36, Try.ntmps36
    go_wp2
    go_ret
    rw [HF.out]
    exact ⟨rfl, D⟩
  rw [decide_eq_false h] at hE
  obtain ⟨b1, hb1⟩ : ∃ b, less u u' = b := ⟨_, rfl⟩
  have HL := Lib.hid hb1
  have hcm : cmpRo (u, v) (u', v') = if (b1 || (decide (u = u') && less v v')) then -1 else 1 := by
    unfold cmpRo ltRo
    rw [if_neg h, ← hb1]
  clear hb1 h
  obtain ⟨k0, k1⟩ := cellsKr ha
  obtain ⟨j0, j1⟩ := cellsKr hb
  cases b1 with
  | true =>
    have HF : Hid (cmpRo (u, v) (u', v') = -1) := hcm
    clear hcm
    go_enter Try.func36, Try.ntmps36
    go_wp2_with fail
    with_reducible refine (Less_is _ u u' true HL).mono ?_
    rintro e w1 ⟨rfl, c1⟩
    have D1 := below_call D c1
    clear k0 k1 j0 j1
    go_wp2
    go_ret
    rw [HF.out]
    exact ⟨rfl, D1⟩
  | false =>
    by_cases hu : u = u'
    · obtain ⟨b2, hb2⟩ : ∃ b, less v v' = b := ⟨_, rfl⟩
      have HL2 := Lib.hid hb2
      rw [decide_eq_true hu, hb2, Bool.false_or, Bool.true_and] at hcm
      have HC := Lib.hid hcm
      have e1 : (u.toList == u'.toList) = true := by rw [hu]; exact beq_self_eq_true _
      have e2 : u.toList = u'.toList := by rw [hu]
      clear hb2 hcm hu
      go_enter Try.func36, Try.ntmps36
      go_wp2_with fail
      with_reducible refine (Less_is _ u u' false HL).mono ?_
      rintro e w1 ⟨rfl, c1⟩
      replace ha := hcall ha c1
      replace hb := hcall hb c1
      have D1 := below_call D c1
      clear k0 k1 j0 j1 c1
      obtain ⟨k0, k1⟩ := cellsKr ha
      obtain ⟨j0, j1⟩ := cellsKr hb
      go_wp2_with fail
      with_reducible refine (Less_is _ v v' b2 HL2).mono ?_
      rintro e w2 ⟨rfl, c2⟩
      have D2 := below_call D1 c2
      clear k0 k1 j0 j1 c2
      cases b2 with
      | true =>
        have HF : Hid (cmpRo (u, v) (u', v') = -1) := HC.out
        go_wp2
        go_ret
        rw [HF.out]
        exact ⟨rfl, D2⟩
      | false =>
        have HF : Hid (cmpRo (u, v) (u', v') = 1) := HC.out
        go_wp2
        go_ret
        rw [HF.out]
        exact ⟨rfl, D2⟩
    · rw [decide_eq_false hu, Bool.false_and, Bool.or_false] at hcm
      have HF : Hid (cmpRo (u, v) (u', v') = 1) := hcm
      have e1 : (u.toList == u'.toList) = false := by simpa [toList_inj'] using hu
      have e2 : ¬ u.toList = u'.toList := by simpa [toList_inj'] using hu
      clear hcm hu
      go_enter Try.func36, Try.ntmps36
      go_wp2_with fail
      with_reducible refine (Less_is _ u u' false HL).mono ?_
      rintro e w1 ⟨rfl, c1⟩
      replace ha := hcall ha c1
      replace hb := hcall hb c1
      have D1 := below_call D c1
      clear k0 k1 j0 j1 c1
      obtain ⟨k0, k1⟩ := cellsKr ha
      obtain ⟨j0, j1⟩ := cellsKr hb
      go_wp2
      go_ret
      rw [HF.out]
      exact ⟨rfl, D1⟩
set_option maxHeartbeats 8000000 in
set_option maxRecDepth 100000 in
theorem refAheadR_calls (a b : ByteArray) (c d e f g : Bool) (a' b' : ByteArray) (c' d' e' f' g' : Bool) (w : World) :
    Calls Try.prog 41 #[.agg #[.string a, .string b, .bool c, .bool d, .bool e, .bool f, .bool g], .agg #[.string a', .string b', .bool c', .bool d', .bool e', .bool f', .bool g']] w fun x w' => x = .returned (.bool (ltRo (a, b) (a', b'))) ∧ Below w.heap.size w w' := by
  have D := below_alloc0 (below_box (w := w) (bxEn a b c d e f g)) (bxEn a' b' c' d' e' f' g')
  have ha := halloc (heap_alloc_new w (bxEn a b c d e f g)) (bxEn a' b' c' d' e' f' g')
  have hb := heap_alloc_new (w.alloc (bxEn a b c d e f g)) (bxEn a' b' c' d' e' f' g')
  rw [size_alloc] at hb
  obtain ⟨b1, hb1⟩ : ∃ x, less a a' = x := ⟨_, rfl⟩
  have HL := Lib.hid hb1
  have hcm : ltRo (a, b) (a', b') = (b1 || (decide (a = a') && less b b')) := by
    unfold ltRo
    rw [← hb1]
  clear hb1
  obtain ⟨k0, k1, k2, k3, k4, k5, k6, kz⟩ := cellsEn a b c d e f g ha
  obtain ⟨j0, j1, j2, j3, j4, j5, j6, jz⟩ := cellsEn a' b' c' d' e' f' g' hb
  cases b1 with
  | true =>
    have HF : Hid (ltRo (a, b) (a', b') = true) := hcm
    clear hcm
    go_enter Try.func41, Try.ntmps41
    go_wp2_with fail
    with_reducible refine (refLess_is _ a a' true HL).mono ?_
    rintro x w1 ⟨rfl, c1⟩
    subst c1
    go_wp2
    go_ret
    rw [HF.out]
    exact ⟨rfl, D⟩
  | false =>
    by_cases hu : a = a'
    · obtain ⟨b2, hb2⟩ : ∃ x, less b b' = x := ⟨_, rfl⟩
      have HL2 := Lib.hid hb2
      rw [decide_eq_true hu, hb2, Bool.false_or, Bool.true_and] at hcm
      have HC := Lib.hid hcm
      have e1 : (a.toList == a'.toList) = true := by rw [hu]; exact beq_self_eq_true _
      have e2 : a.toList = a'.toList := by rw [hu]
      clear hb2 hcm hu
      go_enter Try.func41, Try.ntmps41
      go_wp2_with fail
      with_reducible refine (refLess_is _ a a' false HL).mono ?_
      rintro x w1 ⟨rfl, c1⟩
      subst c1
      go_wp2_with fail
      with_reducible refine (refLess_is _ b b' b2 HL2).mono ?_
      rintro x w2 ⟨rfl, c2⟩
      subst c2
      go_wp2
      go_ret
      rw [HC.out]
      exact ⟨by rfl, D⟩
    · rw [decide_eq_false hu, Bool.false_and, Bool.or_false] at hcm
      have HF : Hid (ltRo (a, b) (a', b') = false) := hcm
      have e1 : (a.toList == a'.toList) = false := by simpa [toList_inj'] using hu
      have e2 : ¬ a.toList = a'.toList := by simpa [toList_inj'] using hu
      clear hcm hu
      go_enter Try.func41, Try.ntmps41
      go_wp2_with fail
      with_reducible refine (refLess_is _ a a' false HL).mono ?_
      rintro x w1 ⟨rfl, c1⟩
      subst c1
      go_wp2
      go_ret
      rw [HF.out]
      exact ⟨rfl, D⟩
end Go.Proofs.Ytpmafghknafhaaa
