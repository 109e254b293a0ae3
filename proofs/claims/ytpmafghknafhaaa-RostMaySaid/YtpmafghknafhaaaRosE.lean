/-
An item compared with another one.
Contracts: two items that face one another (layer 7), by the program and by the document.
Contracts: what one of two does to both items (layer 7), by the program.
-/
import Derived.Test.YtpmafghknafhaaaProg
import Derived.Test.YtpmafghknafhaaaLib
import Derived.Test.YtpmafghknafhaaaRosA
import Derived.Test.YtpmafghknafhaaaWk
import Derived.RegionTactic
set_option linter.unusedVariables false
set_option linter.unusedSimpArgs false
namespace Go.Proofs.Ytpmafghknafhaaa
open Go.RowKit
open Sp
abbrev vaIt (x : It) : Value := .agg #[.bool x.to, .bool x.fr, .bool x.ou, .bool x.in_, .bool x.bl]
set_option maxHeartbeats 8000000 in
set_option maxRecDepth 100000 in
theorem neqIt (a_ b_ c_ d_ e_ a_' b_' c_' d_' e_' : Bool) (W : World) :
    (binOp .neq 26 (.agg #[.bool a_, .bool b_, .bool c_, .bool d_, .bool e_]) (.agg #[.bool a_', .bool b_', .bool c_', .bool d_', .bool e_'])).run Try.prog W = .ok (.bool (!(a_ == a_' && (b_ == b_' && (c_ == c_' && (d_ == d_' && (e_ == e_'))))))) W := by
  cases h0 : a_ == a_'
  · simp [go_sem, h0]
  cases h1 : b_ == b_'
  · simp [go_sem, h0, h1]
  cases h2 : c_ == c_'
  · simp [go_sem, h0, h1, h2]
  cases h3 : d_ == d_'
  · simp [go_sem, h0, h1, h2, h3]
  cases h4 : e_ == e_' <;> simp [go_sem, h0, h1, h2, h3, h4]
set_option maxHeartbeats 8000000 in
set_option maxRecDepth 100000 in
theorem eqlIt (a_ b_ c_ d_ e_ a_' b_' c_' d_' e_' : Bool) (W : World) :
    (binOp .eql 26 (.agg #[.bool a_, .bool b_, .bool c_, .bool d_, .bool e_]) (.agg #[.bool a_', .bool b_', .bool c_', .bool d_', .bool e_'])).run Try.prog W = .ok (.bool ((a_ == a_' && (b_ == b_' && (c_ == c_' && (d_ == d_' && (e_ == e_'))))))) W := by
  cases h0 : a_ == a_'
  · simp [go_sem, h0]
  cases h1 : b_ == b_'
  · simp [go_sem, h0, h1]
  cases h2 : c_ == c_'
  · simp [go_sem, h0, h1, h2]
  cases h3 : d_ == d_'
  · simp [go_sem, h0, h1, h2, h3]
  cases h4 : e_ == e_' <;> simp [go_sem, h0, h1, h2, h3, h4]
theorem eqvIt (a_ b_ c_ d_ e_ a_' b_' c_' d_' e_' : Bool) : (a_ == a_' && (b_ == b_' && (c_ == c_' && (d_ == d_' && (e_ == e_'))))) = decide ((⟨a_, b_, c_, d_, e_⟩ : It) = ⟨a_', b_', c_', d_', e_'⟩) := by
  rw [Bool.eq_iff_iff, decide_eq_true_eq]
  simp only [Bool.and_eq_true, beq_iff_eq, It.mk.injEq]
end Go.Proofs.Ytpmafghknafhaaa
set_option linter.unusedVariables false
set_option linter.unusedSimpArgs false
namespace Go.Proofs.Ytpmafghknafhaaa
open Go.RowKit
open Sp
abbrev agI (a b c d e : Bool) : Value := .agg #[.bool a, .bool b, .bool c, .bool d, .bool e]
abbrev agP (a b c d e a' b' c' d' e' : Bool) : Value := .agg #[.bool a, .bool b, .bool c, .bool d, .bool e, .bool a', .bool b', .bool c', .bool d', .bool e']
set_option maxHeartbeats 8000000 in
set_option maxRecDepth 100000 in
theorem blocked_calls (a b c d e a' b' c' d' e' : Bool) (w : World) :
    Calls Try.prog 60 #[agP a b c d e a' b' c' d' e'] w fun x w' => x = .returned (.bool (e || e')) ∧ Below w.heap.size w w' := by
  have hB := below_box (w := w) (.cells #[.bool a, .bool b, .bool c, .bool d, .bool e, .bool a', .bool b', .bool c', .bool d', .bool e'] 86)
  go_enter Try.func60, Try.ntmps60
  cases e <;> cases e'
  all_goals go_wp2
  all_goals go_ret
  all_goals exact ⟨rfl, hB⟩
set_option maxHeartbeats 8000000 in
set_option maxRecDepth 100000 in
theorem refMayI_calls (a b c d e a' b' c' d' e' : Bool) (w : World) :
    Calls Try.prog 43 #[agI a b c d e, agI a' b' c' d' e'] w fun x w' => x = .returned (.bool (fitI ⟨a, b, c, d, e⟩ ⟨a', b', c', d', e'⟩)) ∧ Below w.heap.size w w' := by
  go_enter Try.func43, Try.ntmps43
  go_wp2
  all_goals (try go_ret)
  all_goals (refine ⟨ret_bool ?_, by first | assumption | exact below_alloc0 (below_box _) _⟩)
  all_goals (unfold fitI)
  all_goals (simp_all)
set_option maxHeartbeats 8000000 in
set_option maxRecDepth 100000 in
theorem fits_calls (a b c d e a' b' c' d' e' : Bool) (w : World) :
    Calls Try.prog 59 #[agP a b c d e a' b' c' d' e'] w fun x w' => x = .returned (.bool (fitI ⟨a, b, c, d, e⟩ ⟨a', b', c', d', e'⟩)) ∧ Below w.heap.size w w' := by
  go_enter Try.func59, Try.ntmps59
  go_wp2_with fail
  go_region
  all_goals go_wp2
  all_goals (try go_ret)
  all_goals (refine ⟨ret_bool ?_, ?_⟩)
  all_goals (first | exact (below_alloc0 (below_alloc0 (below_box _) _) _).drew | exact below_alloc0 (below_alloc0 (below_box _) _) _ | skip)
  all_goals (unfold fitI)
  all_goals (simp_all)
set_option maxHeartbeats 8000000 in
set_option maxRecDepth 100000 in
theorem MayI_calls (a b c d e a' b' c' d' e' : Bool) (w : World) :
    Calls Try.prog 30 #[agI a b c d e, agI a' b' c' d' e'] w fun x w' => x = .returned (.bool (fitI ⟨a, b, c, d, e⟩ ⟨a', b', c', d', e'⟩)) ∧ Below w.heap.size w w' := by
  have hB := below_alloc0 (below_box (w := w) (.cells #[.bool a, .bool b, .bool c, .bool d, .bool e] 26)) (.cells #[.bool a', .bool b', .bool c', .bool d', .bool e'] 26)
  obtain ⟨r, hr⟩ : ∃ r, fitI ⟨a, b, c, d, e⟩ ⟨a', b', c', d', e'⟩ = r := ⟨_, rfl⟩
  rw [hr]
  have HR := Lib.hid hr
  clear hr
  go_enter Try.func30, Try.ntmps30
  go_wp2_with fail
  with_reducible refine (re_ (fits_calls a b c d e a' b' c' d' e' _) (ret_bool HR.out)).mono ?_
  rintro x w1 ⟨rfl, b1⟩
  go_wp2
  go_ret
  exact ⟨rfl, below_call hB b1⟩
set_option maxHeartbeats 8000000 in
set_option maxRecDepth 100000 in
theorem EmptyI_calls (a b c d e : Bool) (w : World) :
    Calls Try.prog 39 #[agI a b c d e] w fun x w' => x = .returned (.bool (emptyI ⟨a, b, c, d, e⟩)) ∧ Below w.heap.size w w' := by
  have hB := below_box (w := w) (.cells #[.bool a, .bool b, .bool c, .bool d, .bool e] 26)
  have hc := eqlIt a b c d e false false false false false
  rw [eqvIt] at hc
  go_enter Try.func39, Try.ntmps39
  go_wp2
  go_ret
  exact ⟨ret_bool (by cases a <;> cases b <;> cases c <;> cases d <;> cases e <;> rfl), hB⟩
set_option maxHeartbeats 8000000 in
set_option maxRecDepth 100000 in
theorem refEmptyI_calls (a b c d e : Bool) (w : World) :
    Calls Try.prog 44 #[agI a b c d e] w fun x w' => x = .returned (.bool (emptyI ⟨a, b, c, d, e⟩)) ∧ Below w.heap.size w w' := by
  have hB := below_box (w := w) (.cells #[.bool a, .bool b, .bool c, .bool d, .bool e] 26)
  have hc := eqlIt a b c d e false false false false false
  rw [eqvIt] at hc
  go_enter Try.func44, Try.ntmps44
  go_wp2
  go_ret
  exact ⟨ret_bool (by cases a <;> cases b <;> cases c <;> cases d <;> cases e <;> rfl), hB⟩
set_option maxHeartbeats 8000000 in
set_option maxRecDepth 100000 in
theorem refSeesI_calls (a b c d e a' b' c' d' e' : Bool) (w : World) :
    Calls Try.prog 45 #[agI a b c d e, agI a' b' c' d' e'] w fun x w' => x = .returned (.bool (seesI ⟨a, b, c, d, e⟩ ⟨a', b', c', d', e'⟩)) ∧ Below w.heap.size w w' := by
  have hB := below_alloc0 (below_box (w := w) (.cells #[.bool a, .bool b, .bool c, .bool d, .bool e] 26)) (.cells #[.bool a', .bool b', .bool c', .bool d', .bool e'] 26)
  unfold seesI
  go_enter Try.func45, Try.ntmps45
  cases a <;> cases e <;> cases e'
  all_goals go_wp2
  all_goals go_ret
  all_goals exact ⟨rfl, below_alloc0 (below_box _) _⟩
set_option maxHeartbeats 8000000 in
set_option maxRecDepth 100000 in
theorem SeesI_calls (a b c d e a' b' c' d' e' : Bool) (w : World) :
    Calls Try.prog 27 #[agI a b c d e, agI a' b' c' d' e'] w fun x w' => x = .returned (.bool (seesI ⟨a, b, c, d, e⟩ ⟨a', b', c', d', e'⟩)) ∧ Below w.heap.size w w' := by
  unfold seesI
  cases a with
  | false =>
    go_enter Try.func27, Try.ntmps27
    go_wp2
    go_ret
    exact ⟨rfl, below_alloc0 (below_box _) _⟩
  | true =>
    obtain ⟨r, hr⟩ : ∃ r, (e || e') = r := ⟨_, rfl⟩
    have hR : (!e && !e') = !r := by rw [← hr]; cases e <;> cases e' <;> rfl
    have HR := Lib.hid hr
    rw [show (true && (!e && !e')) = !r by rw [hR]; rfl]
    clear hr hR
    go_enter Try.func27, Try.ntmps27
    go_wp2_with fail
    with_reducible refine (re_ (blocked_calls true b c d e a' b' c' d' e' _) (ret_bool HR.out)).mono ?_
    rintro x w1 ⟨rfl, b1⟩
    go_wp2
    go_ret
    exact ⟨rfl, below_call (below_alloc0 (below_box _) _) b1⟩
end Go.Proofs.Ytpmafghknafhaaa
set_option linter.unusedVariables false
set_option linter.unusedSimpArgs false
namespace Go.Proofs.Ytpmafghknafhaaa
open Go.RowKit
open Sp
abbrev bxP (a b c d e a' b' c' d' e' : Bool) : Obj := .cells #[.bool a, .bool b, .bool c, .bool d, .bool e, .bool a', .bool b', .bool c', .bool d', .bool e'] 86
theorem popen {W : World} {k : Nat} {a b c d e a' b' c' d' e' : Bool} (h : W.heap[k]? = some (bxP a b c d e a' b' c' d' e')) :
    (W.cell? ⟨k, 0, none⟩ = some (.bool a) ∧ W.cell? ⟨k, 1, none⟩ = some (.bool b) ∧ W.cell? ⟨k, 2, none⟩ = some (.bool c) ∧ W.cell? ⟨k, 3, none⟩ = some (.bool d) ∧ W.cell? ⟨k, 4, none⟩ = some (.bool e) ∧ W.cell? ⟨k, 5, none⟩ = some (.bool a') ∧ W.cell? ⟨k, 6, none⟩ = some (.bool b') ∧ W.cell? ⟨k, 7, none⟩ = some (.bool c') ∧ W.cell? ⟨k, 8, none⟩ = some (.bool d') ∧ W.cell? ⟨k, 9, none⟩ = some (.bool e')) ∧
    (W.frozen? ⟨k, 0, none⟩ = false ∧ W.frozen? ⟨k, 1, none⟩ = false ∧ W.frozen? ⟨k, 2, none⟩ = false ∧ W.frozen? ⟨k, 3, none⟩ = false ∧ W.frozen? ⟨k, 4, none⟩ = false ∧ W.frozen? ⟨k, 5, none⟩ = false ∧ W.frozen? ⟨k, 6, none⟩ = false ∧ W.frozen? ⟨k, 7, none⟩ = false ∧ W.frozen? ⟨k, 8, none⟩ = false ∧ W.frozen? ⟨k, 9, none⟩ = false) ∧ k < W.heap.size :=
  ⟨⟨by simp [World.cell?, h], by simp [World.cell?, h], by simp [World.cell?, h], by simp [World.cell?, h], by simp [World.cell?, h], by simp [World.cell?, h], by simp [World.cell?, h], by simp [World.cell?, h], by simp [World.cell?, h], by simp [World.cell?, h]⟩, ⟨by simp [World.frozen?, h], by simp [World.frozen?, h], by simp [World.frozen?, h], by simp [World.frozen?, h], by simp [World.frozen?, h], by simp [World.frozen?, h], by simp [World.frozen?, h], by simp [World.frozen?, h], by simp [World.frozen?, h], by simp [World.frozen?, h]⟩, (Array.getElem?_eq_some_iff.1 h).1⟩
set_option maxHeartbeats 8000000 in
set_option maxRecDepth 100000 in
theorem in_calls (a b c d e a' b' c' d' e' : Bool) (x y : Bool) (g : Nat) (w : World) (hg : w.heap[g]? = some (bxP a b c d e a' b' c' d' e')) :
    Calls Try.prog 79 #[.pointer (some ⟨g, 0, none⟩), .bool x, .bool y] w fun r w' => r = .returned (.tuple #[]) ∧ w'.heap[g]? = some (bxP x b y d e a' x c' y e') ∧ Below g w w' := by
  obtain ⟨⟨k0, k1, k2, k3, k4, k5, k6, k7, k8, k9⟩, ⟨f0, f1, f2, f3, f4, f5, f6, f7, f8, f9⟩, kz⟩ := popen hg
  go_enter Try.func79, Try.ntmps79
  go_wp2
  refine bodyPost_end (by simp [results, Try.results79]) rfl ⟨rfl, ?_, ?_⟩
  · simp [World.setCell, Array.getElem?_modify, hg]
  · exact (bset (bset (bset (bset (Below.refl g w) g 0 _ (Nat.le_refl _)) g 2 _ (Nat.le_refl _)) g 6 _ (Nat.le_refl _)) g 8 _ (Nat.le_refl _))
set_option maxHeartbeats 8000000 in
set_option maxRecDepth 100000 in
theorem from_calls (a b c d e a' b' c' d' e' : Bool) (x y : Bool) (g : Nat) (w : World) (hg : w.heap[g]? = some (bxP a b c d e a' b' c' d' e')) :
    Calls Try.prog 80 #[.pointer (some ⟨g, 0, none⟩), .bool x, .bool y] w fun r w' => r = .returned (.tuple #[]) ∧ w'.heap[g]? = some (bxP a x c y e x b' y d' e') ∧ Below g w w' := by
  obtain ⟨⟨k0, k1, k2, k3, k4, k5, k6, k7, k8, k9⟩, ⟨f0, f1, f2, f3, f4, f5, f6, f7, f8, f9⟩, kz⟩ := popen hg
  go_enter Try.func80, Try.ntmps80
  go_wp2
  refine bodyPost_end (by simp [results, Try.results80]) rfl ⟨rfl, ?_, ?_⟩
  · simp [World.setCell, Array.getElem?_modify, hg]
  · exact (bset (bset (bset (bset (Below.refl g w) g 1 _ (Nat.le_refl _)) g 3 _ (Nat.le_refl _)) g 5 _ (Nat.le_refl _)) g 7 _ (Nat.le_refl _))
abbrev bx2 (r : It × It × Int) : Obj := bxP r.1.to r.1.fr r.1.ou r.1.in_ r.1.bl r.2.1.to r.2.1.fr r.2.1.ou r.2.1.in_ r.2.1.bl
/-- What each of the six does with no regard to whether the two may be. -/
def doI (k : Nat) (a b : It) : It × It × Int :=
  if k = 1 then (if a.bl || b.bl then (a, b, 8) else if a.to || a.ou then (a, b, 7) else (⟨false, a.fr, true, a.in_, a.bl⟩, ⟨b.to, false, b.ou, true, b.bl⟩, 0))
  else if k = 2 then (if a.bl || b.bl then (a, b, 8) else if a.in_ then (⟨a.to, true, a.ou, false, a.bl⟩, ⟨true, b.fr, false, b.in_, b.bl⟩, 0) else (a, b, 7))
  else if k = 3 then (if a.to || a.ou then (⟨false, a.fr, false, a.in_, a.bl⟩, ⟨b.to, false, b.ou, false, b.bl⟩, 0) else (a, b, 7))
  else if k = 4 then (if a.fr || a.in_ then (⟨a.to, false, a.ou, false, a.bl⟩, ⟨false, b.fr, false, b.in_, b.bl⟩, 0) else (a, b, 7))
  else if k = 5 then (if a.bl then (a, b, 7) else (⟨a.to, a.fr, a.ou, a.in_, true⟩, b, 0))
  else (if a.bl then (⟨a.to, a.fr, a.ou, a.in_, false⟩, b, 0) else (a, b, 7))
theorem doI_fit {a b : It} (h : fitI a b = true) (k : Nat) (h1 : 1 ≤ k) (h6 : k ≤ 6) : actI a b (k : Int) = doI k a b := by
  obtain ⟨a1, a2, a3, a4, a5⟩ := a
  obtain ⟨b1, b2, b3, b4, b5⟩ := b
  unfold actI
  rw [if_neg (by rw [h]; decide)]
  unfold fitI at h
  obtain rfl | rfl | rfl | rfl | rfl | rfl : k = 1 ∨ k = 2 ∨ k = 3 ∨ k = 4 ∨ k = 5 ∨ k = 6 := by omega
  all_goals (unfold doI; cases a1 <;> cases a2 <;> cases a3 <;> cases a4 <;> cases b1 <;> cases b2 <;> simp_all)
set_option maxHeartbeats 8000000 in
set_option maxRecDepth 100000 in
theorem sub1_calls (a b c d e a' b' c' d' e' : Bool) (g : Nat) (w : World) (hg : w.heap[g]? = some (bxP a b c d e a' b' c' d' e')) :
    Calls Try.prog 53 #[.pointer (some ⟨g, 0, none⟩)] w fun r w' => r = .returned (.int .i64 (doI 1 ⟨a, b, c, d, e⟩ ⟨a', b', c', d', e'⟩).2.2) ∧ w'.heap[g]? = some (bx2 (doI 1 ⟨a, b, c, d, e⟩ ⟨a', b', c', d', e'⟩)) ∧ Below g w w' := by
  obtain ⟨⟨k0, k1, k2, k3, k4, k5, k6, k7, k8, k9⟩, ⟨f0, f1, f2, f3, f4, f5, f6, f7, f8, f9⟩, kz⟩ := popen hg
  cases e <;> cases e' <;> cases a <;> cases c
  all_goals (go_enter Try.func53, Try.ntmps53)
  all_goals (go_wp2_with (first | (go_at_call 60; refine (blocked_calls _ _ _ _ _ _ _ _ _ _ _).mono ?_; rintro r w1 ⟨rfl, b1⟩; replace hg := hcall hg b1; (obtain ⟨⟨j0, j1, j2, j3, j4, j5, j6, j7, j8, j9⟩, ⟨l0, l1, l2, l3, l4, l5, l6, l7, l8, l9⟩, jz⟩ := popen hg); have hB : Below g w w1 := b1.mono (Nat.le_of_lt kz); clear b1) | (go_at_call 79; refine (in_calls _ _ _ _ _ _ _ _ _ _ false true g _ hg).mono ?_; rintro r w2 ⟨rfl, hg2, hB2⟩)))
  all_goals (try go_ret)
  all_goals (first | exact ⟨rfl, hg2, hB.trans hB2⟩ | exact ⟨rfl, hg, hB⟩)
set_option maxHeartbeats 8000000 in
set_option maxRecDepth 100000 in
theorem sub2_calls (a b c d e a' b' c' d' e' : Bool) (g : Nat) (w : World) (hg : w.heap[g]? = some (bxP a b c d e a' b' c' d' e')) :
    Calls Try.prog 54 #[.pointer (some ⟨g, 0, none⟩)] w fun r w' => r = .returned (.int .i64 (doI 2 ⟨a, b, c, d, e⟩ ⟨a', b', c', d', e'⟩).2.2) ∧ w'.heap[g]? = some (bx2 (doI 2 ⟨a, b, c, d, e⟩ ⟨a', b', c', d', e'⟩)) ∧ Below g w w' := by
  obtain ⟨⟨k0, k1, k2, k3, k4, k5, k6, k7, k8, k9⟩, ⟨f0, f1, f2, f3, f4, f5, f6, f7, f8, f9⟩, kz⟩ := popen hg
  cases e <;> cases e' <;> cases d
  all_goals (go_enter Try.func54, Try.ntmps54)
  all_goals (go_wp2_with (first | (go_at_call 60; refine (blocked_calls _ _ _ _ _ _ _ _ _ _ _).mono ?_; rintro r w1 ⟨rfl, b1⟩; replace hg := hcall hg b1; (obtain ⟨⟨j0, j1, j2, j3, j4, j5, j6, j7, j8, j9⟩, ⟨l0, l1, l2, l3, l4, l5, l6, l7, l8, l9⟩, jz⟩ := popen hg); have hB : Below g w w1 := b1.mono (Nat.le_of_lt kz); clear b1) | (go_at_call 80; refine (from_calls _ _ _ _ _ _ _ _ _ _ true false g _ hg).mono ?_; rintro r w2 ⟨rfl, hg2, hB2⟩)))
  all_goals (try go_ret)
  all_goals (first | exact ⟨rfl, hg2, hB.trans hB2⟩ | exact ⟨rfl, hg, hB⟩)
set_option maxHeartbeats 8000000 in
set_option maxRecDepth 100000 in
theorem sub3_calls (a b c d e a' b' c' d' e' : Bool) (g : Nat) (w : World) (hg : w.heap[g]? = some (bxP a b c d e a' b' c' d' e')) :
    Calls Try.prog 55 #[.pointer (some ⟨g, 0, none⟩)] w fun r w' => r = .returned (.int .i64 (doI 3 ⟨a, b, c, d, e⟩ ⟨a', b', c', d', e'⟩).2.2) ∧ w'.heap[g]? = some (bx2 (doI 3 ⟨a, b, c, d, e⟩ ⟨a', b', c', d', e'⟩)) ∧ Below g w w' := by
  obtain ⟨⟨k0, k1, k2, k3, k4, k5, k6, k7, k8, k9⟩, ⟨f0, f1, f2, f3, f4, f5, f6, f7, f8, f9⟩, kz⟩ := popen hg
  cases a <;> cases c
  all_goals (go_enter Try.func55, Try.ntmps55)
  all_goals (go_wp2_with (go_at_call 79; refine (in_calls _ _ _ _ _ _ _ _ _ _ false false g _ hg).mono ?_; rintro r w2 ⟨rfl, hg2, hB2⟩))
  all_goals (try go_ret)
  all_goals (first | exact ⟨rfl, hg2, hB2⟩ | exact ⟨rfl, hg, Below.refl _ _⟩)
set_option maxHeartbeats 8000000 in
set_option maxRecDepth 100000 in
theorem sub4_calls (a b c d e a' b' c' d' e' : Bool) (g : Nat) (w : World) (hg : w.heap[g]? = some (bxP a b c d e a' b' c' d' e')) :
    Calls Try.prog 56 #[.pointer (some ⟨g, 0, none⟩)] w fun r w' => r = .returned (.int .i64 (doI 4 ⟨a, b, c, d, e⟩ ⟨a', b', c', d', e'⟩).2.2) ∧ w'.heap[g]? = some (bx2 (doI 4 ⟨a, b, c, d, e⟩ ⟨a', b', c', d', e'⟩)) ∧ Below g w w' := by
  obtain ⟨⟨k0, k1, k2, k3, k4, k5, k6, k7, k8, k9⟩, ⟨f0, f1, f2, f3, f4, f5, f6, f7, f8, f9⟩, kz⟩ := popen hg
  cases b <;> cases d
  all_goals (go_enter Try.func56, Try.ntmps56)
  all_goals (go_wp2_with (go_at_call 80; refine (from_calls _ _ _ _ _ _ _ _ _ _ false false g _ hg).mono ?_; rintro r w2 ⟨rfl, hg2, hB2⟩))
  all_goals (try go_ret)
  all_goals (first | exact ⟨rfl, hg2, hB2⟩ | exact ⟨rfl, hg, Below.refl _ _⟩)
set_option maxHeartbeats 8000000 in
set_option maxRecDepth 100000 in
theorem sub5_calls (a b c d e a' b' c' d' e' : Bool) (g : Nat) (w : World) (hg : w.heap[g]? = some (bxP a b c d e a' b' c' d' e')) :
    Calls Try.prog 57 #[.pointer (some ⟨g, 0, none⟩)] w fun r w' => r = .returned (.int .i64 (doI 5 ⟨a, b, c, d, e⟩ ⟨a', b', c', d', e'⟩).2.2) ∧ w'.heap[g]? = some (bx2 (doI 5 ⟨a, b, c, d, e⟩ ⟨a', b', c', d', e'⟩)) ∧ Below g w w' := by
  obtain ⟨⟨k0, k1, k2, k3, k4, k5, k6, k7, k8, k9⟩, ⟨f0, f1, f2, f3, f4, f5, f6, f7, f8, f9⟩, kz⟩ := popen hg
  cases e
  all_goals (go_enter Try.func57, Try.ntmps57)
  all_goals go_wp2
  all_goals (try go_ret)
  all_goals (first | exact ⟨rfl, hg, Below.refl _ _⟩ | exact ⟨rfl, by simp [World.setCell, Array.getElem?_modify, hg, doI], bset (Below.refl g w) g 4 _ (Nat.le_refl _)⟩)
set_option maxHeartbeats 8000000 in
set_option maxRecDepth 100000 in
theorem sub6_calls (a b c d e a' b' c' d' e' : Bool) (g : Nat) (w : World) (hg : w.heap[g]? = some (bxP a b c d e a' b' c' d' e')) :
    Calls Try.prog 58 #[.pointer (some ⟨g, 0, none⟩)] w fun r w' => r = .returned (.int .i64 (doI 6 ⟨a, b, c, d, e⟩ ⟨a', b', c', d', e'⟩).2.2) ∧ w'.heap[g]? = some (bx2 (doI 6 ⟨a, b, c, d, e⟩ ⟨a', b', c', d', e'⟩)) ∧ Below g w w' := by
  obtain ⟨⟨k0, k1, k2, k3, k4, k5, k6, k7, k8, k9⟩, ⟨f0, f1, f2, f3, f4, f5, f6, f7, f8, f9⟩, kz⟩ := popen hg
  cases e
  all_goals (go_enter Try.func58, Try.ntmps58)
  all_goals go_wp2
  all_goals (try go_ret)
  all_goals (first | exact ⟨rfl, hg, Below.refl _ _⟩ | exact ⟨rfl, by simp [World.setCell, Array.getElem?_modify, hg, doI], bset (Below.refl g w) g 4 _ (Nat.le_refl _)⟩)
end Go.Proofs.Ytpmafghknafhaaa
