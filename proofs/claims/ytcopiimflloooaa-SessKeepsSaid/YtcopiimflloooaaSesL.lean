/-
Layer 9: the answers by their equations; 'live' of the statements on sessions.
-/
import Derived.Test.YtcopiimflloooaaSesK
import Derived.Test.YtcopiimflloooaaSesD
import Derived.Test.YtcopiimflloooaaSesB
set_option linter.unusedVariables false
set_option linter.unusedSimpArgs false
namespace Go.Proofs.Ytcopiimflloooaa
open Go.RowKit
open Sp
section
variable (n c : Nat) (A : Option Addr) (l : List Se) (w : World) (hl : Row enSe 6 w (.slice A n c) l)
include hl
theorem Put9_is (u : ByteArray) (i a p m : Int) (t : ByteArray) (r : List Se) (er : Int) (hz : SzSe l) (hu : u.size ≤ 140737488351232) (ht : t.size ≤ 140737488351232) (h : Hid (putSe l ⟨u, i, a, p, m, t⟩ = (r, er))) :
    Calls Try.prog 25 #[.slice A n c, ag6 u i a p m t] w fun e w' => ∃ v, e = .returned (.tuple #[v, .int .i64 er]) ∧ Row enSe 6 w' v r ∧ Below w.heap.size w w' := by
  have := Put9_calls n c A l u i a p m t w hl hz hu ht
  rwa [h.out] at this
theorem refPut9_is (u : ByteArray) (i a p m : Int) (t : ByteArray) (r : List Se) (er : Int) (hz : SzSe l) (hu : u.size ≤ 140737488351232) (ht : t.size ≤ 140737488351232) (h : Hid (putSe l ⟨u, i, a, p, m, t⟩ = (r, er))) :
    Calls Try.prog 26 #[.slice A n c, ag6 u i a p m t] w fun e w' => ∃ v, e = .returned (.tuple #[v, .int .i64 er]) ∧ Row enSe 6 w' v r ∧ Below w.heap.size w w' := by
  have := refPut9_calls n c A l u i a p m t w hl hz hu ht
  rwa [h.out] at this
theorem Drop9_is (u : ByteArray) (i : Int) (r : List Se) (er : Int) (hz : SzSe l) (h : Hid (dropSe l (u, i) = (r, er))) :
    Calls Try.prog 27 #[.slice A n c, .string u, .int .i64 i] w fun e w' => ∃ v, e = .returned (.tuple #[v, .int .i64 er]) ∧ Row enSe 6 w' v r ∧ Below w.heap.size w w' := by
  have := Drop9_calls n c A l u i w hl hz
  rwa [h.out] at this
theorem refDrop9_is (u : ByteArray) (i : Int) (r : List Se) (er : Int) (hz : SzSe l) (h : Hid (dropSe l (u, i) = (r, er))) :
    Calls Try.prog 28 #[.slice A n c, .string u, .int .i64 i] w fun e w' => ∃ v, e = .returned (.tuple #[v, .int .i64 er]) ∧ Row enSe 6 w' v r ∧ Below w.heap.size w w' := by
  have := refDrop9_calls n c A l u i w hl hz
  rwa [h.out] at this
theorem May9_is (b : Bool) (hz : SzSe l) (h : Hid (maySe l = b)) : Calls Try.prog 17 #[.slice A n c] w fun e w' => e = .returned (.bool b) ∧ Below w.heap.size w w' :=
  re_ (May9_calls n c A l w hl hz) (ret_bool h.out)
theorem refMay9_is (b : Bool) (hz : SzSe l) (h : Hid (maySe l = b)) : Calls Try.prog 18 #[.slice A n c] w fun e w' => e = .returned (.bool b) ∧ Below w.heap.size w w' :=
  re_ (refMay9_calls n c A l w hl hz) (ret_bool h.out)
theorem few9_is (b : Bool) (hz : ∀ s ∈ l, s.u.size ≤ 9223372036854775807 ∧ s.v.2.2.2.size ≤ 9223372036854775807) (h : Hid (fewSe l = b)) : Calls Try.prog 15 #[.slice A n c] w fun e w' => e = .returned (.bool b) ∧ Below w.heap.size w w' :=
  re_ (few9_calls n c A l w hl hz) (ret_bool h.out)
theorem Of9_is (q : ByteArray) (r : List Se) (hn : n ≤ 100000) (h : Hid (ofSe l q = r)) : Calls Try.prog 20 #[.slice A n c, .string q] w fun e w' => ∃ v, e = .returned v ∧ Row enSe 6 w' v r ∧ Below w.heap.size w w' :=
  (Of9_calls n c A l q w hl hn).mono fun e w' ⟨v, he, ho, hb⟩ => ⟨v, he, by have := ho.row; rwa [show l.filter (fun s => decide (s.u = q)) = r from h.out] at this, hb⟩
theorem refOf9_is (q : ByteArray) (r : List Se) (hn : n ≤ 100000) (h : Hid (ofSe l q = r)) : Calls Try.prog 21 #[.slice A n c, .string q] w fun e w' => ∃ v, e = .returned v ∧ Row enSe 6 w' v r ∧ Below w.heap.size w w' :=
  (refOf9_calls n c A l q w hl hn).mono fun e w' ⟨v, he, ho, hb⟩ => ⟨v, he, by have := ho.row; rwa [show l.filter (fun s => decide (s.u = q)) = r from h.out] at this, hb⟩
theorem Users9_is (r : List ByteArray) (hn : n ≤ 100000) (h : Hid (usersSe l = r)) : Calls Try.prog 23 #[.slice A n c] w fun e w' => ∃ v, e = .returned v ∧ Row enS 1 w' v r ∧ Below w.heap.size w w' := by
  have := Users9_calls n c A l w hl hn
  rwa [h.out] at this
theorem refUsers9_is (r : List ByteArray) (hn : n ≤ 100000) (h : Hid (usersSe l = r)) : Calls Try.prog 24 #[.slice A n c] w fun e w' => ∃ v, e = .returned v ∧ Row enS 1 w' v r ∧ Below w.heap.size w w' := by
  have := refUsers9_calls n c A l w hl hn
  rwa [h.out] at this
end
/-- A row's value as a slice. -/
theorem Row.form {α : Type} {enc : α → List Value} {k : Nat} {w : World} {v : Value} {xs : List α} (h : Row enc k w v xs) (n : Nat) (hn : xs.length = n) : ∃ A c, v = .slice A n c := by
  obtain ⟨A, c, e, _⟩ := h
  exact ⟨A, c, by rw [e, hn]⟩
theorem szSe_nil : SzSe [] := fun s hs => by cases hs
theorem few_sz {l : List Se} (h : fewSe l = true) : SzSe l ∧ l.length ≤ 50 := by
  unfold fewSe at h
  rw [Bool.and_eq_true, List.all_eq_true, decide_eq_true_eq] at h
  refine ⟨fun s hs => ?_, h.1⟩
  have := h.2 s hs
  rw [Bool.and_eq_true, decide_eq_true_eq, decide_eq_true_eq] at this
  omega
abbrev bAl : ByteArray := ⟨#[97, 108]⟩
abbrev bBo : ByteArray := ⟨#[98, 111, 98]⟩
abbrev bE : ByteArray := ⟨#[]⟩
abbrev sA0 : Se := ⟨bAl, 0, 4, 0, 0, bE⟩
abbrev sB0 : Se := ⟨bBo, 0, 4, 0, 0, bE⟩
abbrev sB1 : Se := ⟨bBo, 1, 4, 0, 0, bE⟩
abbrev sB4 : Se := ⟨bBo, 4, 4, 0, 0, bE⟩
theorem l9a : Hid (putSe [] sB1 = ([sB1], 0)) := by show _ = _; decide +kernel
theorem l9b : Hid (putSe [sB1] sA0 = ([sA0, sB1], 0)) := by show _ = _; decide +kernel
theorem l9c : Hid (putSe [sA0, sB1] sB0 = ([sA0, sB0, sB1], 0)) := by show _ = _; decide +kernel
theorem l9d : Hid (putSe [sA0, sB1] sB4 = ([sA0, sB1], 1)) := by show _ = _; decide +kernel
theorem l9e : Hid (dropSe [sA0, sB0, sB1] (bBo, 1) = ([sA0, sB0], 0)) := by show _ = _; decide +kernel
theorem l9f : Hid (dropSe [sA0, sB0] (bBo, 1) = ([sA0, sB0], 6)) := by show _ = _; decide +kernel
theorem l9g : Hid (maySe [sA0, sB0, sB1] = true) := by show _ = _; decide +kernel
theorem l9h : Hid (maySe [sB1, sB0] = false) := by show _ = _; decide +kernel
theorem l9i : Hid (ofSe [sA0, sB0, sB1] bBo = [sB0, sB1]) := by show _ = _; decide +kernel
theorem l9j : Hid (usersSe [sA0, sB0, sB1] = [bAl, bBo]) := by show _ = _; decide +kernel
theorem sz9 (l : List Se) (h : l.all (fun s => decide (s.u.size ≤ 140737488351232) && decide (s.v.2.2.2.size ≤ 140737488351232)) = true) : SzSe l := fun s hs => by
  have := List.all_eq_true.1 h s hs
  rw [Bool.and_eq_true, decide_eq_true_eq, decide_eq_true_eq] at this
  exact this
set_option maxHeartbeats 32000000 in
set_option maxRecDepth 100000 in
theorem live09 (w : World) : Calls Try.prog 16 #[] w fun e w' => e = .returned (.bool true) ∧ Below w.heap.size w w' := by
  have D0 := below_box (w := w) (.cells #[.int .i64 4, .int .i64 0, .int .i64 0, .string ⟨#[]⟩] 32)
  have h0 := heap_alloc_new w (.cells #[.int .i64 4, .int .i64 0, .int .i64 0, .string ⟨#[]⟩] 32)
  have k0 : ∀ W : World, W.heap[w.heap.size]? = some (.cells #[.int .i64 4, .int .i64 0, .int .i64 0, .string ⟨#[]⟩] 32) → W.cell? ⟨w.heap.size, 0, none⟩ = some (.int .i64 4) ∧ W.cell? ⟨w.heap.size, 1, none⟩ = some (.int .i64 0) ∧ W.cell? ⟨w.heap.size, 2, none⟩ = some (.int .i64 0) ∧ W.cell? ⟨w.heap.size, 3, none⟩ = some (.string ⟨#[]⟩) := fun W h => ⟨by simp [World.cell?, h], by simp [World.cell?, h], by simp [World.cell?, h], by simp [World.cell?, h]⟩
  have K0 := Lib.hid k0
  clear k0
  go_enter Try.func16, Try.ntmps16
  go_wp2_with fail
  with_reducible refine (Put9_is 0 0 none [] _ (Row.nil _ _ _) bBo 1 4 0 0 bE [sB1] 0 szSe_nil (by decide) (by decide) l9a).mono ?_
  rintro e w1 ⟨v1, rfl, r1, b1⟩
  obtain ⟨A1, c1, rfl⟩ := r1.form 1 rfl
  have D1 := below_call D0 b1
  have h1 := hcall h0 b1
  obtain ⟨k0, k1, k2, k3⟩ := K0.out _ h1
  clear b1 D0 h0
  go_wp2_with fail
  with_reducible refine (Put9_is 1 c1 A1 [sB1] _ r1 bAl 0 4 0 0 bE [sA0, sB1] 0 (sz9 _ (by decide)) (by decide) (by decide) l9b).mono ?_
  rintro e w2 ⟨v2, rfl, r2, b2⟩
  obtain ⟨A2, c2, rfl⟩ := r2.form 2 rfl
  have D2 := below_call D1 b2
  have h2 := hcall h1 b2
  clear b2 D1 h1 r1 k0 k1 k2 k3
  obtain ⟨k0, k1, k2, k3⟩ := K0.out _ h2
  go_wp2_with fail
  with_reducible refine (Put9_is 2 c2 A2 [sA0, sB1] _ r2 bBo 0 4 0 0 bE [sA0, sB0, sB1] 0 (sz9 _ (by decide)) (by decide) (by decide) l9c).mono ?_
  rintro e w3 ⟨v3, rfl, r3, b3⟩
  obtain ⟨A3, c3, rfl⟩ := r3.form 3 rfl
  have D3 := below_call D2 b3
  have h3 := hcall h2 b3
  replace r2 := r2.below b3
  clear b3 D2 h2 k0 k1 k2 k3
  obtain ⟨k0, k1, k2, k3⟩ := K0.out _ h3
  go_wp2_with fail
  with_reducible refine (Put9_is 2 c2 A2 [sA0, sB1] _ r2 bBo 4 4 0 0 bE [sA0, sB1] 1 (sz9 _ (by decide)) (by decide) (by decide) l9d).mono ?_
  rintro e w4 ⟨v4, rfl, r4, b4⟩
  have D4 := below_call D3 b4
  replace r3 := r3.below b4
  clear b4 D3 h3 r2 r4 k0 k1 k2 k3
  go_wp2_with fail
  with_reducible refine (Drop9_is 3 c3 A3 [sA0, sB0, sB1] _ r3 bBo 1 [sA0, sB0] 0 (sz9 _ (by decide)) l9e).mono ?_
  rintro e w5 ⟨v5, rfl, r5, b5⟩
  obtain ⟨A5, c5, rfl⟩ := r5.form 2 rfl
  have D5 := below_call D4 b5
  replace r3 := r3.below b5
  clear b5 D4
  go_wp2_with fail
  with_reducible refine (Drop9_is 2 c5 A5 [sA0, sB0] _ r5 bBo 1 [sA0, sB0] 6 (sz9 _ (by decide)) l9f).mono ?_
  rintro e w6 ⟨v6, rfl, r6, b6⟩
  have D6 := below_call D5 b6
  replace r3 := r3.below b6
  clear b6 D5 r5 r6
  obtain ⟨ad, rfl, -⟩ := r3.get enSe_len 0 (by decide)
  obtain ⟨g0, g1, g2, g3, g4, g5⟩ := rowsSe r3 0 (by decide) _ _ _ _ _ _ rfl
  obtain ⟨p0, p1, p2, p3, p4, p5⟩ := rowsSe r3 1 (by decide) _ _ _ _ _ _ rfl
  obtain ⟨q0, q1, q2, q3, q4, q5⟩ := rowsSe r3 2 (by decide) _ _ _ _ _ _ rfl
  replace r3 : Row enSe 6 w6.drew (.slice (some ad) 3 c3) [sA0, sB0, sB1] := r3
  replace D6 : Below w.heap.size w w6.drew := D6.drew
  simp only [Nat.zero_mul, Nat.one_mul, Nat.reduceMul] at g0 g1 g2 g3 g4 g5 p0 p1 p2 p3 p4 p5 q0 q1 q2 q3 q4 q5
  replace g0 : w6.cell? ad = some (.string ⟨#[97, 108]⟩) := by simpa [Addr.add] using g0
  replace p0 : w6.cell? ⟨ad.block, ad.off + 6, none⟩ = some (.string ⟨#[98, 111, 98]⟩) := p0
  replace p1 : w6.cell? ⟨ad.block, ad.off + 6 + 1, none⟩ = some (.int .i64 0) := p1
  replace p2 : w6.cell? ⟨ad.block, ad.off + 6 + 2, none⟩ = some (.int .i64 4) := p2
  replace p3 : w6.cell? ⟨ad.block, ad.off + 6 + 3, none⟩ = some (.int .i64 0) := p3
  replace p4 : w6.cell? ⟨ad.block, ad.off + 6 + 4, none⟩ = some (.int .i64 0) := p4
  replace p5 : w6.cell? ⟨ad.block, ad.off + 6 + 5, none⟩ = some (.string ⟨#[]⟩) := p5
  replace q0 : w6.cell? ⟨ad.block, ad.off + 12, none⟩ = some (.string ⟨#[98, 111, 98]⟩) := q0
  replace q1 : w6.cell? ⟨ad.block, ad.off + 12 + 1, none⟩ = some (.int .i64 1) := q1
  replace q2 : w6.cell? ⟨ad.block, ad.off + 12 + 2, none⟩ = some (.int .i64 4) := q2
  replace q3 : w6.cell? ⟨ad.block, ad.off + 12 + 3, none⟩ = some (.int .i64 0) := q3
  replace q4 : w6.cell? ⟨ad.block, ad.off + 12 + 4, none⟩ = some (.int .i64 0) := q4
  replace q5 : w6.cell? ⟨ad.block, ad.off + 12 + 5, none⟩ = some (.string ⟨#[]⟩) := q5
  go_wp2_with fail
  refine wp_region_held_drew (S := fun w' => w'.cell? ad = some (.string ⟨#[97, 108]⟩) ∧ w'.cell? ⟨ad.block, ad.off + 6, none⟩ = some (.string ⟨#[98, 111, 98]⟩) ∧ w'.cell? ⟨ad.block, ad.off + 6 + 1, none⟩ = some (.int .i64 0) ∧ w'.cell? ⟨ad.block, ad.off + 6 + 2, none⟩ = some (.int .i64 4) ∧ w'.cell? ⟨ad.block, ad.off + 6 + 3, none⟩ = some (.int .i64 0) ∧ w'.cell? ⟨ad.block, ad.off + 6 + 4, none⟩ = some (.int .i64 0) ∧ w'.cell? ⟨ad.block, ad.off + 6 + 5, none⟩ = some (.string ⟨#[]⟩) ∧ w'.cell? ⟨ad.block, ad.off + 12, none⟩ = some (.string ⟨#[98, 111, 98]⟩) ∧ w'.cell? ⟨ad.block, ad.off + 12 + 1, none⟩ = some (.int .i64 1) ∧ w'.cell? ⟨ad.block, ad.off + 12 + 2, none⟩ = some (.int .i64 4) ∧ w'.cell? ⟨ad.block, ad.off + 12 + 3, none⟩ = some (.int .i64 0) ∧ w'.cell? ⟨ad.block, ad.off + 12 + 4, none⟩ = some (.int .i64 0) ∧ w'.cell? ⟨ad.block, ad.off + 12 + 5, none⟩ = some (.string ⟨#[]⟩)) (by kernel_rfl) ⟨g0, p0, p1, p2, p3, p4, p5, q0, q1, q2, q3, q4, q5⟩ (fun hHeld => ?_)
  refine wpAnyH_take (i := 0) (v := ?vx1) rfl (by kernel_rfl) (by kernel_rfl) (by kernel_rfl) (fun _ _ _ h => h) (Or.inl ⟨by kernel_rfl, ?hyx1⟩) (by assumption) ?restx1
  case hyx1 => (intro w hSw; (try dsimp only at hSw); go_simp; (try (first | with_reducible rfl | rw [if_neg (by omega)])))
  try simp only [Act.put, List.getElem_toArray, List.getElem_cons_succ, List.getElem_cons_zero, List.setIfInBounds_toArray, List.set_cons_zero, List.set_cons_succ]
  refine wpAnyH_take (i := 1) (v := ?vx2) rfl (by kernel_rfl) (by kernel_rfl) (by kernel_rfl) (fun _ _ _ h => h) (Or.inl ⟨by kernel_rfl, ?hyx2⟩) (by assumption) ?restx2
  case hyx2 => (intro w hSw; (try dsimp only at hSw); go_simp; (try (first | with_reducible rfl | rw [if_neg (by omega)])))
  try simp only [Act.put, List.getElem_toArray, List.getElem_cons_succ, List.getElem_cons_zero, List.setIfInBounds_toArray, List.set_cons_zero, List.set_cons_succ]
  refine wpAnyH_take (i := 2) (v := ?vx3) rfl (by kernel_rfl) (by kernel_rfl) (by kernel_rfl) (fun _ _ _ h => h) (Or.inl ⟨by kernel_rfl, ?hyx3⟩) (by assumption) ?restx3
  case hyx3 => (intro w hSw; (try dsimp only at hSw); go_simp; (try (first | with_reducible rfl | rw [if_neg (by omega)])))
  try simp only [Act.put, List.getElem_toArray, List.getElem_cons_succ, List.getElem_cons_zero, List.setIfInBounds_toArray, List.set_cons_zero, List.set_cons_succ]
  refine wpAnyH_take (i := 3) (v := ?vx4) rfl (by kernel_rfl) (by kernel_rfl) (by kernel_rfl) (fun _ _ _ h => h) (Or.inl ⟨by kernel_rfl, ?hyx4⟩) (by assumption) ?restx4
  case hyx4 => (intro w hSw; (try dsimp only at hSw); go_simp; (try (first | with_reducible rfl | rw [if_neg (by omega)])))
  try simp only [Act.put, List.getElem_toArray, List.getElem_cons_succ, List.getElem_cons_zero, List.setIfInBounds_toArray, List.set_cons_zero, List.set_cons_succ]
  refine wpAnyH_take (i := 4) (v := ?vx5) rfl (by kernel_rfl) (by kernel_rfl) (by kernel_rfl) (fun _ _ _ h => h) (Or.inl ⟨by kernel_rfl, ?hyx5⟩) (by assumption) ?restx5
  case hyx5 => (intro w hSw; (try dsimp only at hSw); go_simp; (try (first | with_reducible rfl | rw [if_neg (by omega)])))
  try simp only [Act.put, List.getElem_toArray, List.getElem_cons_succ, List.getElem_cons_zero, List.setIfInBounds_toArray, List.set_cons_zero, List.set_cons_succ]
  refine wpAnyH_take (i := 5) (v := ?vx6) rfl (by kernel_rfl) (by kernel_rfl) (by kernel_rfl) (fun _ _ _ h => h) (Or.inl ⟨by kernel_rfl, ?hyx6⟩) (by assumption) ?restx6
  case hyx6 => (intro w hSw; (try dsimp only at hSw); go_simp; (try (first | with_reducible rfl | rw [if_neg (by omega)])))
  try simp only [Act.put, List.getElem_toArray, List.getElem_cons_succ, List.getElem_cons_zero, List.setIfInBounds_toArray, List.set_cons_zero, List.set_cons_succ]
  refine wpAnyH_take (i := 6) (v := ?vx7) rfl (by kernel_rfl) (by kernel_rfl) (by kernel_rfl) (fun _ _ _ h => h) (Or.inl ⟨by kernel_rfl, ?hyx7⟩) (by assumption) ?restx7
  case hyx7 => (intro w hSw; (try dsimp only at hSw); go_simp; (try (first | with_reducible rfl | rw [if_neg (by omega)])))
  try simp only [Act.put, List.getElem_toArray, List.getElem_cons_succ, List.getElem_cons_zero, List.setIfInBounds_toArray, List.set_cons_zero, List.set_cons_succ]
  refine wpAnyH_take (i := 7) (v := ?vx8) rfl (by kernel_rfl) (by kernel_rfl) (by kernel_rfl) (fun _ _ _ h => h) (Or.inl ⟨by kernel_rfl, ?hyx8⟩) (by assumption) ?restx8
  case hyx8 => (intro w hSw; (try dsimp only at hSw); go_simp; (try (first | with_reducible rfl | rw [if_neg (by omega)])))
  try simp only [Act.put, List.getElem_toArray, List.getElem_cons_succ, List.getElem_cons_zero, List.setIfInBounds_toArray, List.set_cons_zero, List.set_cons_succ]
  refine wpAnyH_take (i := 8) (v := ?vx9) rfl (by kernel_rfl) (by kernel_rfl) (by kernel_rfl) (fun _ _ _ h => h) (Or.inl ⟨by kernel_rfl, ?hyx9⟩) (by assumption) ?restx9
  case hyx9 => (intro w hSw; (try dsimp only at hSw); go_simp; (try (first | with_reducible rfl | rw [if_neg (by omega)])))
  try simp only [Act.put, List.getElem_toArray, List.getElem_cons_succ, List.getElem_cons_zero, List.setIfInBounds_toArray, List.set_cons_zero, List.set_cons_succ]
  refine wpAnyH_take (i := 9) (v := ?vx10) rfl (by kernel_rfl) (by kernel_rfl) (by kernel_rfl) (fun _ _ _ h => h) (Or.inl ⟨by kernel_rfl, ?hyx10⟩) (by assumption) ?restx10
  case hyx10 => (intro w hSw; (try dsimp only at hSw); go_simp; (try (first | with_reducible rfl | rw [if_neg (by omega)])))
  try simp only [Act.put, List.getElem_toArray, List.getElem_cons_succ, List.getElem_cons_zero, List.setIfInBounds_toArray, List.set_cons_zero, List.set_cons_succ]
  refine wpAnyH_take (i := 10) (v := ?vx11) rfl (by kernel_rfl) (by kernel_rfl) (by kernel_rfl) (fun _ _ _ h => h) (Or.inl ⟨by kernel_rfl, ?hyx11⟩) (by assumption) ?restx11
  case hyx11 => (intro w hSw; (try dsimp only at hSw); go_simp; (try (first | with_reducible rfl | rw [if_neg (by omega)])))
  try simp only [Act.put, List.getElem_toArray, List.getElem_cons_succ, List.getElem_cons_zero, List.setIfInBounds_toArray, List.set_cons_zero, List.set_cons_succ]
  refine wpAnyH_take (i := 11) (v := ?vx12) rfl (by kernel_rfl) (by kernel_rfl) (by kernel_rfl) (fun _ _ _ h => h) (Or.inl ⟨by kernel_rfl, ?hyx12⟩) (by assumption) ?restx12
  case hyx12 => (intro w hSw; (try dsimp only at hSw); go_simp; (try (first | with_reducible rfl | rw [if_neg (by omega)])))
  try simp only [Act.put, List.getElem_toArray, List.getElem_cons_succ, List.getElem_cons_zero, List.setIfInBounds_toArray, List.set_cons_zero, List.set_cons_succ]
  refine wpAnyH_take (i := 12) (v := ?vx13) rfl (by kernel_rfl) (by kernel_rfl) (by kernel_rfl) (fun _ _ _ h => h) (Or.inl ⟨by kernel_rfl, ?hyx13⟩) (by assumption) ?restx13
  case hyx13 => (intro w hSw; (try dsimp only at hSw); go_simp; (try (first | with_reducible rfl | rw [if_neg (by omega)])))
  try simp only [Act.put, List.getElem_toArray, List.getElem_cons_succ, List.getElem_cons_zero, List.setIfInBounds_toArray, List.set_cons_zero, List.set_cons_succ]
  refine wpAnyH_take (i := 13) (v := ?vx14) rfl (by kernel_rfl) (by kernel_rfl) (by kernel_rfl) (fun _ _ _ h => h) (Or.inl ⟨by kernel_rfl, ?hyx14⟩) (by assumption) ?restx14
  case hyx14 => (intro w hSw; (try dsimp only at hSw); go_simp; (try (first | with_reducible rfl | rw [if_neg (by omega)])))
  try simp only [Act.put, List.getElem_toArray, List.getElem_cons_succ, List.getElem_cons_zero, List.setIfInBounds_toArray, List.set_cons_zero, List.set_cons_succ]
  refine wpAnyH_take (i := 14) (v := ?vx15) rfl (by kernel_rfl) (by kernel_rfl) (by kernel_rfl) (fun _ _ _ h => h) (Or.inl ⟨by kernel_rfl, ?hyx15⟩) (by assumption) ?restx15
  case hyx15 => (intro w hSw; (try dsimp only at hSw); go_simp; (try (first | with_reducible rfl | rw [if_neg (by omega)])))
  try simp only [Act.put, List.getElem_toArray, List.getElem_cons_succ, List.getElem_cons_zero, List.setIfInBounds_toArray, List.set_cons_zero, List.set_cons_succ]
  refine wpAnyH_take (i := 15) (v := ?vx16) rfl (by kernel_rfl) (by kernel_rfl) (by kernel_rfl) (fun _ _ _ h => h) (Or.inl ⟨by kernel_rfl, ?hyx16⟩) (by assumption) ?restx16
  case hyx16 => (intro w hSw; (try dsimp only at hSw); go_simp; (try (first | with_reducible rfl | rw [if_neg (by omega)])))
  try simp only [Act.put, List.getElem_toArray, List.getElem_cons_succ, List.getElem_cons_zero, List.setIfInBounds_toArray, List.set_cons_zero, List.set_cons_succ]
  refine wpAnyH_take (i := 16) (v := ?vx17) rfl (by kernel_rfl) (by kernel_rfl) (by kernel_rfl) (fun _ _ _ h => h) (Or.inl ⟨by kernel_rfl, ?hyx17⟩) (by assumption) ?restx17
  case hyx17 => (intro w hSw; (try dsimp only at hSw); go_simp; (try (first | with_reducible rfl | rw [if_neg (by omega)])))
  try simp only [Act.put, List.getElem_toArray, List.getElem_cons_succ, List.getElem_cons_zero, List.setIfInBounds_toArray, List.set_cons_zero, List.set_cons_succ]
  refine wpAnyH_take (i := 17) (v := ?vx18) rfl (by kernel_rfl) (by kernel_rfl) (by kernel_rfl) (fun _ _ _ h => h) (Or.inl ⟨by kernel_rfl, ?hyx18⟩) (by assumption) ?restx18
  case hyx18 => (intro w hSw; (try dsimp only at hSw); go_simp; (try (first | with_reducible rfl | rw [if_neg (by omega)])))
  try simp only [Act.put, List.getElem_toArray, List.getElem_cons_succ, List.getElem_cons_zero, List.setIfInBounds_toArray, List.set_cons_zero, List.set_cons_succ]
  refine wpAnyH_take (i := 18) (v := ?vx19) rfl (by kernel_rfl) (by kernel_rfl) (by kernel_rfl) (fun _ _ _ h => h) (Or.inl ⟨by kernel_rfl, ?hyx19⟩) (by assumption) ?restx19
  case hyx19 => (intro w hSw; (try dsimp only at hSw); go_simp; (try (first | with_reducible rfl | rw [if_neg (by omega)])))
  try simp only [Act.put, List.getElem_toArray, List.getElem_cons_succ, List.getElem_cons_zero, List.setIfInBounds_toArray, List.set_cons_zero, List.set_cons_succ]
  refine wpAnyH_take (i := 19) (v := ?vx20) rfl (by kernel_rfl) (by kernel_rfl) (by kernel_rfl) (fun _ _ _ h => h) (Or.inl ⟨by kernel_rfl, ?hyx20⟩) (by assumption) ?restx20
  case hyx20 => (intro w hSw; (try dsimp only at hSw); go_simp; (try (first | with_reducible rfl | rw [if_neg (by omega)])))
  try simp only [Act.put, List.getElem_toArray, List.getElem_cons_succ, List.getElem_cons_zero, List.setIfInBounds_toArray, List.set_cons_zero, List.set_cons_succ]
  refine wpAnyH_take (i := 20) (v := ?vx21) rfl (by kernel_rfl) (by kernel_rfl) (by kernel_rfl) (fun _ _ _ h => h) (Or.inl ⟨by kernel_rfl, ?hyx21⟩) (by assumption) ?restx21
  case hyx21 => (intro w hSw; (try dsimp only at hSw); go_simp; (try (first | with_reducible rfl | rw [if_neg (by omega)])))
  try simp only [Act.put, List.getElem_toArray, List.getElem_cons_succ, List.getElem_cons_zero, List.setIfInBounds_toArray, List.set_cons_zero, List.set_cons_succ]
  refine wpAnyH_take (i := 21) (v := ?vx22) rfl (by kernel_rfl) (by kernel_rfl) (by kernel_rfl) (fun _ _ _ h => h) (Or.inl ⟨by kernel_rfl, ?hyx22⟩) (by assumption) ?restx22
  case hyx22 => (intro w hSw; (try dsimp only at hSw); go_simp; (try (first | with_reducible rfl | rw [if_neg (by omega)])))
  try simp only [Act.put, List.getElem_toArray, List.getElem_cons_succ, List.getElem_cons_zero, List.setIfInBounds_toArray, List.set_cons_zero, List.set_cons_succ]
  refine wpAnyH_take (i := 22) (v := ?vx23) rfl (by kernel_rfl) (by kernel_rfl) (by kernel_rfl) (fun _ _ _ h => h) (Or.inl ⟨by kernel_rfl, ?hyx23⟩) (by assumption) ?restx23
  case hyx23 => (intro w hSw; (try dsimp only at hSw); go_simp; (try (first | with_reducible rfl | rw [if_neg (by omega)])))
  try simp only [Act.put, List.getElem_toArray, List.getElem_cons_succ, List.getElem_cons_zero, List.setIfInBounds_toArray, List.set_cons_zero, List.set_cons_succ]
  refine wpAnyH_take (i := 23) (v := ?vx24) rfl (by kernel_rfl) (by kernel_rfl) (by kernel_rfl) (fun _ _ _ h => h) (Or.inl ⟨by kernel_rfl, ?hyx24⟩) (by assumption) ?restx24
  case hyx24 => (intro w hSw; (try dsimp only at hSw); go_simp; (try (first | with_reducible rfl | rw [if_neg (by omega)])))
  try simp only [Act.put, List.getElem_toArray, List.getElem_cons_succ, List.getElem_cons_zero, List.setIfInBounds_toArray, List.set_cons_zero, List.set_cons_succ]
  refine wpAnyH_take (i := 24) (v := ?vx25) rfl (by kernel_rfl) (by kernel_rfl) (by kernel_rfl) (fun _ _ _ h => h) (Or.inl ⟨by kernel_rfl, ?hyx25⟩) (by assumption) ?restx25
  case hyx25 => (intro w hSw; (try dsimp only at hSw); go_simp; (try (first | with_reducible rfl | rw [if_neg (by omega)])))
  try simp only [Act.put, List.getElem_toArray, List.getElem_cons_succ, List.getElem_cons_zero, List.setIfInBounds_toArray, List.set_cons_zero, List.set_cons_succ]
  refine wpAnyH_take (i := 25) (v := ?vx26) rfl (by kernel_rfl) (by kernel_rfl) (by kernel_rfl) (fun _ _ _ h => h) (Or.inl ⟨by kernel_rfl, ?hyx26⟩) (by assumption) ?restx26
  case hyx26 => (intro w hSw; (try dsimp only at hSw); go_simp; (try (first | with_reducible rfl | rw [if_neg (by omega)])))
  try simp only [Act.put, List.getElem_toArray, List.getElem_cons_succ, List.getElem_cons_zero, List.setIfInBounds_toArray, List.set_cons_zero, List.set_cons_succ]
  refine wpAnyH_take (i := 26) (v := ?vx27) rfl (by kernel_rfl) (by kernel_rfl) (by kernel_rfl) (fun _ _ _ h => h) (Or.inl ⟨by kernel_rfl, ?hyx27⟩) (by assumption) ?restx27
  case hyx27 => (intro w hSw; (try dsimp only at hSw); go_simp; (try (first | with_reducible rfl | rw [if_neg (by omega)])))
  try simp only [Act.put, List.getElem_toArray, List.getElem_cons_succ, List.getElem_cons_zero, List.setIfInBounds_toArray, List.set_cons_zero, List.set_cons_succ]
  refine wpAnyH_take (i := 27) (v := ?vx28) rfl (by kernel_rfl) (by kernel_rfl) (by kernel_rfl) (fun _ _ _ h => h) (Or.inl ⟨by kernel_rfl, ?hyx28⟩) (by assumption) ?restx28
  case hyx28 => (intro w hSw; (try dsimp only at hSw); go_simp; (try (first | with_reducible rfl | rw [if_neg (by omega)])))
  try simp only [Act.put, List.getElem_toArray, List.getElem_cons_succ, List.getElem_cons_zero, List.setIfInBounds_toArray, List.set_cons_zero, List.set_cons_succ]
  refine wpAnyH_take (i := 28) (v := ?vx29) rfl (by kernel_rfl) (by kernel_rfl) (by kernel_rfl) (fun _ _ _ h => h) (Or.inl ⟨by kernel_rfl, ?hyx29⟩) (by assumption) ?restx29
  case hyx29 => (intro w hSw; (try dsimp only at hSw); go_simp; (try (first | with_reducible rfl | rw [if_neg (by omega)])))
  try simp only [Act.put, List.getElem_toArray, List.getElem_cons_succ, List.getElem_cons_zero, List.setIfInBounds_toArray, List.set_cons_zero, List.set_cons_succ]
  refine wpAnyH_take (i := 29) (v := ?vx30) rfl (by kernel_rfl) (by kernel_rfl) (by kernel_rfl) (fun _ _ _ h => h) (Or.inl ⟨by kernel_rfl, ?hyx30⟩) (by assumption) ?restx30
  case hyx30 => (intro w hSw; (try dsimp only at hSw); go_simp; (try (first | with_reducible rfl | rw [if_neg (by omega)])))
  try simp only [Act.put, List.getElem_toArray, List.getElem_cons_succ, List.getElem_cons_zero, List.setIfInBounds_toArray, List.set_cons_zero, List.set_cons_succ]
  refine wpAnyH_take (i := 30) (v := ?vx31) rfl (by kernel_rfl) (by kernel_rfl) (by kernel_rfl) (fun _ _ _ h => h) (Or.inl ⟨by kernel_rfl, ?hyx31⟩) (by assumption) ?restx31
  case hyx31 => (intro w hSw; (try dsimp only at hSw); go_simp; (try (first | with_reducible rfl | rw [if_neg (by omega)])))
  try simp only [Act.put, List.getElem_toArray, List.getElem_cons_succ, List.getElem_cons_zero, List.setIfInBounds_toArray, List.set_cons_zero, List.set_cons_succ]
  refine wpAnyH_take (i := 31) (v := ?vx32) rfl (by kernel_rfl) (by kernel_rfl) (by kernel_rfl) (fun _ _ _ h => h) (Or.inl ⟨by kernel_rfl, ?hyx32⟩) (by assumption) ?restx32
  case hyx32 => (intro w hSw; (try dsimp only at hSw); go_simp; (try (first | with_reducible rfl | rw [if_neg (by omega)])))
  try simp only [Act.put, List.getElem_toArray, List.getElem_cons_succ, List.getElem_cons_zero, List.setIfInBounds_toArray, List.set_cons_zero, List.set_cons_succ]
  refine wpAnyH_take (i := 32) (v := ?vx33) rfl (by kernel_rfl) (by kernel_rfl) (by kernel_rfl) (fun _ _ _ h => h) (Or.inl ⟨by kernel_rfl, ?hyx33⟩) (by assumption) ?restx33
  case hyx33 => (intro w hSw; (try dsimp only at hSw); go_simp; (try (first | with_reducible rfl | rw [if_neg (by omega)])))
  try simp only [Act.put, List.getElem_toArray, List.getElem_cons_succ, List.getElem_cons_zero, List.setIfInBounds_toArray, List.set_cons_zero, List.set_cons_succ]
  refine wpAnyH_take (i := 33) (v := ?vx34) rfl (by kernel_rfl) (by kernel_rfl) (by kernel_rfl) (fun _ _ _ h => h) (Or.inl ⟨by kernel_rfl, ?hyx34⟩) (by assumption) ?restx34
  case hyx34 => (intro w hSw; (try dsimp only at hSw); go_simp; (try (first | with_reducible rfl | rw [if_neg (by omega)])))
  try simp only [Act.put, List.getElem_toArray, List.getElem_cons_succ, List.getElem_cons_zero, List.setIfInBounds_toArray, List.set_cons_zero, List.set_cons_succ]
  refine wpAnyH_take (i := 34) (v := ?vx35) rfl (by kernel_rfl) (by kernel_rfl) (by kernel_rfl) (fun _ _ _ h => h) (Or.inl ⟨by kernel_rfl, ?hyx35⟩) (by assumption) ?restx35
  case hyx35 => (intro w hSw; (try dsimp only at hSw); go_simp; (try (first | with_reducible rfl | rw [if_neg (by omega)])))
  try simp only [Act.put, List.getElem_toArray, List.getElem_cons_succ, List.getElem_cons_zero, List.setIfInBounds_toArray, List.set_cons_zero, List.set_cons_succ]
  refine wpAnyH_take (i := 35) (v := ?vx36) rfl (by kernel_rfl) (by kernel_rfl) (by kernel_rfl) (fun _ _ _ h => h) (Or.inl ⟨by kernel_rfl, ?hyx36⟩) (by assumption) ?restx36
  case hyx36 => (intro w hSw; (try dsimp only at hSw); go_simp; (try (first | with_reducible rfl | rw [if_neg (by omega)])))
  try simp only [Act.put, List.getElem_toArray, List.getElem_cons_succ, List.getElem_cons_zero, List.setIfInBounds_toArray, List.set_cons_zero, List.set_cons_succ]
  refine wpAnyH_take (i := 36) (v := ?vx37) rfl (by kernel_rfl) (by kernel_rfl) (by kernel_rfl) (fun _ _ _ h => h) (Or.inl ⟨by kernel_rfl, ?hyx37⟩) (by assumption) ?restx37
  case hyx37 => (intro w hSw; (try dsimp only at hSw); go_simp; (try (first | with_reducible rfl | rw [if_neg (by omega)])))
  try simp only [Act.put, List.getElem_toArray, List.getElem_cons_succ, List.getElem_cons_zero, List.setIfInBounds_toArray, List.set_cons_zero, List.set_cons_succ]
  refine wpAnyH_take (i := 37) (v := ?vx38) rfl (by kernel_rfl) (by kernel_rfl) (by kernel_rfl) (fun _ _ _ h => h) (Or.inl ⟨by kernel_rfl, ?hyx38⟩) (by assumption) ?restx38
  case hyx38 => (intro w hSw; (try dsimp only at hSw); go_simp; (try (first | with_reducible rfl | rw [if_neg (by omega)])))
  try simp only [Act.put, List.getElem_toArray, List.getElem_cons_succ, List.getElem_cons_zero, List.setIfInBounds_toArray, List.set_cons_zero, List.set_cons_succ]
  refine wpAnyH_take (i := 38) (v := ?vx39) rfl (by kernel_rfl) (by kernel_rfl) (by kernel_rfl) (fun _ _ _ h => h) (Or.inl ⟨by kernel_rfl, ?hyx39⟩) (by assumption) ?restx39
  case hyx39 => (intro w hSw; (try dsimp only at hSw); go_simp; (try (first | with_reducible rfl | rw [if_neg (by omega)])))
  try simp only [Act.put, List.getElem_toArray, List.getElem_cons_succ, List.getElem_cons_zero, List.setIfInBounds_toArray, List.set_cons_zero, List.set_cons_succ]
  refine wpAnyH_take (i := 39) (v := ?vx40) rfl (by kernel_rfl) (by kernel_rfl) (by kernel_rfl) (fun _ _ _ h => h) (Or.inl ⟨by kernel_rfl, ?hyx40⟩) (by assumption) ?restx40
  case hyx40 => (intro w hSw; (try dsimp only at hSw); go_simp; (try (first | with_reducible rfl | rw [if_neg (by omega)])))
  try simp only [Act.put, List.getElem_toArray, List.getElem_cons_succ, List.getElem_cons_zero, List.setIfInBounds_toArray, List.set_cons_zero, List.set_cons_succ]
  refine wpAnyH_take (i := 40) (v := ?vx41) rfl (by kernel_rfl) (by kernel_rfl) (by kernel_rfl) (fun _ _ _ h => h) (Or.inl ⟨by kernel_rfl, ?hyx41⟩) (by assumption) ?restx41
  case hyx41 => (intro w hSw; (try dsimp only at hSw); go_simp; (try (first | with_reducible rfl | rw [if_neg (by omega)])))
  try simp only [Act.put, List.getElem_toArray, List.getElem_cons_succ, List.getElem_cons_zero, List.setIfInBounds_toArray, List.set_cons_zero, List.set_cons_succ]
  refine wpAnyH_take (i := 41) (v := ?vx42) rfl (by kernel_rfl) (by kernel_rfl) (by kernel_rfl) (fun _ _ _ h => h) (Or.inl ⟨by kernel_rfl, ?hyx42⟩) (by assumption) ?restx42
  case hyx42 => (intro w hSw; (try dsimp only at hSw); go_simp; (try (first | with_reducible rfl | rw [if_neg (by omega)])))
  try simp only [Act.put, List.getElem_toArray, List.getElem_cons_succ, List.getElem_cons_zero, List.setIfInBounds_toArray, List.set_cons_zero, List.set_cons_succ]
  refine wpAnyH_take (i := 42) (v := ?vx43) rfl (by kernel_rfl) (by kernel_rfl) (by kernel_rfl) (fun _ _ _ h => h) (Or.inl ⟨by kernel_rfl, ?hyx43⟩) (by assumption) ?restx43
  case hyx43 => (intro w hSw; (try dsimp only at hSw); go_simp; (try (first | with_reducible rfl | rw [if_neg (by omega)])))
  try simp only [Act.put, List.getElem_toArray, List.getElem_cons_succ, List.getElem_cons_zero, List.setIfInBounds_toArray, List.set_cons_zero, List.set_cons_succ]
  refine wpAnyH_take (i := 43) (v := ?vx44) rfl (by kernel_rfl) (by kernel_rfl) (by kernel_rfl) (fun _ _ _ h => h) (Or.inl ⟨by kernel_rfl, ?hyx44⟩) (by assumption) ?restx44
  case hyx44 => (intro w hSw; (try dsimp only at hSw); go_simp; (try (first | with_reducible rfl | rw [if_neg (by omega)])))
  try simp only [Act.put, List.getElem_toArray, List.getElem_cons_succ, List.getElem_cons_zero, List.setIfInBounds_toArray, List.set_cons_zero, List.set_cons_succ]
  refine wpAnyH_take (i := 44) (v := ?vx45) rfl (by kernel_rfl) (by kernel_rfl) (by kernel_rfl) (fun _ _ _ h => h) (Or.inl ⟨by kernel_rfl, ?hyx45⟩) (by assumption) ?restx45
  case hyx45 => (intro w hSw; (try dsimp only at hSw); go_simp; (try (first | with_reducible rfl | rw [if_neg (by omega)])))
  try simp only [Act.put, List.getElem_toArray, List.getElem_cons_succ, List.getElem_cons_zero, List.setIfInBounds_toArray, List.set_cons_zero, List.set_cons_succ]
  refine wpAnyH_take (i := 45) (v := ?vx46) rfl (by kernel_rfl) (by kernel_rfl) (by kernel_rfl) (fun _ _ _ h => h) (Or.inl ⟨by kernel_rfl, ?hyx46⟩) (by assumption) ?restx46
  case hyx46 => (intro w hSw; (try dsimp only at hSw); go_simp; (try (first | with_reducible rfl | rw [if_neg (by omega)])))
  try simp only [Act.put, List.getElem_toArray, List.getElem_cons_succ, List.getElem_cons_zero, List.setIfInBounds_toArray, List.set_cons_zero, List.set_cons_succ]
  refine wpAnyH_take (i := 46) (v := ?vx47) rfl (by kernel_rfl) (by kernel_rfl) (by kernel_rfl) (fun _ _ _ h => h) (Or.inl ⟨by kernel_rfl, ?hyx47⟩) (by assumption) ?restx47
  case hyx47 => (intro w hSw; (try dsimp only at hSw); go_simp; (try (first | with_reducible rfl | rw [if_neg (by omega)])))
  try simp only [Act.put, List.getElem_toArray, List.getElem_cons_succ, List.getElem_cons_zero, List.setIfInBounds_toArray, List.set_cons_zero, List.set_cons_succ]
  refine wpAnyH_take (i := 47) (v := ?vx48) rfl (by kernel_rfl) (by kernel_rfl) (by kernel_rfl) (fun _ _ _ h => h) (Or.inl ⟨by kernel_rfl, ?hyx48⟩) (by assumption) ?restx48
  case hyx48 => (intro w hSw; (try dsimp only at hSw); go_simp; (try (first | with_reducible rfl | rw [if_neg (by omega)])))
  try simp only [Act.put, List.getElem_toArray, List.getElem_cons_succ, List.getElem_cons_zero, List.setIfInBounds_toArray, List.set_cons_zero, List.set_cons_succ]
  refine wpAnyH_take (i := 48) (v := ?vx49) rfl (by kernel_rfl) (by kernel_rfl) (by kernel_rfl) (fun _ _ _ h => h) (Or.inl ⟨by kernel_rfl, ?hyx49⟩) (by assumption) ?restx49
  case hyx49 => (intro w hSw; (try dsimp only at hSw); go_simp; (try (first | with_reducible rfl | rw [if_neg (by omega)])))
  try simp only [Act.put, List.getElem_toArray, List.getElem_cons_succ, List.getElem_cons_zero, List.setIfInBounds_toArray, List.set_cons_zero, List.set_cons_succ]
  refine wpAnyH_take (i := 49) (v := ?vx50) rfl (by kernel_rfl) (by kernel_rfl) (by kernel_rfl) (fun _ _ _ h => h) (Or.inl ⟨by kernel_rfl, ?hyx50⟩) (by assumption) ?restx50
  case hyx50 => (intro w hSw; (try dsimp only at hSw); go_simp; (try (first | with_reducible rfl | rw [if_neg (by omega)])))
  try simp only [Act.put, List.getElem_toArray, List.getElem_cons_succ, List.getElem_cons_zero, List.setIfInBounds_toArray, List.set_cons_zero, List.set_cons_succ]
  refine wpAnyH_take (i := 50) (v := ?vx51) rfl (by kernel_rfl) (by kernel_rfl) (by kernel_rfl) (fun _ _ _ h => h) (Or.inl ⟨by kernel_rfl, ?hyx51⟩) (by assumption) ?restx51
  case hyx51 => (intro w hSw; (try dsimp only at hSw); go_simp; (try (first | with_reducible rfl | rw [if_neg (by omega)])))
  try simp only [Act.put, List.getElem_toArray, List.getElem_cons_succ, List.getElem_cons_zero, List.setIfInBounds_toArray, List.set_cons_zero, List.set_cons_succ]
  refine wpAnyH_take (i := 51) (v := ?vx52) rfl (by kernel_rfl) (by kernel_rfl) (by kernel_rfl) (fun _ _ _ h => h) (Or.inl ⟨by kernel_rfl, ?hyx52⟩) (by assumption) ?restx52
  case hyx52 => (intro w hSw; (try dsimp only at hSw); go_simp; (try (first | with_reducible rfl | rw [if_neg (by omega)])))
  try simp only [Act.put, List.getElem_toArray, List.getElem_cons_succ, List.getElem_cons_zero, List.setIfInBounds_toArray, List.set_cons_zero, List.set_cons_succ]
  refine wpAnyH_take (i := 52) (v := ?vx53) rfl (by kernel_rfl) (by kernel_rfl) (by kernel_rfl) (fun _ _ _ h => h) (Or.inl ⟨by kernel_rfl, ?hyx53⟩) (by assumption) ?restx53
  case hyx53 => (intro w hSw; (try dsimp only at hSw); go_simp; (try (first | with_reducible rfl | rw [if_neg (by omega)])))
  try simp only [Act.put, List.getElem_toArray, List.getElem_cons_succ, List.getElem_cons_zero, List.setIfInBounds_toArray, List.set_cons_zero, List.set_cons_succ]
  refine wpAnyH_take (i := 53) (v := ?vx54) rfl (by kernel_rfl) (by kernel_rfl) (by kernel_rfl) (fun _ _ _ h => h) (Or.inl ⟨by kernel_rfl, ?hyx54⟩) (by assumption) ?restx54
  case hyx54 => (intro w hSw; (try dsimp only at hSw); go_simp; (try (first | with_reducible rfl | rw [if_neg (by omega)])))
  try simp only [Act.put, List.getElem_toArray, List.getElem_cons_succ, List.getElem_cons_zero, List.setIfInBounds_toArray, List.set_cons_zero, List.set_cons_succ]
  refine wpAnyH_take (i := 54) (v := ?vx55) rfl (by kernel_rfl) (by kernel_rfl) (by kernel_rfl) (fun _ _ _ h => h) (Or.inl ⟨by kernel_rfl, ?hyx55⟩) (by assumption) ?restx55
  case hyx55 => (intro w hSw; (try dsimp only at hSw); go_simp; (try (first | with_reducible rfl | rw [if_neg (by omega)])))
  try simp only [Act.put, List.getElem_toArray, List.getElem_cons_succ, List.getElem_cons_zero, List.setIfInBounds_toArray, List.set_cons_zero, List.set_cons_succ]
  refine wpAnyH_ready (rs := [55]) (by kernel_rfl) (by simp) ?_
  refine AllReadyH.cons rfl (fun K hK => ?_) ?_
  · go_simp
    go_at_call 17
    with_reducible refine (May9_is 3 c3 _ [sA0, sB0, sB1] _ r3 true (sz9 _ (by decide)) l9g).mono ?_
    rintro e wa ⟨rfl, hbx⟩
    replace g0 := cell_below hbx g0
    replace p0 := cell_below hbx p0
    replace p1 := cell_below hbx p1
    replace p2 := cell_below hbx p2
    replace p3 := cell_below hbx p3
    replace p4 := cell_below hbx p4
    replace p5 := cell_below hbx p5
    replace q0 := cell_below hbx q0
    replace q1 := cell_below hbx q1
    replace q2 := cell_below hbx q2
    replace q3 := cell_below hbx q3
    replace q4 := cell_below hbx q4
    replace q5 := cell_below hbx q5
    replace r3 := r3.below hbx
    replace D6 := below_call D6 hbx
    refine hK.out _ _ (by (try dsimp only); (exact ⟨g0, p0, p1, p2, p3, p4, p5, q0, q1, q2, q3, q4, q5⟩)) (fun hHeld => ?_)
    clear hK K
    try simp only [Act.put, List.getElem_toArray, List.getElem_cons_succ, List.getElem_cons_zero, List.setIfInBounds_toArray, List.set_cons_zero, List.set_cons_succ]
    refine wpAnyH_take (i := 56) (v := ?vx56) rfl (by kernel_rfl) (by kernel_rfl) (by kernel_rfl) (fun _ _ _ h => h) (Or.inl ⟨by kernel_rfl, ?hyx56⟩) (by assumption) ?restx56
    case hyx56 => (intro w hSw; (try dsimp only at hSw); go_simp; (try (first | with_reducible rfl | rw [if_neg (by omega)])))
    try simp only [Act.put, List.getElem_toArray, List.getElem_cons_succ, List.getElem_cons_zero, List.setIfInBounds_toArray, List.set_cons_zero, List.set_cons_succ]
    refine wpAnyH_take (i := 57) (v := ?vx57) rfl (by kernel_rfl) (by kernel_rfl) (by kernel_rfl) (fun _ _ _ h => h) (Or.inl ⟨by kernel_rfl, ?hyx57⟩) (by assumption) ?restx57
    case hyx57 => (intro w hSw; (try dsimp only at hSw); go_simp; (try (first | with_reducible rfl | rw [if_neg (by omega)])))
    try simp only [Act.put, List.getElem_toArray, List.getElem_cons_succ, List.getElem_cons_zero, List.setIfInBounds_toArray, List.set_cons_zero, List.set_cons_succ]
    refine wpAnyH_take (i := 58) (v := ?vx58) rfl (by kernel_rfl) (by kernel_rfl) (by kernel_rfl) (fun _ _ _ h => h) (Or.inl ⟨by kernel_rfl, ?hyx58⟩) (by assumption) ?restx58
    case hyx58 => (intro w hSw; (try dsimp only at hSw); go_simp; (try (first | with_reducible rfl | rw [if_neg (by omega)])))
    try simp only [Act.put, List.getElem_toArray, List.getElem_cons_succ, List.getElem_cons_zero, List.setIfInBounds_toArray, List.set_cons_zero, List.set_cons_succ]
    refine wpAnyH_take (i := 59) (v := ?vx59) rfl (by kernel_rfl) (by kernel_rfl) (by kernel_rfl) (fun _ _ _ h => h) (Or.inl ⟨by kernel_rfl, ?hyx59⟩) (by assumption) ?restx59
    case hyx59 => (intro w hSw; (try dsimp only at hSw); go_simp; (try (first | with_reducible rfl | rw [if_neg (by omega)])))
    try simp only [Act.put, List.getElem_toArray, List.getElem_cons_succ, List.getElem_cons_zero, List.setIfInBounds_toArray, List.set_cons_zero, List.set_cons_succ]
    refine wpAnyH_take (i := 60) (v := ?vx60) rfl (by kernel_rfl) (by kernel_rfl) (by kernel_rfl) (fun _ _ _ h => h) (Or.inl ⟨by kernel_rfl, ?hyx60⟩) (by assumption) ?restx60
    case hyx60 => (intro w hSw; (try dsimp only at hSw); go_simp; (try (first | with_reducible rfl | rw [if_neg (by omega)])))
    try simp only [Act.put, List.getElem_toArray, List.getElem_cons_succ, List.getElem_cons_zero, List.setIfInBounds_toArray, List.set_cons_zero, List.set_cons_succ]
    refine wpAnyH_take (i := 61) (v := ?vx61) rfl (by kernel_rfl) (by kernel_rfl) (by kernel_rfl) (fun _ _ _ h => h) (Or.inl ⟨by kernel_rfl, ?hyx61⟩) (by assumption) ?restx61
    case hyx61 => (intro w hSw; (try dsimp only at hSw); go_simp; (try (first | with_reducible rfl | rw [if_neg (by omega)])))
    try simp only [Act.put, List.getElem_toArray, List.getElem_cons_succ, List.getElem_cons_zero, List.setIfInBounds_toArray, List.set_cons_zero, List.set_cons_succ]
    refine wpAnyH_take (i := 62) (v := ?vx62) rfl (by kernel_rfl) (by kernel_rfl) (by kernel_rfl) (fun _ _ _ h => h) (Or.inl ⟨by kernel_rfl, ?hyx62⟩) (by assumption) ?restx62
    case hyx62 => (intro w hSw; (try dsimp only at hSw); go_simp; (try (first | with_reducible rfl | rw [if_neg (by omega)])))
    try simp only [Act.put, List.getElem_toArray, List.getElem_cons_succ, List.getElem_cons_zero, List.setIfInBounds_toArray, List.set_cons_zero, List.set_cons_succ]
    refine wpAnyH_take (i := 63) (v := ?vx63) rfl (by kernel_rfl) (by kernel_rfl) (by kernel_rfl) (fun _ _ _ h => h) (Or.inl ⟨by kernel_rfl, ?hyx63⟩) (by assumption) ?restx63
    case hyx63 => (intro w hSw; (try dsimp only at hSw); go_simp; (try (first | with_reducible rfl | rw [if_neg (by omega)])))
    try simp only [Act.put, List.getElem_toArray, List.getElem_cons_succ, List.getElem_cons_zero, List.setIfInBounds_toArray, List.set_cons_zero, List.set_cons_succ]
    refine wpAnyH_ready (rs := [64]) (by kernel_rfl) (by simp) ?_
    refine AllReadyH.cons rfl (fun K hK => ?_) ?_
    · go_simp
      have h2 := (Own.lit (e := 34) (base := 0) enSe_len wa [sB1, sB0] #[.string ⟨#[98, 111, 98]⟩, .int .i64 1, .int .i64 4, .int .i64 0, .int .i64 0, .string ⟨#[]⟩, .string ⟨#[98, 111, 98]⟩, .int .i64 0, .int .i64 4, .int .i64 0, .int .i64 0, .string ⟨#[]⟩] 2 rfl rfl (Nat.zero_le _) (by omega)).row
      replace g0 := cell_below (below_box (.cells #[.string ⟨#[98, 111, 98]⟩, .int .i64 1, .int .i64 4, .int .i64 0, .int .i64 0, .string ⟨#[]⟩, .string ⟨#[98, 111, 98]⟩, .int .i64 0, .int .i64 4, .int .i64 0, .int .i64 0, .string ⟨#[]⟩] 34)) g0
      replace p0 := cell_below (below_box (.cells #[.string ⟨#[98, 111, 98]⟩, .int .i64 1, .int .i64 4, .int .i64 0, .int .i64 0, .string ⟨#[]⟩, .string ⟨#[98, 111, 98]⟩, .int .i64 0, .int .i64 4, .int .i64 0, .int .i64 0, .string ⟨#[]⟩] 34)) p0
      replace p1 := cell_below (below_box (.cells #[.string ⟨#[98, 111, 98]⟩, .int .i64 1, .int .i64 4, .int .i64 0, .int .i64 0, .string ⟨#[]⟩, .string ⟨#[98, 111, 98]⟩, .int .i64 0, .int .i64 4, .int .i64 0, .int .i64 0, .string ⟨#[]⟩] 34)) p1
      replace p2 := cell_below (below_box (.cells #[.string ⟨#[98, 111, 98]⟩, .int .i64 1, .int .i64 4, .int .i64 0, .int .i64 0, .string ⟨#[]⟩, .string ⟨#[98, 111, 98]⟩, .int .i64 0, .int .i64 4, .int .i64 0, .int .i64 0, .string ⟨#[]⟩] 34)) p2
      replace p3 := cell_below (below_box (.cells #[.string ⟨#[98, 111, 98]⟩, .int .i64 1, .int .i64 4, .int .i64 0, .int .i64 0, .string ⟨#[]⟩, .string ⟨#[98, 111, 98]⟩, .int .i64 0, .int .i64 4, .int .i64 0, .int .i64 0, .string ⟨#[]⟩] 34)) p3
      replace p4 := cell_below (below_box (.cells #[.string ⟨#[98, 111, 98]⟩, .int .i64 1, .int .i64 4, .int .i64 0, .int .i64 0, .string ⟨#[]⟩, .string ⟨#[98, 111, 98]⟩, .int .i64 0, .int .i64 4, .int .i64 0, .int .i64 0, .string ⟨#[]⟩] 34)) p4
      replace p5 := cell_below (below_box (.cells #[.string ⟨#[98, 111, 98]⟩, .int .i64 1, .int .i64 4, .int .i64 0, .int .i64 0, .string ⟨#[]⟩, .string ⟨#[98, 111, 98]⟩, .int .i64 0, .int .i64 4, .int .i64 0, .int .i64 0, .string ⟨#[]⟩] 34)) p5
      replace q0 := cell_below (below_box (.cells #[.string ⟨#[98, 111, 98]⟩, .int .i64 1, .int .i64 4, .int .i64 0, .int .i64 0, .string ⟨#[]⟩, .string ⟨#[98, 111, 98]⟩, .int .i64 0, .int .i64 4, .int .i64 0, .int .i64 0, .string ⟨#[]⟩] 34)) q0
      replace q1 := cell_below (below_box (.cells #[.string ⟨#[98, 111, 98]⟩, .int .i64 1, .int .i64 4, .int .i64 0, .int .i64 0, .string ⟨#[]⟩, .string ⟨#[98, 111, 98]⟩, .int .i64 0, .int .i64 4, .int .i64 0, .int .i64 0, .string ⟨#[]⟩] 34)) q1
      replace q2 := cell_below (below_box (.cells #[.string ⟨#[98, 111, 98]⟩, .int .i64 1, .int .i64 4, .int .i64 0, .int .i64 0, .string ⟨#[]⟩, .string ⟨#[98, 111, 98]⟩, .int .i64 0, .int .i64 4, .int .i64 0, .int .i64 0, .string ⟨#[]⟩] 34)) q2
      replace q3 := cell_below (below_box (.cells #[.string ⟨#[98, 111, 98]⟩, .int .i64 1, .int .i64 4, .int .i64 0, .int .i64 0, .string ⟨#[]⟩, .string ⟨#[98, 111, 98]⟩, .int .i64 0, .int .i64 4, .int .i64 0, .int .i64 0, .string ⟨#[]⟩] 34)) q3
      replace q4 := cell_below (below_box (.cells #[.string ⟨#[98, 111, 98]⟩, .int .i64 1, .int .i64 4, .int .i64 0, .int .i64 0, .string ⟨#[]⟩, .string ⟨#[98, 111, 98]⟩, .int .i64 0, .int .i64 4, .int .i64 0, .int .i64 0, .string ⟨#[]⟩] 34)) q4
      replace q5 := cell_below (below_box (.cells #[.string ⟨#[98, 111, 98]⟩, .int .i64 1, .int .i64 4, .int .i64 0, .int .i64 0, .string ⟨#[]⟩, .string ⟨#[98, 111, 98]⟩, .int .i64 0, .int .i64 4, .int .i64 0, .int .i64 0, .string ⟨#[]⟩] 34)) q5
      replace r3 := r3.below (below_box (.cells #[.string ⟨#[98, 111, 98]⟩, .int .i64 1, .int .i64 4, .int .i64 0, .int .i64 0, .string ⟨#[]⟩, .string ⟨#[98, 111, 98]⟩, .int .i64 0, .int .i64 4, .int .i64 0, .int .i64 0, .string ⟨#[]⟩] 34))
      replace D6 := below_alloc0 D6 (.cells #[.string ⟨#[98, 111, 98]⟩, .int .i64 1, .int .i64 4, .int .i64 0, .int .i64 0, .string ⟨#[]⟩, .string ⟨#[98, 111, 98]⟩, .int .i64 0, .int .i64 4, .int .i64 0, .int .i64 0, .string ⟨#[]⟩] 34)
      refine hK.out _ _ (by (try dsimp only); (exact ⟨g0, p0, p1, p2, p3, p4, p5, q0, q1, q2, q3, q4, q5⟩)) (fun hHeld => ?_)
      clear hK K
      try simp only [Act.put, List.getElem_toArray, List.getElem_cons_succ, List.getElem_cons_zero, List.setIfInBounds_toArray, List.set_cons_zero, List.set_cons_succ]
      refine wpAnyH_ready (rs := [65]) (by kernel_rfl) (by simp) ?_
      refine AllReadyH.cons rfl (fun K hK => ?_) ?_
      · go_simp
        go_at_call 17
        with_reducible refine (May9_is 2 2 _ [sB1, sB0] _ h2 false (sz9 _ (by decide)) l9h).mono ?_
        rintro e wb ⟨rfl, hbx⟩
        replace g0 := cell_below hbx g0
        replace p0 := cell_below hbx p0
        replace p1 := cell_below hbx p1
        replace p2 := cell_below hbx p2
        replace p3 := cell_below hbx p3
        replace p4 := cell_below hbx p4
        replace p5 := cell_below hbx p5
        replace q0 := cell_below hbx q0
        replace q1 := cell_below hbx q1
        replace q2 := cell_below hbx q2
        replace q3 := cell_below hbx q3
        replace q4 := cell_below hbx q4
        replace q5 := cell_below hbx q5
        replace r3 := r3.below hbx
        replace D6 := below_call D6 hbx
        refine hK.out _ _ (by (try dsimp only); (exact ⟨g0, p0, p1, p2, p3, p4, p5, q0, q1, q2, q3, q4, q5⟩)) (fun hHeld => ?_)
        clear hK K
        try simp only [Act.put, List.getElem_toArray, List.getElem_cons_succ, List.getElem_cons_zero, List.setIfInBounds_toArray, List.set_cons_zero, List.set_cons_succ]
        refine wpAnyH_take (i := 66) (v := ?vx64) rfl (by kernel_rfl) (by kernel_rfl) (by kernel_rfl) (fun _ _ _ h => h) (Or.inl ⟨by kernel_rfl, ?hyx64⟩) (by assumption) ?restx64
        case hyx64 => (intro w hSw; (try dsimp only at hSw); go_simp; (try (first | with_reducible rfl | rw [if_neg (by omega)])))
        try simp only [Act.put, List.getElem_toArray, List.getElem_cons_succ, List.getElem_cons_zero, List.setIfInBounds_toArray, List.set_cons_zero, List.set_cons_succ]
        refine wpAnyH_take (i := 67) (v := ?vx65) rfl (by kernel_rfl) (by kernel_rfl) (by kernel_rfl) (fun _ _ _ h => h) (Or.inl ⟨by kernel_rfl, ?hyx65⟩) (by assumption) ?restx65
        case hyx65 => (intro w hSw; (try dsimp only at hSw); go_simp; (try (first | with_reducible rfl | rw [if_neg (by omega)])))
        try simp only [Act.put, List.getElem_toArray, List.getElem_cons_succ, List.getElem_cons_zero, List.setIfInBounds_toArray, List.set_cons_zero, List.set_cons_succ]
        refine wpAnyH_take (i := 68) (v := ?vx66) rfl (by kernel_rfl) (by kernel_rfl) (by kernel_rfl) (fun _ _ _ h => h) (Or.inl ⟨by kernel_rfl, ?hyx66⟩) (by assumption) ?restx66
        case hyx66 => (intro w hSw; (try dsimp only at hSw); go_simp; (try (first | with_reducible rfl | rw [if_neg (by omega)])))
        try simp only [Act.put, List.getElem_toArray, List.getElem_cons_succ, List.getElem_cons_zero, List.setIfInBounds_toArray, List.set_cons_zero, List.set_cons_succ]
        refine wpAnyH_take (i := 69) (v := ?vx67) rfl (by kernel_rfl) (by kernel_rfl) (by kernel_rfl) (fun _ _ _ h => h) (Or.inl ⟨by kernel_rfl, ?hyx67⟩) (by assumption) ?restx67
        case hyx67 => (intro w hSw; (try dsimp only at hSw); go_simp; (try (first | with_reducible rfl | rw [if_neg (by omega)])))
        try simp only [Act.put, List.getElem_toArray, List.getElem_cons_succ, List.getElem_cons_zero, List.setIfInBounds_toArray, List.set_cons_zero, List.set_cons_succ]
        refine wpAnyH_ready (rs := [70]) (by kernel_rfl) (by simp) ?_
        refine AllReadyH.cons rfl (fun K hK => ?_) ?_
        · go_simp
          go_at_call 20
          with_reducible refine (Of9_is 3 c3 _ [sA0, sB0, sB1] _ r3 bBo [sB0, sB1] (by decide) l9i).mono ?_
          rintro e wc ⟨vo, rfl, ro, hbx⟩
          obtain ⟨Ao, co, rfl⟩ := ro.form 2 rfl
          replace g0 := cell_below hbx g0
          replace p0 := cell_below hbx p0
          replace p1 := cell_below hbx p1
          replace p2 := cell_below hbx p2
          replace p3 := cell_below hbx p3
          replace p4 := cell_below hbx p4
          replace p5 := cell_below hbx p5
          replace q0 := cell_below hbx q0
          replace q1 := cell_below hbx q1
          replace q2 := cell_below hbx q2
          replace q3 := cell_below hbx q3
          replace q4 := cell_below hbx q4
          replace q5 := cell_below hbx q5
          replace r3 := r3.below hbx
          replace D6 := below_call D6 hbx
          refine hK.out _ _ (by (try dsimp only); (exact ⟨g0, p0, p1, p2, p3, p4, p5, q0, q1, q2, q3, q4, q5⟩)) (fun hHeld => ?_)
          clear hK K
          try simp only [Act.put, List.getElem_toArray, List.getElem_cons_succ, List.getElem_cons_zero, List.setIfInBounds_toArray, List.set_cons_zero, List.set_cons_succ]
          refine wpAnyH_take (i := 71) (v := ?vx68) rfl (by kernel_rfl) (by kernel_rfl) (by kernel_rfl) (fun _ _ _ h => h) (Or.inl ⟨by kernel_rfl, ?hyx68⟩) (by assumption) ?restx68
          case hyx68 => (intro w hSw; (try dsimp only at hSw); go_simp; (try (first | with_reducible rfl | rw [if_neg (by omega)])))
          try simp only [Act.put, List.getElem_toArray, List.getElem_cons_succ, List.getElem_cons_zero, List.setIfInBounds_toArray, List.set_cons_zero, List.set_cons_succ]
          refine wpAnyH_take (i := 72) (v := ?vx69) rfl (by kernel_rfl) (by kernel_rfl) (by kernel_rfl) (fun _ _ _ h => h) (Or.inl ⟨by kernel_rfl, ?hyx69⟩) (by assumption) ?restx69
          case hyx69 => (intro w hSw; (try dsimp only at hSw); go_simp; (try (first | with_reducible rfl | rw [if_neg (by omega)])))
          try simp only [Act.put, List.getElem_toArray, List.getElem_cons_succ, List.getElem_cons_zero, List.setIfInBounds_toArray, List.set_cons_zero, List.set_cons_succ]
          refine wpAnyH_take (i := 73) (v := ?vx70) rfl (by kernel_rfl) (by kernel_rfl) (by kernel_rfl) (fun _ _ _ h => h) (Or.inl ⟨by kernel_rfl, ?hyx70⟩) (by assumption) ?restx70
          case hyx70 => (intro w hSw; (try dsimp only at hSw); go_simp; (try (first | with_reducible rfl | rw [if_neg (by omega)])))
          try simp only [Act.put, List.getElem_toArray, List.getElem_cons_succ, List.getElem_cons_zero, List.setIfInBounds_toArray, List.set_cons_zero, List.set_cons_succ]
          refine wpAnyH_take (i := 74) (v := ?vx71) rfl (by kernel_rfl) (by kernel_rfl) (by kernel_rfl) (fun _ _ _ h => h) (Or.inl ⟨by kernel_rfl, ?hyx71⟩) (by assumption) ?restx71
          case hyx71 => (intro w hSw; (try dsimp only at hSw); go_simp; (try (first | with_reducible rfl | rw [if_neg (by omega)])))
          try simp only [Act.put, List.getElem_toArray, List.getElem_cons_succ, List.getElem_cons_zero, List.setIfInBounds_toArray, List.set_cons_zero, List.set_cons_succ]
          refine wpAnyH_take (i := 75) (v := ?vx72) rfl (by kernel_rfl) (by kernel_rfl) (by kernel_rfl) (fun _ _ _ h => h) (Or.inl ⟨by kernel_rfl, ?hyx72⟩) (by assumption) ?restx72
          case hyx72 => (intro w hSw; (try dsimp only at hSw); go_simp; (try (first | with_reducible rfl | rw [if_neg (by omega)])))
          try simp only [Act.put, List.getElem_toArray, List.getElem_cons_succ, List.getElem_cons_zero, List.setIfInBounds_toArray, List.set_cons_zero, List.set_cons_succ]
          refine wpAnyH_ready (rs := [76, 77]) (by kernel_rfl) (by simp) ?_
          refine AllReadyH.cons rfl (fun K hK => ?_) ?_
          · go_simp
            go_at_call 23
            with_reducible refine (Users9_is 3 c3 _ [sA0, sB0, sB1] _ r3 [bAl, bBo] (by decide) l9j).mono ?_
            rintro e wd ⟨vu, rfl, ru, hbx⟩
            obtain ⟨Au, cu, rfl⟩ := ru.form 2 rfl
            replace g0 := cell_below hbx g0
            replace p0 := cell_below hbx p0
            replace p1 := cell_below hbx p1
            replace p2 := cell_below hbx p2
            replace p3 := cell_below hbx p3
            replace p4 := cell_below hbx p4
            replace p5 := cell_below hbx p5
            replace q0 := cell_below hbx q0
            replace q1 := cell_below hbx q1
            replace q2 := cell_below hbx q2
            replace q3 := cell_below hbx q3
            replace q4 := cell_below hbx q4
            replace q5 := cell_below hbx q5
            replace r3 := r3.below hbx
            replace D6 := below_call D6 hbx
            (try replace hlit := hlit.below hbx)
            refine hK.out _ _ (by (try dsimp only); (exact ⟨g0, p0, p1, p2, p3, p4, p5, q0, q1, q2, q3, q4, q5⟩)) (fun hHeld => ?_)
            clear hK K
            try simp only [Act.put, List.getElem_toArray, List.getElem_cons_succ, List.getElem_cons_zero, List.setIfInBounds_toArray, List.set_cons_zero, List.set_cons_succ]
            refine wpAnyH_ready (rs := [77]) (by kernel_rfl) (by simp) ?_
            refine AllReadyH.cons rfl (fun K hK => ?_) ?_
            · go_simp
              first | (have hlit := (Own.lit (e := 9) (base := 0) enS_len wd [bAl, bBo] #[.string ⟨#[97, 108]⟩, .string ⟨#[98, 111, 98]⟩] 2 rfl rfl (Nat.zero_le _) (by omega)).row) | (have hlit := (Own.lit (e := 9) (base := 0) enS_len wc [bAl, bBo] #[.string ⟨#[97, 108]⟩, .string ⟨#[98, 111, 98]⟩] 2 rfl rfl (Nat.zero_le _) (by omega)).row)
              replace g0 := cell_below (below_box (.cells #[.string ⟨#[97, 108]⟩, .string ⟨#[98, 111, 98]⟩] 9)) g0
              replace p0 := cell_below (below_box (.cells #[.string ⟨#[97, 108]⟩, .string ⟨#[98, 111, 98]⟩] 9)) p0
              replace p1 := cell_below (below_box (.cells #[.string ⟨#[97, 108]⟩, .string ⟨#[98, 111, 98]⟩] 9)) p1
              replace p2 := cell_below (below_box (.cells #[.string ⟨#[97, 108]⟩, .string ⟨#[98, 111, 98]⟩] 9)) p2
              replace p3 := cell_below (below_box (.cells #[.string ⟨#[97, 108]⟩, .string ⟨#[98, 111, 98]⟩] 9)) p3
              replace p4 := cell_below (below_box (.cells #[.string ⟨#[97, 108]⟩, .string ⟨#[98, 111, 98]⟩] 9)) p4
              replace p5 := cell_below (below_box (.cells #[.string ⟨#[97, 108]⟩, .string ⟨#[98, 111, 98]⟩] 9)) p5
              replace q0 := cell_below (below_box (.cells #[.string ⟨#[97, 108]⟩, .string ⟨#[98, 111, 98]⟩] 9)) q0
              replace q1 := cell_below (below_box (.cells #[.string ⟨#[97, 108]⟩, .string ⟨#[98, 111, 98]⟩] 9)) q1
              replace q2 := cell_below (below_box (.cells #[.string ⟨#[97, 108]⟩, .string ⟨#[98, 111, 98]⟩] 9)) q2
              replace q3 := cell_below (below_box (.cells #[.string ⟨#[97, 108]⟩, .string ⟨#[98, 111, 98]⟩] 9)) q3
              replace q4 := cell_below (below_box (.cells #[.string ⟨#[97, 108]⟩, .string ⟨#[98, 111, 98]⟩] 9)) q4
              replace q5 := cell_below (below_box (.cells #[.string ⟨#[97, 108]⟩, .string ⟨#[98, 111, 98]⟩] 9)) q5
              replace r3 := r3.below (below_box (.cells #[.string ⟨#[97, 108]⟩, .string ⟨#[98, 111, 98]⟩] 9))
              replace D6 := below_alloc0 D6 (.cells #[.string ⟨#[97, 108]⟩, .string ⟨#[98, 111, 98]⟩] 9)
              (try replace ru := ru.below (below_box (.cells #[.string ⟨#[97, 108]⟩, .string ⟨#[98, 111, 98]⟩] 9)))
              refine hK.out _ _ (by (try dsimp only); (exact ⟨g0, p0, p1, p2, p3, p4, p5, q0, q1, q2, q3, q4, q5⟩)) (fun hHeld => ?_)
              clear hK K
              try simp only [Act.put, List.getElem_toArray, List.getElem_cons_succ, List.getElem_cons_zero, List.setIfInBounds_toArray, List.set_cons_zero, List.set_cons_succ]
              refine wpAnyH_ready (rs := [78]) (by kernel_rfl) (by simp) ?_
              refine AllReadyH.cons rfl (fun K hK => ?_) ?_
              · go_simp
                go_at_call 22
                with_reducible refine (re_ (refSame_calls 2 cu 2 2 _ _ [bAl, bBo] [bAl, bBo] _ ru hlit) (ret_bool (decide_eq_true rfl))).mono ?_
                rintro e we ⟨rfl, hbx⟩
                replace g0 := cell_below hbx g0
                replace p0 := cell_below hbx p0
                replace p1 := cell_below hbx p1
                replace p2 := cell_below hbx p2
                replace p3 := cell_below hbx p3
                replace p4 := cell_below hbx p4
                replace p5 := cell_below hbx p5
                replace q0 := cell_below hbx q0
                replace q1 := cell_below hbx q1
                replace q2 := cell_below hbx q2
                replace q3 := cell_below hbx q3
                replace q4 := cell_below hbx q4
                replace q5 := cell_below hbx q5
                replace r3 := r3.below hbx
                replace D6 := below_call D6 hbx
                refine hK.out _ _ (by (try dsimp only); (exact ⟨g0, p0, p1, p2, p3, p4, p5, q0, q1, q2, q3, q4, q5⟩)) (fun hHeld => ?_)
                clear hK K
                try simp only [Act.put, List.getElem_toArray, List.getElem_cons_succ, List.getElem_cons_zero, List.setIfInBounds_toArray, List.set_cons_zero, List.set_cons_succ]
                refine wpAnyH_take (i := 79) (v := ?vx73) rfl (by kernel_rfl) (by kernel_rfl) (by kernel_rfl) (fun _ _ _ h => h) (Or.inl ⟨by kernel_rfl, ?hyx73⟩) (by assumption) ?restx73
                case hyx73 => (intro w hSw; (try dsimp only at hSw); go_simp; (try (first | with_reducible rfl | rw [if_neg (by omega)])))
                try simp only [Act.put, List.getElem_toArray, List.getElem_cons_succ, List.getElem_cons_zero, List.setIfInBounds_toArray, List.set_cons_zero, List.set_cons_succ]
                refine wpAnyH_take (i := 80) (v := ?vx74) rfl (by kernel_rfl) (by kernel_rfl) (by kernel_rfl) (fun _ _ _ h => h) (Or.inl ⟨by kernel_rfl, ?hyx74⟩) (by assumption) ?restx74
                case hyx74 => (intro w hSw; (try dsimp only at hSw); go_simp; (try (first | with_reducible rfl | rw [if_neg (by omega)])))
                try simp only [Act.put, List.getElem_toArray, List.getElem_cons_succ, List.getElem_cons_zero, List.setIfInBounds_toArray, List.set_cons_zero, List.set_cons_succ]
                refine wpAnyH_done (by kernel_rfl) ?_ _
                go_wp2
                go_ret
                rename_i x1 d1 h1 x2 d2 h2
                obtain rfl : (0 : Nat) = d1 := Option.some.inj (Eq.trans (show some (0 : Nat) = _ by kernel_rfl) h1)
                obtain rfl : (131 : Nat) = d2 := Option.some.inj (Eq.trans (show some (131 : Nat) = _ by kernel_rfl) h2)
                exact ⟨by kernel_rfl, D6⟩
              exact AllReadyH.nil
            exact AllReadyH.nil
          refine AllReadyH.cons rfl (fun K hK => ?_) ?_
          · go_simp
            first | (have hlit := (Own.lit (e := 9) (base := 0) enS_len wd [bAl, bBo] #[.string ⟨#[97, 108]⟩, .string ⟨#[98, 111, 98]⟩] 2 rfl rfl (Nat.zero_le _) (by omega)).row) | (have hlit := (Own.lit (e := 9) (base := 0) enS_len wc [bAl, bBo] #[.string ⟨#[97, 108]⟩, .string ⟨#[98, 111, 98]⟩] 2 rfl rfl (Nat.zero_le _) (by omega)).row)
            replace g0 := cell_below (below_box (.cells #[.string ⟨#[97, 108]⟩, .string ⟨#[98, 111, 98]⟩] 9)) g0
            replace p0 := cell_below (below_box (.cells #[.string ⟨#[97, 108]⟩, .string ⟨#[98, 111, 98]⟩] 9)) p0
            replace p1 := cell_below (below_box (.cells #[.string ⟨#[97, 108]⟩, .string ⟨#[98, 111, 98]⟩] 9)) p1
            replace p2 := cell_below (below_box (.cells #[.string ⟨#[97, 108]⟩, .string ⟨#[98, 111, 98]⟩] 9)) p2
            replace p3 := cell_below (below_box (.cells #[.string ⟨#[97, 108]⟩, .string ⟨#[98, 111, 98]⟩] 9)) p3
            replace p4 := cell_below (below_box (.cells #[.string ⟨#[97, 108]⟩, .string ⟨#[98, 111, 98]⟩] 9)) p4
            replace p5 := cell_below (below_box (.cells #[.string ⟨#[97, 108]⟩, .string ⟨#[98, 111, 98]⟩] 9)) p5
            replace q0 := cell_below (below_box (.cells #[.string ⟨#[97, 108]⟩, .string ⟨#[98, 111, 98]⟩] 9)) q0
            replace q1 := cell_below (below_box (.cells #[.string ⟨#[97, 108]⟩, .string ⟨#[98, 111, 98]⟩] 9)) q1
            replace q2 := cell_below (below_box (.cells #[.string ⟨#[97, 108]⟩, .string ⟨#[98, 111, 98]⟩] 9)) q2
            replace q3 := cell_below (below_box (.cells #[.string ⟨#[97, 108]⟩, .string ⟨#[98, 111, 98]⟩] 9)) q3
            replace q4 := cell_below (below_box (.cells #[.string ⟨#[97, 108]⟩, .string ⟨#[98, 111, 98]⟩] 9)) q4
            replace q5 := cell_below (below_box (.cells #[.string ⟨#[97, 108]⟩, .string ⟨#[98, 111, 98]⟩] 9)) q5
            replace r3 := r3.below (below_box (.cells #[.string ⟨#[97, 108]⟩, .string ⟨#[98, 111, 98]⟩] 9))
            replace D6 := below_alloc0 D6 (.cells #[.string ⟨#[97, 108]⟩, .string ⟨#[98, 111, 98]⟩] 9)
            (try replace ru := ru.below (below_box (.cells #[.string ⟨#[97, 108]⟩, .string ⟨#[98, 111, 98]⟩] 9)))
            refine hK.out _ _ (by (try dsimp only); (exact ⟨g0, p0, p1, p2, p3, p4, p5, q0, q1, q2, q3, q4, q5⟩)) (fun hHeld => ?_)
            clear hK K
            try simp only [Act.put, List.getElem_toArray, List.getElem_cons_succ, List.getElem_cons_zero, List.setIfInBounds_toArray, List.set_cons_zero, List.set_cons_succ]
            refine wpAnyH_ready (rs := [76]) (by kernel_rfl) (by simp) ?_
            refine AllReadyH.cons rfl (fun K hK => ?_) ?_
            · go_simp
              go_at_call 23
              with_reducible refine (Users9_is 3 c3 _ [sA0, sB0, sB1] _ r3 [bAl, bBo] (by decide) l9j).mono ?_
              rintro e wd ⟨vu, rfl, ru, hbx⟩
              obtain ⟨Au, cu, rfl⟩ := ru.form 2 rfl
              replace g0 := cell_below hbx g0
              replace p0 := cell_below hbx p0
              replace p1 := cell_below hbx p1
              replace p2 := cell_below hbx p2
              replace p3 := cell_below hbx p3
              replace p4 := cell_below hbx p4
              replace p5 := cell_below hbx p5
              replace q0 := cell_below hbx q0
              replace q1 := cell_below hbx q1
              replace q2 := cell_below hbx q2
              replace q3 := cell_below hbx q3
              replace q4 := cell_below hbx q4
              replace q5 := cell_below hbx q5
              replace r3 := r3.below hbx
              replace D6 := below_call D6 hbx
              (try replace hlit := hlit.below hbx)
              refine hK.out _ _ (by (try dsimp only); (exact ⟨g0, p0, p1, p2, p3, p4, p5, q0, q1, q2, q3, q4, q5⟩)) (fun hHeld => ?_)
              clear hK K
              try simp only [Act.put, List.getElem_toArray, List.getElem_cons_succ, List.getElem_cons_zero, List.setIfInBounds_toArray, List.set_cons_zero, List.set_cons_succ]
              refine wpAnyH_ready (rs := [78]) (by kernel_rfl) (by simp) ?_
              refine AllReadyH.cons rfl (fun K hK => ?_) ?_
              · go_simp
                go_at_call 22
                with_reducible refine (re_ (refSame_calls 2 cu 2 2 _ _ [bAl, bBo] [bAl, bBo] _ ru hlit) (ret_bool (decide_eq_true rfl))).mono ?_
                rintro e we ⟨rfl, hbx⟩
                replace g0 := cell_below hbx g0
                replace p0 := cell_below hbx p0
                replace p1 := cell_below hbx p1
                replace p2 := cell_below hbx p2
                replace p3 := cell_below hbx p3
                replace p4 := cell_below hbx p4
                replace p5 := cell_below hbx p5
                replace q0 := cell_below hbx q0
                replace q1 := cell_below hbx q1
                replace q2 := cell_below hbx q2
                replace q3 := cell_below hbx q3
                replace q4 := cell_below hbx q4
                replace q5 := cell_below hbx q5
                replace r3 := r3.below hbx
                replace D6 := below_call D6 hbx
                refine hK.out _ _ (by (try dsimp only); (exact ⟨g0, p0, p1, p2, p3, p4, p5, q0, q1, q2, q3, q4, q5⟩)) (fun hHeld => ?_)
                clear hK K
                try simp only [Act.put, List.getElem_toArray, List.getElem_cons_succ, List.getElem_cons_zero, List.setIfInBounds_toArray, List.set_cons_zero, List.set_cons_succ]
                refine wpAnyH_take (i := 79) (v := ?vx75) rfl (by kernel_rfl) (by kernel_rfl) (by kernel_rfl) (fun _ _ _ h => h) (Or.inl ⟨by kernel_rfl, ?hyx75⟩) (by assumption) ?restx75
                case hyx75 => (intro w hSw; (try dsimp only at hSw); go_simp; (try (first | with_reducible rfl | rw [if_neg (by omega)])))
                try simp only [Act.put, List.getElem_toArray, List.getElem_cons_succ, List.getElem_cons_zero, List.setIfInBounds_toArray, List.set_cons_zero, List.set_cons_succ]
                refine wpAnyH_take (i := 80) (v := ?vx76) rfl (by kernel_rfl) (by kernel_rfl) (by kernel_rfl) (fun _ _ _ h => h) (Or.inl ⟨by kernel_rfl, ?hyx76⟩) (by assumption) ?restx76
                case hyx76 => (intro w hSw; (try dsimp only at hSw); go_simp; (try (first | with_reducible rfl | rw [if_neg (by omega)])))
                try simp only [Act.put, List.getElem_toArray, List.getElem_cons_succ, List.getElem_cons_zero, List.setIfInBounds_toArray, List.set_cons_zero, List.set_cons_succ]
                refine wpAnyH_done (by kernel_rfl) ?_ _
                go_wp2
                go_ret
                rename_i x1 d1 h1 x2 d2 h2
                obtain rfl : (0 : Nat) = d1 := Option.some.inj (Eq.trans (show some (0 : Nat) = _ by kernel_rfl) h1)
                obtain rfl : (131 : Nat) = d2 := Option.some.inj (Eq.trans (show some (131 : Nat) = _ by kernel_rfl) h2)
                exact ⟨by kernel_rfl, D6⟩
              exact AllReadyH.nil
            exact AllReadyH.nil
          exact AllReadyH.nil
        exact AllReadyH.nil
      exact AllReadyH.nil
    exact AllReadyH.nil
  exact AllReadyH.nil
end Go.Proofs.Ytcopiimflloooaa
