/-
Layer 14: 'live' of the statements on states.
-/
import Derived.Test.YtpmafghknafhaaaGreatStF
set_option linter.unusedVariables false
set_option linter.unusedSimpArgs false
namespace Go.Proofs.YtpmafghknafhaaaGreat
open Go.RowKit
open Sp
def es14 : List Evt := [⟨7, ⟨#[97, 110, 110]⟩, ⟨#[]⟩, 1, (4, 0, 0, ⟨#[]⟩)⟩, ⟨1, ⟨#[98, 111, 98]⟩, ⟨#[97, 110, 110]⟩, 0, (0, 0, 0, ⟨#[]⟩)⟩, ⟨2, ⟨#[97, 110, 110]⟩, ⟨#[98, 111, 98]⟩, 0, (0, 0, 0, ⟨#[]⟩)⟩, ⟨8, ⟨#[97, 110, 110]⟩, ⟨#[]⟩, 2, (0, 0, 0, ⟨#[]⟩)⟩, ⟨9, ⟨#[]⟩, ⟨#[]⟩, 0, (0, 0, 0, ⟨#[]⟩)⟩, ⟨1, ⟨#[98, 111, 98]⟩, ⟨#[97, 110, 110]⟩, 0, (0, 0, 0, ⟨#[]⟩)⟩]
abbrev se14 : Se := ⟨⟨#[97, 110, 110]⟩, 1, (4, 0, 0, ⟨#[]⟩)⟩
abbrev s14 : Sta := (m8, [se14])
theorem l14a : Hid (allT (([], []) : Sta) es14 = (s14, [0, 0, 0, 6, 1, 7])) := by show _ = _; decide +kernel
theorem l14b : Hid (applyT (s14.1, s14.2) ⟨8, ⟨#[97, 110, 110]⟩, ⟨#[]⟩, 1, (0, 0, 0, ⟨#[]⟩)⟩ = ((m8, []), 0)) := by show _ = _; decide +kernel
theorem l14c : Hid (mayT (m8, [se14]) = true) := by show _ = _; decide +kernel
theorem l14d : Hid (mayT (m8.take 1, []) = false) := by show _ = _; decide +kernel
theorem l14e : Hid (decide (((m8, [se14]) : Sta) = (m8, [se14])) = true) := by show _ = _; decide +kernel
theorem l14f : Hid (decide (((m8, [se14]) : Sta) = (m8, [])) = false) := by show _ = _; decide +kernel
theorem l14g : Hid (touchT ⟨5, ⟨#[98, 111, 98]⟩, ⟨#[97, 108]⟩, 0, (0, 0, 0, ⟨#[]⟩)⟩ = [⟨#[97, 108]⟩, ⟨#[98, 111, 98]⟩]) := by show _ = _; decide +kernel
theorem l14h : Hid (touchT ⟨8, ⟨#[98, 111, 98]⟩, ⟨#[97, 108]⟩, 0, (0, 0, 0, ⟨#[]⟩)⟩ = [⟨#[98, 111, 98]⟩]) := by show _ = _; decide +kernel
theorem sz14 : SzRo m8 := szRo_of _ (by decide)
theorem sz14t : SzRo (m8.take 1) := szRo_of _ (by decide)
theorem cell_of {W : World} {g : Nat} {cs : Array Value} {T : TypeId} {fr : Nat × Nat} (h : W.heap[g]? = some (.cells cs T fr)) (j : Nat) : W.cell? ⟨g, j, none⟩ = cs[j]? := by simp [World.cell?, h]
theorem sz14n : SzRo [] := fun s hs => by cases hs
theorem sy14 : SzSe [se14] := fun s hs => by
  obtain rfl : s = se14 := by simpa using hs
  decide
theorem sy14n : SzSe [] := fun s hs => by cases hs
theorem sv14 : SzEv es14 := fun e he => by
  simp only [es14, List.mem_cons, List.not_mem_nil, or_false] at he
  rcases he with rfl | rfl | rfl | rfl | rfl | rfl <;> decide
theorem row14 (W : World) (cs : Array Value) (hc : cs = #[.int .i64 7, .string ⟨#[97, 110, 110]⟩, .string ⟨#[]⟩, .int .i64 1, .int .i64 4, .int .i64 0, .int .i64 0, .string ⟨#[]⟩, .int .i64 1, .string ⟨#[98, 111, 98]⟩, .string ⟨#[97, 110, 110]⟩, .int .i64 0, .int .i64 0, .int .i64 0, .int .i64 0, .string ⟨#[]⟩, .int .i64 2, .string ⟨#[97, 110, 110]⟩, .string ⟨#[98, 111, 98]⟩, .int .i64 0, .int .i64 0, .int .i64 0, .int .i64 0, .string ⟨#[]⟩, .int .i64 8, .string ⟨#[97, 110, 110]⟩, .string ⟨#[]⟩, .int .i64 2, .int .i64 0, .int .i64 0, .int .i64 0, .string ⟨#[]⟩, .int .i64 9, .string ⟨#[]⟩, .string ⟨#[]⟩, .int .i64 0, .int .i64 0, .int .i64 0, .int .i64 0, .string ⟨#[]⟩, .int .i64 1, .string ⟨#[98, 111, 98]⟩, .string ⟨#[97, 110, 110]⟩, .int .i64 0, .int .i64 0, .int .i64 0, .int .i64 0, .string ⟨#[]⟩]) : Row enEv 8 (W.alloc (.cells cs 29)) (.slice (some ⟨W.heap.size, 0, none⟩) 6 6) es14 := by
  subst hc
  exact (Own.lit (base := W.heap.size) enEv_len W es14 _ 6 rfl rfl (Nat.le_refl _) (by decide)).row
theorem rowS1 (W : World) : Row enS 1 (W.alloc (.cells #[.string ⟨#[97, 108]⟩, .string ⟨#[98, 111, 98]⟩] 9)) (.slice (some ⟨W.heap.size, 0, none⟩) 2 2) [⟨#[97, 108]⟩, ⟨#[98, 111, 98]⟩] := (Own.lit (base := W.heap.size) enS_len W _ _ 2 rfl rfl (Nat.le_refl _) (by decide)).row
theorem rowS2 (W : World) : Row enS 1 (W.alloc (.cells #[.string ⟨#[98, 111, 98]⟩] 9)) (.slice (some ⟨W.heap.size, 0, none⟩) 1 1) [⟨#[98, 111, 98]⟩] := (Own.lit (base := W.heap.size) enS_len W _ _ 1 rfl rfl (Nat.le_refl _) (by decide)).row
set_option maxHeartbeats 16000000 in
set_option maxRecDepth 100000 in
theorem live14 (w : World) : Calls Tryz.prog 9 #[] w fun e w' => e = .returned (.bool true) ∧ Below w.heap.size w w' := by
  have D := below_box (w := w) (.cells #[.int .i64 4, .int .i64 0, .int .i64 0, .string ⟨#[]⟩] 27)
  have hv := heap_alloc_new w (.cells #[.int .i64 4, .int .i64 0, .int .i64 0, .string ⟨#[]⟩] 27)
  have v0 : (w.alloc (.cells #[.int .i64 4, .int .i64 0, .int .i64 0, .string ⟨#[]⟩] 27)).cell? ⟨w.heap.size, 0, none⟩ = some (.int .i64 4) := (cell_of hv 0).trans rfl
  have v1 : (w.alloc (.cells #[.int .i64 4, .int .i64 0, .int .i64 0, .string ⟨#[]⟩] 27)).cell? ⟨w.heap.size, 1, none⟩ = some (.int .i64 0) := (cell_of hv 1).trans rfl
  have v2 : (w.alloc (.cells #[.int .i64 4, .int .i64 0, .int .i64 0, .string ⟨#[]⟩] 27)).cell? ⟨w.heap.size, 2, none⟩ = some (.int .i64 0) := (cell_of hv 2).trans rfl
  have v3 : (w.alloc (.cells #[.int .i64 4, .int .i64 0, .int .i64 0, .string ⟨#[]⟩] 27)).cell? ⟨w.heap.size, 3, none⟩ = some (.string ⟨#[]⟩) := (cell_of hv 3).trans rfl
  have hes := row14 (w.alloc (.cells #[.int .i64 4, .int .i64 0, .int .i64 0, .string ⟨#[]⟩] 27)) _ rfl
  rw [size_alloc] at hes
  go_enter Tryz.func9, Tryz.ntmps9
  replace D := below_alloc0 D (.cells #[.int .i64 7, .string ⟨#[97, 110, 110]⟩, .string ⟨#[]⟩, .int .i64 1, .int .i64 4, .int .i64 0, .int .i64 0, .string ⟨#[]⟩, .int .i64 1, .string ⟨#[98, 111, 98]⟩, .string ⟨#[97, 110, 110]⟩, .int .i64 0, .int .i64 0, .int .i64 0, .int .i64 0, .string ⟨#[]⟩, .int .i64 2, .string ⟨#[97, 110, 110]⟩, .string ⟨#[98, 111, 98]⟩, .int .i64 0, .int .i64 0, .int .i64 0, .int .i64 0, .string ⟨#[]⟩, .int .i64 8, .string ⟨#[97, 110, 110]⟩, .string ⟨#[]⟩, .int .i64 2, .int .i64 0, .int .i64 0, .int .i64 0, .string ⟨#[]⟩, .int .i64 9, .string ⟨#[]⟩, .string ⟨#[]⟩, .int .i64 0, .int .i64 0, .int .i64 0, .int .i64 0, .string ⟨#[]⟩, .int .i64 1, .string ⟨#[98, 111, 98]⟩, .string ⟨#[97, 110, 110]⟩, .int .i64 0, .int .i64 0, .int .i64 0, .int .i64 0, .string ⟨#[]⟩] 29)
  go_wp2_with fail
  with_reducible refine (AllT_is 0 0 none [] 0 0 none [] _ (Row.nil _ _ _) (Row.nil _ _ _) sz14n sy14n (by decide) 6 6 _ es14 hes (by decide) sv14 s14 _ l14a).mono ?_
  rintro e w1 ⟨A1, n1, c1, B1, m1, d1, vx, rfl, sl, ss, rx, b1⟩
  replace D := below_call D b1
  clear b1 v0 v1 v2 v3 hv
  clear hes
  obtain rfl : n1 = 2 := sl.len_eq
  obtain rfl : m1 = 1 := ss.len_eq
  obtain ⟨Ax, cx, rfl⟩ := rx.form8 6 rfl
  have SB := heap_alloc_new w1 (bxT A1 2 c1 B1 1 d1)
  replace sl := sl.below (below_box (bxT A1 2 c1 B1 1 d1))
  replace ss := ss.below (below_box (bxT A1 2 c1 B1 1 d1))
  replace rx := rx.below (below_box (bxT A1 2 c1 B1 1 d1))
  replace D := below_alloc0 D (bxT A1 2 c1 B1 1 d1)
  obtain ⟨s0, s1, sz⟩ := cellsT SB
  go_wp2_with fail
  refine (ApplyT_is 2 c1 A1 m8 1 d1 B1 [se14] _ sl ss sz14 sy14 (by decide) 8 ⟨#[97, 110, 110]⟩ ⟨#[]⟩ 1 0 0 0 ⟨#[]⟩ (by decide) (by decide) (by decide) 0 (m8, []) l14b).mono ?_
  rintro e w2 ⟨A2, n2, c2, B2, m2, d2, rfl, tl, ts, b2, -, -⟩
  replace sl := sl.below b2
  replace ss := ss.below b2
  replace rx := rx.below b2
  replace SB := hcall SB b2
  replace D := below_call D b2
  clear b2 s0 s1 sz
  obtain rfl : n2 = 2 := tl.len_eq
  obtain rfl : m2 = 0 := ts.len_eq
  have TB := heap_alloc_new w2 (bxT A2 2 c2 B2 0 d2)
  replace sl := sl.below (below_box (bxT A2 2 c2 B2 0 d2))
  replace ss := ss.below (below_box (bxT A2 2 c2 B2 0 d2))
  replace rx := rx.below (below_box (bxT A2 2 c2 B2 0 d2))
  replace SB := halloc SB (bxT A2 2 c2 B2 0 d2)
  replace tl := tl.below (below_box (bxT A2 2 c2 B2 0 d2))
  replace ts := ts.below (below_box (bxT A2 2 c2 B2 0 d2))
  replace D := below_alloc0 D (bxT A2 2 c2 B2 0 d2)
  obtain ⟨_, _, hxe, _, _, _, hxc⟩ := id rx
  obtain ⟨adx, hxa, hxg⟩ := hxc (by decide)
  injection hxe with hx1 hx2 hx3
  subst hx1
  subst hxa
  clear hx2 hx3 hxc
  have x0 := hxg 0 (.int .i64 0) rfl
  have y0 : (w2.alloc (bxT A2 2 c2 B2 0 d2)).cell? adx = some (.int .i64 0) := by simpa [Addr.add] using x0
  have x1 := hxg 1 (.int .i64 0) rfl
  have y1 : (w2.alloc (bxT A2 2 c2 B2 0 d2)).cell? ⟨adx.block, adx.off + 1, none⟩ = some (.int .i64 0) := by simpa [Addr.add] using x1
  have x2 := hxg 2 (.int .i64 0) rfl
  have y2 : (w2.alloc (bxT A2 2 c2 B2 0 d2)).cell? ⟨adx.block, adx.off + 2, none⟩ = some (.int .i64 0) := by simpa [Addr.add] using x2
  have x3 := hxg 3 (.int .i64 6) rfl
  have y3 : (w2.alloc (bxT A2 2 c2 B2 0 d2)).cell? ⟨adx.block, adx.off + 3, none⟩ = some (.int .i64 6) := by simpa [Addr.add] using x3
  have x4 := hxg 4 (.int .i64 1) rfl
  have y4 : (w2.alloc (bxT A2 2 c2 B2 0 d2)).cell? ⟨adx.block, adx.off + 4, none⟩ = some (.int .i64 1) := by simpa [Addr.add] using x4
  have x5 := hxg 5 (.int .i64 7) rfl
  have y5 : (w2.alloc (bxT A2 2 c2 B2 0 d2)).cell? ⟨adx.block, adx.off + 5, none⟩ = some (.int .i64 7) := by simpa [Addr.add] using x5
  clear hxg
  obtain ⟨s0, s1, sz⟩ := cellsT SB
  obtain ⟨t0, t1, tz⟩ := cellsT TB
  obtain ⟨adl, rfl, -⟩ := sl.get enEn_len 0 (by decide)
  have hcm : (1 : Int) ≤ (c1 : Int) := by
    obtain ⟨_, _, he, h1, _⟩ := id sl
    injection he with _ _ h3
    subst h3
    have : (2 : Nat) ≤ c1 := h1
    omega
  have hcm2 : 1 ≤ c1 := by omega
  go_wp2_with fail
  with_reducible refine (MayT_is 2 c1 (some adl) m8 1 d1 B1 [se14] _ sl ss sz14 sy14 (by decide) true l14c).mono ?_
  rintro e w3 ⟨rfl, b3⟩
  replace sl := sl.below b3
  replace ss := ss.below b3
  replace rx := rx.below b3
  replace SB := hcall SB b3
  replace tl := tl.below b3
  replace ts := ts.below b3
  replace TB := hcall TB b3
  replace D := below_call D b3
  clear b3 s0 s1 sz t0 t1 tz x0 x1 x2 x3 x4 x5 y0 y1 y2 y3 y4 y5
  obtain ⟨s0, s1, sz⟩ := cellsT SB
  obtain ⟨t0, t1, tz⟩ := cellsT TB
  have sl1 := sl.take enEn_len 1 (by decide)
  go_wp2_with fail
  with_reducible refine (MayT_is 1 c1 (some adl) (m8.take 1) 0 0 none [] _ sl1 (Row.nil _ _ _) sz14t sy14n (by decide) false l14d).mono ?_
  rintro e w4 ⟨rfl, b4⟩
  replace sl := sl.below b4
  replace ss := ss.below b4
  replace rx := rx.below b4
  replace SB := hcall SB b4
  replace tl := tl.below b4
  replace ts := ts.below b4
  replace TB := hcall TB b4
  replace D := below_call D b4
  clear b4 s0 s1 sz t0 t1 tz
  clear sl1
  obtain ⟨s0, s1, sz⟩ := cellsT SB
  obtain ⟨t0, t1, tz⟩ := cellsT TB
  go_wp2_with fail
  with_reducible refine (SameT_is 2 c1 (some adl) m8 1 d1 B1 [se14] 2 c1 (some adl) m8 1 d1 B1 [se14] _ sl ss sl ss true l14e).mono ?_
  rintro e w5 ⟨rfl, b5⟩
  replace sl := sl.below b5
  replace ss := ss.below b5
  replace rx := rx.below b5
  replace SB := hcall SB b5
  replace tl := tl.below b5
  replace ts := ts.below b5
  replace TB := hcall TB b5
  replace D := below_call D b5
  clear b5 s0 s1 sz t0 t1 tz
  obtain ⟨s0, s1, sz⟩ := cellsT SB
  obtain ⟨t0, t1, tz⟩ := cellsT TB
  go_wp2_with fail
  with_reducible refine (SameT_is 2 c1 (some adl) m8 1 d1 B1 [se14] 2 c2 A2 m8 0 d2 B2 [] _ sl ss tl ts false l14f).mono ?_
  rintro e w6 ⟨rfl, b6⟩
  replace sl := sl.below b6
  replace ss := ss.below b6
  replace rx := rx.below b6
  replace SB := hcall SB b6
  replace tl := tl.below b6
  replace ts := ts.below b6
  replace TB := hcall TB b6
  replace D := below_call D b6
  clear b6 s0 s1 sz t0 t1 tz
  go_wp2_with fail
  with_reducible refine (Touch_is 5 ⟨#[98, 111, 98]⟩ ⟨#[97, 108]⟩ 0 0 0 0 ⟨#[]⟩ _ _ l14g).mono ?_
  rintro e w7 ⟨v5, rfl, r5, b7⟩
  replace sl := sl.below b7
  replace ss := ss.below b7
  replace rx := rx.below b7
  replace SB := hcall SB b7
  replace tl := tl.below b7
  replace ts := ts.below b7
  replace TB := hcall TB b7
  replace D := below_call D b7
  clear b7
  obtain ⟨A5, c5, rfl⟩ := r5.form8 2 rfl
  have rs := rowS1 w7
  replace sl := sl.below (below_box (.cells #[.string ⟨#[97, 108]⟩, .string ⟨#[98, 111, 98]⟩] 9))
  replace ss := ss.below (below_box (.cells #[.string ⟨#[97, 108]⟩, .string ⟨#[98, 111, 98]⟩] 9))
  replace rx := rx.below (below_box (.cells #[.string ⟨#[97, 108]⟩, .string ⟨#[98, 111, 98]⟩] 9))
  replace SB := halloc SB (.cells #[.string ⟨#[97, 108]⟩, .string ⟨#[98, 111, 98]⟩] 9)
  replace tl := tl.below (below_box (.cells #[.string ⟨#[97, 108]⟩, .string ⟨#[98, 111, 98]⟩] 9))
  replace ts := ts.below (below_box (.cells #[.string ⟨#[97, 108]⟩, .string ⟨#[98, 111, 98]⟩] 9))
  replace TB := halloc TB (.cells #[.string ⟨#[97, 108]⟩, .string ⟨#[98, 111, 98]⟩] 9)
  replace r5 := r5.below (below_box (.cells #[.string ⟨#[97, 108]⟩, .string ⟨#[98, 111, 98]⟩] 9))
  replace D := below_alloc0 D (.cells #[.string ⟨#[97, 108]⟩, .string ⟨#[98, 111, 98]⟩] 9)
  go_wp2_with fail
  with_reducible refine (re_ (refSame_calls _ _ _ _ _ _ _ _ _ r5 rs) (ret_bool (decide_eq_true rfl))).mono ?_
  rintro e w8 ⟨rfl, b8⟩
  replace sl := sl.below b8
  replace ss := ss.below b8
  replace rx := rx.below b8
  replace SB := hcall SB b8
  replace tl := tl.below b8
  replace ts := ts.below b8
  replace TB := hcall TB b8
  replace r5 := r5.below b8
  replace rs := rs.below b8
  replace D := below_call D b8
  clear b8
  clear r5 rs
  go_wp2_with fail
  with_reducible refine (Touch_is 8 ⟨#[98, 111, 98]⟩ ⟨#[97, 108]⟩ 0 0 0 0 ⟨#[]⟩ _ _ l14h).mono ?_
  rintro e w9 ⟨v5, rfl, r5, b9⟩
  replace sl := sl.below b9
  replace ss := ss.below b9
  replace rx := rx.below b9
  replace SB := hcall SB b9
  replace tl := tl.below b9
  replace ts := ts.below b9
  replace TB := hcall TB b9
  replace D := below_call D b9
  clear b9
  obtain ⟨A5, c5, rfl⟩ := r5.form8 1 rfl
  have rs := rowS2 w9
  replace sl := sl.below (below_box (.cells #[.string ⟨#[98, 111, 98]⟩] 9))
  replace ss := ss.below (below_box (.cells #[.string ⟨#[98, 111, 98]⟩] 9))
  replace rx := rx.below (below_box (.cells #[.string ⟨#[98, 111, 98]⟩] 9))
  replace SB := halloc SB (.cells #[.string ⟨#[98, 111, 98]⟩] 9)
  replace tl := tl.below (below_box (.cells #[.string ⟨#[98, 111, 98]⟩] 9))
  replace ts := ts.below (below_box (.cells #[.string ⟨#[98, 111, 98]⟩] 9))
  replace TB := halloc TB (.cells #[.string ⟨#[98, 111, 98]⟩] 9)
  replace r5 := r5.below (below_box (.cells #[.string ⟨#[98, 111, 98]⟩] 9))
  replace D := below_alloc0 D (.cells #[.string ⟨#[98, 111, 98]⟩] 9)
  go_wp2_with fail
  with_reducible refine (re_ (refSame_calls _ _ _ _ _ _ _ _ _ r5 rs) (ret_bool (decide_eq_true rfl))).mono ?_
  rintro e w10 ⟨rfl, b10⟩
  replace sl := sl.below b10
  replace ss := ss.below b10
  replace rx := rx.below b10
  replace SB := hcall SB b10
  replace tl := tl.below b10
  replace ts := ts.below b10
  replace TB := hcall TB b10
  replace r5 := r5.below b10
  replace rs := rs.below b10
  replace D := below_call D b10
  clear b10
  clear r5 rs
  go_wp2
  go_ret
  exact ⟨rfl, D⟩
end Go.Proofs.YtpmafghknafhaaaGreat
