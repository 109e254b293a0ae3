import Derived.Test.YtbpfcjdjhponaaaGreatPViewTells11
set_option linter.unusedVariables false
set_option linter.unusedSimpArgs false
namespace Go.Proofs.YtbpfcjdjhponaaaGreat
open Go.RowKit
open Sp
def es15 : List Evt := [⟨7, ⟨#[97, 110, 110]⟩, ⟨#[]⟩, 1, (4, 2, 0, ⟨#[]⟩)⟩, ⟨1, ⟨#[98, 111, 98]⟩, ⟨#[97, 110, 110]⟩, 0, (0, 0, 0, ⟨#[]⟩)⟩]
def s15 : Sta := (allT (([], []) : Sta) es15).1
def t15 : Sta := (applyT (s15.1, s15.2) ⟨2, ⟨#[97, 110, 110]⟩, ⟨#[98, 111, 98]⟩, 0, (0, 0, 0, ⟨#[]⟩)⟩).1
def u15 : Sta := (applyT (t15.1, t15.2) ⟨5, ⟨#[98, 111, 98]⟩, ⟨#[97, 110, 110]⟩, 0, (0, 0, 0, ⟨#[]⟩)⟩).1
theorem l15a : Hid (allT (([], []) : Sta) es15 = (s15, [0, 0])) := by show _ = _; decide +kernel
theorem l15b : Hid (applyT (s15.1, s15.2) ⟨2, ⟨#[97, 110, 110]⟩, ⟨#[98, 111, 98]⟩, 0, (0, 0, 0, ⟨#[]⟩)⟩ = (t15, 0)) := by show _ = _; decide +kernel
theorem l15c : Hid (applyT (t15.1, t15.2) ⟨5, ⟨#[98, 111, 98]⟩, ⟨#[97, 110, 110]⟩, 0, (0, 0, 0, ⟨#[]⟩)⟩ = (u15, 0)) := by show _ = _; decide +kernel
theorem l15d : Hid (valT (t15.1, t15.2) ⟨#[98, 111, 98]⟩ ⟨#[97, 110, 110]⟩ = ((4, 2, 0, ⟨#[]⟩), true)) := by show _ = _; decide +kernel
theorem l15e : Hid (valT (t15.1, t15.2) ⟨#[97, 110, 110]⟩ ⟨#[98, 111, 98]⟩ = ((0, 0, 0, ⟨#[]⟩), false)) := by show _ = _; decide +kernel
theorem l15f : Hid (betT (s15.1, s15.2) (t15.1, t15.2) ⟨#[98, 111, 98]⟩ = [⟨⟨#[97, 110, 110]⟩, true, 4, 2, 0, ⟨#[]⟩⟩]) := by show _ = _; decide +kernel
theorem l15g : Hid (betT (t15.1, t15.2) (u15.1, u15.2) ⟨#[98, 111, 98]⟩ = [⟨⟨#[97, 110, 110]⟩, false, 0, 0, 0, ⟨#[]⟩⟩]) := by show _ = _; decide +kernel
theorem l15h : Hid (tabT (s15.1, s15.2) ⟨#[98, 111, 98]⟩ = []) := by show _ = _; decide +kernel
theorem l15i : Hid (tabT (t15.1, t15.2) ⟨#[98, 111, 98]⟩ = [⟨⟨#[97, 110, 110]⟩, (4, 2, 0, ⟨#[]⟩)⟩]) := by show _ = _; decide +kernel
theorem l15j : Hid (watT (t15.1, t15.2) ⟨#[97, 110, 110]⟩ = [⟨#[98, 111, 98]⟩]) := by show _ = _; decide +kernel
theorem l15k : Hid (watT (u15.1, u15.2) ⟨#[97, 110, 110]⟩ = []) := by show _ = _; decide +kernel
theorem sz15n : SzRo [] := fun s hs => by cases hs
theorem sy15n : SzSe [] := fun s hs => by cases hs
def small15 (s : Sta) : Bool := s.1.all (fun x => decide (x.o.size ≤ 100) && decide (x.c.size ≤ 100)) && s.2.all (fun x => decide (x.u.size ≤ 100) && decide (x.v.2.2.2.size ≤ 100)) && decide (s.1.length ≤ 10) && decide (s.2.length ≤ 10)
theorem small_ {s : Sta} (h : small15 s = true) : SzRo s.1 ∧ SzSe s.2 ∧ s.1.length ≤ 10 ∧ s.2.length ≤ 10 := by
  unfold small15 at h
  simp only [Bool.and_eq_true, List.all_eq_true, decide_eq_true_eq] at h
  refine ⟨fun x hx => ?_, fun x hx => ?_, h.1.2, h.2⟩
  · have := h.1.1.1 x hx
    exact ⟨by omega, by omega⟩
  · have := h.1.1.2 x hx
    exact ⟨by omega, by omega⟩
theorem sm15s : SzRo s15.1 ∧ SzSe s15.2 ∧ s15.1.length ≤ 10 ∧ s15.2.length ≤ 10 := small_ (by decide +kernel)
theorem sm15t : SzRo t15.1 ∧ SzSe t15.2 ∧ t15.1.length ≤ 10 ∧ t15.2.length ≤ 10 := small_ (by decide +kernel)
theorem sm15u : SzRo u15.1 ∧ SzSe u15.2 ∧ u15.1.length ≤ 10 ∧ u15.2.length ≤ 10 := small_ (by decide +kernel)
theorem sv15 : SzEv es15 := fun e he => by
  simp only [es15, List.mem_cons, List.not_mem_nil, or_false] at he
  rcases he with rfl | rfl <;> decide
theorem row15 (W : World) : Row enEv 8 (W.alloc (.cells #[.int .i64 7, .string ⟨#[97, 110, 110]⟩, .string ⟨#[]⟩, .int .i64 1, .int .i64 4, .int .i64 2, .int .i64 0, .string ⟨#[]⟩, .int .i64 1, .string ⟨#[98, 111, 98]⟩, .string ⟨#[97, 110, 110]⟩, .int .i64 0, .int .i64 0, .int .i64 0, .int .i64 0, .string ⟨#[]⟩] 29)) (.slice (some ⟨W.heap.size, 0, none⟩) 2 2) es15 := (Own.lit (base := W.heap.size) enEv_len W es15 _ 2 rfl rfl (Nat.le_refl _) (by decide)).row
theorem row15i (W : World) : Row enSn 5 (W.alloc (.cells #[.string ⟨#[97, 110, 110]⟩, .int .i64 4, .int .i64 2, .int .i64 0, .string ⟨#[]⟩] 59)) (.slice (some ⟨W.heap.size, 0, none⟩) 1 1) [⟨⟨#[97, 110, 110]⟩, (4, 2, 0, ⟨#[]⟩)⟩] := (Own.lit (base := W.heap.size) enSn_len W [⟨⟨#[97, 110, 110]⟩, (4, 2, 0, ⟨#[]⟩)⟩] _ 1 rfl rfl (Nat.le_refl _) (by decide)).row
theorem row15j (W : World) : Row enS 1 (W.alloc (.cells #[.string ⟨#[98, 111, 98]⟩] 9)) (.slice (some ⟨W.heap.size, 0, none⟩) 1 1) [⟨#[98, 111, 98]⟩] := (Own.lit (base := W.heap.size) enS_len W _ _ 1 rfl rfl (Nat.le_refl _) (by decide)).row
theorem row15f (W : World) : Row enCh 6 (W.alloc (.cells #[.string ⟨#[97, 110, 110]⟩, .bool true, .int .i64 4, .int .i64 2, .int .i64 0, .string ⟨#[]⟩] 65)) (.slice (some ⟨W.heap.size, 0, none⟩) 1 1) [⟨⟨#[97, 110, 110]⟩, true, 4, 2, 0, ⟨#[]⟩⟩] := (Own.lit (base := W.heap.size) enCh_len W [⟨⟨#[97, 110, 110]⟩, true, 4, 2, 0, ⟨#[]⟩⟩] _ 1 rfl rfl (Nat.le_refl _) (by decide)).row
theorem row15g (W : World) : Row enCh 6 (W.alloc (.cells #[.string ⟨#[97, 110, 110]⟩, .bool false, .int .i64 0, .int .i64 0, .int .i64 0, .string ⟨#[]⟩] 65)) (.slice (some ⟨W.heap.size, 0, none⟩) 1 1) [⟨⟨#[97, 110, 110]⟩, false, 0, 0, 0, ⟨#[]⟩⟩] := (Own.lit (base := W.heap.size) enCh_len W [⟨⟨#[97, 110, 110]⟩, false, 0, 0, 0, ⟨#[]⟩⟩] _ 1 rfl rfl (Nat.le_refl _) (by decide)).row
noncomputable def opslvf : Array Oper := Held.inBody 9 Tryz.f18.body
set_option maxRecDepth 100000 in
theorem sizlvf : opslvf.size = 50 := by kernel_rfl
set_option maxRecDepth 100000 in
theorem noslvf : Region.noSelect opslvf = true := by kernel_rfl
def ordlvf0 : List Nat := [0, 1, 2, 3, 4, 5, 7, 8, 6, 9, 10, 11, 12, 13, 14, 15, 16, 17, 18, 19, 20, 21, 22, 23, 24, 25, 26, 27, 28, 29, 30, 31, 32, 33, 34, 35, 36, 37, 38, 39, 40, 41, 42, 43, 44, 45, 46, 47, 48, 49]
set_option maxRecDepth 100000 in
theorem okklvf_0 : Held.okAt opslvf ordlvf0 0 = true := by kernel_rfl
set_option maxRecDepth 100000 in
theorem okklvf_1 : Held.okAt opslvf ordlvf0 2 = true := by kernel_rfl
set_option maxRecDepth 100000 in
theorem okklvf_2 : Held.okAt opslvf ordlvf0 3 = true := by kernel_rfl
set_option maxRecDepth 100000 in
theorem okklvf_3 : Held.okAt opslvf ordlvf0 4 = true := by kernel_rfl
set_option maxRecDepth 100000 in
theorem okklvf_4 : Held.okAt opslvf ordlvf0 5 = true := by kernel_rfl
set_option maxRecDepth 100000 in
theorem okklvf_5 : Held.okAt opslvf ordlvf0 6 = true := by kernel_rfl
set_option maxRecDepth 100000 in
theorem okklvf_6 : Held.okAt opslvf ordlvf0 7 = true := by kernel_rfl
def ordlvf1 : List Nat := [0, 1, 2, 3, 4, 5, 7, 8, 9, 6, 10, 11, 12, 13, 14, 15, 16, 17, 18, 19, 20, 21, 22, 23, 24, 25, 26, 27, 28, 29, 30, 31, 32, 33, 34, 35, 36, 37, 38, 39, 40, 41, 42, 43, 44, 45, 46, 47, 48, 49]
set_option maxRecDepth 100000 in
theorem okklvf_7 : Held.okAt opslvf ordlvf0 11 = true := by kernel_rfl
set_option maxRecDepth 100000 in
theorem okklvf_8 : Held.okAt opslvf ordlvf0 12 = true := by kernel_rfl
set_option maxRecDepth 100000 in
theorem okklvf_9 : Held.okAt opslvf ordlvf0 13 = true := by kernel_rfl
set_option maxRecDepth 100000 in
theorem okklvf_10 : Held.okAt opslvf ordlvf0 14 = true := by kernel_rfl
set_option maxRecDepth 100000 in
theorem okklvf_11 : Held.okAt opslvf ordlvf0 15 = true := by kernel_rfl
set_option maxRecDepth 100000 in
theorem okklvf_12 : Held.okAt opslvf ordlvf0 16 = true := by kernel_rfl
set_option maxRecDepth 100000 in
theorem okklvf_13 : Held.okAt opslvf ordlvf0 17 = true := by kernel_rfl
set_option maxRecDepth 100000 in
theorem okklvf_14 : Held.okAt opslvf ordlvf0 18 = true := by kernel_rfl
set_option maxRecDepth 100000 in
theorem okklvf_15 : Held.okAt opslvf ordlvf0 19 = true := by kernel_rfl
set_option maxRecDepth 100000 in
theorem okklvf_16 : Held.okAt opslvf ordlvf0 20 = true := by kernel_rfl
set_option maxRecDepth 100000 in
theorem okklvf_17 : Held.okAt opslvf ordlvf0 21 = true := by kernel_rfl
set_option maxRecDepth 100000 in
theorem okklvf_18 : Held.okAt opslvf ordlvf0 22 = true := by kernel_rfl
set_option maxRecDepth 100000 in
theorem okklvf_19 : Held.okAt opslvf ordlvf0 23 = true := by kernel_rfl
set_option maxRecDepth 100000 in
theorem okklvf_20 : Held.okAt opslvf ordlvf0 24 = true := by kernel_rfl
set_option maxRecDepth 100000 in
theorem okklvf_21 : Held.okAt opslvf ordlvf0 25 = true := by kernel_rfl
def ordlvf2 : List Nat := [0, 1, 2, 3, 4, 5, 7, 8, 6, 9, 10, 11, 12, 13, 14, 15, 16, 17, 18, 19, 20, 21, 22, 23, 24, 25, 27, 26, 28, 29, 30, 31, 32, 33, 34, 35, 36, 37, 38, 39, 40, 41, 42, 43, 44, 45, 46, 47, 48, 49]
set_option maxRecDepth 100000 in
theorem okklvf_22 : Held.okAt opslvf ordlvf0 29 = true := by kernel_rfl
set_option maxRecDepth 100000 in
theorem okklvf_23 : Held.okAt opslvf ordlvf0 30 = true := by kernel_rfl
set_option maxRecDepth 100000 in
theorem okklvf_24 : Held.okAt opslvf ordlvf0 31 = true := by kernel_rfl
set_option maxRecDepth 100000 in
theorem okklvf_25 : Held.okAt opslvf ordlvf0 33 = true := by kernel_rfl
set_option maxRecDepth 100000 in
theorem okklvf_26 : Held.okAt opslvf ordlvf0 34 = true := by kernel_rfl
set_option maxRecDepth 100000 in
theorem okklvf_27 : Held.okAt opslvf ordlvf0 35 = true := by kernel_rfl
set_option maxRecDepth 100000 in
theorem okklvf_28 : Held.okAt opslvf ordlvf0 36 = true := by kernel_rfl
set_option maxRecDepth 100000 in
theorem okklvf_29 : Held.okAt opslvf ordlvf0 37 = true := by kernel_rfl
set_option maxRecDepth 100000 in
theorem okklvf_30 : Held.okAt opslvf ordlvf0 38 = true := by kernel_rfl
set_option maxRecDepth 100000 in
theorem okklvf_31 : Held.okAt opslvf ordlvf0 39 = true := by kernel_rfl
set_option maxRecDepth 100000 in
theorem okklvf_32 : Held.okAt opslvf ordlvf0 42 = true := by kernel_rfl
set_option maxRecDepth 100000 in
theorem okklvf_33 : Held.okAt opslvf ordlvf0 43 = true := by kernel_rfl
set_option maxRecDepth 100000 in
theorem okklvf_34 : Held.okAt opslvf ordlvf0 44 = true := by kernel_rfl
set_option maxRecDepth 100000 in
theorem okklvf_35 : Held.okAt opslvf ordlvf0 45 = true := by kernel_rfl
set_option maxRecDepth 100000 in
theorem okklvf_36 : Held.okAt opslvf ordlvf0 48 = true := by kernel_rfl
set_option maxRecDepth 100000 in
theorem okklvf_37 : Held.okAt opslvf ordlvf0 49 = true := by kernel_rfl
def ordlvf3 : List Nat := [0, 1, 2, 3, 4, 5, 7, 8, 9, 6, 10, 11, 12, 13, 14, 15, 16, 17, 18, 19, 20, 21, 22, 23, 24, 25, 27, 26, 28, 29, 30, 31, 32, 33, 34, 35, 36, 37, 38, 39, 40, 41, 42, 43, 44, 45, 46, 47, 48, 49]
set_option maxHeartbeats 32000000 in
set_option maxRecDepth 100000 in
theorem live15 (w : World) : Calls Tryz.prog 18 #[] w fun e w' => e = .returned (.bool true) ∧ Below w.heap.size w w' := by
  have D := below_box (w := w) (bxPv 4 2 0 ⟨#[]⟩)
  have VB := heap_alloc_new w (bxPv 4 2 0 ⟨#[]⟩)
  have hes := row15 (w.alloc (bxPv 4 2 0 ⟨#[]⟩))
  rw [size_alloc] at hes
  obtain ⟨v0, v1, v2, v3, vz⟩ := cellsPv VB
  go_enter Tryz.func18, Tryz.ntmps18
  replace VB := halloc VB (.cells #[.int .i64 7, .string ⟨#[97, 110, 110]⟩, .string ⟨#[]⟩, .int .i64 1, .int .i64 4, .int .i64 2, .int .i64 0, .string ⟨#[]⟩, .int .i64 1, .string ⟨#[98, 111, 98]⟩, .string ⟨#[97, 110, 110]⟩, .int .i64 0, .int .i64 0, .int .i64 0, .int .i64 0, .string ⟨#[]⟩] 29)
  replace D := below_alloc0 D (.cells #[.int .i64 7, .string ⟨#[97, 110, 110]⟩, .string ⟨#[]⟩, .int .i64 1, .int .i64 4, .int .i64 2, .int .i64 0, .string ⟨#[]⟩, .int .i64 1, .string ⟨#[98, 111, 98]⟩, .string ⟨#[97, 110, 110]⟩, .int .i64 0, .int .i64 0, .int .i64 0, .int .i64 0, .string ⟨#[]⟩] 29)
  go_wp2_with fail
  with_reducible refine (refAllT_is 0 0 none [] 0 0 none [] _ (Row.nil _ _ _) (Row.nil _ _ _) sz15n sy15n (by decide) 2 2 _ es15 hes (by decide) sv15 s15 _ l15a).mono ?_
  rintro e w1 ⟨A1, n1, c1, B1, m1, d1, vx, rfl, sl, ss, rx, b1⟩
  replace VB := hcall VB b1
  replace D := below_call D b1
  clear b1 v0 v1 v2 v3 vz
  clear hes
  obtain ⟨Ax, cx, rfl⟩ := rx.form8 2 rfl
  clear rx
  obtain ⟨ys, zs, hn1, hm1⟩ := sm15s
  have en1 := sl.len_eq
  have em1 := ss.len_eq
  have hn1' : n1 ≤ 10 := by omega
  have hm1' : m1 ≤ 10 := by omega
  clear hn1 hm1 en1 em1
  have SB := heap_alloc_new w1 (bxT A1 n1 c1 B1 m1 d1)
  replace VB := halloc VB (bxT A1 n1 c1 B1 m1 d1)
  replace sl := sl.below (below_box (bxT A1 n1 c1 B1 m1 d1))
  replace ss := ss.below (below_box (bxT A1 n1 c1 B1 m1 d1))
  replace D := below_alloc0 D (bxT A1 n1 c1 B1 m1 d1)
  obtain ⟨s0, s1, sz⟩ := cellsT SB
  go_wp2_with fail
  refine (refApplyT_is n1 c1 A1 s15.1 m1 d1 B1 s15.2 _ sl ss ys zs (by omega) 2 ⟨#[97, 110, 110]⟩ ⟨#[98, 111, 98]⟩ 0 0 0 0 ⟨#[]⟩ (by decide) (by decide) (by decide) 0 t15 l15b).mono ?_
  rintro e w2 ⟨A2, n2, c2, B2, m2, d2, rfl, tl, ts, b2, -, -⟩
  replace VB := hcall VB b2
  replace sl := sl.below b2
  replace ss := ss.below b2
  replace SB := hcall SB b2
  replace D := below_call D b2
  clear b2 s0 s1 sz
  obtain ⟨yt, zt, hn2, hm2⟩ := sm15t
  have en2 := tl.len_eq
  have em2 := ts.len_eq
  have hn2' : n2 ≤ 10 := by omega
  have hm2' : m2 ≤ 10 := by omega
  clear hn2 hm2 en2 em2
  have TB := heap_alloc_new w2 (bxT A2 n2 c2 B2 m2 d2)
  replace VB := halloc VB (bxT A2 n2 c2 B2 m2 d2)
  replace sl := sl.below (below_box (bxT A2 n2 c2 B2 m2 d2))
  replace ss := ss.below (below_box (bxT A2 n2 c2 B2 m2 d2))
  replace SB := halloc SB (bxT A2 n2 c2 B2 m2 d2)
  replace tl := tl.below (below_box (bxT A2 n2 c2 B2 m2 d2))
  replace ts := ts.below (below_box (bxT A2 n2 c2 B2 m2 d2))
  replace D := below_alloc0 D (bxT A2 n2 c2 B2 m2 d2)
  obtain ⟨t0, t1, tz⟩ := cellsT TB
  go_wp2_with fail
  refine (refApplyT_is n2 c2 A2 t15.1 m2 d2 B2 t15.2 _ tl ts yt zt (by omega) 5 ⟨#[98, 111, 98]⟩ ⟨#[97, 110, 110]⟩ 0 0 0 0 ⟨#[]⟩ (by decide) (by decide) (by decide) 0 u15 l15c).mono ?_
  rintro e w3 ⟨A3, n3, c3, B3, m3, d3, rfl, ul, us, b3, -, -⟩
  replace VB := hcall VB b3
  replace sl := sl.below b3
  replace ss := ss.below b3
  replace SB := hcall SB b3
  replace tl := tl.below b3
  replace ts := ts.below b3
  replace TB := hcall TB b3
  replace D := below_call D b3
  clear b3 t0 t1 tz
  obtain ⟨yu, zu, hn3, hm3⟩ := sm15u
  have en3 := ul.len_eq
  have em3 := us.len_eq
  have hn3' : n3 ≤ 10 := by omega
  have hm3' : m3 ≤ 10 := by omega
  clear hn3 hm3 en3 em3
  have UB := heap_alloc_new w3 (bxT A3 n3 c3 B3 m3 d3)
  replace VB := halloc VB (bxT A3 n3 c3 B3 m3 d3)
  replace sl := sl.below (below_box (bxT A3 n3 c3 B3 m3 d3))
  replace ss := ss.below (below_box (bxT A3 n3 c3 B3 m3 d3))
  replace SB := halloc SB (bxT A3 n3 c3 B3 m3 d3)
  replace tl := tl.below (below_box (bxT A3 n3 c3 B3 m3 d3))
  replace ts := ts.below (below_box (bxT A3 n3 c3 B3 m3 d3))
  replace TB := halloc TB (bxT A3 n3 c3 B3 m3 d3)
  replace ul := ul.below (below_box (bxT A3 n3 c3 B3 m3 d3))
  replace us := us.below (below_box (bxT A3 n3 c3 B3 m3 d3))
  replace D := below_alloc0 D (bxT A3 n3 c3 B3 m3 d3)
  obtain ⟨s0, s1, sz⟩ := cellsT SB
  obtain ⟨t0, t1, tz⟩ := cellsT TB
  obtain ⟨u0, u1, uz⟩ := cellsT UB
  go_wp2_with fail
  with_reducible refine (vValue_is n2 c2 A2 t15.1 m2 d2 B2 t15.2 _ tl ts yt zt (by omega) (by omega) ⟨#[98, 111, 98]⟩ ⟨#[97, 110, 110]⟩ 4 2 0 ⟨#[]⟩ true l15d).mono ?_
  rintro e w4 ⟨rfl, b4⟩
  replace VB := hcall VB b4
  replace sl := sl.below b4
  replace ss := ss.below b4
  replace SB := hcall SB b4
  replace tl := tl.below b4
  replace ts := ts.below b4
  replace TB := hcall TB b4
  replace ul := ul.below b4
  replace us := us.below b4
  replace UB := hcall UB b4
  replace D := below_call D b4
  clear b4 s0 s1 sz t0 t1 tz u0 u1 uz
  have WB := heap_alloc_new w4 (bxPv 4 2 0 ⟨#[]⟩)
  replace VB := halloc VB (bxPv 4 2 0 ⟨#[]⟩)
  replace sl := sl.below (below_box (bxPv 4 2 0 ⟨#[]⟩))
  replace ss := ss.below (below_box (bxPv 4 2 0 ⟨#[]⟩))
  replace SB := halloc SB (bxPv 4 2 0 ⟨#[]⟩)
  replace tl := tl.below (below_box (bxPv 4 2 0 ⟨#[]⟩))
  replace ts := ts.below (below_box (bxPv 4 2 0 ⟨#[]⟩))
  replace TB := halloc TB (bxPv 4 2 0 ⟨#[]⟩)
  replace ul := ul.below (below_box (bxPv 4 2 0 ⟨#[]⟩))
  replace us := us.below (below_box (bxPv 4 2 0 ⟨#[]⟩))
  replace UB := halloc UB (bxPv 4 2 0 ⟨#[]⟩)
  replace D := below_alloc0 D (bxPv 4 2 0 ⟨#[]⟩)
  obtain ⟨s0, s1, sz⟩ := cellsT SB
  obtain ⟨t0, t1, tz⟩ := cellsT TB
  obtain ⟨u0, u1, uz⟩ := cellsT UB
  go_wp2_with fail
  with_reducible refine (vValue_is n2 c2 A2 t15.1 m2 d2 B2 t15.2 _ tl ts yt zt (by omega) (by omega) ⟨#[97, 110, 110]⟩ ⟨#[98, 111, 98]⟩ 0 0 0 ⟨#[]⟩ false l15e).mono ?_
  rintro e w5 ⟨rfl, b5⟩
  replace VB := hcall VB b5
  replace sl := sl.below b5
  replace ss := ss.below b5
  replace SB := hcall SB b5
  replace tl := tl.below b5
  replace ts := ts.below b5
  replace TB := hcall TB b5
  replace ul := ul.below b5
  replace us := us.below b5
  replace UB := hcall UB b5
  replace WB := hcall WB b5
  replace D := below_call D b5
  clear b5 s0 s1 sz t0 t1 tz u0 u1 uz
  replace VB := halloc VB (bxPv 0 0 0 ⟨#[]⟩)
  replace sl := sl.below (below_box (bxPv 0 0 0 ⟨#[]⟩))
  replace ss := ss.below (below_box (bxPv 0 0 0 ⟨#[]⟩))
  replace SB := halloc SB (bxPv 0 0 0 ⟨#[]⟩)
  replace tl := tl.below (below_box (bxPv 0 0 0 ⟨#[]⟩))
  replace ts := ts.below (below_box (bxPv 0 0 0 ⟨#[]⟩))
  replace TB := halloc TB (bxPv 0 0 0 ⟨#[]⟩)
  replace ul := ul.below (below_box (bxPv 0 0 0 ⟨#[]⟩))
  replace us := us.below (below_box (bxPv 0 0 0 ⟨#[]⟩))
  replace UB := halloc UB (bxPv 0 0 0 ⟨#[]⟩)
  replace WB := halloc WB (bxPv 0 0 0 ⟨#[]⟩)
  replace D := below_alloc0 D (bxPv 0 0 0 ⟨#[]⟩)
  obtain ⟨s0, s1, sz⟩ := cellsT SB
  obtain ⟨t0, t1, tz⟩ := cellsT TB
  obtain ⟨u0, u1, uz⟩ := cellsT UB
  go_wp2_with fail
  with_reducible refine (vBet_is n1 c1 A1 s15.1 m1 d1 B1 s15.2 n2 c2 A2 t15.1 m2 d2 B2 t15.2 _ sl ss tl ts ys zs yt zt (by omega) (by omega) (by omega) (by omega) ⟨#[98, 111, 98]⟩ _ l15f).mono ?_
  rintro e w6 ⟨v12, rfl, r12, b6⟩
  replace VB := hcall VB b6
  replace sl := sl.below b6
  replace ss := ss.below b6
  replace SB := hcall SB b6
  replace tl := tl.below b6
  replace ts := ts.below b6
  replace TB := hcall TB b6
  replace ul := ul.below b6
  replace us := us.below b6
  replace UB := hcall UB b6
  replace WB := hcall WB b6
  replace D := below_call D b6
  clear b6 s0 s1 sz t0 t1 tz u0 u1 uz
  obtain ⟨A12, c12, rfl⟩ := r12.form8 1 rfl
  obtain ⟨s0, s1, sz⟩ := cellsT SB
  obtain ⟨t0, t1, tz⟩ := cellsT TB
  obtain ⟨u0, u1, uz⟩ := cellsT UB
  go_wp2_with fail
  with_reducible refine (vBet_is n2 c2 A2 t15.1 m2 d2 B2 t15.2 n3 c3 A3 u15.1 m3 d3 B3 u15.2 _ tl ts ul us yt zt yu zu (by omega) (by omega) (by omega) (by omega) ⟨#[98, 111, 98]⟩ _ l15g).mono ?_
  rintro e w7 ⟨v13, rfl, r13, b7⟩
  replace VB := hcall VB b7
  replace sl := sl.below b7
  replace ss := ss.below b7
  replace SB := hcall SB b7
  replace tl := tl.below b7
  replace ts := ts.below b7
  replace TB := hcall TB b7
  replace ul := ul.below b7
  replace us := us.below b7
  replace UB := hcall UB b7
  replace WB := hcall WB b7
  replace r12 := r12.below b7
  replace D := below_call D b7
  clear b7 s0 s1 sz t0 t1 tz u0 u1 uz
  obtain ⟨A13, c13, rfl⟩ := r13.form8 1 rfl
  obtain ⟨v0, v1, v2, v3, vz⟩ := cellsPv VB
  obtain ⟨x0, x1, x2, x3, xz⟩ := cellsPv WB
  obtain ⟨s0, s1, sz⟩ := cellsT SB
  obtain ⟨t0, t1, tz⟩ := cellsT TB
  obtain ⟨u0, u1, uz⟩ := cellsT UB
  have hE := eqlVl 4 2 0 ⟨#[]⟩ 4 2 0 ⟨#[]⟩
  clear VB WB SB TB UB vz xz sz tz uz
  replace v0 : w7.drew.cell? _ = _ := v0
  replace v1 : w7.drew.cell? _ = _ := v1
  replace v2 : w7.drew.cell? _ = _ := v2
  replace v3 : w7.drew.cell? _ = _ := v3
  replace x0 : w7.drew.cell? _ = _ := x0
  replace x1 : w7.drew.cell? _ = _ := x1
  replace x2 : w7.drew.cell? _ = _ := x2
  replace x3 : w7.drew.cell? _ = _ := x3
  replace s0 : w7.drew.cell? _ = _ := s0
  replace s1 : w7.drew.cell? _ = _ := s1
  replace t0 : w7.drew.cell? _ = _ := t0
  replace t1 : w7.drew.cell? _ = _ := t1
  replace u0 : w7.drew.cell? _ = _ := u0
  replace u1 : w7.drew.cell? _ = _ := u1
  replace sl : Row _ _ w7.drew _ _ := sl
  replace ss : Row _ _ w7.drew _ _ := ss
  replace tl : Row _ _ w7.drew _ _ := tl
  replace ts : Row _ _ w7.drew _ _ := ts
  replace ul : Row _ _ w7.drew _ _ := ul
  replace us : Row _ _ w7.drew _ _ := us
  replace r12 : Row _ _ w7.drew _ _ := r12
  replace r13 : Row _ _ w7.drew _ _ := r13
  replace D : Below _ _ w7.drew := D.drew
  go_wp2_with fail
  refine Held.start (ops := opslvf) (S := fun w' => w'.cell? ⟨w.heap.size, 0, none⟩ = some (.int .i64 4) ∧ w'.cell? ⟨w.heap.size, 1, none⟩ = some (.int .i64 2) ∧ w'.cell? ⟨w.heap.size, 2, none⟩ = some (.int .i64 0) ∧ w'.cell? ⟨w.heap.size, 3, none⟩ = some (.string ⟨#[]⟩) ∧ w'.cell? ⟨w4.heap.size, 0, none⟩ = some (.int .i64 4) ∧ w'.cell? ⟨w4.heap.size, 1, none⟩ = some (.int .i64 2) ∧ w'.cell? ⟨w4.heap.size, 2, none⟩ = some (.int .i64 0) ∧ w'.cell? ⟨w4.heap.size, 3, none⟩ = some (.string ⟨#[]⟩) ∧ w'.cell? ⟨w1.heap.size, 0, none⟩ = some (.slice A1 n1 c1) ∧ w'.cell? ⟨w1.heap.size, 1, none⟩ = some (.slice B1 m1 d1) ∧ w'.cell? ⟨w2.heap.size, 0, none⟩ = some (.slice A2 n2 c2) ∧ w'.cell? ⟨w2.heap.size, 1, none⟩ = some (.slice B2 m2 d2) ∧ w'.cell? ⟨w3.heap.size, 0, none⟩ = some (.slice A3 n3 c3) ∧ w'.cell? ⟨w3.heap.size, 1, none⟩ = some (.slice B3 m3 d3)) ordlvf0 50 (by kernel_rfl) sizlvf (by kernel_rfl) ⟨v0, v1, v2, v3, x0, x1, x2, x3, s0, s1, t0, t1, u0, u1⟩ (fun hHeld => ?_)
  refine Held.take (k := 0) (i := 0) (v := ?vlvf1) noslvf okklvf_0 sizlvf (by kernel_rfl) rfl (fun _ _ _ h => h) (Or.inl ⟨by kernel_rfl, ?hylvf1⟩) (by assumption) ?restlvf1
  case hylvf1 => (intro w hSw; (try dsimp only at hSw); go_simp; (try (first | with_reducible rfl | rw [if_neg (by omega)])))
  try simp only [Act.put, List.getElem_toArray, List.getElem_cons_succ, List.getElem_cons_zero, List.setIfInBounds_toArray, List.set_cons_zero, List.set_cons_succ]
  refine Held.only (k := 1) (i := 1) (show Region.ready .any opslvf (Held.lst 50 ordlvf0 1) = [1] by kernel_rfl) (by kernel_rfl) rfl (by kernel_rfl) (fun K hK => ?_)
  go_simp
  go_at_call 22
  with_reducible refine (vOf_is n1 c1 A1 s15.1 m1 d1 B1 s15.2 _ sl ss ys zs (by omega) (by omega) ⟨#[98, 111, 98]⟩ _ l15h).mono ?_
  rintro e y1 ⟨q1, rfl, r1, hbx⟩
  obtain ⟨Q1, qc1, rfl⟩ := r1.form8 0 rfl
  clear r1
  replace v0 := cell_below hbx v0
  replace v1 := cell_below hbx v1
  replace v2 := cell_below hbx v2
  replace v3 := cell_below hbx v3
  replace x0 := cell_below hbx x0
  replace x1 := cell_below hbx x1
  replace x2 := cell_below hbx x2
  replace x3 := cell_below hbx x3
  replace s0 := cell_below hbx s0
  replace s1 := cell_below hbx s1
  replace t0 := cell_below hbx t0
  replace t1 := cell_below hbx t1
  replace u0 := cell_below hbx u0
  replace u1 := cell_below hbx u1
  replace tl := tl.below hbx
  replace ts := ts.below hbx
  replace ul := ul.below hbx
  replace us := us.below hbx
  replace r12 := r12.below hbx
  replace r13 := r13.below hbx
  replace D := below_call D hbx
  clear hbx sl ss
  refine hK.out _ _ (by (try dsimp only); (exact ⟨v0, v1, v2, v3, x0, x1, x2, x3, s0, s1, t0, t1, u0, u1⟩)) (fun hHeld => ?_)
  clear hK K
  try simp only [Act.put, List.getElem_toArray, List.getElem_cons_succ, List.getElem_cons_zero, List.setIfInBounds_toArray, List.set_cons_zero, List.set_cons_succ]
  refine Held.take (k := 2) (i := 2) (v := ?vlvf2) noslvf okklvf_1 sizlvf (by kernel_rfl) rfl (fun _ _ _ h => h) (Or.inl ⟨by kernel_rfl, ?hylvf2⟩) (by assumption) ?restlvf2
  case hylvf2 => (intro w hSw; (try dsimp only at hSw); go_simp; (try (first | with_reducible rfl | rw [if_neg (by omega)])))
  try simp only [Act.put, List.getElem_toArray, List.getElem_cons_succ, List.getElem_cons_zero, List.setIfInBounds_toArray, List.set_cons_zero, List.set_cons_succ]
  refine Held.take (k := 3) (i := 3) (v := ?vlvf3) noslvf okklvf_2 sizlvf (by kernel_rfl) rfl (fun _ _ _ h => h) (Or.inl ⟨by kernel_rfl, ?hylvf3⟩) (by assumption) ?restlvf3
  case hylvf3 => (intro w hSw; (try dsimp only at hSw); go_simp; (try (first | with_reducible rfl | rw [if_neg (by omega)])))
  try simp only [Act.put, List.getElem_toArray, List.getElem_cons_succ, List.getElem_cons_zero, List.setIfInBounds_toArray, List.set_cons_zero, List.set_cons_succ]
  refine Held.take (k := 4) (i := 4) (v := ?vlvf4) noslvf okklvf_3 sizlvf (by kernel_rfl) rfl (fun _ _ _ h => h) (Or.inl ⟨by kernel_rfl, ?hylvf4⟩) (by assumption) ?restlvf4
  case hylvf4 => (intro w hSw; (try dsimp only at hSw); go_simp; (try (first | with_reducible rfl | rw [if_neg (by omega)])))
  try simp only [Act.put, List.getElem_toArray, List.getElem_cons_succ, List.getElem_cons_zero, List.setIfInBounds_toArray, List.set_cons_zero, List.set_cons_succ]
  refine Held.take (k := 5) (i := 5) (v := ?vlvf5) noslvf okklvf_4 sizlvf (by kernel_rfl) rfl (fun _ _ _ h => h) (Or.inl ⟨by kernel_rfl, ?hylvf5⟩) (by assumption) ?restlvf5
  case hylvf5 => (intro w hSw; (try dsimp only at hSw); go_simp; (try (first | with_reducible rfl | rw [if_neg (by omega)])))
  try simp only [Act.put, List.getElem_toArray, List.getElem_cons_succ, List.getElem_cons_zero, List.setIfInBounds_toArray, List.set_cons_zero, List.set_cons_succ]
  refine Held.take (k := 6) (i := 7) (v := ?vlvf6) noslvf okklvf_5 sizlvf (by kernel_rfl) rfl (fun _ _ _ h => h) (Or.inl ⟨by kernel_rfl, ?hylvf6⟩) (by assumption) ?restlvf6
  case hylvf6 => (intro w hSw; (try dsimp only at hSw); go_simp; (try (first | with_reducible rfl | rw [if_neg (by omega)])))
  try simp only [Act.put, List.getElem_toArray, List.getElem_cons_succ, List.getElem_cons_zero, List.setIfInBounds_toArray, List.set_cons_zero, List.set_cons_succ]
  refine Held.take (k := 7) (i := 8) (v := ?vlvf7) noslvf okklvf_6 sizlvf (by kernel_rfl) rfl (fun _ _ _ h => h) (Or.inl ⟨by kernel_rfl, ?hylvf7⟩) (by assumption) ?restlvf7
  case hylvf7 => (intro w hSw; (try dsimp only at hSw); go_simp; (try (first | with_reducible rfl | rw [if_neg (by omega)])))
  try simp only [Act.put, List.getElem_toArray, List.getElem_cons_succ, List.getElem_cons_zero, List.setIfInBounds_toArray, List.set_cons_zero, List.set_cons_succ]
  refine Held.two (o := ordlvf0) (o1 := ordlvf0) (o2 := ordlvf1) (k := 8) (i := 6) (j := 9) (by kernel_rfl) (by kernel_rfl) (by kernel_rfl) rfl rfl (by kernel_rfl) (by kernel_rfl) (fun K hK => ?_) (fun K hK => ?_)
  · go_simp
    go_at_call 22
    with_reducible refine (vOf_is n2 c2 A2 t15.1 m2 d2 B2 t15.2 _ tl ts yt zt (by omega) (by omega) ⟨#[98, 111, 98]⟩ _ l15i).mono ?_
    rintro e y6 ⟨q6, rfl, r6, hbx⟩
    obtain ⟨Q6, qc6, rfl⟩ := r6.form8 1 rfl
    replace v0 := cell_below hbx v0
    replace v1 := cell_below hbx v1
    replace v2 := cell_below hbx v2
    replace v3 := cell_below hbx v3
    replace x0 := cell_below hbx x0
    replace x1 := cell_below hbx x1
    replace x2 := cell_below hbx x2
    replace x3 := cell_below hbx x3
    replace s0 := cell_below hbx s0
    replace s1 := cell_below hbx s1
    replace t0 := cell_below hbx t0
    replace t1 := cell_below hbx t1
    replace u0 := cell_below hbx u0
    replace u1 := cell_below hbx u1
    replace tl := tl.below hbx
    replace ts := ts.below hbx
    replace ul := ul.below hbx
    replace us := us.below hbx
    replace r12 := r12.below hbx
    replace r13 := r13.below hbx
    replace D := below_call D hbx
    clear hbx
    refine hK.out _ _ (by (try dsimp only); (exact ⟨v0, v1, v2, v3, x0, x1, x2, x3, s0, s1, t0, t1, u0, u1⟩)) (fun hHeld => ?_)
    clear hK K
    try simp only [Act.put, List.getElem_toArray, List.getElem_cons_succ, List.getElem_cons_zero, List.setIfInBounds_toArray, List.set_cons_zero, List.set_cons_succ]
    refine Held.only (k := 9) (i := 9) (show Region.ready .any opslvf (Held.lst 50 ordlvf0 9) = [9] by kernel_rfl) (by kernel_rfl) rfl (by kernel_rfl) (fun K hK => ?_)
    go_simp
    have hbx := below_box (w := y6) (.cells #[.string ⟨#[97, 110, 110]⟩, .int .i64 4, .int .i64 2, .int .i64 0, .string ⟨#[]⟩] 59)
    have r9 := row15i y6
    replace v0 := cell_below hbx v0
    replace v1 := cell_below hbx v1
    replace v2 := cell_below hbx v2
    replace v3 := cell_below hbx v3
    replace x0 := cell_below hbx x0
    replace x1 := cell_below hbx x1
    replace x2 := cell_below hbx x2
    replace x3 := cell_below hbx x3
    replace s0 := cell_below hbx s0
    replace s1 := cell_below hbx s1
    replace t0 := cell_below hbx t0
    replace t1 := cell_below hbx t1
    replace u0 := cell_below hbx u0
    replace u1 := cell_below hbx u1
    replace tl := tl.below hbx
    replace ts := ts.below hbx
    replace ul := ul.below hbx
    replace us := us.below hbx
    replace r12 := r12.below hbx
    replace r13 := r13.below hbx
    replace r6 := r6.below hbx
    replace D := below_call D hbx
    clear hbx
    refine hK.out _ _ (by (try dsimp only); (exact ⟨v0, v1, v2, v3, x0, x1, x2, x3, s0, s1, t0, t1, u0, u1⟩)) (fun hHeld => ?_)
    clear hK K
    try simp only [Act.put, List.getElem_toArray, List.getElem_cons_succ, List.getElem_cons_zero, List.setIfInBounds_toArray, List.set_cons_zero, List.set_cons_succ]
    refine Held.only (k := 10) (i := 10) (show Region.ready .any opslvf (Held.lst 50 ordlvf0 10) = [10] by kernel_rfl) (by kernel_rfl) rfl (by kernel_rfl) (fun K hK => ?_)
    go_simp
    go_at_call 21
    with_reducible refine (re_ (sameSn _ _ _ _ _ _ _ _ _ r6 r9) (ret_bool (decide_eq_true rfl))).mono ?_
    rintro e y10 ⟨rfl, hbx⟩
    replace v0 := cell_below hbx v0
    replace v1 := cell_below hbx v1
    replace v2 := cell_below hbx v2
    replace v3 := cell_below hbx v3
    replace x0 := cell_below hbx x0
    replace x1 := cell_below hbx x1
    replace x2 := cell_below hbx x2
    replace x3 := cell_below hbx x3
    replace s0 := cell_below hbx s0
    replace s1 := cell_below hbx s1
    replace t0 := cell_below hbx t0
    replace t1 := cell_below hbx t1
    replace u0 := cell_below hbx u0
    replace u1 := cell_below hbx u1
    replace tl := tl.below hbx
    replace ts := ts.below hbx
    replace ul := ul.below hbx
    replace us := us.below hbx
    replace r12 := r12.below hbx
    replace r13 := r13.below hbx
    replace D := below_call D hbx
    clear hbx r6 r9
    refine hK.out _ _ (by (try dsimp only); (exact ⟨v0, v1, v2, v3, x0, x1, x2, x3, s0, s1, t0, t1, u0, u1⟩)) (fun hHeld => ?_)
    clear hK K
    try simp only [Act.put, List.getElem_toArray, List.getElem_cons_succ, List.getElem_cons_zero, List.setIfInBounds_toArray, List.set_cons_zero, List.set_cons_succ]
    refine Held.take (k := 11) (i := 11) (v := ?vlvf8) noslvf okklvf_7 sizlvf (by kernel_rfl) rfl (fun _ _ _ h => h) (Or.inl ⟨by kernel_rfl, ?hylvf8⟩) (by assumption) ?restlvf8
    case hylvf8 => (intro w hSw; (try dsimp only at hSw); go_simp; (try (first | with_reducible rfl | rw [if_neg (by omega)])))
    try simp only [Act.put, List.getElem_toArray, List.getElem_cons_succ, List.getElem_cons_zero, List.setIfInBounds_toArray, List.set_cons_zero, List.set_cons_succ]
    refine Held.take (k := 12) (i := 12) (v := ?vlvf9) noslvf okklvf_8 sizlvf (by kernel_rfl) rfl (fun _ _ _ h => h) (Or.inl ⟨by kernel_rfl, ?hylvf9⟩) (by assumption) ?restlvf9
    case hylvf9 => (intro w hSw; (try dsimp only at hSw); go_simp; (try (first | with_reducible rfl | rw [if_neg (by omega)])))
    try simp only [Act.put, List.getElem_toArray, List.getElem_cons_succ, List.getElem_cons_zero, List.setIfInBounds_toArray, List.set_cons_zero, List.set_cons_succ]
    refine Held.take (k := 13) (i := 13) (v := ?vlvf10) noslvf okklvf_9 sizlvf (by kernel_rfl) rfl (fun _ _ _ h => h) (Or.inl ⟨by kernel_rfl, ?hylvf10⟩) (by assumption) ?restlvf10
    case hylvf10 => (intro w hSw; (try dsimp only at hSw); go_simp; (try (first | with_reducible rfl | rw [if_neg (by omega)])))
    try simp only [Act.put, List.getElem_toArray, List.getElem_cons_succ, List.getElem_cons_zero, List.setIfInBounds_toArray, List.set_cons_zero, List.set_cons_succ]
    refine Held.take (k := 14) (i := 14) (v := ?vlvf11) noslvf okklvf_10 sizlvf (by kernel_rfl) rfl (fun _ _ _ h => h) (Or.inl ⟨by kernel_rfl, ?hylvf11⟩) (by assumption) ?restlvf11
    case hylvf11 => (intro w hSw; (try dsimp only at hSw); go_simp; (try (first | with_reducible rfl | rw [if_neg (by omega)])))
    try simp only [Act.put, List.getElem_toArray, List.getElem_cons_succ, List.getElem_cons_zero, List.setIfInBounds_toArray, List.set_cons_zero, List.set_cons_succ]
    refine Held.take (k := 15) (i := 15) (v := ?vlvf12) noslvf okklvf_11 sizlvf (by kernel_rfl) rfl (fun _ _ _ h => h) (Or.inl ⟨by kernel_rfl, ?hylvf12⟩) (by assumption) ?restlvf12
    case hylvf12 => (intro w hSw; (try dsimp only at hSw); go_simp; (try (first | with_reducible rfl | rw [if_neg (by omega)])))
    try simp only [Act.put, List.getElem_toArray, List.getElem_cons_succ, List.getElem_cons_zero, List.setIfInBounds_toArray, List.set_cons_zero, List.set_cons_succ]
    refine Held.take (k := 16) (i := 16) (v := ?vlvf13) noslvf okklvf_12 sizlvf (by kernel_rfl) rfl (fun _ _ _ h => h) (Or.inl ⟨by kernel_rfl, ?hylvf13⟩) (by assumption) ?restlvf13
    case hylvf13 => (intro w hSw; (try dsimp only at hSw); go_simp; (try (first | with_reducible rfl | rw [if_neg (by omega)])))
    try simp only [Act.put, List.getElem_toArray, List.getElem_cons_succ, List.getElem_cons_zero, List.setIfInBounds_toArray, List.set_cons_zero, List.set_cons_succ]
    refine Held.take (k := 17) (i := 17) (v := ?vlvf14) noslvf okklvf_13 sizlvf (by kernel_rfl) rfl (fun _ _ _ h => h) (Or.inl ⟨by kernel_rfl, ?hylvf14⟩) (by assumption) ?restlvf14
    case hylvf14 => (intro w hSw; (try dsimp only at hSw); go_simp; (try (first | with_reducible rfl | rw [if_neg (by omega)])))
    try simp only [Act.put, List.getElem_toArray, List.getElem_cons_succ, List.getElem_cons_zero, List.setIfInBounds_toArray, List.set_cons_zero, List.set_cons_succ]
    refine Held.take (k := 18) (i := 18) (v := ?vlvf15) noslvf okklvf_14 sizlvf (by kernel_rfl) rfl (fun _ _ _ h => h) (Or.inl ⟨by kernel_rfl, ?hylvf15⟩) (by assumption) ?restlvf15
    case hylvf15 => (intro w hSw; (try dsimp only at hSw); go_simp; (try (first | with_reducible rfl | rw [if_neg (by omega)])))
    try simp only [Act.put, List.getElem_toArray, List.getElem_cons_succ, List.getElem_cons_zero, List.setIfInBounds_toArray, List.set_cons_zero, List.set_cons_succ]
    refine Held.take (k := 19) (i := 19) (v := ?vlvf16) noslvf okklvf_15 sizlvf (by kernel_rfl) rfl (fun _ _ _ h => h) (Or.inl ⟨by kernel_rfl, ?hylvf16⟩) (by assumption) ?restlvf16
    case hylvf16 => (intro w hSw; (try dsimp only at hSw); go_simp; (try (first | with_reducible rfl | rw [if_neg (by omega)])))
    try simp only [Act.put, List.getElem_toArray, List.getElem_cons_succ, List.getElem_cons_zero, List.setIfInBounds_toArray, List.set_cons_zero, List.set_cons_succ]
    refine Held.take (k := 20) (i := 20) (v := ?vlvf17) noslvf okklvf_16 sizlvf (by kernel_rfl) rfl (fun _ _ _ h => h) (Or.inl ⟨by kernel_rfl, ?hylvf17⟩) (by assumption) ?restlvf17
    case hylvf17 => (intro w hSw; (try dsimp only at hSw); go_simp; (try (first | with_reducible rfl | rw [if_neg (by omega)])))
    try simp only [Act.put, List.getElem_toArray, List.getElem_cons_succ, List.getElem_cons_zero, List.setIfInBounds_toArray, List.set_cons_zero, List.set_cons_succ]
    refine Held.take (k := 21) (i := 21) (v := ?vlvf18) noslvf okklvf_17 sizlvf (by kernel_rfl) rfl (fun _ _ _ h => h) (Or.inl ⟨by kernel_rfl, ?hylvf18⟩) (by assumption) ?restlvf18
    case hylvf18 => (intro w hSw; (try dsimp only at hSw); go_simp; (try (first | with_reducible rfl | rw [if_neg (by omega)])))
    try simp only [Act.put, List.getElem_toArray, List.getElem_cons_succ, List.getElem_cons_zero, List.setIfInBounds_toArray, List.set_cons_zero, List.set_cons_succ]
    refine Held.take (k := 22) (i := 22) (v := ?vlvf19) noslvf okklvf_18 sizlvf (by kernel_rfl) rfl (fun _ _ _ h => h) (Or.inl ⟨by kernel_rfl, ?hylvf19⟩) (by assumption) ?restlvf19
    case hylvf19 => (intro w hSw; (try dsimp only at hSw); go_simp; (try (first | with_reducible rfl | rw [if_neg (by omega)])))
    try simp only [Act.put, List.getElem_toArray, List.getElem_cons_succ, List.getElem_cons_zero, List.setIfInBounds_toArray, List.set_cons_zero, List.set_cons_succ]
    refine Held.take (k := 23) (i := 23) (v := ?vlvf20) noslvf okklvf_19 sizlvf (by kernel_rfl) rfl (fun _ _ _ h => h) (Or.inl ⟨by kernel_rfl, ?hylvf20⟩) (by assumption) ?restlvf20
    case hylvf20 => (intro w hSw; (try dsimp only at hSw); go_simp; (try (first | with_reducible rfl | rw [if_neg (by omega)])))
    try simp only [Act.put, List.getElem_toArray, List.getElem_cons_succ, List.getElem_cons_zero, List.setIfInBounds_toArray, List.set_cons_zero, List.set_cons_succ]
    refine Held.take (k := 24) (i := 24) (v := ?vlvf21) noslvf okklvf_20 sizlvf (by kernel_rfl) rfl (fun _ _ _ h => h) (Or.inl ⟨by kernel_rfl, ?hylvf21⟩) (by assumption) ?restlvf21
    case hylvf21 => (intro w hSw; (try dsimp only at hSw); go_simp; (try (first | with_reducible rfl | rw [if_neg (by omega)])))
    try simp only [Act.put, List.getElem_toArray, List.getElem_cons_succ, List.getElem_cons_zero, List.setIfInBounds_toArray, List.set_cons_zero, List.set_cons_succ]
    refine Held.take (k := 25) (i := 25) (v := ?vlvf22) noslvf okklvf_21 sizlvf (by kernel_rfl) rfl (fun _ _ _ h => h) (Or.inl ⟨by kernel_rfl, ?hylvf22⟩) (by assumption) ?restlvf22
    case hylvf22 => (intro w hSw; (try dsimp only at hSw); go_simp; (try (first | with_reducible rfl | rw [if_neg (by omega)])))
    try simp only [Act.put, List.getElem_toArray, List.getElem_cons_succ, List.getElem_cons_zero, List.setIfInBounds_toArray, List.set_cons_zero, List.set_cons_succ]
    refine Held.two (o := ordlvf0) (o1 := ordlvf0) (o2 := ordlvf2) (k := 26) (i := 26) (j := 27) (by kernel_rfl) (by kernel_rfl) (by kernel_rfl) rfl rfl (by kernel_rfl) (by kernel_rfl) (fun K hK => ?_) (fun K hK => ?_)
    · go_simp
      go_at_call 25
      with_reducible refine (vWatch_is n2 c2 A2 t15.1 m2 d2 B2 t15.2 _ tl ts yt zt (by omega) (by omega) ⟨#[97, 110, 110]⟩ _ l15j).mono ?_
      rintro e y26 ⟨q26, rfl, r26, hbx⟩
      obtain ⟨Q26, qc26, rfl⟩ := r26.form8 1 rfl
      replace v0 := cell_below hbx v0
      replace v1 := cell_below hbx v1
      replace v2 := cell_below hbx v2
      replace v3 := cell_below hbx v3
      replace x0 := cell_below hbx x0
      replace x1 := cell_below hbx x1
      replace x2 := cell_below hbx x2
      replace x3 := cell_below hbx x3
      replace s0 := cell_below hbx s0
      replace s1 := cell_below hbx s1
      replace t0 := cell_below hbx t0
      replace t1 := cell_below hbx t1
      replace u0 := cell_below hbx u0
      replace u1 := cell_below hbx u1
      replace tl := tl.below hbx
      replace ts := ts.below hbx
      replace ul := ul.below hbx
      replace us := us.below hbx
      replace r12 := r12.below hbx
      replace r13 := r13.below hbx
      replace D := below_call D hbx
      clear hbx
      refine hK.out _ _ (by (try dsimp only); (exact ⟨v0, v1, v2, v3, x0, x1, x2, x3, s0, s1, t0, t1, u0, u1⟩)) (fun hHeld => ?_)
      clear hK K
      try simp only [Act.put, List.getElem_toArray, List.getElem_cons_succ, List.getElem_cons_zero, List.setIfInBounds_toArray, List.set_cons_zero, List.set_cons_succ]
      refine Held.only (k := 27) (i := 27) (show Region.ready .any opslvf (Held.lst 50 ordlvf0 27) = [27] by kernel_rfl) (by kernel_rfl) rfl (by kernel_rfl) (fun K hK => ?_)
      go_simp
      have hbx := below_box (w := y26) (.cells #[.string ⟨#[98, 111, 98]⟩] 9)
      have r27 := row15j y26
      replace v0 := cell_below hbx v0
      replace v1 := cell_below hbx v1
      replace v2 := cell_below hbx v2
      replace v3 := cell_below hbx v3
      replace x0 := cell_below hbx x0
      replace x1 := cell_below hbx x1
      replace x2 := cell_below hbx x2
      replace x3 := cell_below hbx x3
      replace s0 := cell_below hbx s0
      replace s1 := cell_below hbx s1
      replace t0 := cell_below hbx t0
      replace t1 := cell_below hbx t1
      replace u0 := cell_below hbx u0
      replace u1 := cell_below hbx u1
      replace tl := tl.below hbx
      replace ts := ts.below hbx
      replace ul := ul.below hbx
      replace us := us.below hbx
      replace r12 := r12.below hbx
      replace r13 := r13.below hbx
      replace r26 := r26.below hbx
      replace D := below_call D hbx
      clear hbx
      refine hK.out _ _ (by (try dsimp only); (exact ⟨v0, v1, v2, v3, x0, x1, x2, x3, s0, s1, t0, t1, u0, u1⟩)) (fun hHeld => ?_)
      clear hK K
      try simp only [Act.put, List.getElem_toArray, List.getElem_cons_succ, List.getElem_cons_zero, List.setIfInBounds_toArray, List.set_cons_zero, List.set_cons_succ]
      refine Held.only (k := 28) (i := 28) (show Region.ready .any opslvf (Held.lst 50 ordlvf0 28) = [28] by kernel_rfl) (by kernel_rfl) rfl (by kernel_rfl) (fun K hK => ?_)
      go_simp
      go_at_call 24
      with_reducible refine (re_ (refSame_calls _ _ _ _ _ _ _ _ _ r26 r27) (ret_bool (decide_eq_true rfl))).mono ?_
      rintro e y28 ⟨rfl, hbx⟩
      replace v0 := cell_below hbx v0
      replace v1 := cell_below hbx v1
      replace v2 := cell_below hbx v2
      replace v3 := cell_below hbx v3
      replace x0 := cell_below hbx x0
      replace x1 := cell_below hbx x1
      replace x2 := cell_below hbx x2
      replace x3 := cell_below hbx x3
      replace s0 := cell_below hbx s0
      replace s1 := cell_below hbx s1
      replace t0 := cell_below hbx t0
      replace t1 := cell_below hbx t1
      replace u0 := cell_below hbx u0
      replace u1 := cell_below hbx u1
      replace tl := tl.below hbx
      replace ts := ts.below hbx
      replace ul := ul.below hbx
      replace us := us.below hbx
      replace r12 := r12.below hbx
      replace r13 := r13.below hbx
      replace D := below_call D hbx
      clear hbx r26 r27
      refine hK.out _ _ (by (try dsimp only); (exact ⟨v0, v1, v2, v3, x0, x1, x2, x3, s0, s1, t0, t1, u0, u1⟩)) (fun hHeld => ?_)
      clear hK K
      try simp only [Act.put, List.getElem_toArray, List.getElem_cons_succ, List.getElem_cons_zero, List.setIfInBounds_toArray, List.set_cons_zero, List.set_cons_succ]
      refine Held.take (k := 29) (i := 29) (v := ?vlvf23) noslvf okklvf_22 sizlvf (by kernel_rfl) rfl (fun _ _ _ h => h) (Or.inl ⟨by kernel_rfl, ?hylvf23⟩) (by assumption) ?restlvf23
      case hylvf23 => (intro w hSw; (try dsimp only at hSw); go_simp; (try (first | with_reducible rfl | rw [if_neg (by omega)])))
      try simp only [Act.put, List.getElem_toArray, List.getElem_cons_succ, List.getElem_cons_zero, List.setIfInBounds_toArray, List.set_cons_zero, List.set_cons_succ]
      refine Held.take (k := 30) (i := 30) (v := ?vlvf24) noslvf okklvf_23 sizlvf (by kernel_rfl) rfl (fun _ _ _ h => h) (Or.inl ⟨by kernel_rfl, ?hylvf24⟩) (by assumption) ?restlvf24
      case hylvf24 => (intro w hSw; (try dsimp only at hSw); go_simp; (try (first | with_reducible rfl | rw [if_neg (by omega)])))
      try simp only [Act.put, List.getElem_toArray, List.getElem_cons_succ, List.getElem_cons_zero, List.setIfInBounds_toArray, List.set_cons_zero, List.set_cons_succ]
      refine Held.take (k := 31) (i := 31) (v := ?vlvf25) noslvf okklvf_24 sizlvf (by kernel_rfl) rfl (fun _ _ _ h => h) (Or.inl ⟨by kernel_rfl, ?hylvf25⟩) (by assumption) ?restlvf25
      case hylvf25 => (intro w hSw; (try dsimp only at hSw); go_simp; (try (first | with_reducible rfl | rw [if_neg (by omega)])))
      try simp only [Act.put, List.getElem_toArray, List.getElem_cons_succ, List.getElem_cons_zero, List.setIfInBounds_toArray, List.set_cons_zero, List.set_cons_succ]
      refine Held.only (k := 32) (i := 32) (show Region.ready .any opslvf (Held.lst 50 ordlvf0 32) = [32] by kernel_rfl) (by kernel_rfl) rfl (by kernel_rfl) (fun K hK => ?_)
      go_simp
      go_at_call 25
      with_reducible refine (vWatch_is n3 c3 A3 u15.1 m3 d3 B3 u15.2 _ ul us yu zu (by omega) (by omega) ⟨#[97, 110, 110]⟩ _ l15k).mono ?_
      rintro e y32 ⟨q32, rfl, r32, hbx⟩
      obtain ⟨Q32, qc32, rfl⟩ := r32.form8 0 rfl
      clear r32
      replace v0 := cell_below hbx v0
      replace v1 := cell_below hbx v1
      replace v2 := cell_below hbx v2
      replace v3 := cell_below hbx v3
      replace x0 := cell_below hbx x0
      replace x1 := cell_below hbx x1
      replace x2 := cell_below hbx x2
      replace x3 := cell_below hbx x3
      replace s0 := cell_below hbx s0
      replace s1 := cell_below hbx s1
      replace t0 := cell_below hbx t0
      replace t1 := cell_below hbx t1
      replace u0 := cell_below hbx u0
      replace u1 := cell_below hbx u1
      replace tl := tl.below hbx
      replace ts := ts.below hbx
      replace ul := ul.below hbx
      replace us := us.below hbx
      replace r12 := r12.below hbx
      replace r13 := r13.below hbx
      replace D := below_call D hbx
      clear hbx
      refine hK.out _ _ (by (try dsimp only); (exact ⟨v0, v1, v2, v3, x0, x1, x2, x3, s0, s1, t0, t1, u0, u1⟩)) (fun hHeld => ?_)
      clear hK K
      try simp only [Act.put, List.getElem_toArray, List.getElem_cons_succ, List.getElem_cons_zero, List.setIfInBounds_toArray, List.set_cons_zero, List.set_cons_succ]
      refine Held.take (k := 33) (i := 33) (v := ?vlvf26) noslvf okklvf_25 sizlvf (by kernel_rfl) rfl (fun _ _ _ h => h) (Or.inl ⟨by kernel_rfl, ?hylvf26⟩) (by assumption) ?restlvf26
      case hylvf26 => (intro w hSw; (try dsimp only at hSw); go_simp; (try (first | with_reducible rfl | rw [if_neg (by omega)])))
      try simp only [Act.put, List.getElem_toArray, List.getElem_cons_succ, List.getElem_cons_zero, List.setIfInBounds_toArray, List.set_cons_zero, List.set_cons_succ]
      refine Held.take (k := 34) (i := 34) (v := ?vlvf27) noslvf okklvf_26 sizlvf (by kernel_rfl) rfl (fun _ _ _ h => h) (Or.inl ⟨by kernel_rfl, ?hylvf27⟩) (by assumption) ?restlvf27
      case hylvf27 => (intro w hSw; (try dsimp only at hSw); go_simp; (try (first | with_reducible rfl | rw [if_neg (by omega)])))
      try simp only [Act.put, List.getElem_toArray, List.getElem_cons_succ, List.getElem_cons_zero, List.setIfInBounds_toArray, List.set_cons_zero, List.set_cons_succ]
      refine Held.take (k := 35) (i := 35) (v := ?vlvf28) noslvf okklvf_27 sizlvf (by kernel_rfl) rfl (fun _ _ _ h => h) (Or.inl ⟨by kernel_rfl, ?hylvf28⟩) (by assumption) ?restlvf28
      case hylvf28 => (intro w hSw; (try dsimp only at hSw); go_simp; (try (first | with_reducible rfl | rw [if_neg (by omega)])))
      try simp only [Act.put, List.getElem_toArray, List.getElem_cons_succ, List.getElem_cons_zero, List.setIfInBounds_toArray, List.set_cons_zero, List.set_cons_succ]
      refine Held.take (k := 36) (i := 36) (v := ?vlvf29) noslvf okklvf_28 sizlvf (by kernel_rfl) rfl (fun _ _ _ h => h) (Or.inl ⟨by kernel_rfl, ?hylvf29⟩) (by assumption) ?restlvf29
      case hylvf29 => (intro w hSw; (try dsimp only at hSw); go_simp; (try (first | with_reducible rfl | rw [if_neg (by omega)])))
      try simp only [Act.put, List.getElem_toArray, List.getElem_cons_succ, List.getElem_cons_zero, List.setIfInBounds_toArray, List.set_cons_zero, List.set_cons_succ]
      refine Held.take (k := 37) (i := 37) (v := ?vlvf30) noslvf okklvf_29 sizlvf (by kernel_rfl) rfl (fun _ _ _ h => h) (Or.inl ⟨by kernel_rfl, ?hylvf30⟩) (by assumption) ?restlvf30
      case hylvf30 => (intro w hSw; (try dsimp only at hSw); go_simp; (try (first | with_reducible rfl | rw [if_neg (by omega)])))
      try simp only [Act.put, List.getElem_toArray, List.getElem_cons_succ, List.getElem_cons_zero, List.setIfInBounds_toArray, List.set_cons_zero, List.set_cons_succ]
      refine Held.take (k := 38) (i := 38) (v := ?vlvf31) noslvf okklvf_30 sizlvf (by kernel_rfl) rfl (fun _ _ _ h => h) (Or.inl ⟨by kernel_rfl, ?hylvf31⟩) (by assumption) ?restlvf31
      case hylvf31 => (intro w hSw; (try dsimp only at hSw); go_simp; (try (first | with_reducible rfl | rw [if_neg (by omega)])))
      try simp only [Act.put, List.getElem_toArray, List.getElem_cons_succ, List.getElem_cons_zero, List.setIfInBounds_toArray, List.set_cons_zero, List.set_cons_succ]
      refine Held.take (k := 39) (i := 39) (v := ?vlvf32) noslvf okklvf_31 sizlvf (by kernel_rfl) rfl (fun _ _ _ h => h) (Or.inl ⟨by kernel_rfl, ?hylvf32⟩) (by assumption) ?restlvf32
      case hylvf32 => (intro w hSw; (try dsimp only at hSw); go_simp; (try (first | with_reducible rfl | rw [if_neg (by omega)])))
      try simp only [Act.put, List.getElem_toArray, List.getElem_cons_succ, List.getElem_cons_zero, List.setIfInBounds_toArray, List.set_cons_zero, List.set_cons_succ]
      refine Held.only (k := 40) (i := 40) (show Region.ready .any opslvf (Held.lst 50 ordlvf0 40) = [40] by kernel_rfl) (by kernel_rfl) rfl (by kernel_rfl) (fun K hK => ?_)
      go_simp
      have hbx := below_box (w := y32) (.cells #[.string ⟨#[97, 110, 110]⟩, .bool true, .int .i64 4, .int .i64 2, .int .i64 0, .string ⟨#[]⟩] 65)
      have r40 := row15f y32
      replace v0 := cell_below hbx v0
      replace v1 := cell_below hbx v1
      replace v2 := cell_below hbx v2
      replace v3 := cell_below hbx v3
      replace x0 := cell_below hbx x0
      replace x1 := cell_below hbx x1
      replace x2 := cell_below hbx x2
      replace x3 := cell_below hbx x3
      replace s0 := cell_below hbx s0
      replace s1 := cell_below hbx s1
      replace t0 := cell_below hbx t0
      replace t1 := cell_below hbx t1
      replace u0 := cell_below hbx u0
      replace u1 := cell_below hbx u1
      replace tl := tl.below hbx
      replace ts := ts.below hbx
      replace ul := ul.below hbx
      replace us := us.below hbx
      replace r12 := r12.below hbx
      replace r13 := r13.below hbx
      replace D := below_call D hbx
      clear hbx
      refine hK.out _ _ (by (try dsimp only); (exact ⟨v0, v1, v2, v3, x0, x1, x2, x3, s0, s1, t0, t1, u0, u1⟩)) (fun hHeld => ?_)
      clear hK K
      try simp only [Act.put, List.getElem_toArray, List.getElem_cons_succ, List.getElem_cons_zero, List.setIfInBounds_toArray, List.set_cons_zero, List.set_cons_succ]
      refine Held.only (k := 41) (i := 41) (show Region.ready .any opslvf (Held.lst 50 ordlvf0 41) = [41] by kernel_rfl) (by kernel_rfl) rfl (by kernel_rfl) (fun K hK => ?_)
      go_simp
      go_at_call 27
      with_reducible refine (re_ (sameCh _ _ _ _ _ _ _ _ _ r12 r40) (ret_bool (decide_eq_true rfl))).mono ?_
      rintro e y41 ⟨rfl, hbx⟩
      replace v0 := cell_below hbx v0
      replace v1 := cell_below hbx v1
      replace v2 := cell_below hbx v2
      replace v3 := cell_below hbx v3
      replace x0 := cell_below hbx x0
      replace x1 := cell_below hbx x1
      replace x2 := cell_below hbx x2
      replace x3 := cell_below hbx x3
      replace s0 := cell_below hbx s0
      replace s1 := cell_below hbx s1
      replace t0 := cell_below hbx t0
      replace t1 := cell_below hbx t1
      replace u0 := cell_below hbx u0
      replace u1 := cell_below hbx u1
      replace tl := tl.below hbx
      replace ts := ts.below hbx
      replace ul := ul.below hbx
      replace us := us.below hbx
      replace r13 := r13.below hbx
      replace D := below_call D hbx
      clear hbx r12 r40
      refine hK.out _ _ (by (try dsimp only); (exact ⟨v0, v1, v2, v3, x0, x1, x2, x3, s0, s1, t0, t1, u0, u1⟩)) (fun hHeld => ?_)
      clear hK K
      try simp only [Act.put, List.getElem_toArray, List.getElem_cons_succ, List.getElem_cons_zero, List.setIfInBounds_toArray, List.set_cons_zero, List.set_cons_succ]
      refine Held.take (k := 42) (i := 42) (v := ?vlvf33) noslvf okklvf_32 sizlvf (by kernel_rfl) rfl (fun _ _ _ h => h) (Or.inl ⟨by kernel_rfl, ?hylvf33⟩) (by assumption) ?restlvf33
      case hylvf33 => (intro w hSw; (try dsimp only at hSw); go_simp; (try (first | with_reducible rfl | rw [if_neg (by omega)])))
      try simp only [Act.put, List.getElem_toArray, List.getElem_cons_succ, List.getElem_cons_zero, List.setIfInBounds_toArray, List.set_cons_zero, List.set_cons_succ]
      refine Held.take (k := 43) (i := 43) (v := ?vlvf34) noslvf okklvf_33 sizlvf (by kernel_rfl) rfl (fun _ _ _ h => h) (Or.inl ⟨by kernel_rfl, ?hylvf34⟩) (by assumption) ?restlvf34
      case hylvf34 => (intro w hSw; (try dsimp only at hSw); go_simp; (try (first | with_reducible rfl | rw [if_neg (by omega)])))
      try simp only [Act.put, List.getElem_toArray, List.getElem_cons_succ, List.getElem_cons_zero, List.setIfInBounds_toArray, List.set_cons_zero, List.set_cons_succ]
      refine Held.take (k := 44) (i := 44) (v := ?vlvf35) noslvf okklvf_34 sizlvf (by kernel_rfl) rfl (fun _ _ _ h => h) (Or.inl ⟨by kernel_rfl, ?hylvf35⟩) (by assumption) ?restlvf35
      case hylvf35 => (intro w hSw; (try dsimp only at hSw); go_simp; (try (first | with_reducible rfl | rw [if_neg (by omega)])))
      try simp only [Act.put, List.getElem_toArray, List.getElem_cons_succ, List.getElem_cons_zero, List.setIfInBounds_toArray, List.set_cons_zero, List.set_cons_succ]
      refine Held.take (k := 45) (i := 45) (v := ?vlvf36) noslvf okklvf_35 sizlvf (by kernel_rfl) rfl (fun _ _ _ h => h) (Or.inl ⟨by kernel_rfl, ?hylvf36⟩) (by assumption) ?restlvf36
      case hylvf36 => (intro w hSw; (try dsimp only at hSw); go_simp; (try (first | with_reducible rfl | rw [if_neg (by omega)])))
      try simp only [Act.put, List.getElem_toArray, List.getElem_cons_succ, List.getElem_cons_zero, List.setIfInBounds_toArray, List.set_cons_zero, List.set_cons_succ]
      refine Held.only (k := 46) (i := 46) (show Region.ready .any opslvf (Held.lst 50 ordlvf0 46) = [46] by kernel_rfl) (by kernel_rfl) rfl (by kernel_rfl) (fun K hK => ?_)
      go_simp
      have hbx := below_box (w := y41) (.cells #[.string ⟨#[97, 110, 110]⟩, .bool false, .int .i64 0, .int .i64 0, .int .i64 0, .string ⟨#[]⟩] 65)
      have r46 := row15g y41
      replace v0 := cell_below hbx v0
      replace v1 := cell_below hbx v1
      replace v2 := cell_below hbx v2
      replace v3 := cell_below hbx v3
      replace x0 := cell_below hbx x0
      replace x1 := cell_below hbx x1
      replace x2 := cell_below hbx x2
      replace x3 := cell_below hbx x3
      replace s0 := cell_below hbx s0
      replace s1 := cell_below hbx s1
      replace t0 := cell_below hbx t0
      replace t1 := cell_below hbx t1
      replace u0 := cell_below hbx u0
      replace u1 := cell_below hbx u1
      replace tl := tl.below hbx
      replace ts := ts.below hbx
      replace ul := ul.below hbx
      replace us := us.below hbx
      replace r13 := r13.below hbx
      replace D := below_call D hbx
      clear hbx
      refine hK.out _ _ (by (try dsimp only); (exact ⟨v0, v1, v2, v3, x0, x1, x2, x3, s0, s1, t0, t1, u0, u1⟩)) (fun hHeld => ?_)
      clear hK K
      try simp only [Act.put, List.getElem_toArray, List.getElem_cons_succ, List.getElem_cons_zero, List.setIfInBounds_toArray, List.set_cons_zero, List.set_cons_succ]
      refine Held.only (k := 47) (i := 47) (show Region.ready .any opslvf (Held.lst 50 ordlvf0 47) = [47] by kernel_rfl) (by kernel_rfl) rfl (by kernel_rfl) (fun K hK => ?_)
      go_simp
      go_at_call 27
      with_reducible refine (re_ (sameCh _ _ _ _ _ _ _ _ _ r13 r46) (ret_bool (decide_eq_true rfl))).mono ?_
      rintro e y47 ⟨rfl, hbx⟩
      replace v0 := cell_below hbx v0
      replace v1 := cell_below hbx v1
      replace v2 := cell_below hbx v2
      replace v3 := cell_below hbx v3
      replace x0 := cell_below hbx x0
      replace x1 := cell_below hbx x1
      replace x2 := cell_below hbx x2
      replace x3 := cell_below hbx x3
      replace s0 := cell_below hbx s0
      replace s1 := cell_below hbx s1
      replace t0 := cell_below hbx t0
      replace t1 := cell_below hbx t1
      replace u0 := cell_below hbx u0
      replace u1 := cell_below hbx u1
      replace tl := tl.below hbx
      replace ts := ts.below hbx
      replace ul := ul.below hbx
      replace us := us.below hbx
      replace D := below_call D hbx
      clear hbx r13 r46
      refine hK.out _ _ (by (try dsimp only); (exact ⟨v0, v1, v2, v3, x0, x1, x2, x3, s0, s1, t0, t1, u0, u1⟩)) (fun hHeld => ?_)
      clear hK K
      try simp only [Act.put, List.getElem_toArray, List.getElem_cons_succ, List.getElem_cons_zero, List.setIfInBounds_toArray, List.set_cons_zero, List.set_cons_succ]
      refine Held.take (k := 48) (i := 48) (v := ?vlvf37) noslvf okklvf_36 sizlvf (by kernel_rfl) rfl (fun _ _ _ h => h) (Or.inl ⟨by kernel_rfl, ?hylvf37⟩) (by assumption) ?restlvf37
      case hylvf37 => (intro w hSw; (try dsimp only at hSw); go_simp; (try (first | with_reducible rfl | rw [if_neg (by omega)])))
      try simp only [Act.put, List.getElem_toArray, List.getElem_cons_succ, List.getElem_cons_zero, List.setIfInBounds_toArray, List.set_cons_zero, List.set_cons_succ]
      refine Held.take (k := 49) (i := 49) (v := ?vlvf38) noslvf okklvf_37 sizlvf (by kernel_rfl) rfl (fun _ _ _ h => h) (Or.inl ⟨by kernel_rfl, ?hylvf38⟩) (by assumption) ?restlvf38
      case hylvf38 => (intro w hSw; (try dsimp only at hSw); go_simp; (try (first | with_reducible rfl | rw [if_neg (by omega)])))
      try simp only [Act.put, List.getElem_toArray, List.getElem_cons_succ, List.getElem_cons_zero, List.setIfInBounds_toArray, List.set_cons_zero, List.set_cons_succ]
      refine wpAnyH_done (by kernel_rfl) ?_ _
      go_wp2
      go_ret
      exact ⟨rfl, D⟩
    · go_simp
      have hbx := below_box (w := y10) (.cells #[.string ⟨#[98, 111, 98]⟩] 9)
      have r27 := row15j y10
      replace v0 := cell_below hbx v0
      replace v1 := cell_below hbx v1
      replace v2 := cell_below hbx v2
      replace v3 := cell_below hbx v3
      replace x0 := cell_below hbx x0
      replace x1 := cell_below hbx x1
      replace x2 := cell_below hbx x2
      replace x3 := cell_below hbx x3
      replace s0 := cell_below hbx s0
      replace s1 := cell_below hbx s1
      replace t0 := cell_below hbx t0
      replace t1 := cell_below hbx t1
      replace u0 := cell_below hbx u0
      replace u1 := cell_below hbx u1
      replace tl := tl.below hbx
      replace ts := ts.below hbx
      replace ul := ul.below hbx
      replace us := us.below hbx
      replace r12 := r12.below hbx
      replace r13 := r13.below hbx
      replace D := below_call D hbx
      clear hbx
      refine hK.out _ _ (by (try dsimp only); (exact ⟨v0, v1, v2, v3, x0, x1, x2, x3, s0, s1, t0, t1, u0, u1⟩)) (fun hHeld => ?_)
      clear hK K
      try simp only [Act.put, List.getElem_toArray, List.getElem_cons_succ, List.getElem_cons_zero, List.setIfInBounds_toArray, List.set_cons_zero, List.set_cons_succ]
      refine Held.only (k := 27) (i := 26) (show Region.ready .any opslvf (Held.lst 50 ordlvf2 27) = [26] by kernel_rfl) (by kernel_rfl) rfl (by kernel_rfl) (fun K hK => ?_)
      go_simp
      go_at_call 25
      with_reducible refine (vWatch_is n2 c2 A2 t15.1 m2 d2 B2 t15.2 _ tl ts yt zt (by omega) (by omega) ⟨#[97, 110, 110]⟩ _ l15j).mono ?_
      rintro e y26 ⟨q26, rfl, r26, hbx⟩
      obtain ⟨Q26, qc26, rfl⟩ := r26.form8 1 rfl
      replace v0 := cell_below hbx v0
      replace v1 := cell_below hbx v1
      replace v2 := cell_below hbx v2
      replace v3 := cell_below hbx v3
      replace x0 := cell_below hbx x0
      replace x1 := cell_below hbx x1
      replace x2 := cell_below hbx x2
      replace x3 := cell_below hbx x3
      replace s0 := cell_below hbx s0
      replace s1 := cell_below hbx s1
      replace t0 := cell_below hbx t0
      replace t1 := cell_below hbx t1
      replace u0 := cell_below hbx u0
      replace u1 := cell_below hbx u1
      replace tl := tl.below hbx
      replace ts := ts.below hbx
      replace ul := ul.below hbx
      replace us := us.below hbx
      replace r12 := r12.below hbx
      replace r13 := r13.below hbx
      replace r27 := r27.below hbx
      replace D := below_call D hbx
      clear hbx
      refine hK.out _ _ (by (try dsimp only); (exact ⟨v0, v1, v2, v3, x0, x1, x2, x3, s0, s1, t0, t1, u0, u1⟩)) (fun hHeld => ?_)
      clear hK K
      try simp only [Act.put, List.getElem_toArray, List.getElem_cons_succ, List.getElem_cons_zero, List.setIfInBounds_toArray, List.set_cons_zero, List.set_cons_succ]
      refine Held.only (k := 28) (i := 28) (show Region.ready .any opslvf (Held.lst 50 ordlvf2 28) = [28] by kernel_rfl) (by kernel_rfl) rfl (by kernel_rfl) (fun K hK => ?_)
      go_simp
      go_at_call 24
      with_reducible refine (re_ (refSame_calls _ _ _ _ _ _ _ _ _ r26 r27) (ret_bool (decide_eq_true rfl))).mono ?_
      rintro e y28 ⟨rfl, hbx⟩
      replace v0 := cell_below hbx v0
      replace v1 := cell_below hbx v1
      replace v2 := cell_below hbx v2
      replace v3 := cell_below hbx v3
      replace x0 := cell_below hbx x0
      replace x1 := cell_below hbx x1
      replace x2 := cell_below hbx x2
      replace x3 := cell_below hbx x3
      replace s0 := cell_below hbx s0
      replace s1 := cell_below hbx s1
      replace t0 := cell_below hbx t0
      replace t1 := cell_below hbx t1
      replace u0 := cell_below hbx u0
      replace u1 := cell_below hbx u1
      replace tl := tl.below hbx
      replace ts := ts.below hbx
      replace ul := ul.below hbx
      replace us := us.below hbx
      replace r12 := r12.below hbx
      replace r13 := r13.below hbx
      replace D := below_call D hbx
      clear hbx r26 r27
      refine hK.out _ _ (by (try dsimp only); (exact ⟨v0, v1, v2, v3, x0, x1, x2, x3, s0, s1, t0, t1, u0, u1⟩)) (fun hHeld => ?_)
      clear hK K
      try simp only [Act.put, List.getElem_toArray, List.getElem_cons_succ, List.getElem_cons_zero, List.setIfInBounds_toArray, List.set_cons_zero, List.set_cons_succ]
      refine Held.take (k := 29) (i := 29) (v := ?vlvf39) noslvf (show Held.okAt opslvf ordlvf2 29 = true by kernel_rfl) sizlvf (by kernel_rfl) rfl (fun _ _ _ h => h) (Or.inl ⟨by kernel_rfl, ?hylvf39⟩) (by assumption) ?restlvf39
      case hylvf39 => (intro w hSw; (try dsimp only at hSw); go_simp; (try (first | with_reducible rfl | rw [if_neg (by omega)])))
      try simp only [Act.put, List.getElem_toArray, List.getElem_cons_succ, List.getElem_cons_zero, List.setIfInBounds_toArray, List.set_cons_zero, List.set_cons_succ]
      refine Held.take (k := 30) (i := 30) (v := ?vlvf40) noslvf (show Held.okAt opslvf ordlvf2 30 = true by kernel_rfl) sizlvf (by kernel_rfl) rfl (fun _ _ _ h => h) (Or.inl ⟨by kernel_rfl, ?hylvf40⟩) (by assumption) ?restlvf40
      case hylvf40 => (intro w hSw; (try dsimp only at hSw); go_simp; (try (first | with_reducible rfl | rw [if_neg (by omega)])))
      try simp only [Act.put, List.getElem_toArray, List.getElem_cons_succ, List.getElem_cons_zero, List.setIfInBounds_toArray, List.set_cons_zero, List.set_cons_succ]
      refine Held.take (k := 31) (i := 31) (v := ?vlvf41) noslvf (show Held.okAt opslvf ordlvf2 31 = true by kernel_rfl) sizlvf (by kernel_rfl) rfl (fun _ _ _ h => h) (Or.inl ⟨by kernel_rfl, ?hylvf41⟩) (by assumption) ?restlvf41
      case hylvf41 => (intro w hSw; (try dsimp only at hSw); go_simp; (try (first | with_reducible rfl | rw [if_neg (by omega)])))
      try simp only [Act.put, List.getElem_toArray, List.getElem_cons_succ, List.getElem_cons_zero, List.setIfInBounds_toArray, List.set_cons_zero, List.set_cons_succ]
      refine Held.only (k := 32) (i := 32) (show Region.ready .any opslvf (Held.lst 50 ordlvf2 32) = [32] by kernel_rfl) (by kernel_rfl) rfl (by kernel_rfl) (fun K hK => ?_)
      go_simp
      go_at_call 25
      with_reducible refine (vWatch_is n3 c3 A3 u15.1 m3 d3 B3 u15.2 _ ul us yu zu (by omega) (by omega) ⟨#[97, 110, 110]⟩ _ l15k).mono ?_
      rintro e y32 ⟨q32, rfl, r32, hbx⟩
      obtain ⟨Q32, qc32, rfl⟩ := r32.form8 0 rfl
      clear r32
      replace v0 := cell_below hbx v0
      replace v1 := cell_below hbx v1
      replace v2 := cell_below hbx v2
      replace v3 := cell_below hbx v3
      replace x0 := cell_below hbx x0
      replace x1 := cell_below hbx x1
      replace x2 := cell_below hbx x2
      replace x3 := cell_below hbx x3
      replace s0 := cell_below hbx s0
      replace s1 := cell_below hbx s1
      replace t0 := cell_below hbx t0
      replace t1 := cell_below hbx t1
      replace u0 := cell_below hbx u0
      replace u1 := cell_below hbx u1
      replace tl := tl.below hbx
      replace ts := ts.below hbx
      replace ul := ul.below hbx
      replace us := us.below hbx
      replace r12 := r12.below hbx
      replace r13 := r13.below hbx
      replace D := below_call D hbx
      clear hbx
      refine hK.out _ _ (by (try dsimp only); (exact ⟨v0, v1, v2, v3, x0, x1, x2, x3, s0, s1, t0, t1, u0, u1⟩)) (fun hHeld => ?_)
      clear hK K
      try simp only [Act.put, List.getElem_toArray, List.getElem_cons_succ, List.getElem_cons_zero, List.setIfInBounds_toArray, List.set_cons_zero, List.set_cons_succ]
      refine Held.take (k := 33) (i := 33) (v := ?vlvf42) noslvf (show Held.okAt opslvf ordlvf2 33 = true by kernel_rfl) sizlvf (by kernel_rfl) rfl (fun _ _ _ h => h) (Or.inl ⟨by kernel_rfl, ?hylvf42⟩) (by assumption) ?restlvf42
      case hylvf42 => (intro w hSw; (try dsimp only at hSw); go_simp; (try (first | with_reducible rfl | rw [if_neg (by omega)])))
      try simp only [Act.put, List.getElem_toArray, List.getElem_cons_succ, List.getElem_cons_zero, List.setIfInBounds_toArray, List.set_cons_zero, List.set_cons_succ]
      refine Held.take (k := 34) (i := 34) (v := ?vlvf43) noslvf (show Held.okAt opslvf ordlvf2 34 = true by kernel_rfl) sizlvf (by kernel_rfl) rfl (fun _ _ _ h => h) (Or.inl ⟨by kernel_rfl, ?hylvf43⟩) (by assumption) ?restlvf43
      case hylvf43 => (intro w hSw; (try dsimp only at hSw); go_simp; (try (first | with_reducible rfl | rw [if_neg (by omega)])))
      try simp only [Act.put, List.getElem_toArray, List.getElem_cons_succ, List.getElem_cons_zero, List.setIfInBounds_toArray, List.set_cons_zero, List.set_cons_succ]
      refine Held.take (k := 35) (i := 35) (v := ?vlvf44) noslvf (show Held.okAt opslvf ordlvf2 35 = true by kernel_rfl) sizlvf (by kernel_rfl) rfl (fun _ _ _ h => h) (Or.inl ⟨by kernel_rfl, ?hylvf44⟩) (by assumption) ?restlvf44
      case hylvf44 => (intro w hSw; (try dsimp only at hSw); go_simp; (try (first | with_reducible rfl | rw [if_neg (by omega)])))
      try simp only [Act.put, List.getElem_toArray, List.getElem_cons_succ, List.getElem_cons_zero, List.setIfInBounds_toArray, List.set_cons_zero, List.set_cons_succ]
      refine Held.take (k := 36) (i := 36) (v := ?vlvf45) noslvf (show Held.okAt opslvf ordlvf2 36 = true by kernel_rfl) sizlvf (by kernel_rfl) rfl (fun _ _ _ h => h) (Or.inl ⟨by kernel_rfl, ?hylvf45⟩) (by assumption) ?restlvf45
      case hylvf45 => (intro w hSw; (try dsimp only at hSw); go_simp; (try (first | with_reducible rfl | rw [if_neg (by omega)])))
      try simp only [Act.put, List.getElem_toArray, List.getElem_cons_succ, List.getElem_cons_zero, List.setIfInBounds_toArray, List.set_cons_zero, List.set_cons_succ]
      refine Held.take (k := 37) (i := 37) (v := ?vlvf46) noslvf (show Held.okAt opslvf ordlvf2 37 = true by kernel_rfl) sizlvf (by kernel_rfl) rfl (fun _ _ _ h => h) (Or.inl ⟨by kernel_rfl, ?hylvf46⟩) (by assumption) ?restlvf46
      case hylvf46 => (intro w hSw; (try dsimp only at hSw); go_simp; (try (first | with_reducible rfl | rw [if_neg (by omega)])))
      try simp only [Act.put, List.getElem_toArray, List.getElem_cons_succ, List.getElem_cons_zero, List.setIfInBounds_toArray, List.set_cons_zero, List.set_cons_succ]
      refine Held.take (k := 38) (i := 38) (v := ?vlvf47) noslvf (show Held.okAt opslvf ordlvf2 38 = true by kernel_rfl) sizlvf (by kernel_rfl) rfl (fun _ _ _ h => h) (Or.inl ⟨by kernel_rfl, ?hylvf47⟩) (by assumption) ?restlvf47
      case hylvf47 => (intro w hSw; (try dsimp only at hSw); go_simp; (try (first | with_reducible rfl | rw [if_neg (by omega)])))
      try simp only [Act.put, List.getElem_toArray, List.getElem_cons_succ, List.getElem_cons_zero, List.setIfInBounds_toArray, List.set_cons_zero, List.set_cons_succ]
      refine Held.take (k := 39) (i := 39) (v := ?vlvf48) noslvf (show Held.okAt opslvf ordlvf2 39 = true by kernel_rfl) sizlvf (by kernel_rfl) rfl (fun _ _ _ h => h) (Or.inl ⟨by kernel_rfl, ?hylvf48⟩) (by assumption) ?restlvf48
      case hylvf48 => (intro w hSw; (try dsimp only at hSw); go_simp; (try (first | with_reducible rfl | rw [if_neg (by omega)])))
      try simp only [Act.put, List.getElem_toArray, List.getElem_cons_succ, List.getElem_cons_zero, List.setIfInBounds_toArray, List.set_cons_zero, List.set_cons_succ]
      refine Held.only (k := 40) (i := 40) (show Region.ready .any opslvf (Held.lst 50 ordlvf2 40) = [40] by kernel_rfl) (by kernel_rfl) rfl (by kernel_rfl) (fun K hK => ?_)
      go_simp
      have hbx := below_box (w := y32) (.cells #[.string ⟨#[97, 110, 110]⟩, .bool true, .int .i64 4, .int .i64 2, .int .i64 0, .string ⟨#[]⟩] 65)
      have r40 := row15f y32
      replace v0 := cell_below hbx v0
      replace v1 := cell_below hbx v1
      replace v2 := cell_below hbx v2
      replace v3 := cell_below hbx v3
      replace x0 := cell_below hbx x0
      replace x1 := cell_below hbx x1
      replace x2 := cell_below hbx x2
      replace x3 := cell_below hbx x3
      replace s0 := cell_below hbx s0
      replace s1 := cell_below hbx s1
      replace t0 := cell_below hbx t0
      replace t1 := cell_below hbx t1
      replace u0 := cell_below hbx u0
      replace u1 := cell_below hbx u1
      replace tl := tl.below hbx
      replace ts := ts.below hbx
      replace ul := ul.below hbx
      replace us := us.below hbx
      replace r12 := r12.below hbx
      replace r13 := r13.below hbx
      replace D := below_call D hbx
      clear hbx
      refine hK.out _ _ (by (try dsimp only); (exact ⟨v0, v1, v2, v3, x0, x1, x2, x3, s0, s1, t0, t1, u0, u1⟩)) (fun hHeld => ?_)
      clear hK K
      try simp only [Act.put, List.getElem_toArray, List.getElem_cons_succ, List.getElem_cons_zero, List.setIfInBounds_toArray, List.set_cons_zero, List.set_cons_succ]
      refine Held.only (k := 41) (i := 41) (show Region.ready .any opslvf (Held.lst 50 ordlvf2 41) = [41] by kernel_rfl) (by kernel_rfl) rfl (by kernel_rfl) (fun K hK => ?_)
      go_simp
      go_at_call 27
      with_reducible refine (re_ (sameCh _ _ _ _ _ _ _ _ _ r12 r40) (ret_bool (decide_eq_true rfl))).mono ?_
      rintro e y41 ⟨rfl, hbx⟩
      replace v0 := cell_below hbx v0
      replace v1 := cell_below hbx v1
      replace v2 := cell_below hbx v2
      replace v3 := cell_below hbx v3
      replace x0 := cell_below hbx x0
      replace x1 := cell_below hbx x1
      replace x2 := cell_below hbx x2
      replace x3 := cell_below hbx x3
      replace s0 := cell_below hbx s0
      replace s1 := cell_below hbx s1
      replace t0 := cell_below hbx t0
      replace t1 := cell_below hbx t1
      replace u0 := cell_below hbx u0
      replace u1 := cell_below hbx u1
      replace tl := tl.below hbx
      replace ts := ts.below hbx
      replace ul := ul.below hbx
      replace us := us.below hbx
      replace r13 := r13.below hbx
      replace D := below_call D hbx
      clear hbx r12 r40
      refine hK.out _ _ (by (try dsimp only); (exact ⟨v0, v1, v2, v3, x0, x1, x2, x3, s0, s1, t0, t1, u0, u1⟩)) (fun hHeld => ?_)
      clear hK K
      try simp only [Act.put, List.getElem_toArray, List.getElem_cons_succ, List.getElem_cons_zero, List.setIfInBounds_toArray, List.set_cons_zero, List.set_cons_succ]
      refine Held.take (k := 42) (i := 42) (v := ?vlvf49) noslvf (show Held.okAt opslvf ordlvf2 42 = true by kernel_rfl) sizlvf (by kernel_rfl) rfl (fun _ _ _ h => h) (Or.inl ⟨by kernel_rfl, ?hylvf49⟩) (by assumption) ?restlvf49
      case hylvf49 => (intro w hSw; (try dsimp only at hSw); go_simp; (try (first | with_reducible rfl | rw [if_neg (by omega)])))
      try simp only [Act.put, List.getElem_toArray, List.getElem_cons_succ, List.getElem_cons_zero, List.setIfInBounds_toArray, List.set_cons_zero, List.set_cons_succ]
      refine Held.take (k := 43) (i := 43) (v := ?vlvf50) noslvf (show Held.okAt opslvf ordlvf2 43 = true by kernel_rfl) sizlvf (by kernel_rfl) rfl (fun _ _ _ h => h) (Or.inl ⟨by kernel_rfl, ?hylvf50⟩) (by assumption) ?restlvf50
      case hylvf50 => (intro w hSw; (try dsimp only at hSw); go_simp; (try (first | with_reducible rfl | rw [if_neg (by omega)])))
      try simp only [Act.put, List.getElem_toArray, List.getElem_cons_succ, List.getElem_cons_zero, List.setIfInBounds_toArray, List.set_cons_zero, List.set_cons_succ]
      refine Held.take (k := 44) (i := 44) (v := ?vlvf51) noslvf (show Held.okAt opslvf ordlvf2 44 = true by kernel_rfl) sizlvf (by kernel_rfl) rfl (fun _ _ _ h => h) (Or.inl ⟨by kernel_rfl, ?hylvf51⟩) (by assumption) ?restlvf51
      case hylvf51 => (intro w hSw; (try dsimp only at hSw); go_simp; (try (first | with_reducible rfl | rw [if_neg (by omega)])))
      try simp only [Act.put, List.getElem_toArray, List.getElem_cons_succ, List.getElem_cons_zero, List.setIfInBounds_toArray, List.set_cons_zero, List.set_cons_succ]
      refine Held.take (k := 45) (i := 45) (v := ?vlvf52) noslvf (show Held.okAt opslvf ordlvf2 45 = true by kernel_rfl) sizlvf (by kernel_rfl) rfl (fun _ _ _ h => h) (Or.inl ⟨by kernel_rfl, ?hylvf52⟩) (by assumption) ?restlvf52
      case hylvf52 => (intro w hSw; (try dsimp only at hSw); go_simp; (try (first | with_reducible rfl | rw [if_neg (by omega)])))
      try simp only [Act.put, List.getElem_toArray, List.getElem_cons_succ, List.getElem_cons_zero, List.setIfInBounds_toArray, List.set_cons_zero, List.set_cons_succ]
      refine Held.only (k := 46) (i := 46) (show Region.ready .any opslvf (Held.lst 50 ordlvf2 46) = [46] by kernel_rfl) (by kernel_rfl) rfl (by kernel_rfl) (fun K hK => ?_)
      go_simp
      have hbx := below_box (w := y41) (.cells #[.string ⟨#[97, 110, 110]⟩, .bool false, .int .i64 0, .int .i64 0, .int .i64 0, .string ⟨#[]⟩] 65)
      have r46 := row15g y41
      replace v0 := cell_below hbx v0
      replace v1 := cell_below hbx v1
      replace v2 := cell_below hbx v2
      replace v3 := cell_below hbx v3
      replace x0 := cell_below hbx x0
      replace x1 := cell_below hbx x1
      replace x2 := cell_below hbx x2
      replace x3 := cell_below hbx x3
      replace s0 := cell_below hbx s0
      replace s1 := cell_below hbx s1
      replace t0 := cell_below hbx t0
      replace t1 := cell_below hbx t1
      replace u0 := cell_below hbx u0
      replace u1 := cell_below hbx u1
      replace tl := tl.below hbx
      replace ts := ts.below hbx
      replace ul := ul.below hbx
      replace us := us.below hbx
      replace r13 := r13.below hbx
      replace D := below_call D hbx
      clear hbx
      refine hK.out _ _ (by (try dsimp only); (exact ⟨v0, v1, v2, v3, x0, x1, x2, x3, s0, s1, t0, t1, u0, u1⟩)) (fun hHeld => ?_)
      clear hK K
      try simp only [Act.put, List.getElem_toArray, List.getElem_cons_succ, List.getElem_cons_zero, List.setIfInBounds_toArray, List.set_cons_zero, List.set_cons_succ]
      refine Held.only (k := 47) (i := 47) (show Region.ready .any opslvf (Held.lst 50 ordlvf2 47) = [47] by kernel_rfl) (by kernel_rfl) rfl (by kernel_rfl) (fun K hK => ?_)
      go_simp
      go_at_call 27
      with_reducible refine (re_ (sameCh _ _ _ _ _ _ _ _ _ r13 r46) (ret_bool (decide_eq_true rfl))).mono ?_
      rintro e y47 ⟨rfl, hbx⟩
      replace v0 := cell_below hbx v0
      replace v1 := cell_below hbx v1
      replace v2 := cell_below hbx v2
      replace v3 := cell_below hbx v3
      replace x0 := cell_below hbx x0
      replace x1 := cell_below hbx x1
      replace x2 := cell_below hbx x2
      replace x3 := cell_below hbx x3
      replace s0 := cell_below hbx s0
      replace s1 := cell_below hbx s1
      replace t0 := cell_below hbx t0
      replace t1 := cell_below hbx t1
      replace u0 := cell_below hbx u0
      replace u1 := cell_below hbx u1
      replace tl := tl.below hbx
      replace ts := ts.below hbx
      replace ul := ul.below hbx
      replace us := us.below hbx
      replace D := below_call D hbx
      clear hbx r13 r46
      refine hK.out _ _ (by (try dsimp only); (exact ⟨v0, v1, v2, v3, x0, x1, x2, x3, s0, s1, t0, t1, u0, u1⟩)) (fun hHeld => ?_)
      clear hK K
      try simp only [Act.put, List.getElem_toArray, List.getElem_cons_succ, List.getElem_cons_zero, List.setIfInBounds_toArray, List.set_cons_zero, List.set_cons_succ]
      refine Held.take (k := 48) (i := 48) (v := ?vlvf53) noslvf (show Held.okAt opslvf ordlvf2 48 = true by kernel_rfl) sizlvf (by kernel_rfl) rfl (fun _ _ _ h => h) (Or.inl ⟨by kernel_rfl, ?hylvf53⟩) (by assumption) ?restlvf53
      case hylvf53 => (intro w hSw; (try dsimp only at hSw); go_simp; (try (first | with_reducible rfl | rw [if_neg (by omega)])))
      try simp only [Act.put, List.getElem_toArray, List.getElem_cons_succ, List.getElem_cons_zero, List.setIfInBounds_toArray, List.set_cons_zero, List.set_cons_succ]
      refine Held.take (k := 49) (i := 49) (v := ?vlvf54) noslvf (show Held.okAt opslvf ordlvf2 49 = true by kernel_rfl) sizlvf (by kernel_rfl) rfl (fun _ _ _ h => h) (Or.inl ⟨by kernel_rfl, ?hylvf54⟩) (by assumption) ?restlvf54
      case hylvf54 => (intro w hSw; (try dsimp only at hSw); go_simp; (try (first | with_reducible rfl | rw [if_neg (by omega)])))
      try simp only [Act.put, List.getElem_toArray, List.getElem_cons_succ, List.getElem_cons_zero, List.setIfInBounds_toArray, List.set_cons_zero, List.set_cons_succ]
      refine wpAnyH_done (by kernel_rfl) ?_ _
      go_wp2
      go_ret
      exact ⟨rfl, D⟩
  · go_simp
    have hbx := below_box (w := y1) (.cells #[.string ⟨#[97, 110, 110]⟩, .int .i64 4, .int .i64 2, .int .i64 0, .string ⟨#[]⟩] 59)
    have r9 := row15i y1
    replace v0 := cell_below hbx v0
    replace v1 := cell_below hbx v1
    replace v2 := cell_below hbx v2
    replace v3 := cell_below hbx v3
    replace x0 := cell_below hbx x0
    replace x1 := cell_below hbx x1
    replace x2 := cell_below hbx x2
    replace x3 := cell_below hbx x3
    replace s0 := cell_below hbx s0
    replace s1 := cell_below hbx s1
    replace t0 := cell_below hbx t0
    replace t1 := cell_below hbx t1
    replace u0 := cell_below hbx u0
    replace u1 := cell_below hbx u1
    replace tl := tl.below hbx
    replace ts := ts.below hbx
    replace ul := ul.below hbx
    replace us := us.below hbx
    replace r12 := r12.below hbx
    replace r13 := r13.below hbx
    replace D := below_call D hbx
    clear hbx
    refine hK.out _ _ (by (try dsimp only); (exact ⟨v0, v1, v2, v3, x0, x1, x2, x3, s0, s1, t0, t1, u0, u1⟩)) (fun hHeld => ?_)
    clear hK K
    try simp only [Act.put, List.getElem_toArray, List.getElem_cons_succ, List.getElem_cons_zero, List.setIfInBounds_toArray, List.set_cons_zero, List.set_cons_succ]
    refine Held.only (k := 9) (i := 6) (show Region.ready .any opslvf (Held.lst 50 ordlvf1 9) = [6] by kernel_rfl) (by kernel_rfl) rfl (by kernel_rfl) (fun K hK => ?_)
    go_simp
    go_at_call 22
    with_reducible refine (vOf_is n2 c2 A2 t15.1 m2 d2 B2 t15.2 _ tl ts yt zt (by omega) (by omega) ⟨#[98, 111, 98]⟩ _ l15i).mono ?_
    rintro e y6 ⟨q6, rfl, r6, hbx⟩
    obtain ⟨Q6, qc6, rfl⟩ := r6.form8 1 rfl
    replace v0 := cell_below hbx v0
    replace v1 := cell_below hbx v1
    replace v2 := cell_below hbx v2
    replace v3 := cell_below hbx v3
    replace x0 := cell_below hbx x0
    replace x1 := cell_below hbx x1
    replace x2 := cell_below hbx x2
    replace x3 := cell_below hbx x3
    replace s0 := cell_below hbx s0
    replace s1 := cell_below hbx s1
    replace t0 := cell_below hbx t0
    replace t1 := cell_below hbx t1
    replace u0 := cell_below hbx u0
    replace u1 := cell_below hbx u1
    replace tl := tl.below hbx
    replace ts := ts.below hbx
    replace ul := ul.below hbx
    replace us := us.below hbx
    replace r12 := r12.below hbx
    replace r13 := r13.below hbx
    replace r9 := r9.below hbx
    replace D := below_call D hbx
    clear hbx
    refine hK.out _ _ (by (try dsimp only); (exact ⟨v0, v1, v2, v3, x0, x1, x2, x3, s0, s1, t0, t1, u0, u1⟩)) (fun hHeld => ?_)
    clear hK K
    try simp only [Act.put, List.getElem_toArray, List.getElem_cons_succ, List.getElem_cons_zero, List.setIfInBounds_toArray, List.set_cons_zero, List.set_cons_succ]
    refine Held.only (k := 10) (i := 10) (show Region.ready .any opslvf (Held.lst 50 ordlvf1 10) = [10] by kernel_rfl) (by kernel_rfl) rfl (by kernel_rfl) (fun K hK => ?_)
    go_simp
    go_at_call 21
    with_reducible refine (re_ (sameSn _ _ _ _ _ _ _ _ _ r6 r9) (ret_bool (decide_eq_true rfl))).mono ?_
    rintro e y10 ⟨rfl, hbx⟩
    replace v0 := cell_below hbx v0
    replace v1 := cell_below hbx v1
    replace v2 := cell_below hbx v2
    replace v3 := cell_below hbx v3
    replace x0 := cell_below hbx x0
    replace x1 := cell_below hbx x1
    replace x2 := cell_below hbx x2
    replace x3 := cell_below hbx x3
    replace s0 := cell_below hbx s0
    replace s1 := cell_below hbx s1
    replace t0 := cell_below hbx t0
    replace t1 := cell_below hbx t1
    replace u0 := cell_below hbx u0
    replace u1 := cell_below hbx u1
    replace tl := tl.below hbx
    replace ts := ts.below hbx
    replace ul := ul.below hbx
    replace us := us.below hbx
    replace r12 := r12.below hbx
    replace r13 := r13.below hbx
    replace D := below_call D hbx
    clear hbx r6 r9
    refine hK.out _ _ (by (try dsimp only); (exact ⟨v0, v1, v2, v3, x0, x1, x2, x3, s0, s1, t0, t1, u0, u1⟩)) (fun hHeld => ?_)
    clear hK K
    try simp only [Act.put, List.getElem_toArray, List.getElem_cons_succ, List.getElem_cons_zero, List.setIfInBounds_toArray, List.set_cons_zero, List.set_cons_succ]
    refine Held.take (k := 11) (i := 11) (v := ?vlvf55) noslvf (show Held.okAt opslvf ordlvf1 11 = true by kernel_rfl) sizlvf (by kernel_rfl) rfl (fun _ _ _ h => h) (Or.inl ⟨by kernel_rfl, ?hylvf55⟩) (by assumption) ?restlvf55
    case hylvf55 => (intro w hSw; (try dsimp only at hSw); go_simp; (try (first | with_reducible rfl | rw [if_neg (by omega)])))
    try simp only [Act.put, List.getElem_toArray, List.getElem_cons_succ, List.getElem_cons_zero, List.setIfInBounds_toArray, List.set_cons_zero, List.set_cons_succ]
    refine Held.take (k := 12) (i := 12) (v := ?vlvf56) noslvf (show Held.okAt opslvf ordlvf1 12 = true by kernel_rfl) sizlvf (by kernel_rfl) rfl (fun _ _ _ h => h) (Or.inl ⟨by kernel_rfl, ?hylvf56⟩) (by assumption) ?restlvf56
    case hylvf56 => (intro w hSw; (try dsimp only at hSw); go_simp; (try (first | with_reducible rfl | rw [if_neg (by omega)])))
    try simp only [Act.put, List.getElem_toArray, List.getElem_cons_succ, List.getElem_cons_zero, List.setIfInBounds_toArray, List.set_cons_zero, List.set_cons_succ]
    refine Held.take (k := 13) (i := 13) (v := ?vlvf57) noslvf (show Held.okAt opslvf ordlvf1 13 = true by kernel_rfl) sizlvf (by kernel_rfl) rfl (fun _ _ _ h => h) (Or.inl ⟨by kernel_rfl, ?hylvf57⟩) (by assumption) ?restlvf57
    case hylvf57 => (intro w hSw; (try dsimp only at hSw); go_simp; (try (first | with_reducible rfl | rw [if_neg (by omega)])))
    try simp only [Act.put, List.getElem_toArray, List.getElem_cons_succ, List.getElem_cons_zero, List.setIfInBounds_toArray, List.set_cons_zero, List.set_cons_succ]
    refine Held.take (k := 14) (i := 14) (v := ?vlvf58) noslvf (show Held.okAt opslvf ordlvf1 14 = true by kernel_rfl) sizlvf (by kernel_rfl) rfl (fun _ _ _ h => h) (Or.inl ⟨by kernel_rfl, ?hylvf58⟩) (by assumption) ?restlvf58
    case hylvf58 => (intro w hSw; (try dsimp only at hSw); go_simp; (try (first | with_reducible rfl | rw [if_neg (by omega)])))
    try simp only [Act.put, List.getElem_toArray, List.getElem_cons_succ, List.getElem_cons_zero, List.setIfInBounds_toArray, List.set_cons_zero, List.set_cons_succ]
    refine Held.take (k := 15) (i := 15) (v := ?vlvf59) noslvf (show Held.okAt opslvf ordlvf1 15 = true by kernel_rfl) sizlvf (by kernel_rfl) rfl (fun _ _ _ h => h) (Or.inl ⟨by kernel_rfl, ?hylvf59⟩) (by assumption) ?restlvf59
    case hylvf59 => (intro w hSw; (try dsimp only at hSw); go_simp; (try (first | with_reducible rfl | rw [if_neg (by omega)])))
    try simp only [Act.put, List.getElem_toArray, List.getElem_cons_succ, List.getElem_cons_zero, List.setIfInBounds_toArray, List.set_cons_zero, List.set_cons_succ]
    refine Held.take (k := 16) (i := 16) (v := ?vlvf60) noslvf (show Held.okAt opslvf ordlvf1 16 = true by kernel_rfl) sizlvf (by kernel_rfl) rfl (fun _ _ _ h => h) (Or.inl ⟨by kernel_rfl, ?hylvf60⟩) (by assumption) ?restlvf60
    case hylvf60 => (intro w hSw; (try dsimp only at hSw); go_simp; (try (first | with_reducible rfl | rw [if_neg (by omega)])))
    try simp only [Act.put, List.getElem_toArray, List.getElem_cons_succ, List.getElem_cons_zero, List.setIfInBounds_toArray, List.set_cons_zero, List.set_cons_succ]
    refine Held.take (k := 17) (i := 17) (v := ?vlvf61) noslvf (show Held.okAt opslvf ordlvf1 17 = true by kernel_rfl) sizlvf (by kernel_rfl) rfl (fun _ _ _ h => h) (Or.inl ⟨by kernel_rfl, ?hylvf61⟩) (by assumption) ?restlvf61
    case hylvf61 => (intro w hSw; (try dsimp only at hSw); go_simp; (try (first | with_reducible rfl | rw [if_neg (by omega)])))
    try simp only [Act.put, List.getElem_toArray, List.getElem_cons_succ, List.getElem_cons_zero, List.setIfInBounds_toArray, List.set_cons_zero, List.set_cons_succ]
    refine Held.take (k := 18) (i := 18) (v := ?vlvf62) noslvf (show Held.okAt opslvf ordlvf1 18 = true by kernel_rfl) sizlvf (by kernel_rfl) rfl (fun _ _ _ h => h) (Or.inl ⟨by kernel_rfl, ?hylvf62⟩) (by assumption) ?restlvf62
    case hylvf62 => (intro w hSw; (try dsimp only at hSw); go_simp; (try (first | with_reducible rfl | rw [if_neg (by omega)])))
    try simp only [Act.put, List.getElem_toArray, List.getElem_cons_succ, List.getElem_cons_zero, List.setIfInBounds_toArray, List.set_cons_zero, List.set_cons_succ]
    refine Held.take (k := 19) (i := 19) (v := ?vlvf63) noslvf (show Held.okAt opslvf ordlvf1 19 = true by kernel_rfl) sizlvf (by kernel_rfl) rfl (fun _ _ _ h => h) (Or.inl ⟨by kernel_rfl, ?hylvf63⟩) (by assumption) ?restlvf63
    case hylvf63 => (intro w hSw; (try dsimp only at hSw); go_simp; (try (first | with_reducible rfl | rw [if_neg (by omega)])))
    try simp only [Act.put, List.getElem_toArray, List.getElem_cons_succ, List.getElem_cons_zero, List.setIfInBounds_toArray, List.set_cons_zero, List.set_cons_succ]
    refine Held.take (k := 20) (i := 20) (v := ?vlvf64) noslvf (show Held.okAt opslvf ordlvf1 20 = true by kernel_rfl) sizlvf (by kernel_rfl) rfl (fun _ _ _ h => h) (Or.inl ⟨by kernel_rfl, ?hylvf64⟩) (by assumption) ?restlvf64
    case hylvf64 => (intro w hSw; (try dsimp only at hSw); go_simp; (try (first | with_reducible rfl | rw [if_neg (by omega)])))
    try simp only [Act.put, List.getElem_toArray, List.getElem_cons_succ, List.getElem_cons_zero, List.setIfInBounds_toArray, List.set_cons_zero, List.set_cons_succ]
    refine Held.take (k := 21) (i := 21) (v := ?vlvf65) noslvf (show Held.okAt opslvf ordlvf1 21 = true by kernel_rfl) sizlvf (by kernel_rfl) rfl (fun _ _ _ h => h) (Or.inl ⟨by kernel_rfl, ?hylvf65⟩) (by assumption) ?restlvf65
    case hylvf65 => (intro w hSw; (try dsimp only at hSw); go_simp; (try (first | with_reducible rfl | rw [if_neg (by omega)])))
    try simp only [Act.put, List.getElem_toArray, List.getElem_cons_succ, List.getElem_cons_zero, List.setIfInBounds_toArray, List.set_cons_zero, List.set_cons_succ]
    refine Held.take (k := 22) (i := 22) (v := ?vlvf66) noslvf (show Held.okAt opslvf ordlvf1 22 = true by kernel_rfl) sizlvf (by kernel_rfl) rfl (fun _ _ _ h => h) (Or.inl ⟨by kernel_rfl, ?hylvf66⟩) (by assumption) ?restlvf66
    case hylvf66 => (intro w hSw; (try dsimp only at hSw); go_simp; (try (first | with_reducible rfl | rw [if_neg (by omega)])))
    try simp only [Act.put, List.getElem_toArray, List.getElem_cons_succ, List.getElem_cons_zero, List.setIfInBounds_toArray, List.set_cons_zero, List.set_cons_succ]
    refine Held.take (k := 23) (i := 23) (v := ?vlvf67) noslvf (show Held.okAt opslvf ordlvf1 23 = true by kernel_rfl) sizlvf (by kernel_rfl) rfl (fun _ _ _ h => h) (Or.inl ⟨by kernel_rfl, ?hylvf67⟩) (by assumption) ?restlvf67
    case hylvf67 => (intro w hSw; (try dsimp only at hSw); go_simp; (try (first | with_reducible rfl | rw [if_neg (by omega)])))
    try simp only [Act.put, List.getElem_toArray, List.getElem_cons_succ, List.getElem_cons_zero, List.setIfInBounds_toArray, List.set_cons_zero, List.set_cons_succ]
    refine Held.take (k := 24) (i := 24) (v := ?vlvf68) noslvf (show Held.okAt opslvf ordlvf1 24 = true by kernel_rfl) sizlvf (by kernel_rfl) rfl (fun _ _ _ h => h) (Or.inl ⟨by kernel_rfl, ?hylvf68⟩) (by assumption) ?restlvf68
    case hylvf68 => (intro w hSw; (try dsimp only at hSw); go_simp; (try (first | with_reducible rfl | rw [if_neg (by omega)])))
    try simp only [Act.put, List.getElem_toArray, List.getElem_cons_succ, List.getElem_cons_zero, List.setIfInBounds_toArray, List.set_cons_zero, List.set_cons_succ]
    refine Held.take (k := 25) (i := 25) (v := ?vlvf69) noslvf (show Held.okAt opslvf ordlvf1 25 = true by kernel_rfl) sizlvf (by kernel_rfl) rfl (fun _ _ _ h => h) (Or.inl ⟨by kernel_rfl, ?hylvf69⟩) (by assumption) ?restlvf69
    case hylvf69 => (intro w hSw; (try dsimp only at hSw); go_simp; (try (first | with_reducible rfl | rw [if_neg (by omega)])))
    try simp only [Act.put, List.getElem_toArray, List.getElem_cons_succ, List.getElem_cons_zero, List.setIfInBounds_toArray, List.set_cons_zero, List.set_cons_succ]
    refine Held.two (o := ordlvf1) (o1 := ordlvf1) (o2 := ordlvf3) (k := 26) (i := 26) (j := 27) (by kernel_rfl) (by kernel_rfl) (by kernel_rfl) rfl rfl (by kernel_rfl) (by kernel_rfl) (fun K hK => ?_) (fun K hK => ?_)
    · go_simp
      go_at_call 25
      with_reducible refine (vWatch_is n2 c2 A2 t15.1 m2 d2 B2 t15.2 _ tl ts yt zt (by omega) (by omega) ⟨#[97, 110, 110]⟩ _ l15j).mono ?_
      rintro e y26 ⟨q26, rfl, r26, hbx⟩
      obtain ⟨Q26, qc26, rfl⟩ := r26.form8 1 rfl
      replace v0 := cell_below hbx v0
      replace v1 := cell_below hbx v1
      replace v2 := cell_below hbx v2
      replace v3 := cell_below hbx v3
      replace x0 := cell_below hbx x0
      replace x1 := cell_below hbx x1
      replace x2 := cell_below hbx x2
      replace x3 := cell_below hbx x3
      replace s0 := cell_below hbx s0
      replace s1 := cell_below hbx s1
      replace t0 := cell_below hbx t0
      replace t1 := cell_below hbx t1
      replace u0 := cell_below hbx u0
      replace u1 := cell_below hbx u1
      replace tl := tl.below hbx
      replace ts := ts.below hbx
      replace ul := ul.below hbx
      replace us := us.below hbx
      replace r12 := r12.below hbx
      replace r13 := r13.below hbx
      replace D := below_call D hbx
      clear hbx
      refine hK.out _ _ (by (try dsimp only); (exact ⟨v0, v1, v2, v3, x0, x1, x2, x3, s0, s1, t0, t1, u0, u1⟩)) (fun hHeld => ?_)
      clear hK K
      try simp only [Act.put, List.getElem_toArray, List.getElem_cons_succ, List.getElem_cons_zero, List.setIfInBounds_toArray, List.set_cons_zero, List.set_cons_succ]
      refine Held.only (k := 27) (i := 27) (show Region.ready .any opslvf (Held.lst 50 ordlvf1 27) = [27] by kernel_rfl) (by kernel_rfl) rfl (by kernel_rfl) (fun K hK => ?_)
      go_simp
      have hbx := below_box (w := y26) (.cells #[.string ⟨#[98, 111, 98]⟩] 9)
      have r27 := row15j y26
      replace v0 := cell_below hbx v0
      replace v1 := cell_below hbx v1
      replace v2 := cell_below hbx v2
      replace v3 := cell_below hbx v3
      replace x0 := cell_below hbx x0
      replace x1 := cell_below hbx x1
      replace x2 := cell_below hbx x2
      replace x3 := cell_below hbx x3
      replace s0 := cell_below hbx s0
      replace s1 := cell_below hbx s1
      replace t0 := cell_below hbx t0
      replace t1 := cell_below hbx t1
      replace u0 := cell_below hbx u0
      replace u1 := cell_below hbx u1
      replace tl := tl.below hbx
      replace ts := ts.below hbx
      replace ul := ul.below hbx
      replace us := us.below hbx
      replace r12 := r12.below hbx
      replace r13 := r13.below hbx
      replace r26 := r26.below hbx
      replace D := below_call D hbx
      clear hbx
      refine hK.out _ _ (by (try dsimp only); (exact ⟨v0, v1, v2, v3, x0, x1, x2, x3, s0, s1, t0, t1, u0, u1⟩)) (fun hHeld => ?_)
      clear hK K
      try simp only [Act.put, List.getElem_toArray, List.getElem_cons_succ, List.getElem_cons_zero, List.setIfInBounds_toArray, List.set_cons_zero, List.set_cons_succ]
      refine Held.only (k := 28) (i := 28) (show Region.ready .any opslvf (Held.lst 50 ordlvf1 28) = [28] by kernel_rfl) (by kernel_rfl) rfl (by kernel_rfl) (fun K hK => ?_)
      go_simp
      go_at_call 24
      with_reducible refine (re_ (refSame_calls _ _ _ _ _ _ _ _ _ r26 r27) (ret_bool (decide_eq_true rfl))).mono ?_
      rintro e y28 ⟨rfl, hbx⟩
      replace v0 := cell_below hbx v0
      replace v1 := cell_below hbx v1
      replace v2 := cell_below hbx v2
      replace v3 := cell_below hbx v3
      replace x0 := cell_below hbx x0
      replace x1 := cell_below hbx x1
      replace x2 := cell_below hbx x2
      replace x3 := cell_below hbx x3
      replace s0 := cell_below hbx s0
      replace s1 := cell_below hbx s1
      replace t0 := cell_below hbx t0
      replace t1 := cell_below hbx t1
      replace u0 := cell_below hbx u0
      replace u1 := cell_below hbx u1
      replace tl := tl.below hbx
      replace ts := ts.below hbx
      replace ul := ul.below hbx
      replace us := us.below hbx
      replace r12 := r12.below hbx
      replace r13 := r13.below hbx
      replace D := below_call D hbx
      clear hbx r26 r27
      refine hK.out _ _ (by (try dsimp only); (exact ⟨v0, v1, v2, v3, x0, x1, x2, x3, s0, s1, t0, t1, u0, u1⟩)) (fun hHeld => ?_)
      clear hK K
      try simp only [Act.put, List.getElem_toArray, List.getElem_cons_succ, List.getElem_cons_zero, List.setIfInBounds_toArray, List.set_cons_zero, List.set_cons_succ]
      refine Held.take (k := 29) (i := 29) (v := ?vlvf70) noslvf (show Held.okAt opslvf ordlvf1 29 = true by kernel_rfl) sizlvf (by kernel_rfl) rfl (fun _ _ _ h => h) (Or.inl ⟨by kernel_rfl, ?hylvf70⟩) (by assumption) ?restlvf70
      case hylvf70 => (intro w hSw; (try dsimp only at hSw); go_simp; (try (first | with_reducible rfl | rw [if_neg (by omega)])))
      try simp only [Act.put, List.getElem_toArray, List.getElem_cons_succ, List.getElem_cons_zero, List.setIfInBounds_toArray, List.set_cons_zero, List.set_cons_succ]
      refine Held.take (k := 30) (i := 30) (v := ?vlvf71) noslvf (show Held.okAt opslvf ordlvf1 30 = true by kernel_rfl) sizlvf (by kernel_rfl) rfl (fun _ _ _ h => h) (Or.inl ⟨by kernel_rfl, ?hylvf71⟩) (by assumption) ?restlvf71
      case hylvf71 => (intro w hSw; (try dsimp only at hSw); go_simp; (try (first | with_reducible rfl | rw [if_neg (by omega)])))
      try simp only [Act.put, List.getElem_toArray, List.getElem_cons_succ, List.getElem_cons_zero, List.setIfInBounds_toArray, List.set_cons_zero, List.set_cons_succ]
      refine Held.take (k := 31) (i := 31) (v := ?vlvf72) noslvf (show Held.okAt opslvf ordlvf1 31 = true by kernel_rfl) sizlvf (by kernel_rfl) rfl (fun _ _ _ h => h) (Or.inl ⟨by kernel_rfl, ?hylvf72⟩) (by assumption) ?restlvf72
      case hylvf72 => (intro w hSw; (try dsimp only at hSw); go_simp; (try (first | with_reducible rfl | rw [if_neg (by omega)])))
      try simp only [Act.put, List.getElem_toArray, List.getElem_cons_succ, List.getElem_cons_zero, List.setIfInBounds_toArray, List.set_cons_zero, List.set_cons_succ]
      refine Held.only (k := 32) (i := 32) (show Region.ready .any opslvf (Held.lst 50 ordlvf1 32) = [32] by kernel_rfl) (by kernel_rfl) rfl (by kernel_rfl) (fun K hK => ?_)
      go_simp
      go_at_call 25
      with_reducible refine (vWatch_is n3 c3 A3 u15.1 m3 d3 B3 u15.2 _ ul us yu zu (by omega) (by omega) ⟨#[97, 110, 110]⟩ _ l15k).mono ?_
      rintro e y32 ⟨q32, rfl, r32, hbx⟩
      obtain ⟨Q32, qc32, rfl⟩ := r32.form8 0 rfl
      clear r32
      replace v0 := cell_below hbx v0
      replace v1 := cell_below hbx v1
      replace v2 := cell_below hbx v2
      replace v3 := cell_below hbx v3
      replace x0 := cell_below hbx x0
      replace x1 := cell_below hbx x1
      replace x2 := cell_below hbx x2
      replace x3 := cell_below hbx x3
      replace s0 := cell_below hbx s0
      replace s1 := cell_below hbx s1
      replace t0 := cell_below hbx t0
      replace t1 := cell_below hbx t1
      replace u0 := cell_below hbx u0
      replace u1 := cell_below hbx u1
      replace tl := tl.below hbx
      replace ts := ts.below hbx
      replace ul := ul.below hbx
      replace us := us.below hbx
      replace r12 := r12.below hbx
      replace r13 := r13.below hbx
      replace D := below_call D hbx
      clear hbx
      refine hK.out _ _ (by (try dsimp only); (exact ⟨v0, v1, v2, v3, x0, x1, x2, x3, s0, s1, t0, t1, u0, u1⟩)) (fun hHeld => ?_)
      clear hK K
      try simp only [Act.put, List.getElem_toArray, List.getElem_cons_succ, List.getElem_cons_zero, List.setIfInBounds_toArray, List.set_cons_zero, List.set_cons_succ]
      refine Held.take (k := 33) (i := 33) (v := ?vlvf73) noslvf (show Held.okAt opslvf ordlvf1 33 = true by kernel_rfl) sizlvf (by kernel_rfl) rfl (fun _ _ _ h => h) (Or.inl ⟨by kernel_rfl, ?hylvf73⟩) (by assumption) ?restlvf73
      case hylvf73 => (intro w hSw; (try dsimp only at hSw); go_simp; (try (first | with_reducible rfl | rw [if_neg (by omega)])))
      try simp only [Act.put, List.getElem_toArray, List.getElem_cons_succ, List.getElem_cons_zero, List.setIfInBounds_toArray, List.set_cons_zero, List.set_cons_succ]
      refine Held.take (k := 34) (i := 34) (v := ?vlvf74) noslvf (show Held.okAt opslvf ordlvf1 34 = true by kernel_rfl) sizlvf (by kernel_rfl) rfl (fun _ _ _ h => h) (Or.inl ⟨by kernel_rfl, ?hylvf74⟩) (by assumption) ?restlvf74
      case hylvf74 => (intro w hSw; (try dsimp only at hSw); go_simp; (try (first | with_reducible rfl | rw [if_neg (by omega)])))
      try simp only [Act.put, List.getElem_toArray, List.getElem_cons_succ, List.getElem_cons_zero, List.setIfInBounds_toArray, List.set_cons_zero, List.set_cons_succ]
      refine Held.take (k := 35) (i := 35) (v := ?vlvf75) noslvf (show Held.okAt opslvf ordlvf1 35 = true by kernel_rfl) sizlvf (by kernel_rfl) rfl (fun _ _ _ h => h) (Or.inl ⟨by kernel_rfl, ?hylvf75⟩) (by assumption) ?restlvf75
      case hylvf75 => (intro w hSw; (try dsimp only at hSw); go_simp; (try (first | with_reducible rfl | rw [if_neg (by omega)])))
      try simp only [Act.put, List.getElem_toArray, List.getElem_cons_succ, List.getElem_cons_zero, List.setIfInBounds_toArray, List.set_cons_zero, List.set_cons_succ]
      refine Held.take (k := 36) (i := 36) (v := ?vlvf76) noslvf (show Held.okAt opslvf ordlvf1 36 = true by kernel_rfl) sizlvf (by kernel_rfl) rfl (fun _ _ _ h => h) (Or.inl ⟨by kernel_rfl, ?hylvf76⟩) (by assumption) ?restlvf76
      case hylvf76 => (intro w hSw; (try dsimp only at hSw); go_simp; (try (first | with_reducible rfl | rw [if_neg (by omega)])))
      try simp only [Act.put, List.getElem_toArray, List.getElem_cons_succ, List.getElem_cons_zero, List.setIfInBounds_toArray, List.set_cons_zero, List.set_cons_succ]
      refine Held.take (k := 37) (i := 37) (v := ?vlvf77) noslvf (show Held.okAt opslvf ordlvf1 37 = true by kernel_rfl) sizlvf (by kernel_rfl) rfl (fun _ _ _ h => h) (Or.inl ⟨by kernel_rfl, ?hylvf77⟩) (by assumption) ?restlvf77
      case hylvf77 => (intro w hSw; (try dsimp only at hSw); go_simp; (try (first | with_reducible rfl | rw [if_neg (by omega)])))
      try simp only [Act.put, List.getElem_toArray, List.getElem_cons_succ, List.getElem_cons_zero, List.setIfInBounds_toArray, List.set_cons_zero, List.set_cons_succ]
      refine Held.take (k := 38) (i := 38) (v := ?vlvf78) noslvf (show Held.okAt opslvf ordlvf1 38 = true by kernel_rfl) sizlvf (by kernel_rfl) rfl (fun _ _ _ h => h) (Or.inl ⟨by kernel_rfl, ?hylvf78⟩) (by assumption) ?restlvf78
      case hylvf78 => (intro w hSw; (try dsimp only at hSw); go_simp; (try (first | with_reducible rfl | rw [if_neg (by omega)])))
      try simp only [Act.put, List.getElem_toArray, List.getElem_cons_succ, List.getElem_cons_zero, List.setIfInBounds_toArray, List.set_cons_zero, List.set_cons_succ]
      refine Held.take (k := 39) (i := 39) (v := ?vlvf79) noslvf (show Held.okAt opslvf ordlvf1 39 = true by kernel_rfl) sizlvf (by kernel_rfl) rfl (fun _ _ _ h => h) (Or.inl ⟨by kernel_rfl, ?hylvf79⟩) (by assumption) ?restlvf79
      case hylvf79 => (intro w hSw; (try dsimp only at hSw); go_simp; (try (first | with_reducible rfl | rw [if_neg (by omega)])))
      try simp only [Act.put, List.getElem_toArray, List.getElem_cons_succ, List.getElem_cons_zero, List.setIfInBounds_toArray, List.set_cons_zero, List.set_cons_succ]
      refine Held.only (k := 40) (i := 40) (show Region.ready .any opslvf (Held.lst 50 ordlvf1 40) = [40] by kernel_rfl) (by kernel_rfl) rfl (by kernel_rfl) (fun K hK => ?_)
      go_simp
      have hbx := below_box (w := y32) (.cells #[.string ⟨#[97, 110, 110]⟩, .bool true, .int .i64 4, .int .i64 2, .int .i64 0, .string ⟨#[]⟩] 65)
      have r40 := row15f y32
      replace v0 := cell_below hbx v0
      replace v1 := cell_below hbx v1
      replace v2 := cell_below hbx v2
      replace v3 := cell_below hbx v3
      replace x0 := cell_below hbx x0
      replace x1 := cell_below hbx x1
      replace x2 := cell_below hbx x2
      replace x3 := cell_below hbx x3
      replace s0 := cell_below hbx s0
      replace s1 := cell_below hbx s1
      replace t0 := cell_below hbx t0
      replace t1 := cell_below hbx t1
      replace u0 := cell_below hbx u0
      replace u1 := cell_below hbx u1
      replace tl := tl.below hbx
      replace ts := ts.below hbx
      replace ul := ul.below hbx
      replace us := us.below hbx
      replace r12 := r12.below hbx
      replace r13 := r13.below hbx
      replace D := below_call D hbx
      clear hbx
      refine hK.out _ _ (by (try dsimp only); (exact ⟨v0, v1, v2, v3, x0, x1, x2, x3, s0, s1, t0, t1, u0, u1⟩)) (fun hHeld => ?_)
      clear hK K
      try simp only [Act.put, List.getElem_toArray, List.getElem_cons_succ, List.getElem_cons_zero, List.setIfInBounds_toArray, List.set_cons_zero, List.set_cons_succ]
      refine Held.only (k := 41) (i := 41) (show Region.ready .any opslvf (Held.lst 50 ordlvf1 41) = [41] by kernel_rfl) (by kernel_rfl) rfl (by kernel_rfl) (fun K hK => ?_)
      go_simp
      go_at_call 27
      with_reducible refine (re_ (sameCh _ _ _ _ _ _ _ _ _ r12 r40) (ret_bool (decide_eq_true rfl))).mono ?_
      rintro e y41 ⟨rfl, hbx⟩
      replace v0 := cell_below hbx v0
      replace v1 := cell_below hbx v1
      replace v2 := cell_below hbx v2
      replace v3 := cell_below hbx v3
      replace x0 := cell_below hbx x0
      replace x1 := cell_below hbx x1
      replace x2 := cell_below hbx x2
      replace x3 := cell_below hbx x3
      replace s0 := cell_below hbx s0
      replace s1 := cell_below hbx s1
      replace t0 := cell_below hbx t0
      replace t1 := cell_below hbx t1
      replace u0 := cell_below hbx u0
      replace u1 := cell_below hbx u1
      replace tl := tl.below hbx
      replace ts := ts.below hbx
      replace ul := ul.below hbx
      replace us := us.below hbx
      replace r13 := r13.below hbx
      replace D := below_call D hbx
      clear hbx r12 r40
      refine hK.out _ _ (by (try dsimp only); (exact ⟨v0, v1, v2, v3, x0, x1, x2, x3, s0, s1, t0, t1, u0, u1⟩)) (fun hHeld => ?_)
      clear hK K
      try simp only [Act.put, List.getElem_toArray, List.getElem_cons_succ, List.getElem_cons_zero, List.setIfInBounds_toArray, List.set_cons_zero, List.set_cons_succ]
      refine Held.take (k := 42) (i := 42) (v := ?vlvf80) noslvf (show Held.okAt opslvf ordlvf1 42 = true by kernel_rfl) sizlvf (by kernel_rfl) rfl (fun _ _ _ h => h) (Or.inl ⟨by kernel_rfl, ?hylvf80⟩) (by assumption) ?restlvf80
      case hylvf80 => (intro w hSw; (try dsimp only at hSw); go_simp; (try (first | with_reducible rfl | rw [if_neg (by omega)])))
      try simp only [Act.put, List.getElem_toArray, List.getElem_cons_succ, List.getElem_cons_zero, List.setIfInBounds_toArray, List.set_cons_zero, List.set_cons_succ]
      refine Held.take (k := 43) (i := 43) (v := ?vlvf81) noslvf (show Held.okAt opslvf ordlvf1 43 = true by kernel_rfl) sizlvf (by kernel_rfl) rfl (fun _ _ _ h => h) (Or.inl ⟨by kernel_rfl, ?hylvf81⟩) (by assumption) ?restlvf81
      case hylvf81 => (intro w hSw; (try dsimp only at hSw); go_simp; (try (first | with_reducible rfl | rw [if_neg (by omega)])))
      try simp only [Act.put, List.getElem_toArray, List.getElem_cons_succ, List.getElem_cons_zero, List.setIfInBounds_toArray, List.set_cons_zero, List.set_cons_succ]
      refine Held.take (k := 44) (i := 44) (v := ?vlvf82) noslvf (show Held.okAt opslvf ordlvf1 44 = true by kernel_rfl) sizlvf (by kernel_rfl) rfl (fun _ _ _ h => h) (Or.inl ⟨by kernel_rfl, ?hylvf82⟩) (by assumption) ?restlvf82
      case hylvf82 => (intro w hSw; (try dsimp only at hSw); go_simp; (try (first | with_reducible rfl | rw [if_neg (by omega)])))
      try simp only [Act.put, List.getElem_toArray, List.getElem_cons_succ, List.getElem_cons_zero, List.setIfInBounds_toArray, List.set_cons_zero, List.set_cons_succ]
      refine Held.take (k := 45) (i := 45) (v := ?vlvf83) noslvf (show Held.okAt opslvf ordlvf1 45 = true by kernel_rfl) sizlvf (by kernel_rfl) rfl (fun _ _ _ h => h) (Or.inl ⟨by kernel_rfl, ?hylvf83⟩) (by assumption) ?restlvf83
      case hylvf83 => (intro w hSw; (try dsimp only at hSw); go_simp; (try (first | with_reducible rfl | rw [if_neg (by omega)])))
      try simp only [Act.put, List.getElem_toArray, List.getElem_cons_succ, List.getElem_cons_zero, List.setIfInBounds_toArray, List.set_cons_zero, List.set_cons_succ]
      refine Held.only (k := 46) (i := 46) (show Region.ready .any opslvf (Held.lst 50 ordlvf1 46) = [46] by kernel_rfl) (by kernel_rfl) rfl (by kernel_rfl) (fun K hK => ?_)
      go_simp
      have hbx := below_box (w := y41) (.cells #[.string ⟨#[97, 110, 110]⟩, .bool false, .int .i64 0, .int .i64 0, .int .i64 0, .string ⟨#[]⟩] 65)
      have r46 := row15g y41
      replace v0 := cell_below hbx v0
      replace v1 := cell_below hbx v1
      replace v2 := cell_below hbx v2
      replace v3 := cell_below hbx v3
      replace x0 := cell_below hbx x0
      replace x1 := cell_below hbx x1
      replace x2 := cell_below hbx x2
      replace x3 := cell_below hbx x3
      replace s0 := cell_below hbx s0
      replace s1 := cell_below hbx s1
      replace t0 := cell_below hbx t0
      replace t1 := cell_below hbx t1
      replace u0 := cell_below hbx u0
      replace u1 := cell_below hbx u1
      replace tl := tl.below hbx
      replace ts := ts.below hbx
      replace ul := ul.below hbx
      replace us := us.below hbx
      replace r13 := r13.below hbx
      replace D := below_call D hbx
      clear hbx
      refine hK.out _ _ (by (try dsimp only); (exact ⟨v0, v1, v2, v3, x0, x1, x2, x3, s0, s1, t0, t1, u0, u1⟩)) (fun hHeld => ?_)
      clear hK K
      try simp only [Act.put, List.getElem_toArray, List.getElem_cons_succ, List.getElem_cons_zero, List.setIfInBounds_toArray, List.set_cons_zero, List.set_cons_succ]
      refine Held.only (k := 47) (i := 47) (show Region.ready .any opslvf (Held.lst 50 ordlvf1 47) = [47] by kernel_rfl) (by kernel_rfl) rfl (by kernel_rfl) (fun K hK => ?_)
      go_simp
      go_at_call 27
      with_reducible refine (re_ (sameCh _ _ _ _ _ _ _ _ _ r13 r46) (ret_bool (decide_eq_true rfl))).mono ?_
      rintro e y47 ⟨rfl, hbx⟩
      replace v0 := cell_below hbx v0
      replace v1 := cell_below hbx v1
      replace v2 := cell_below hbx v2
      replace v3 := cell_below hbx v3
      replace x0 := cell_below hbx x0
      replace x1 := cell_below hbx x1
      replace x2 := cell_below hbx x2
      replace x3 := cell_below hbx x3
      replace s0 := cell_below hbx s0
      replace s1 := cell_below hbx s1
      replace t0 := cell_below hbx t0
      replace t1 := cell_below hbx t1
      replace u0 := cell_below hbx u0
      replace u1 := cell_below hbx u1
      replace tl := tl.below hbx
      replace ts := ts.below hbx
      replace ul := ul.below hbx
      replace us := us.below hbx
      replace D := below_call D hbx
      clear hbx r13 r46
      refine hK.out _ _ (by (try dsimp only); (exact ⟨v0, v1, v2, v3, x0, x1, x2, x3, s0, s1, t0, t1, u0, u1⟩)) (fun hHeld => ?_)
      clear hK K
      try simp only [Act.put, List.getElem_toArray, List.getElem_cons_succ, List.getElem_cons_zero, List.setIfInBounds_toArray, List.set_cons_zero, List.set_cons_succ]
      refine Held.take (k := 48) (i := 48) (v := ?vlvf84) noslvf (show Held.okAt opslvf ordlvf1 48 = true by kernel_rfl) sizlvf (by kernel_rfl) rfl (fun _ _ _ h => h) (Or.inl ⟨by kernel_rfl, ?hylvf84⟩) (by assumption) ?restlvf84
      case hylvf84 => (intro w hSw; (try dsimp only at hSw); go_simp; (try (first | with_reducible rfl | rw [if_neg (by omega)])))
      try simp only [Act.put, List.getElem_toArray, List.getElem_cons_succ, List.getElem_cons_zero, List.setIfInBounds_toArray, List.set_cons_zero, List.set_cons_succ]
      refine Held.take (k := 49) (i := 49) (v := ?vlvf85) noslvf (show Held.okAt opslvf ordlvf1 49 = true by kernel_rfl) sizlvf (by kernel_rfl) rfl (fun _ _ _ h => h) (Or.inl ⟨by kernel_rfl, ?hylvf85⟩) (by assumption) ?restlvf85
      case hylvf85 => (intro w hSw; (try dsimp only at hSw); go_simp; (try (first | with_reducible rfl | rw [if_neg (by omega)])))
      try simp only [Act.put, List.getElem_toArray, List.getElem_cons_succ, List.getElem_cons_zero, List.setIfInBounds_toArray, List.set_cons_zero, List.set_cons_succ]
      refine wpAnyH_done (by kernel_rfl) ?_ _
      go_wp2
      go_ret
      exact ⟨rfl, D⟩
    · go_simp
      have hbx := below_box (w := y10) (.cells #[.string ⟨#[98, 111, 98]⟩] 9)
      have r27 := row15j y10
      replace v0 := cell_below hbx v0
      replace v1 := cell_below hbx v1
      replace v2 := cell_below hbx v2
      replace v3 := cell_below hbx v3
      replace x0 := cell_below hbx x0
      replace x1 := cell_below hbx x1
      replace x2 := cell_below hbx x2
      replace x3 := cell_below hbx x3
      replace s0 := cell_below hbx s0
      replace s1 := cell_below hbx s1
      replace t0 := cell_below hbx t0
      replace t1 := cell_below hbx t1
      replace u0 := cell_below hbx u0
      replace u1 := cell_below hbx u1
      replace tl := tl.below hbx
      replace ts := ts.below hbx
      replace ul := ul.below hbx
      replace us := us.below hbx
      replace r12 := r12.below hbx
      replace r13 := r13.below hbx
      replace D := below_call D hbx
      clear hbx
      refine hK.out _ _ (by (try dsimp only); (exact ⟨v0, v1, v2, v3, x0, x1, x2, x3, s0, s1, t0, t1, u0, u1⟩)) (fun hHeld => ?_)
      clear hK K
      try simp only [Act.put, List.getElem_toArray, List.getElem_cons_succ, List.getElem_cons_zero, List.setIfInBounds_toArray, List.set_cons_zero, List.set_cons_succ]
      refine Held.only (k := 27) (i := 26) (show Region.ready .any opslvf (Held.lst 50 ordlvf3 27) = [26] by kernel_rfl) (by kernel_rfl) rfl (by kernel_rfl) (fun K hK => ?_)
      go_simp
      go_at_call 25
      with_reducible refine (vWatch_is n2 c2 A2 t15.1 m2 d2 B2 t15.2 _ tl ts yt zt (by omega) (by omega) ⟨#[97, 110, 110]⟩ _ l15j).mono ?_
      rintro e y26 ⟨q26, rfl, r26, hbx⟩
      obtain ⟨Q26, qc26, rfl⟩ := r26.form8 1 rfl
      replace v0 := cell_below hbx v0
      replace v1 := cell_below hbx v1
      replace v2 := cell_below hbx v2
      replace v3 := cell_below hbx v3
      replace x0 := cell_below hbx x0
      replace x1 := cell_below hbx x1
      replace x2 := cell_below hbx x2
      replace x3 := cell_below hbx x3
      replace s0 := cell_below hbx s0
      replace s1 := cell_below hbx s1
      replace t0 := cell_below hbx t0
      replace t1 := cell_below hbx t1
      replace u0 := cell_below hbx u0
      replace u1 := cell_below hbx u1
      replace tl := tl.below hbx
      replace ts := ts.below hbx
      replace ul := ul.below hbx
      replace us := us.below hbx
      replace r12 := r12.below hbx
      replace r13 := r13.below hbx
      replace r27 := r27.below hbx
      replace D := below_call D hbx
      clear hbx
      refine hK.out _ _ (by (try dsimp only); (exact ⟨v0, v1, v2, v3, x0, x1, x2, x3, s0, s1, t0, t1, u0, u1⟩)) (fun hHeld => ?_)
      clear hK K
      try simp only [Act.put, List.getElem_toArray, List.getElem_cons_succ, List.getElem_cons_zero, List.setIfInBounds_toArray, List.set_cons_zero, List.set_cons_succ]
      refine Held.only (k := 28) (i := 28) (show Region.ready .any opslvf (Held.lst 50 ordlvf3 28) = [28] by kernel_rfl) (by kernel_rfl) rfl (by kernel_rfl) (fun K hK => ?_)
      go_simp
      go_at_call 24
      with_reducible refine (re_ (refSame_calls _ _ _ _ _ _ _ _ _ r26 r27) (ret_bool (decide_eq_true rfl))).mono ?_
      rintro e y28 ⟨rfl, hbx⟩
      replace v0 := cell_below hbx v0
      replace v1 := cell_below hbx v1
      replace v2 := cell_below hbx v2
      replace v3 := cell_below hbx v3
      replace x0 := cell_below hbx x0
      replace x1 := cell_below hbx x1
      replace x2 := cell_below hbx x2
      replace x3 := cell_below hbx x3
      replace s0 := cell_below hbx s0
      replace s1 := cell_below hbx s1
      replace t0 := cell_below hbx t0
      replace t1 := cell_below hbx t1
      replace u0 := cell_below hbx u0
      replace u1 := cell_below hbx u1
      replace tl := tl.below hbx
      replace ts := ts.below hbx
      replace ul := ul.below hbx
      replace us := us.below hbx
      replace r12 := r12.below hbx
      replace r13 := r13.below hbx
      replace D := below_call D hbx
      clear hbx r26 r27
      refine hK.out _ _ (by (try dsimp only); (exact ⟨v0, v1, v2, v3, x0, x1, x2, x3, s0, s1, t0, t1, u0, u1⟩)) (fun hHeld => ?_)
      clear hK K
      try simp only [Act.put, List.getElem_toArray, List.getElem_cons_succ, List.getElem_cons_zero, List.setIfInBounds_toArray, List.set_cons_zero, List.set_cons_succ]
      refine Held.take (k := 29) (i := 29) (v := ?vlvf86) noslvf (show Held.okAt opslvf ordlvf3 29 = true by kernel_rfl) sizlvf (by kernel_rfl) rfl (fun _ _ _ h => h) (Or.inl ⟨by kernel_rfl, ?hylvf86⟩) (by assumption) ?restlvf86
      case hylvf86 => (intro w hSw; (try dsimp only at hSw); go_simp; (try (first | with_reducible rfl | rw [if_neg (by omega)])))
      try simp only [Act.put, List.getElem_toArray, List.getElem_cons_succ, List.getElem_cons_zero, List.setIfInBounds_toArray, List.set_cons_zero, List.set_cons_succ]
      refine Held.take (k := 30) (i := 30) (v := ?vlvf87) noslvf (show Held.okAt opslvf ordlvf3 30 = true by kernel_rfl) sizlvf (by kernel_rfl) rfl (fun _ _ _ h => h) (Or.inl ⟨by kernel_rfl, ?hylvf87⟩) (by assumption) ?restlvf87
      case hylvf87 => (intro w hSw; (try dsimp only at hSw); go_simp; (try (first | with_reducible rfl | rw [if_neg (by omega)])))
      try simp only [Act.put, List.getElem_toArray, List.getElem_cons_succ, List.getElem_cons_zero, List.setIfInBounds_toArray, List.set_cons_zero, List.set_cons_succ]
      refine Held.take (k := 31) (i := 31) (v := ?vlvf88) noslvf (show Held.okAt opslvf ordlvf3 31 = true by kernel_rfl) sizlvf (by kernel_rfl) rfl (fun _ _ _ h => h) (Or.inl ⟨by kernel_rfl, ?hylvf88⟩) (by assumption) ?restlvf88
      case hylvf88 => (intro w hSw; (try dsimp only at hSw); go_simp; (try (first | with_reducible rfl | rw [if_neg (by omega)])))
      try simp only [Act.put, List.getElem_toArray, List.getElem_cons_succ, List.getElem_cons_zero, List.setIfInBounds_toArray, List.set_cons_zero, List.set_cons_succ]
      refine Held.only (k := 32) (i := 32) (show Region.ready .any opslvf (Held.lst 50 ordlvf3 32) = [32] by kernel_rfl) (by kernel_rfl) rfl (by kernel_rfl) (fun K hK => ?_)
      go_simp
      go_at_call 25
      with_reducible refine (vWatch_is n3 c3 A3 u15.1 m3 d3 B3 u15.2 _ ul us yu zu (by omega) (by omega) ⟨#[97, 110, 110]⟩ _ l15k).mono ?_
      rintro e y32 ⟨q32, rfl, r32, hbx⟩
      obtain ⟨Q32, qc32, rfl⟩ := r32.form8 0 rfl
      clear r32
      replace v0 := cell_below hbx v0
      replace v1 := cell_below hbx v1
      replace v2 := cell_below hbx v2
      replace v3 := cell_below hbx v3
      replace x0 := cell_below hbx x0
      replace x1 := cell_below hbx x1
      replace x2 := cell_below hbx x2
      replace x3 := cell_below hbx x3
      replace s0 := cell_below hbx s0
      replace s1 := cell_below hbx s1
      replace t0 := cell_below hbx t0
      replace t1 := cell_below hbx t1
      replace u0 := cell_below hbx u0
      replace u1 := cell_below hbx u1
      replace tl := tl.below hbx
      replace ts := ts.below hbx
      replace ul := ul.below hbx
      replace us := us.below hbx
      replace r12 := r12.below hbx
      replace r13 := r13.below hbx
      replace D := below_call D hbx
      clear hbx
      refine hK.out _ _ (by (try dsimp only); (exact ⟨v0, v1, v2, v3, x0, x1, x2, x3, s0, s1, t0, t1, u0, u1⟩)) (fun hHeld => ?_)
      clear hK K
      try simp only [Act.put, List.getElem_toArray, List.getElem_cons_succ, List.getElem_cons_zero, List.setIfInBounds_toArray, List.set_cons_zero, List.set_cons_succ]
      refine Held.take (k := 33) (i := 33) (v := ?vlvf89) noslvf (show Held.okAt opslvf ordlvf3 33 = true by kernel_rfl) sizlvf (by kernel_rfl) rfl (fun _ _ _ h => h) (Or.inl ⟨by kernel_rfl, ?hylvf89⟩) (by assumption) ?restlvf89
      case hylvf89 => (intro w hSw; (try dsimp only at hSw); go_simp; (try (first | with_reducible rfl | rw [if_neg (by omega)])))
      try simp only [Act.put, List.getElem_toArray, List.getElem_cons_succ, List.getElem_cons_zero, List.setIfInBounds_toArray, List.set_cons_zero, List.set_cons_succ]
      refine Held.take (k := 34) (i := 34) (v := ?vlvf90) noslvf (show Held.okAt opslvf ordlvf3 34 = true by kernel_rfl) sizlvf (by kernel_rfl) rfl (fun _ _ _ h => h) (Or.inl ⟨by kernel_rfl, ?hylvf90⟩) (by assumption) ?restlvf90
      case hylvf90 => (intro w hSw; (try dsimp only at hSw); go_simp; (try (first | with_reducible rfl | rw [if_neg (by omega)])))
      try simp only [Act.put, List.getElem_toArray, List.getElem_cons_succ, List.getElem_cons_zero, List.setIfInBounds_toArray, List.set_cons_zero, List.set_cons_succ]
      refine Held.take (k := 35) (i := 35) (v := ?vlvf91) noslvf (show Held.okAt opslvf ordlvf3 35 = true by kernel_rfl) sizlvf (by kernel_rfl) rfl (fun _ _ _ h => h) (Or.inl ⟨by kernel_rfl, ?hylvf91⟩) (by assumption) ?restlvf91
      case hylvf91 => (intro w hSw; (try dsimp only at hSw); go_simp; (try (first | with_reducible rfl | rw [if_neg (by omega)])))
      try simp only [Act.put, List.getElem_toArray, List.getElem_cons_succ, List.getElem_cons_zero, List.setIfInBounds_toArray, List.set_cons_zero, List.set_cons_succ]
      refine Held.take (k := 36) (i := 36) (v := ?vlvf92) noslvf (show Held.okAt opslvf ordlvf3 36 = true by kernel_rfl) sizlvf (by kernel_rfl) rfl (fun _ _ _ h => h) (Or.inl ⟨by kernel_rfl, ?hylvf92⟩) (by assumption) ?restlvf92
      case hylvf92 => (intro w hSw; (try dsimp only at hSw); go_simp; (try (first | with_reducible rfl | rw [if_neg (by omega)])))
      try simp only [Act.put, List.getElem_toArray, List.getElem_cons_succ, List.getElem_cons_zero, List.setIfInBounds_toArray, List.set_cons_zero, List.set_cons_succ]
      refine Held.take (k := 37) (i := 37) (v := ?vlvf93) noslvf (show Held.okAt opslvf ordlvf3 37 = true by kernel_rfl) sizlvf (by kernel_rfl) rfl (fun _ _ _ h => h) (Or.inl ⟨by kernel_rfl, ?hylvf93⟩) (by assumption) ?restlvf93
      case hylvf93 => (intro w hSw; (try dsimp only at hSw); go_simp; (try (first | with_reducible rfl | rw [if_neg (by omega)])))
      try simp only [Act.put, List.getElem_toArray, List.getElem_cons_succ, List.getElem_cons_zero, List.setIfInBounds_toArray, List.set_cons_zero, List.set_cons_succ]
      refine Held.take (k := 38) (i := 38) (v := ?vlvf94) noslvf (show Held.okAt opslvf ordlvf3 38 = true by kernel_rfl) sizlvf (by kernel_rfl) rfl (fun _ _ _ h => h) (Or.inl ⟨by kernel_rfl, ?hylvf94⟩) (by assumption) ?restlvf94
      case hylvf94 => (intro w hSw; (try dsimp only at hSw); go_simp; (try (first | with_reducible rfl | rw [if_neg (by omega)])))
      try simp only [Act.put, List.getElem_toArray, List.getElem_cons_succ, List.getElem_cons_zero, List.setIfInBounds_toArray, List.set_cons_zero, List.set_cons_succ]
      refine Held.take (k := 39) (i := 39) (v := ?vlvf95) noslvf (show Held.okAt opslvf ordlvf3 39 = true by kernel_rfl) sizlvf (by kernel_rfl) rfl (fun _ _ _ h => h) (Or.inl ⟨by kernel_rfl, ?hylvf95⟩) (by assumption) ?restlvf95
      case hylvf95 => (intro w hSw; (try dsimp only at hSw); go_simp; (try (first | with_reducible rfl | rw [if_neg (by omega)])))
      try simp only [Act.put, List.getElem_toArray, List.getElem_cons_succ, List.getElem_cons_zero, List.setIfInBounds_toArray, List.set_cons_zero, List.set_cons_succ]
      refine Held.only (k := 40) (i := 40) (show Region.ready .any opslvf (Held.lst 50 ordlvf3 40) = [40] by kernel_rfl) (by kernel_rfl) rfl (by kernel_rfl) (fun K hK => ?_)
      go_simp
      have hbx := below_box (w := y32) (.cells #[.string ⟨#[97, 110, 110]⟩, .bool true, .int .i64 4, .int .i64 2, .int .i64 0, .string ⟨#[]⟩] 65)
      have r40 := row15f y32
      replace v0 := cell_below hbx v0
      replace v1 := cell_below hbx v1
      replace v2 := cell_below hbx v2
      replace v3 := cell_below hbx v3
      replace x0 := cell_below hbx x0
      replace x1 := cell_below hbx x1
      replace x2 := cell_below hbx x2
      replace x3 := cell_below hbx x3
      replace s0 := cell_below hbx s0
      replace s1 := cell_below hbx s1
      replace t0 := cell_below hbx t0
      replace t1 := cell_below hbx t1
      replace u0 := cell_below hbx u0
      replace u1 := cell_below hbx u1
      replace tl := tl.below hbx
      replace ts := ts.below hbx
      replace ul := ul.below hbx
      replace us := us.below hbx
      replace r12 := r12.below hbx
      replace r13 := r13.below hbx
      replace D := below_call D hbx
      clear hbx
      refine hK.out _ _ (by (try dsimp only); (exact ⟨v0, v1, v2, v3, x0, x1, x2, x3, s0, s1, t0, t1, u0, u1⟩)) (fun hHeld => ?_)
      clear hK K
      try simp only [Act.put, List.getElem_toArray, List.getElem_cons_succ, List.getElem_cons_zero, List.setIfInBounds_toArray, List.set_cons_zero, List.set_cons_succ]
      refine Held.only (k := 41) (i := 41) (show Region.ready .any opslvf (Held.lst 50 ordlvf3 41) = [41] by kernel_rfl) (by kernel_rfl) rfl (by kernel_rfl) (fun K hK => ?_)
      go_simp
      go_at_call 27
      with_reducible refine (re_ (sameCh _ _ _ _ _ _ _ _ _ r12 r40) (ret_bool (decide_eq_true rfl))).mono ?_
      rintro e y41 ⟨rfl, hbx⟩
      replace v0 := cell_below hbx v0
      replace v1 := cell_below hbx v1
      replace v2 := cell_below hbx v2
      replace v3 := cell_below hbx v3
      replace x0 := cell_below hbx x0
      replace x1 := cell_below hbx x1
      replace x2 := cell_below hbx x2
      replace x3 := cell_below hbx x3
      replace s0 := cell_below hbx s0
      replace s1 := cell_below hbx s1
      replace t0 := cell_below hbx t0
      replace t1 := cell_below hbx t1
      replace u0 := cell_below hbx u0
      replace u1 := cell_below hbx u1
      replace tl := tl.below hbx
      replace ts := ts.below hbx
      replace ul := ul.below hbx
      replace us := us.below hbx
      replace r13 := r13.below hbx
      replace D := below_call D hbx
      clear hbx r12 r40
      refine hK.out _ _ (by (try dsimp only); (exact ⟨v0, v1, v2, v3, x0, x1, x2, x3, s0, s1, t0, t1, u0, u1⟩)) (fun hHeld => ?_)
      clear hK K
      try simp only [Act.put, List.getElem_toArray, List.getElem_cons_succ, List.getElem_cons_zero, List.setIfInBounds_toArray, List.set_cons_zero, List.set_cons_succ]
      refine Held.take (k := 42) (i := 42) (v := ?vlvf96) noslvf (show Held.okAt opslvf ordlvf3 42 = true by kernel_rfl) sizlvf (by kernel_rfl) rfl (fun _ _ _ h => h) (Or.inl ⟨by kernel_rfl, ?hylvf96⟩) (by assumption) ?restlvf96
      case hylvf96 => (intro w hSw; (try dsimp only at hSw); go_simp; (try (first | with_reducible rfl | rw [if_neg (by omega)])))
      try simp only [Act.put, List.getElem_toArray, List.getElem_cons_succ, List.getElem_cons_zero, List.setIfInBounds_toArray, List.set_cons_zero, List.set_cons_succ]
      refine Held.take (k := 43) (i := 43) (v := ?vlvf97) noslvf (show Held.okAt opslvf ordlvf3 43 = true by kernel_rfl) sizlvf (by kernel_rfl) rfl (fun _ _ _ h => h) (Or.inl ⟨by kernel_rfl, ?hylvf97⟩) (by assumption) ?restlvf97
      case hylvf97 => (intro w hSw; (try dsimp only at hSw); go_simp; (try (first | with_reducible rfl | rw [if_neg (by omega)])))
      try simp only [Act.put, List.getElem_toArray, List.getElem_cons_succ, List.getElem_cons_zero, List.setIfInBounds_toArray, List.set_cons_zero, List.set_cons_succ]
      refine Held.take (k := 44) (i := 44) (v := ?vlvf98) noslvf (show Held.okAt opslvf ordlvf3 44 = true by kernel_rfl) sizlvf (by kernel_rfl) rfl (fun _ _ _ h => h) (Or.inl ⟨by kernel_rfl, ?hylvf98⟩) (by assumption) ?restlvf98
      case hylvf98 => (intro w hSw; (try dsimp only at hSw); go_simp; (try (first | with_reducible rfl | rw [if_neg (by omega)])))
      try simp only [Act.put, List.getElem_toArray, List.getElem_cons_succ, List.getElem_cons_zero, List.setIfInBounds_toArray, List.set_cons_zero, List.set_cons_succ]
      refine Held.take (k := 45) (i := 45) (v := ?vlvf99) noslvf (show Held.okAt opslvf ordlvf3 45 = true by kernel_rfl) sizlvf (by kernel_rfl) rfl (fun _ _ _ h => h) (Or.inl ⟨by kernel_rfl, ?hylvf99⟩) (by assumption) ?restlvf99
      case hylvf99 => (intro w hSw; (try dsimp only at hSw); go_simp; (try (first | with_reducible rfl | rw [if_neg (by omega)])))
      try simp only [Act.put, List.getElem_toArray, List.getElem_cons_succ, List.getElem_cons_zero, List.setIfInBounds_toArray, List.set_cons_zero, List.set_cons_succ]
      refine Held.only (k := 46) (i := 46) (show Region.ready .any opslvf (Held.lst 50 ordlvf3 46) = [46] by kernel_rfl) (by kernel_rfl) rfl (by kernel_rfl) (fun K hK => ?_)
      go_simp
      have hbx := below_box (w := y41) (.cells #[.string ⟨#[97, 110, 110]⟩, .bool false, .int .i64 0, .int .i64 0, .int .i64 0, .string ⟨#[]⟩] 65)
      have r46 := row15g y41
      replace v0 := cell_below hbx v0
      replace v1 := cell_below hbx v1
      replace v2 := cell_below hbx v2
      replace v3 := cell_below hbx v3
      replace x0 := cell_below hbx x0
      replace x1 := cell_below hbx x1
      replace x2 := cell_below hbx x2
      replace x3 := cell_below hbx x3
      replace s0 := cell_below hbx s0
      replace s1 := cell_below hbx s1
      replace t0 := cell_below hbx t0
      replace t1 := cell_below hbx t1
      replace u0 := cell_below hbx u0
      replace u1 := cell_below hbx u1
      replace tl := tl.below hbx
      replace ts := ts.below hbx
      replace ul := ul.below hbx
      replace us := us.below hbx
      replace r13 := r13.below hbx
      replace D := below_call D hbx
      clear hbx
      refine hK.out _ _ (by (try dsimp only); (exact ⟨v0, v1, v2, v3, x0, x1, x2, x3, s0, s1, t0, t1, u0, u1⟩)) (fun hHeld => ?_)
      clear hK K
      try simp only [Act.put, List.getElem_toArray, List.getElem_cons_succ, List.getElem_cons_zero, List.setIfInBounds_toArray, List.set_cons_zero, List.set_cons_succ]
      refine Held.only (k := 47) (i := 47) (show Region.ready .any opslvf (Held.lst 50 ordlvf3 47) = [47] by kernel_rfl) (by kernel_rfl) rfl (by kernel_rfl) (fun K hK => ?_)
      go_simp
      go_at_call 27
      with_reducible refine (re_ (sameCh _ _ _ _ _ _ _ _ _ r13 r46) (ret_bool (decide_eq_true rfl))).mono ?_
      rintro e y47 ⟨rfl, hbx⟩
      replace v0 := cell_below hbx v0
      replace v1 := cell_below hbx v1
      replace v2 := cell_below hbx v2
      replace v3 := cell_below hbx v3
      replace x0 := cell_below hbx x0
      replace x1 := cell_below hbx x1
      replace x2 := cell_below hbx x2
      replace x3 := cell_below hbx x3
      replace s0 := cell_below hbx s0
      replace s1 := cell_below hbx s1
      replace t0 := cell_below hbx t0
      replace t1 := cell_below hbx t1
      replace u0 := cell_below hbx u0
      replace u1 := cell_below hbx u1
      replace tl := tl.below hbx
      replace ts := ts.below hbx
      replace ul := ul.below hbx
      replace us := us.below hbx
      replace D := below_call D hbx
      clear hbx r13 r46
      refine hK.out _ _ (by (try dsimp only); (exact ⟨v0, v1, v2, v3, x0, x1, x2, x3, s0, s1, t0, t1, u0, u1⟩)) (fun hHeld => ?_)
      clear hK K
      try simp only [Act.put, List.getElem_toArray, List.getElem_cons_succ, List.getElem_cons_zero, List.setIfInBounds_toArray, List.set_cons_zero, List.set_cons_succ]
      refine Held.take (k := 48) (i := 48) (v := ?vlvf100) noslvf (show Held.okAt opslvf ordlvf3 48 = true by kernel_rfl) sizlvf (by kernel_rfl) rfl (fun _ _ _ h => h) (Or.inl ⟨by kernel_rfl, ?hylvf100⟩) (by assumption) ?restlvf100
      case hylvf100 => (intro w hSw; (try dsimp only at hSw); go_simp; (try (first | with_reducible rfl | rw [if_neg (by omega)])))
      try simp only [Act.put, List.getElem_toArray, List.getElem_cons_succ, List.getElem_cons_zero, List.setIfInBounds_toArray, List.set_cons_zero, List.set_cons_succ]
      refine Held.take (k := 49) (i := 49) (v := ?vlvf101) noslvf (show Held.okAt opslvf ordlvf3 49 = true by kernel_rfl) sizlvf (by kernel_rfl) rfl (fun _ _ _ h => h) (Or.inl ⟨by kernel_rfl, ?hylvf101⟩) (by assumption) ?restlvf101
      case hylvf101 => (intro w hSw; (try dsimp only at hSw); go_simp; (try (first | with_reducible rfl | rw [if_neg (by omega)])))
      try simp only [Act.put, List.getElem_toArray, List.getElem_cons_succ, List.getElem_cons_zero, List.setIfInBounds_toArray, List.set_cons_zero, List.set_cons_succ]
      refine wpAnyH_done (by kernel_rfl) ?_ _
      go_wp2
      go_ret
      exact ⟨rfl, D⟩
end Go.Proofs.YtbpfcjdjhponaaaGreat
