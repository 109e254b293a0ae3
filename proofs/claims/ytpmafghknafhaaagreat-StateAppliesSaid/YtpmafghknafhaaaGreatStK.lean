/-
Layer 14: the walk of StateApplies.
-/
import Derived.Test.YtpmafghknafhaaaGreatStJ
import Derived.Test.YtpmafghknafhaaaGreatStG
set_option linter.unusedVariables false
set_option linter.unusedSimpArgs false
namespace Go.Proofs.YtpmafghknafhaaaGreat
open Go.RowKit
open Sp
noncomputable def opsst : Array Oper := Held.inBody 5 Tryz.f3.body
def ordst : List Nat := [0, 1, 2, 3, 4, 5, 6, 7, 8, 9, 11, 10, 12, 13, 14, 15, 16, 17, 19, 20, 18, 21, 22, 23, 24, 25, 27, 26, 28, 29, 30, 31, 32, 33, 34]
set_option maxRecDepth 100000 in
theorem rgst : Held.Reg opsst ordst 35 [0, 1, 3, 4, 5, 6, 7, 8, 9, 10, 13, 14, 15, 16, 17, 18, 19, 22, 23, 24, 25, 26, 30, 31, 33, 34] := ⟨by kernel_rfl, by kernel_rfl, by kernel_rfl⟩
set_option maxHeartbeats 32000000 in
set_option maxRecDepth 100000 in
theorem applies14_walk (n c : Nat) (A : Option Addr) (l : List En) (m d : Nat) (B : Option Addr) (s : List Se) (n2 c2 : Nat) (A2 : Option Addr) (l2 : List En) (m2 d2 : Nat) (B2 : Option Addr) (s2 : List Se) (e : Evt) (w : World)
    (hl : Row enEn 7 w (.slice A n c) l) (hz : SzE l) (hs : Row enSe 6 w (.slice B m d) s) (hy : SzEs s) (hl2 : Row enEn 7 w (.slice A2 n2 c2) l2) (hz2 : SzE l2) (hs2 : Row enSe 6 w (.slice B2 m2 d2) s2) (hy2 : SzEs s2) (he : OkEv e) :
    Calls Tryz.prog 3 #[agT A n c B m d, agT A2 n2 c2 B2 m2 d2, vaEv e] w fun x w' => x = .returned (.bool true) ∧ Below w.heap.size w w' := by
  obtain ⟨k, u, o, i, ⟨a, p, q, t⟩⟩ := e
  have hq : u.size ≤ 9223372036854775807 ∧ o.size ≤ 9223372036854775807 ∧ t.size ≤ 9223372036854775807 := by simp only [OkEv, maxLen] at he; exact he
  clear he
  have EA := Lib.hid hl.len_eq
  have EC := Lib.hid hl2.len_eq
  have D := below_alloc0 (below_alloc0 (below_box (w := w) (bxT A n c B m d)) (bxT A2 n2 c2 B2 m2 d2)) (bxEv k u o i a p q t)
  have S0 := halloc (halloc (heap_alloc_new w (bxT A n c B m d)) (bxT A2 n2 c2 B2 m2 d2)) (bxEv k u o i a p q t)
  have T0 := halloc (heap_alloc_new (w.alloc (bxT A n c B m d)) (bxT A2 n2 c2 B2 m2 d2)) (bxEv k u o i a p q t)
  have E0 := heap_alloc_new ((w.alloc (bxT A n c B m d)).alloc (bxT A2 n2 c2 B2 m2 d2)) (bxEv k u o i a p q t)
  simp only [size_alloc] at T0 E0
  replace hl := hl.below D
  replace hs := hs.below D
  replace hl2 := hl2.below D
  replace hs2 := hs2.below D
  cases h : fewT (l, s) with
  | false =>
    have H1 := Lib.hid h
    clear h
    obtain ⟨s0, s1, sz⟩ := cellsT S0
    obtain ⟨t0, t1, tz⟩ := cellsT T0
    obtain ⟨e0, e1, e2, e3, e4, e5, e6, e7, ez⟩ := cellsEv k u o i a p q t E0
    go_enter Tryz.func3, Tryz.ntmps3
    go_wp2_with fail
    with_reducible refine (FewT_is n c A l m d B s _ hl hs hz hy false H1).mono ?_
    rintro e w1 ⟨rfl, b1⟩
    replace hl := hl.below b1
    replace hs := hs.below b1
    replace hl2 := hl2.below b1
    replace hs2 := hs2.below b1
    replace S0 := hcall S0 b1
    replace T0 := hcall T0 b1
    replace E0 := hcall E0 b1
    replace D := below_call D b1
    clear b1 s0 s1 sz t0 t1 tz e0 e1 e2 e3 e4 e5 e6 e7 ez
    go_wp2_with fail
    with_reducible refine (live14 _).mono ?_
    rintro e w2 ⟨rfl, b2⟩
    replace hl := hl.below b2
    replace hs := hs.below b2
    replace hl2 := hl2.below b2
    replace hs2 := hs2.below b2
    replace S0 := hcall S0 b2
    replace T0 := hcall T0 b2
    replace E0 := hcall E0 b2
    replace D := below_call D b2
    clear b2
    go_wp2
    go_ret
    exact ⟨rfl, D⟩
  | true =>
  obtain ⟨zl, zs, zn, zm⟩ := fewT_sz h
  have H1 := Lib.hid h
  clear h
  cases h : fewT (l2, s2) with
  | false =>
    have H2 := Lib.hid h
    clear h
    obtain ⟨s0, s1, sz⟩ := cellsT S0
    obtain ⟨t0, t1, tz⟩ := cellsT T0
    obtain ⟨e0, e1, e2, e3, e4, e5, e6, e7, ez⟩ := cellsEv k u o i a p q t E0
    go_enter Tryz.func3, Tryz.ntmps3
    go_wp2_with fail
    with_reducible refine (FewT_is n c A l m d B s _ hl hs hz hy true H1).mono ?_
    rintro e w1 ⟨rfl, b1⟩
    replace hl := hl.below b1
    replace hs := hs.below b1
    replace hl2 := hl2.below b1
    replace hs2 := hs2.below b1
    replace S0 := hcall S0 b1
    replace T0 := hcall T0 b1
    replace E0 := hcall E0 b1
    replace D := below_call D b1
    clear b1 s0 s1 sz t0 t1 tz e0 e1 e2 e3 e4 e5 e6 e7 ez
    obtain ⟨s0, s1, sz⟩ := cellsT S0
    obtain ⟨t0, t1, tz⟩ := cellsT T0
    obtain ⟨e0, e1, e2, e3, e4, e5, e6, e7, ez⟩ := cellsEv k u o i a p q t E0
    go_wp2_with fail
    with_reducible refine (FewT_is n2 c2 A2 l2 m2 d2 B2 s2 _ hl2 hs2 hz2 hy2 false H2).mono ?_
    rintro e w2 ⟨rfl, b2⟩
    replace hl := hl.below b2
    replace hs := hs.below b2
    replace hl2 := hl2.below b2
    replace hs2 := hs2.below b2
    replace S0 := hcall S0 b2
    replace T0 := hcall T0 b2
    replace E0 := hcall E0 b2
    replace D := below_call D b2
    clear b2 s0 s1 sz t0 t1 tz e0 e1 e2 e3 e4 e5 e6 e7 ez
    go_wp2_with fail
    with_reducible refine (live14 _).mono ?_
    rintro e w3 ⟨rfl, b3⟩
    replace hl := hl.below b3
    replace hs := hs.below b3
    replace hl2 := hl2.below b3
    replace hs2 := hs2.below b3
    replace S0 := hcall S0 b3
    replace T0 := hcall T0 b3
    replace E0 := hcall E0 b3
    replace D := below_call D b3
    clear b3
    go_wp2
    go_ret
    exact ⟨rfl, D⟩
  | true =>
  obtain ⟨zl2, zs2, zn2, zm2⟩ := fewT_sz h
  have H2 := Lib.hid h
  clear h
  cases h : shortE ⟨k, u, o, i, (a, p, q, t)⟩ with
  | false =>
    have H3 := Lib.hid h
    clear h
    obtain ⟨s0, s1, sz⟩ := cellsT S0
    obtain ⟨t0, t1, tz⟩ := cellsT T0
    obtain ⟨e0, e1, e2, e3, e4, e5, e6, e7, ez⟩ := cellsEv k u o i a p q t E0
    go_enter Tryz.func3, Tryz.ntmps3
    go_wp2_with fail
    with_reducible refine (FewT_is n c A l m d B s _ hl hs hz hy true H1).mono ?_
    rintro e w1 ⟨rfl, b1⟩
    replace hl := hl.below b1
    replace hs := hs.below b1
    replace hl2 := hl2.below b1
    replace hs2 := hs2.below b1
    replace S0 := hcall S0 b1
    replace T0 := hcall T0 b1
    replace E0 := hcall E0 b1
    replace D := below_call D b1
    clear b1 s0 s1 sz t0 t1 tz e0 e1 e2 e3 e4 e5 e6 e7 ez
    obtain ⟨s0, s1, sz⟩ := cellsT S0
    obtain ⟨t0, t1, tz⟩ := cellsT T0
    obtain ⟨e0, e1, e2, e3, e4, e5, e6, e7, ez⟩ := cellsEv k u o i a p q t E0
    go_wp2_with fail
    with_reducible refine (FewT_is n2 c2 A2 l2 m2 d2 B2 s2 _ hl2 hs2 hz2 hy2 true H2).mono ?_
    rintro e w2 ⟨rfl, b2⟩
    replace hl := hl.below b2
    replace hs := hs.below b2
    replace hl2 := hl2.below b2
    replace hs2 := hs2.below b2
    replace S0 := hcall S0 b2
    replace T0 := hcall T0 b2
    replace E0 := hcall E0 b2
    replace D := below_call D b2
    clear b2 s0 s1 sz t0 t1 tz e0 e1 e2 e3 e4 e5 e6 e7 ez
    obtain ⟨s0, s1, sz⟩ := cellsT S0
    obtain ⟨t0, t1, tz⟩ := cellsT T0
    obtain ⟨e0, e1, e2, e3, e4, e5, e6, e7, ez⟩ := cellsEv k u o i a p q t E0
    go_wp2_with fail
    with_reducible refine (Short_is k u o i a p q t false _ hq.1 hq.2.1 hq.2.2 H3).mono ?_
    rintro e w3 ⟨rfl, b3⟩
    replace hl := hl.below b3
    replace hs := hs.below b3
    replace hl2 := hl2.below b3
    replace hs2 := hs2.below b3
    replace S0 := hcall S0 b3
    replace T0 := hcall T0 b3
    replace E0 := hcall E0 b3
    replace D := below_call D b3
    clear b3 s0 s1 sz t0 t1 tz e0 e1 e2 e3 e4 e5 e6 e7 ez
    go_wp2_with fail
    with_reducible refine (live14 _).mono ?_
    rintro e w4 ⟨rfl, b4⟩
    replace hl := hl.below b4
    replace hs := hs.below b4
    replace hl2 := hl2.below b4
    replace hs2 := hs2.below b4
    replace S0 := hcall S0 b4
    replace T0 := hcall T0 b4
    replace E0 := hcall E0 b4
    replace D := below_call D b4
    clear b4
    go_wp2
    go_ret
    exact ⟨rfl, D⟩
  | true =>
  obtain ⟨hu, ho, ht⟩ := shortE_sz h
  have H3 := Lib.hid h
  clear h
  have hn : n ≤ 900 := by have := EA.out; omega
  have hn1 : n ≤ 100000 := by omega
  have hn2 : n2 ≤ 100000 := by have := EC.out; omega
  obtain ⟨⟨rE, rS⟩, er, hap⟩ : ∃ r e, applyT (l, s) ⟨k, u, o, i, (a, p, q, t)⟩ = (r, e) := ⟨_, _, rfl⟩
  have HAP := Lib.hid hap
  obtain ⟨mb, hmb⟩ : ∃ b, mayT (l, s) = b := ⟨_, rfl⟩
  have HMB := Lib.hid hmb
  obtain ⟨sb, hsb⟩ : ∃ b, decide ((l, s) = (l2, s2)) = b := ⟨_, rfl⟩
  have HSB := Lib.hid hsb
  obtain ⟨tr, htr⟩ : ∃ r, touchT ⟨k, u, o, i, (a, p, q, t)⟩ = r := ⟨_, rfl⟩
  have HTR := Lib.hid htr
  clear hap hmb hsb htr zn zm zn2 zm2
  obtain ⟨s0, s1, sz⟩ := cellsT S0
  obtain ⟨t0, t1, tz⟩ := cellsT T0
  obtain ⟨e0, e1, e2, e3, e4, e5, e6, e7, ez⟩ := cellsEv k u o i a p q t E0
  go_enter Tryz.func3, Tryz.ntmps3
  go_wp2_with fail
  with_reducible refine (FewT_is n c A l m d B s _ hl hs hz hy true H1).mono ?_
  rintro e w1 ⟨rfl, b1⟩
  replace hl := hl.below b1
  replace hs := hs.below b1
  replace hl2 := hl2.below b1
  replace hs2 := hs2.below b1
  replace S0 := hcall S0 b1
  replace T0 := hcall T0 b1
  replace E0 := hcall E0 b1
  replace D := below_call D b1
  clear b1 s0 s1 sz t0 t1 tz e0 e1 e2 e3 e4 e5 e6 e7 ez
  obtain ⟨s0, s1, sz⟩ := cellsT S0
  obtain ⟨t0, t1, tz⟩ := cellsT T0
  obtain ⟨e0, e1, e2, e3, e4, e5, e6, e7, ez⟩ := cellsEv k u o i a p q t E0
  go_wp2_with fail
  with_reducible refine (FewT_is n2 c2 A2 l2 m2 d2 B2 s2 _ hl2 hs2 hz2 hy2 true H2).mono ?_
  rintro e w2 ⟨rfl, b2⟩
  replace hl := hl.below b2
  replace hs := hs.below b2
  replace hl2 := hl2.below b2
  replace hs2 := hs2.below b2
  replace S0 := hcall S0 b2
  replace T0 := hcall T0 b2
  replace E0 := hcall E0 b2
  replace D := below_call D b2
  clear b2 s0 s1 sz t0 t1 tz e0 e1 e2 e3 e4 e5 e6 e7 ez
  obtain ⟨s0, s1, sz⟩ := cellsT S0
  obtain ⟨t0, t1, tz⟩ := cellsT T0
  obtain ⟨e0, e1, e2, e3, e4, e5, e6, e7, ez⟩ := cellsEv k u o i a p q t E0
  go_wp2_with fail
  with_reducible refine (Short_is k u o i a p q t true _ hq.1 hq.2.1 hq.2.2 H3).mono ?_
  rintro e w3 ⟨rfl, b3⟩
  replace hl := hl.below b3
  replace hs := hs.below b3
  replace hl2 := hl2.below b3
  replace hs2 := hs2.below b3
  replace S0 := hcall S0 b3
  replace T0 := hcall T0 b3
  replace E0 := hcall E0 b3
  replace D := below_call D b3
  clear b3 s0 s1 sz t0 t1 tz e0 e1 e2 e3 e4 e5 e6 e7 ez
  obtain ⟨s0, s1, sz⟩ := cellsT S0
  obtain ⟨t0, t1, tz⟩ := cellsT T0
  obtain ⟨e0, e1, e2, e3, e4, e5, e6, e7, ez⟩ := cellsEv k u o i a p q t E0
  go_wp2_with fail
  refine (ApplyT_is n c A l m d B s _ hl hs zl zs hn k u o i a p q t hu ho ht er (rE, rS) HAP).mono ?_
  rintro e w4 ⟨fA, fn, fc, fB, fm, fd, rfl, fl, fs, b4, -, -⟩
  replace hl := hl.below b4
  replace hs := hs.below b4
  replace hl2 := hl2.below b4
  replace hs2 := hs2.below b4
  replace S0 := hcall S0 b4
  replace T0 := hcall T0 b4
  replace E0 := hcall E0 b4
  replace D := below_call D b4
  clear b4 s0 s1 sz t0 t1 tz e0 e1 e2 e3 e4 e5 e6 e7 ez
  have F0 := heap_alloc_new w4 (bxT fA fn fc fB fm fd)
  replace hl := hl.below (below_box (bxT fA fn fc fB fm fd))
  replace hs := hs.below (below_box (bxT fA fn fc fB fm fd))
  replace hl2 := hl2.below (below_box (bxT fA fn fc fB fm fd))
  replace hs2 := hs2.below (below_box (bxT fA fn fc fB fm fd))
  replace S0 := halloc S0 (bxT fA fn fc fB fm fd)
  replace T0 := halloc T0 (bxT fA fn fc fB fm fd)
  replace E0 := halloc E0 (bxT fA fn fc fB fm fd)
  replace fl := fl.below (below_box (bxT fA fn fc fB fm fd))
  replace fs := fs.below (below_box (bxT fA fn fc fB fm fd))
  replace D := below_alloc0 D (bxT fA fn fc fB fm fd)
  obtain ⟨s0, s1, sz⟩ := cellsT S0
  obtain ⟨e0, e1, e2, e3, e4, e5, e6, e7, ez⟩ := cellsEv k u o i a p q t E0
  go_wp2_with fail
  refine (refApplyT_is n c A l m d B s _ hl hs zl zs hn k u o i a p q t hu ho ht er (rE, rS) HAP).mono ?_
  rintro e w5 ⟨gA, gn, gc, gB, gm, gd, rfl, gl, gs, b5, -, -⟩
  replace hl := hl.below b5
  replace hs := hs.below b5
  replace hl2 := hl2.below b5
  replace hs2 := hs2.below b5
  replace S0 := hcall S0 b5
  replace T0 := hcall T0 b5
  replace E0 := hcall E0 b5
  replace fl := fl.below b5
  replace fs := fs.below b5
  replace F0 := hcall F0 b5
  replace D := below_call D b5
  clear b5 s0 s1 sz e0 e1 e2 e3 e4 e5 e6 e7 ez
  have G0 := heap_alloc_new w5 (bxT gA gn gc gB gm gd)
  replace hl := hl.below (below_box (bxT gA gn gc gB gm gd))
  replace hs := hs.below (below_box (bxT gA gn gc gB gm gd))
  replace hl2 := hl2.below (below_box (bxT gA gn gc gB gm gd))
  replace hs2 := hs2.below (below_box (bxT gA gn gc gB gm gd))
  replace S0 := halloc S0 (bxT gA gn gc gB gm gd)
  replace T0 := halloc T0 (bxT gA gn gc gB gm gd)
  replace E0 := halloc E0 (bxT gA gn gc gB gm gd)
  replace fl := fl.below (below_box (bxT gA gn gc gB gm gd))
  replace fs := fs.below (below_box (bxT gA gn gc gB gm gd))
  replace F0 := halloc F0 (bxT gA gn gc gB gm gd)
  replace gl := gl.below (below_box (bxT gA gn gc gB gm gd))
  replace gs := gs.below (below_box (bxT gA gn gc gB gm gd))
  replace D := below_alloc0 D (bxT gA gn gc gB gm gd)
  obtain ⟨s0, s1, sz⟩ := cellsT S0
  obtain ⟨t0, t1, tz⟩ := cellsT T0
  obtain ⟨e0, e1, e2, e3, e4, e5, e6, e7, ez⟩ := cellsEv k u o i a p q t E0
  obtain ⟨f0, f1, fz⟩ := cellsT F0
  obtain ⟨g0, g1, gz⟩ := cellsT G0
  clear sz tz ez fz gz
  replace hl : Row _ _ (w5.alloc (bxT gA gn gc gB gm gd)).drew _ _ := hl
  replace hs : Row _ _ (w5.alloc (bxT gA gn gc gB gm gd)).drew _ _ := hs
  replace hl2 : Row _ _ (w5.alloc (bxT gA gn gc gB gm gd)).drew _ _ := hl2
  replace hs2 : Row _ _ (w5.alloc (bxT gA gn gc gB gm gd)).drew _ _ := hs2
  replace S0 : (w5.alloc (bxT gA gn gc gB gm gd)).drew.heap[_]? = _ := S0
  replace T0 : (w5.alloc (bxT gA gn gc gB gm gd)).drew.heap[_]? = _ := T0
  replace E0 : (w5.alloc (bxT gA gn gc gB gm gd)).drew.heap[_]? = _ := E0
  replace fl : Row _ _ (w5.alloc (bxT gA gn gc gB gm gd)).drew _ _ := fl
  replace fs : Row _ _ (w5.alloc (bxT gA gn gc gB gm gd)).drew _ _ := fs
  replace F0 : (w5.alloc (bxT gA gn gc gB gm gd)).drew.heap[_]? = _ := F0
  replace gl : Row _ _ (w5.alloc (bxT gA gn gc gB gm gd)).drew _ _ := gl
  replace gs : Row _ _ (w5.alloc (bxT gA gn gc gB gm gd)).drew _ _ := gs
  replace G0 : (w5.alloc (bxT gA gn gc gB gm gd)).drew.heap[_]? = _ := G0
  replace D : Below _ _ (w5.alloc (bxT gA gn gc gB gm gd)).drew := D.drew
  go_wp2_with fail
  refine Held.start (ops := opsst) (S := fun w' => w'.cell? ⟨w.heap.size, 0, none⟩ = some (.slice A n c) ∧ w'.cell? ⟨w.heap.size, 1, none⟩ = some (.slice B m d) ∧ w'.cell? ⟨w.heap.size + 1, 0, none⟩ = some (.slice A2 n2 c2) ∧ w'.cell? ⟨w.heap.size + 1, 1, none⟩ = some (.slice B2 m2 d2) ∧ w'.cell? ⟨w.heap.size + 1 + 1, 0, none⟩ = some (.int .i64 k) ∧ w'.cell? ⟨w.heap.size + 1 + 1, 1, none⟩ = some (.string u) ∧ w'.cell? ⟨w.heap.size + 1 + 1, 2, none⟩ = some (.string o) ∧ w'.cell? ⟨w.heap.size + 1 + 1, 3, none⟩ = some (.int .i64 i) ∧ w'.cell? ⟨w.heap.size + 1 + 1, 4, none⟩ = some (.int .i64 a) ∧ w'.cell? ⟨w.heap.size + 1 + 1, 5, none⟩ = some (.int .i64 p) ∧ w'.cell? ⟨w.heap.size + 1 + 1, 6, none⟩ = some (.int .i64 q) ∧ w'.cell? ⟨w.heap.size + 1 + 1, 7, none⟩ = some (.string t) ∧ w'.cell? ⟨w4.heap.size, 0, none⟩ = some (.slice fA fn fc) ∧ w'.cell? ⟨w4.heap.size, 1, none⟩ = some (.slice fB fm fd) ∧ w'.cell? ⟨w5.heap.size, 0, none⟩ = some (.slice gA gn gc) ∧ w'.cell? ⟨w5.heap.size, 1, none⟩ = some (.slice gB gm gd)) ordst 35 (by kernel_rfl) rgst.siz (by kernel_rfl) ⟨s0, s1, t0, t1, e0, e1, e2, e3, e4, e5, e6, e7, f0, f1, g0, g1⟩ (fun hHeld => ?_)
  iterate 2
    refine Held.tk (v := ?_) rgst rfl rfl rfl (fun _ _ _ h => h) (by assumption) (Or.inl ⟨by kernel_rfl, ?_⟩) ?_
    rotate_left
    · (intro w hSw; (try dsimp only at hSw); go_simp; (try (first | with_reducible rfl | rw [if_neg (by omega)])))
    try simp only [Act.put, List.getElem_toArray, List.getElem_cons_succ, List.getElem_cons_zero, List.setIfInBounds_toArray, List.set_cons_zero, List.set_cons_succ]
  refine Held.only (k := 2) (i := 2) (by kernel_rfl) (by kernel_rfl) rfl (by kernel_rfl) (fun K hK => ?_)
  go_simp
  go_at_call 12
  with_reducible refine (refSameT_is fn fc fA rE fm fd fB rS gn gc gA rE gm gd gB rS _ fl fs gl gs true (Lib.hid (decide_eq_true rfl))).mono ?_
  rintro e w6 ⟨rfl, hbx⟩
  replace s0 := cell_below hbx s0
  replace s1 := cell_below hbx s1
  replace t0 := cell_below hbx t0
  replace t1 := cell_below hbx t1
  replace e0 := cell_below hbx e0
  replace e1 := cell_below hbx e1
  replace e2 := cell_below hbx e2
  replace e3 := cell_below hbx e3
  replace e4 := cell_below hbx e4
  replace e5 := cell_below hbx e5
  replace e6 := cell_below hbx e6
  replace e7 := cell_below hbx e7
  replace f0 := cell_below hbx f0
  replace f1 := cell_below hbx f1
  replace g0 := cell_below hbx g0
  replace g1 := cell_below hbx g1
  replace hl := hl.below hbx
  replace hs := hs.below hbx
  replace hl2 := hl2.below hbx
  replace hs2 := hs2.below hbx
  replace S0 := hcall S0 hbx
  replace T0 := hcall T0 hbx
  replace E0 := hcall E0 hbx
  replace fl := fl.below hbx
  replace fs := fs.below hbx
  replace F0 := hcall F0 hbx
  replace gl := gl.below hbx
  replace gs := gs.below hbx
  replace G0 := hcall G0 hbx
  replace D := below_call D hbx
  refine hK.out _ _ (by (try dsimp only); (exact ⟨s0, s1, t0, t1, e0, e1, e2, e3, e4, e5, e6, e7, f0, f1, g0, g1⟩)) (fun hHeld => ?_)
  clear hK K
  try simp only [Act.put, List.getElem_toArray, List.getElem_cons_succ, List.getElem_cons_zero, List.setIfInBounds_toArray, List.set_cons_zero, List.set_cons_succ]
  iterate 8
    refine Held.tk (v := ?_) rgst rfl rfl rfl (fun _ _ _ h => h) (by assumption) (Or.inl ⟨by kernel_rfl, ?_⟩) ?_
    rotate_left
    · (intro w hSw; (try dsimp only at hSw); go_simp; (try (first | with_reducible rfl | rw [if_neg (by omega)])))
    try simp only [Act.put, List.getElem_toArray, List.getElem_cons_succ, List.getElem_cons_zero, List.setIfInBounds_toArray, List.set_cons_zero, List.set_cons_succ]
  refine Held.only (k := 11) (i := 10) (by kernel_rfl) (by kernel_rfl) rfl (by kernel_rfl) (fun K hK => ?_)
  go_simp
  go_at_call 13
  with_reducible refine (MayT_is n c A l m d B s _ hl hs zl zs hn1 mb HMB).mono ?_
  rintro e w7 ⟨rfl, hbx⟩
  replace s0 := cell_below hbx s0
  replace s1 := cell_below hbx s1
  replace t0 := cell_below hbx t0
  replace t1 := cell_below hbx t1
  replace e0 := cell_below hbx e0
  replace e1 := cell_below hbx e1
  replace e2 := cell_below hbx e2
  replace e3 := cell_below hbx e3
  replace e4 := cell_below hbx e4
  replace e5 := cell_below hbx e5
  replace e6 := cell_below hbx e6
  replace e7 := cell_below hbx e7
  replace f0 := cell_below hbx f0
  replace f1 := cell_below hbx f1
  replace g0 := cell_below hbx g0
  replace g1 := cell_below hbx g1
  replace hl := hl.below hbx
  replace hs := hs.below hbx
  replace hl2 := hl2.below hbx
  replace hs2 := hs2.below hbx
  replace S0 := hcall S0 hbx
  replace T0 := hcall T0 hbx
  replace E0 := hcall E0 hbx
  replace fl := fl.below hbx
  replace fs := fs.below hbx
  replace F0 := hcall F0 hbx
  replace gl := gl.below hbx
  replace gs := gs.below hbx
  replace G0 := hcall G0 hbx
  replace D := below_call D hbx
  refine hK.out _ _ (by (try dsimp only); (exact ⟨s0, s1, t0, t1, e0, e1, e2, e3, e4, e5, e6, e7, f0, f1, g0, g1⟩)) (fun hHeld => ?_)
  clear hK K
  try simp only [Act.put, List.getElem_toArray, List.getElem_cons_succ, List.getElem_cons_zero, List.setIfInBounds_toArray, List.set_cons_zero, List.set_cons_succ]
  refine Held.only (k := 12) (i := 12) (by kernel_rfl) (by kernel_rfl) rfl (by kernel_rfl) (fun K hK => ?_)
  go_simp
  go_at_call 14
  with_reducible refine (refMayT_is n c A l m d B s _ hl hs zl zs hn1 mb HMB).mono ?_
  rintro e w8 ⟨rfl, hbx⟩
  replace s0 := cell_below hbx s0
  replace s1 := cell_below hbx s1
  replace t0 := cell_below hbx t0
  replace t1 := cell_below hbx t1
  replace e0 := cell_below hbx e0
  replace e1 := cell_below hbx e1
  replace e2 := cell_below hbx e2
  replace e3 := cell_below hbx e3
  replace e4 := cell_below hbx e4
  replace e5 := cell_below hbx e5
  replace e6 := cell_below hbx e6
  replace e7 := cell_below hbx e7
  replace f0 := cell_below hbx f0
  replace f1 := cell_below hbx f1
  replace g0 := cell_below hbx g0
  replace g1 := cell_below hbx g1
  replace hl := hl.below hbx
  replace hs := hs.below hbx
  replace hl2 := hl2.below hbx
  replace hs2 := hs2.below hbx
  replace S0 := hcall S0 hbx
  replace T0 := hcall T0 hbx
  replace E0 := hcall E0 hbx
  replace fl := fl.below hbx
  replace fs := fs.below hbx
  replace F0 := hcall F0 hbx
  replace gl := gl.below hbx
  replace gs := gs.below hbx
  replace G0 := hcall G0 hbx
  replace D := below_call D hbx
  refine hK.out _ _ (by (try dsimp only); (exact ⟨s0, s1, t0, t1, e0, e1, e2, e3, e4, e5, e6, e7, f0, f1, g0, g1⟩)) (fun hHeld => ?_)
  clear hK K
  try simp only [Act.put, List.getElem_toArray, List.getElem_cons_succ, List.getElem_cons_zero, List.setIfInBounds_toArray, List.set_cons_zero, List.set_cons_succ]
  iterate 7
    refine Held.tk (v := ?_) rgst rfl rfl rfl (fun _ _ _ h => h) (by assumption) (Or.inl ⟨by kernel_rfl, ?_⟩) ?_
    rotate_left
    · (intro w hSw; (try dsimp only at hSw); go_simp; (try (first | with_reducible rfl | rw [if_neg (by omega)])))
    try simp only [Act.put, List.getElem_toArray, List.getElem_cons_succ, List.getElem_cons_zero, List.setIfInBounds_toArray, List.set_cons_zero, List.set_cons_succ]
  refine Held.only (k := 20) (i := 18) (by kernel_rfl) (by kernel_rfl) rfl (by kernel_rfl) (fun K hK => ?_)
  go_simp
  go_at_call 15
  with_reducible refine (SameT_is n c A l m d B s n2 c2 A2 l2 m2 d2 B2 s2 _ hl hs hl2 hs2 sb HSB).mono ?_
  rintro e w9 ⟨rfl, hbx⟩
  replace s0 := cell_below hbx s0
  replace s1 := cell_below hbx s1
  replace t0 := cell_below hbx t0
  replace t1 := cell_below hbx t1
  replace e0 := cell_below hbx e0
  replace e1 := cell_below hbx e1
  replace e2 := cell_below hbx e2
  replace e3 := cell_below hbx e3
  replace e4 := cell_below hbx e4
  replace e5 := cell_below hbx e5
  replace e6 := cell_below hbx e6
  replace e7 := cell_below hbx e7
  replace f0 := cell_below hbx f0
  replace f1 := cell_below hbx f1
  replace g0 := cell_below hbx g0
  replace g1 := cell_below hbx g1
  replace hl := hl.below hbx
  replace hs := hs.below hbx
  replace hl2 := hl2.below hbx
  replace hs2 := hs2.below hbx
  replace S0 := hcall S0 hbx
  replace T0 := hcall T0 hbx
  replace E0 := hcall E0 hbx
  replace fl := fl.below hbx
  replace fs := fs.below hbx
  replace F0 := hcall F0 hbx
  replace gl := gl.below hbx
  replace gs := gs.below hbx
  replace G0 := hcall G0 hbx
  replace D := below_call D hbx
  refine hK.out _ _ (by (try dsimp only); (exact ⟨s0, s1, t0, t1, e0, e1, e2, e3, e4, e5, e6, e7, f0, f1, g0, g1⟩)) (fun hHeld => ?_)
  clear hK K
  try simp only [Act.put, List.getElem_toArray, List.getElem_cons_succ, List.getElem_cons_zero, List.setIfInBounds_toArray, List.set_cons_zero, List.set_cons_succ]
  refine Held.only (k := 21) (i := 21) (by kernel_rfl) (by kernel_rfl) rfl (by kernel_rfl) (fun K hK => ?_)
  go_simp
  go_at_call 12
  with_reducible refine (refSameT_is n c A l m d B s n2 c2 A2 l2 m2 d2 B2 s2 _ hl hs hl2 hs2 sb HSB).mono ?_
  rintro e w10 ⟨rfl, hbx⟩
  replace s0 := cell_below hbx s0
  replace s1 := cell_below hbx s1
  replace t0 := cell_below hbx t0
  replace t1 := cell_below hbx t1
  replace e0 := cell_below hbx e0
  replace e1 := cell_below hbx e1
  replace e2 := cell_below hbx e2
  replace e3 := cell_below hbx e3
  replace e4 := cell_below hbx e4
  replace e5 := cell_below hbx e5
  replace e6 := cell_below hbx e6
  replace e7 := cell_below hbx e7
  replace f0 := cell_below hbx f0
  replace f1 := cell_below hbx f1
  replace g0 := cell_below hbx g0
  replace g1 := cell_below hbx g1
  replace hl := hl.below hbx
  replace hs := hs.below hbx
  replace hl2 := hl2.below hbx
  replace hs2 := hs2.below hbx
  replace S0 := hcall S0 hbx
  replace T0 := hcall T0 hbx
  replace E0 := hcall E0 hbx
  replace fl := fl.below hbx
  replace fs := fs.below hbx
  replace F0 := hcall F0 hbx
  replace gl := gl.below hbx
  replace gs := gs.below hbx
  replace G0 := hcall G0 hbx
  replace D := below_call D hbx
  refine hK.out _ _ (by (try dsimp only); (exact ⟨s0, s1, t0, t1, e0, e1, e2, e3, e4, e5, e6, e7, f0, f1, g0, g1⟩)) (fun hHeld => ?_)
  clear hK K
  try simp only [Act.put, List.getElem_toArray, List.getElem_cons_succ, List.getElem_cons_zero, List.setIfInBounds_toArray, List.set_cons_zero, List.set_cons_succ]
  iterate 5
    refine Held.tk (v := ?_) rgst rfl rfl rfl (fun _ _ _ h => h) (by assumption) (Or.inl ⟨by kernel_rfl, ?_⟩) ?_
    rotate_left
    · (intro w hSw; (try dsimp only at hSw); go_simp; (try (first | with_reducible rfl | rw [if_neg (by omega)])))
    try simp only [Act.put, List.getElem_toArray, List.getElem_cons_succ, List.getElem_cons_zero, List.setIfInBounds_toArray, List.set_cons_zero, List.set_cons_succ]
  refine Held.only (k := 27) (i := 26) (by kernel_rfl) (by kernel_rfl) rfl (by kernel_rfl) (fun K hK => ?_)
  go_simp
  go_at_call 17
  with_reducible refine (Touch_is k u o i a p q t tr _ HTR).mono ?_
  rintro e w11 ⟨va, rfl, r1, hbx⟩
  obtain ⟨Aa, ca, rfl⟩ := r1.form8 _ rfl
  replace s0 := cell_below hbx s0
  replace s1 := cell_below hbx s1
  replace t0 := cell_below hbx t0
  replace t1 := cell_below hbx t1
  replace e0 := cell_below hbx e0
  replace e1 := cell_below hbx e1
  replace e2 := cell_below hbx e2
  replace e3 := cell_below hbx e3
  replace e4 := cell_below hbx e4
  replace e5 := cell_below hbx e5
  replace e6 := cell_below hbx e6
  replace e7 := cell_below hbx e7
  replace f0 := cell_below hbx f0
  replace f1 := cell_below hbx f1
  replace g0 := cell_below hbx g0
  replace g1 := cell_below hbx g1
  replace hl := hl.below hbx
  replace hs := hs.below hbx
  replace hl2 := hl2.below hbx
  replace hs2 := hs2.below hbx
  replace S0 := hcall S0 hbx
  replace T0 := hcall T0 hbx
  replace E0 := hcall E0 hbx
  replace fl := fl.below hbx
  replace fs := fs.below hbx
  replace F0 := hcall F0 hbx
  replace gl := gl.below hbx
  replace gs := gs.below hbx
  replace G0 := hcall G0 hbx
  replace D := below_call D hbx
  refine hK.out _ _ (by (try dsimp only); (exact ⟨s0, s1, t0, t1, e0, e1, e2, e3, e4, e5, e6, e7, f0, f1, g0, g1⟩)) (fun hHeld => ?_)
  clear hK K
  try simp only [Act.put, List.getElem_toArray, List.getElem_cons_succ, List.getElem_cons_zero, List.setIfInBounds_toArray, List.set_cons_zero, List.set_cons_succ]
  refine Held.only (k := 28) (i := 28) (by kernel_rfl) (by kernel_rfl) rfl (by kernel_rfl) (fun K hK => ?_)
  go_simp
  go_at_call 18
  with_reducible refine (refTouch_is k u o i a p q t tr _ HTR).mono ?_
  rintro e w12 ⟨vb, rfl, r2, hbx⟩
  obtain ⟨Ab, cb, rfl⟩ := r2.form8 _ rfl
  replace s0 := cell_below hbx s0
  replace s1 := cell_below hbx s1
  replace t0 := cell_below hbx t0
  replace t1 := cell_below hbx t1
  replace e0 := cell_below hbx e0
  replace e1 := cell_below hbx e1
  replace e2 := cell_below hbx e2
  replace e3 := cell_below hbx e3
  replace e4 := cell_below hbx e4
  replace e5 := cell_below hbx e5
  replace e6 := cell_below hbx e6
  replace e7 := cell_below hbx e7
  replace f0 := cell_below hbx f0
  replace f1 := cell_below hbx f1
  replace g0 := cell_below hbx g0
  replace g1 := cell_below hbx g1
  replace hl := hl.below hbx
  replace hs := hs.below hbx
  replace hl2 := hl2.below hbx
  replace hs2 := hs2.below hbx
  replace S0 := hcall S0 hbx
  replace T0 := hcall T0 hbx
  replace E0 := hcall E0 hbx
  replace fl := fl.below hbx
  replace fs := fs.below hbx
  replace F0 := hcall F0 hbx
  replace gl := gl.below hbx
  replace gs := gs.below hbx
  replace G0 := hcall G0 hbx
  replace r1 := r1.below hbx
  replace D := below_call D hbx
  refine hK.out _ _ (by (try dsimp only); (exact ⟨s0, s1, t0, t1, e0, e1, e2, e3, e4, e5, e6, e7, f0, f1, g0, g1⟩)) (fun hHeld => ?_)
  clear hK K
  try simp only [Act.put, List.getElem_toArray, List.getElem_cons_succ, List.getElem_cons_zero, List.setIfInBounds_toArray, List.set_cons_zero, List.set_cons_succ]
  refine Held.only (k := 29) (i := 29) (by kernel_rfl) (by kernel_rfl) rfl (by kernel_rfl) (fun K hK => ?_)
  go_simp
  go_at_call 16
  with_reducible refine (re_ (refSame_calls _ _ _ _ _ _ tr tr _ r1 r2) (ret_bool (decide_eq_true rfl))).mono ?_
  rintro e w13 ⟨rfl, hbx⟩
  replace s0 := cell_below hbx s0
  replace s1 := cell_below hbx s1
  replace t0 := cell_below hbx t0
  replace t1 := cell_below hbx t1
  replace e0 := cell_below hbx e0
  replace e1 := cell_below hbx e1
  replace e2 := cell_below hbx e2
  replace e3 := cell_below hbx e3
  replace e4 := cell_below hbx e4
  replace e5 := cell_below hbx e5
  replace e6 := cell_below hbx e6
  replace e7 := cell_below hbx e7
  replace f0 := cell_below hbx f0
  replace f1 := cell_below hbx f1
  replace g0 := cell_below hbx g0
  replace g1 := cell_below hbx g1
  replace hl := hl.below hbx
  replace hs := hs.below hbx
  replace hl2 := hl2.below hbx
  replace hs2 := hs2.below hbx
  replace S0 := hcall S0 hbx
  replace T0 := hcall T0 hbx
  replace E0 := hcall E0 hbx
  replace fl := fl.below hbx
  replace fs := fs.below hbx
  replace F0 := hcall F0 hbx
  replace gl := gl.below hbx
  replace gs := gs.below hbx
  replace G0 := hcall G0 hbx
  replace r1 := r1.below hbx
  replace r2 := r2.below hbx
  replace D := below_call D hbx
  clear r1 r2
  refine hK.out _ _ (by (try dsimp only); (exact ⟨s0, s1, t0, t1, e0, e1, e2, e3, e4, e5, e6, e7, f0, f1, g0, g1⟩)) (fun hHeld => ?_)
  clear hK K
  try simp only [Act.put, List.getElem_toArray, List.getElem_cons_succ, List.getElem_cons_zero, List.setIfInBounds_toArray, List.set_cons_zero, List.set_cons_succ]
  iterate 2
    refine Held.tk (v := ?_) rgst rfl rfl rfl (fun _ _ _ h => h) (by assumption) (Or.inl ⟨by kernel_rfl, ?_⟩) ?_
    rotate_left
    · (intro w hSw; (try dsimp only at hSw); go_simp; (try (first | with_reducible rfl | rw [if_neg (by omega)])))
    try simp only [Act.put, List.getElem_toArray, List.getElem_cons_succ, List.getElem_cons_zero, List.setIfInBounds_toArray, List.set_cons_zero, List.set_cons_succ]
  refine Held.only (k := 32) (i := 32) (by kernel_rfl) (by kernel_rfl) rfl (by kernel_rfl) (fun K hK => ?_)
  go_simp
  go_at_call 9
  with_reducible refine (live14 _).mono ?_
  rintro e w14 ⟨rfl, hbx⟩
  replace s0 := cell_below hbx s0
  replace s1 := cell_below hbx s1
  replace t0 := cell_below hbx t0
  replace t1 := cell_below hbx t1
  replace e0 := cell_below hbx e0
  replace e1 := cell_below hbx e1
  replace e2 := cell_below hbx e2
  replace e3 := cell_below hbx e3
  replace e4 := cell_below hbx e4
  replace e5 := cell_below hbx e5
  replace e6 := cell_below hbx e6
  replace e7 := cell_below hbx e7
  replace f0 := cell_below hbx f0
  replace f1 := cell_below hbx f1
  replace g0 := cell_below hbx g0
  replace g1 := cell_below hbx g1
  replace hl := hl.below hbx
  replace hs := hs.below hbx
  replace hl2 := hl2.below hbx
  replace hs2 := hs2.below hbx
  replace S0 := hcall S0 hbx
  replace T0 := hcall T0 hbx
  replace E0 := hcall E0 hbx
  replace fl := fl.below hbx
  replace fs := fs.below hbx
  replace F0 := hcall F0 hbx
  replace gl := gl.below hbx
  replace gs := gs.below hbx
  replace G0 := hcall G0 hbx
  replace D := below_call D hbx
  refine hK.out _ _ (by (try dsimp only); (exact ⟨s0, s1, t0, t1, e0, e1, e2, e3, e4, e5, e6, e7, f0, f1, g0, g1⟩)) (fun hHeld => ?_)
  clear hK K
  try simp only [Act.put, List.getElem_toArray, List.getElem_cons_succ, List.getElem_cons_zero, List.setIfInBounds_toArray, List.set_cons_zero, List.set_cons_succ]
  iterate 2
    refine Held.tk (v := ?_) rgst rfl rfl rfl (fun _ _ _ h => h) (by assumption) (Or.inl ⟨by kernel_rfl, ?_⟩) ?_
    rotate_left
    · (intro w hSw; (try dsimp only at hSw); go_simp; (try (first | with_reducible rfl | rw [if_neg (by omega)])))
    try simp only [Act.put, List.getElem_toArray, List.getElem_cons_succ, List.getElem_cons_zero, List.setIfInBounds_toArray, List.set_cons_zero, List.set_cons_succ]
  refine wpAnyH_done (by kernel_rfl) ?_ _
  clear s0 s1 t0 t1 e0 e1 e2 e3 e4 e5 e6 e7 f0 f1 g0 g1
  go_wp2
  go_ret
  exact ⟨rfl, D⟩
end Go.Proofs.YtpmafghknafhaaaGreat
