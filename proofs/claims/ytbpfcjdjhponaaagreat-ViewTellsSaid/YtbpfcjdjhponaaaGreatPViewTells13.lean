import Derived.Test.YtbpfcjdjhponaaaGreatPViewTells12
set_option linter.unusedVariables false
set_option linter.unusedSimpArgs false
namespace Go.Proofs.YtbpfcjdjhponaaaGreat
open Go.RowKit
open Sp
abbrev bxA2 (x y : ByteArray) : Obj := .cells #[.string x, .string y] 44
theorem cellsA2 {W : World} {g : Nat} {x y : ByteArray} (h : W.heap[g]? = some (bxA2 x y)) : W.cell? ⟨g, 0, none⟩ = some (.string x) ∧ W.cell? ⟨g, 1, none⟩ = some (.string y) ∧ g < W.heap.size :=
  ⟨by simp [World.cell?, h], by simp [World.cell?, h], (Array.getElem?_eq_some_iff.1 h).1⟩
theorem form_Ch {w : World} {v : Value} {l : List Ch} (h : Row enCh 6 w v l) : ∃ A c, v = .slice A l.length c := by
  obtain ⟨A, c, rfl, -⟩ := h
  exact ⟨A, c, rfl⟩
noncomputable def opsvgt : Array Oper := Held.inBody 6 Tryz.f4.body
def ordvgt : List Nat := [0, 1, 2, 3, 4, 5, 6, 7, 8, 9, 10, 12, 13, 11, 14, 15, 16, 17, 18, 19, 21, 22, 20, 23, 24, 25, 26, 27, 28, 29, 31, 32, 33, 30, 34, 35, 36, 37, 38, 39, 40]
set_option maxRecDepth 100000 in
theorem rgvgt : Held.Reg opsvgt ordvgt 41 [0, 1, 2, 3, 4, 5, 6, 7, 8, 9, 10, 11, 12, 16, 17, 18, 19, 20, 21, 25, 26, 27, 28, 29, 30, 31, 32, 36, 37, 39, 40] := ⟨by kernel_rfl, by kernel_rfl, by kernel_rfl⟩
set_option maxHeartbeats 32000000 in
set_option maxRecDepth 100000 in
theorem tells15_walk (n c : Nat) (A : Option Addr) (l : List En) (m d : Nat) (B : Option Addr) (s : List Se) (n2 c2 : Nat) (A2 : Option Addr) (l2 : List En) (m2 d2 : Nat) (B2 : Option Addr) (s2 : List Se) (p q : ByteArray) (w : World) (hl : Row enEn 7 w (.slice A n c) l) (hz : SzE l) (hs : Row enSe 6 w (.slice B m d) s) (hy : SzEs s) (hl2 : Row enEn 7 w (.slice A2 n2 c2) l2) (hz2 : SzE l2) (hs2 : Row enSe 6 w (.slice B2 m2 d2) s2) (hy2 : SzEs s2) :
    Calls Tryz.prog 4 #[agT A n c B m d, agT A2 n2 c2 B2 m2 d2, .agg #[.string p, .string q]] w fun e w' => e = .returned (.bool true) ∧ Below w.heap.size w w' := by
  have D := below_alloc0 (below_alloc0 (below_box (w := w) (bxT A n c B m d)) (bxT A2 n2 c2 B2 m2 d2)) (bxA2 p q)
  have S0 := halloc (halloc (heap_alloc_new w (bxT A n c B m d)) (bxT A2 n2 c2 B2 m2 d2)) (bxA2 p q)
  have T0 := halloc (heap_alloc_new (w.alloc (bxT A n c B m d)) (bxT A2 n2 c2 B2 m2 d2)) (bxA2 p q)
  have P0 := heap_alloc_new ((w.alloc (bxT A n c B m d)).alloc (bxT A2 n2 c2 B2 m2 d2)) (bxA2 p q)
  rw [size_alloc] at T0
  rw [size_alloc, size_alloc] at P0
  replace hl := hl.below D
  replace hs := hs.below D
  replace hl2 := hl2.below D
  replace hs2 := hs2.below D
  obtain ⟨g, hgg⟩ : ∃ g, w.heap.size = g := ⟨_, rfl⟩
  obtain ⟨W0, hW0⟩ : ∃ W0, ((w.alloc (bxT A n c B m d)).alloc (bxT A2 n2 c2 B2 m2 d2)).alloc (bxA2 p q) = W0 := ⟨_, rfl⟩
  cases h : fewT (l, s) with
  | false =>
    have H1 := Lib.hid h
    clear h
    go_enter Tryz.func4, Tryz.ntmps4
    go_wp2_with fail
    rw [hgg] at S0 T0 P0
    rw [hW0] at S0 T0 P0 hl hs hl2 hs2 D
    try rw [hgg]
    try rw [hW0]
    clear hW0
    obtain ⟨s0, s1, sz⟩ := cellsT S0
    obtain ⟨t0, t1, tz⟩ := cellsT T0
    obtain ⟨p0, p1, pz⟩ := cellsA2 P0
    go_region
    replace S0 : W0.drew.heap[_]? = _ := S0
    replace T0 : W0.drew.heap[_]? = _ := T0
    replace hl : Row _ _ W0.drew _ _ := hl
    replace hs : Row _ _ W0.drew _ _ := hs
    replace hl2 : Row _ _ W0.drew _ _ := hl2
    replace hs2 : Row _ _ W0.drew _ _ := hs2
    replace D : Below _ _ W0.drew := D.drew
    clear s0 s1 sz t0 t1 tz p0 p1 pz P0
    obtain ⟨s0, s1, sz⟩ := cellsT S0
    obtain ⟨t0, t1, tz⟩ := cellsT T0
    go_wp2_with fail
    with_reducible refine (FewT_is n c A l m d B s _ hl hs hz hy false H1).mono ?_
    rintro e w1 ⟨rfl, b1⟩
    replace hl := hl.below b1
    replace hs := hs.below b1
    replace hl2 := hl2.below b1
    replace hs2 := hs2.below b1
    replace S0 := hcall S0 b1
    replace T0 := hcall T0 b1
    replace D := below_call D b1
    clear b1 s0 s1 sz t0 t1 tz
    obtain ⟨s0, s1, sz⟩ := cellsT S0
    obtain ⟨t0, t1, tz⟩ := cellsT T0
    go_wp2_with fail
    with_reducible refine (live15 _).mono ?_
    rintro e z9 ⟨rfl, b9⟩
    replace D := below_call D b9
    clear b9
    go_wp2
    go_ret
    exact ⟨rfl, D⟩
  | true =>
  obtain ⟨zl, zs, zn, zm⟩ := fewT_sz h
  have H1 := Lib.hid h
  have en := hl.len_eq
  have em := hs.len_eq
  have hn1 : n ≤ 80 := by omega
  have hm1 : m ≤ 50 := by omega
  clear h zn zm en em
  cases h : fewT (l2, s2) with
  | false =>
    have H2 := Lib.hid h
    clear h
    go_enter Tryz.func4, Tryz.ntmps4
    go_wp2_with fail
    rw [hgg] at S0 T0 P0
    rw [hW0] at S0 T0 P0 hl hs hl2 hs2 D
    try rw [hgg]
    try rw [hW0]
    clear hW0
    obtain ⟨s0, s1, sz⟩ := cellsT S0
    obtain ⟨t0, t1, tz⟩ := cellsT T0
    obtain ⟨p0, p1, pz⟩ := cellsA2 P0
    go_region
    replace S0 : W0.drew.heap[_]? = _ := S0
    replace T0 : W0.drew.heap[_]? = _ := T0
    replace hl : Row _ _ W0.drew _ _ := hl
    replace hs : Row _ _ W0.drew _ _ := hs
    replace hl2 : Row _ _ W0.drew _ _ := hl2
    replace hs2 : Row _ _ W0.drew _ _ := hs2
    replace D : Below _ _ W0.drew := D.drew
    clear s0 s1 sz t0 t1 tz p0 p1 pz P0
    obtain ⟨s0, s1, sz⟩ := cellsT S0
    obtain ⟨t0, t1, tz⟩ := cellsT T0
    go_wp2_with fail
    with_reducible refine (FewT_is n c A l m d B s _ hl hs hz hy true H1).mono ?_
    rintro e w1 ⟨rfl, b1⟩
    replace hl := hl.below b1
    replace hs := hs.below b1
    replace hl2 := hl2.below b1
    replace hs2 := hs2.below b1
    replace S0 := hcall S0 b1
    replace T0 := hcall T0 b1
    replace D := below_call D b1
    clear b1 s0 s1 sz t0 t1 tz
    obtain ⟨s0, s1, sz⟩ := cellsT S0
    obtain ⟨t0, t1, tz⟩ := cellsT T0
    go_wp2_with fail
    with_reducible refine (FewT_is n2 c2 A2 l2 m2 d2 B2 s2 _ hl2 hs2 hz2 hy2 false H2).mono ?_
    rintro e w2 ⟨rfl, b2⟩
    replace hl := hl.below b2
    replace hs := hs.below b2
    replace hl2 := hl2.below b2
    replace hs2 := hs2.below b2
    replace S0 := hcall S0 b2
    replace T0 := hcall T0 b2
    replace D := below_call D b2
    clear b2 s0 s1 sz t0 t1 tz
    obtain ⟨s0, s1, sz⟩ := cellsT S0
    obtain ⟨t0, t1, tz⟩ := cellsT T0
    go_wp2_with fail
    with_reducible refine (live15 _).mono ?_
    rintro e z9 ⟨rfl, b9⟩
    replace D := below_call D b9
    clear b9
    go_wp2
    go_ret
    exact ⟨rfl, D⟩
  | true =>
  obtain ⟨zl2, zs2, zn2, zm2⟩ := fewT_sz h
  have H2 := Lib.hid h
  have en2 := hl2.len_eq
  have em2 := hs2.len_eq
  have hn2 : n2 ≤ 80 := by omega
  have hm2 : m2 ≤ 50 := by omega
  clear h zn2 zm2 en2 em2
  by_cases hp4 : (40 : Int) < (p.size : Int)
  · skip
    go_enter Tryz.func4, Tryz.ntmps4
    go_wp2_with fail
    rw [hgg] at S0 T0 P0
    rw [hW0] at S0 T0 P0 hl hs hl2 hs2 D
    try rw [hgg]
    try rw [hW0]
    clear hW0
    obtain ⟨s0, s1, sz⟩ := cellsT S0
    obtain ⟨t0, t1, tz⟩ := cellsT T0
    obtain ⟨p0, p1, pz⟩ := cellsA2 P0
    go_region
    replace S0 : W0.drew.heap[_]? = _ := S0
    replace T0 : W0.drew.heap[_]? = _ := T0
    replace hl : Row _ _ W0.drew _ _ := hl
    replace hs : Row _ _ W0.drew _ _ := hs
    replace hl2 : Row _ _ W0.drew _ _ := hl2
    replace hs2 : Row _ _ W0.drew _ _ := hs2
    replace D : Below _ _ W0.drew := D.drew
    clear s0 s1 sz t0 t1 tz p0 p1 pz P0
    obtain ⟨s0, s1, sz⟩ := cellsT S0
    obtain ⟨t0, t1, tz⟩ := cellsT T0
    go_wp2_with fail
    with_reducible refine (FewT_is n c A l m d B s _ hl hs hz hy true H1).mono ?_
    rintro e w1 ⟨rfl, b1⟩
    replace hl := hl.below b1
    replace hs := hs.below b1
    replace hl2 := hl2.below b1
    replace hs2 := hs2.below b1
    replace S0 := hcall S0 b1
    replace T0 := hcall T0 b1
    replace D := below_call D b1
    clear b1 s0 s1 sz t0 t1 tz
    obtain ⟨s0, s1, sz⟩ := cellsT S0
    obtain ⟨t0, t1, tz⟩ := cellsT T0
    go_wp2_with fail
    with_reducible refine (FewT_is n2 c2 A2 l2 m2 d2 B2 s2 _ hl2 hs2 hz2 hy2 true H2).mono ?_
    rintro e w2 ⟨rfl, b2⟩
    replace hl := hl.below b2
    replace hs := hs.below b2
    replace hl2 := hl2.below b2
    replace hs2 := hs2.below b2
    replace S0 := hcall S0 b2
    replace T0 := hcall T0 b2
    replace D := below_call D b2
    clear b2 s0 s1 sz t0 t1 tz
    obtain ⟨s0, s1, sz⟩ := cellsT S0
    obtain ⟨t0, t1, tz⟩ := cellsT T0
    go_wp2_with fail
    with_reducible refine (live15 _).mono ?_
    rintro e z9 ⟨rfl, b9⟩
    replace D := below_call D b9
    clear b9
    go_wp2
    go_ret
    exact ⟨rfl, D⟩
  by_cases hq4 : (40 : Int) < (q.size : Int)
  · skip
    go_enter Tryz.func4, Tryz.ntmps4
    go_wp2_with fail
    rw [hgg] at S0 T0 P0
    rw [hW0] at S0 T0 P0 hl hs hl2 hs2 D
    try rw [hgg]
    try rw [hW0]
    clear hW0
    obtain ⟨s0, s1, sz⟩ := cellsT S0
    obtain ⟨t0, t1, tz⟩ := cellsT T0
    obtain ⟨p0, p1, pz⟩ := cellsA2 P0
    go_region
    replace S0 : W0.drew.heap[_]? = _ := S0
    replace T0 : W0.drew.heap[_]? = _ := T0
    replace hl : Row _ _ W0.drew _ _ := hl
    replace hs : Row _ _ W0.drew _ _ := hs
    replace hl2 : Row _ _ W0.drew _ _ := hl2
    replace hs2 : Row _ _ W0.drew _ _ := hs2
    replace D : Below _ _ W0.drew := D.drew
    clear s0 s1 sz t0 t1 tz p0 p1 pz P0
    obtain ⟨s0, s1, sz⟩ := cellsT S0
    obtain ⟨t0, t1, tz⟩ := cellsT T0
    go_wp2_with fail
    with_reducible refine (FewT_is n c A l m d B s _ hl hs hz hy true H1).mono ?_
    rintro e w1 ⟨rfl, b1⟩
    replace hl := hl.below b1
    replace hs := hs.below b1
    replace hl2 := hl2.below b1
    replace hs2 := hs2.below b1
    replace S0 := hcall S0 b1
    replace T0 := hcall T0 b1
    replace D := below_call D b1
    clear b1 s0 s1 sz t0 t1 tz
    obtain ⟨s0, s1, sz⟩ := cellsT S0
    obtain ⟨t0, t1, tz⟩ := cellsT T0
    go_wp2_with fail
    with_reducible refine (FewT_is n2 c2 A2 l2 m2 d2 B2 s2 _ hl2 hs2 hz2 hy2 true H2).mono ?_
    rintro e w2 ⟨rfl, b2⟩
    replace hl := hl.below b2
    replace hs := hs.below b2
    replace hl2 := hl2.below b2
    replace hs2 := hs2.below b2
    replace S0 := hcall S0 b2
    replace T0 := hcall T0 b2
    replace D := below_call D b2
    clear b2 s0 s1 sz t0 t1 tz
    obtain ⟨s0, s1, sz⟩ := cellsT S0
    obtain ⟨t0, t1, tz⟩ := cellsT T0
    go_wp2_with fail
    with_reducible refine (live15 _).mono ?_
    rintro e z9 ⟨rfl, b9⟩
    replace D := below_call D b9
    clear b9
    go_wp2
    go_ret
    exact ⟨rfl, D⟩
  go_enter Tryz.func4, Tryz.ntmps4
  go_wp2_with fail
  rw [hgg] at S0 T0 P0
  rw [hW0] at S0 T0 P0 hl hs hl2 hs2 D
  try rw [hgg]
  try rw [hW0]
  clear hW0
  obtain ⟨s0, s1, sz⟩ := cellsT S0
  obtain ⟨t0, t1, tz⟩ := cellsT T0
  obtain ⟨p0, p1, pz⟩ := cellsA2 P0
  go_region
  replace S0 : W0.drew.heap[_]? = _ := S0
  replace T0 : W0.drew.heap[_]? = _ := T0
  replace hl : Row _ _ W0.drew _ _ := hl
  replace hs : Row _ _ W0.drew _ _ := hs
  replace hl2 : Row _ _ W0.drew _ _ := hl2
  replace hs2 : Row _ _ W0.drew _ _ := hs2
  replace D : Below _ _ W0.drew := D.drew
  clear s0 s1 sz t0 t1 tz p0 p1 pz P0
  obtain ⟨s0, s1, sz⟩ := cellsT S0
  obtain ⟨t0, t1, tz⟩ := cellsT T0
  go_wp2_with fail
  with_reducible refine (FewT_is n c A l m d B s _ hl hs hz hy true H1).mono ?_
  rintro e w1 ⟨rfl, b1⟩
  replace hl := hl.below b1
  replace hs := hs.below b1
  replace hl2 := hl2.below b1
  replace hs2 := hs2.below b1
  replace S0 := hcall S0 b1
  replace T0 := hcall T0 b1
  replace D := below_call D b1
  clear b1 s0 s1 sz t0 t1 tz
  obtain ⟨s0, s1, sz⟩ := cellsT S0
  obtain ⟨t0, t1, tz⟩ := cellsT T0
  go_wp2_with fail
  with_reducible refine (FewT_is n2 c2 A2 l2 m2 d2 B2 s2 _ hl2 hs2 hz2 hy2 true H2).mono ?_
  rintro e w2 ⟨rfl, b2⟩
  replace hl := hl.below b2
  replace hs := hs.below b2
  replace hl2 := hl2.below b2
  replace hs2 := hs2.below b2
  replace S0 := hcall S0 b2
  replace T0 := hcall T0 b2
  replace D := below_call D b2
  clear b2 s0 s1 sz t0 t1 tz
  obtain ⟨s0, s1, sz⟩ := cellsT S0
  obtain ⟨t0, t1, tz⟩ := cellsT T0
  obtain ⟨a, b_, e_, t, y, hv⟩ : ∃ a b_ e_ t y, valT (l, s) p q = ((a, b_, e_, t), y) := ⟨_, _, _, _, _, rfl⟩
  have HV := Lib.hid hv
  clear hv
  go_wp2_with fail
  with_reducible refine (vValue_is n c A l m d B s _ hl hs zl zs (by omega) (by omega) p q a b_ e_ t y HV).mono ?_
  rintro e w3 ⟨rfl, b3⟩
  replace hl := hl.below b3
  replace hs := hs.below b3
  replace hl2 := hl2.below b3
  replace hs2 := hs2.below b3
  replace S0 := hcall S0 b3
  replace T0 := hcall T0 b3
  replace D := below_call D b3
  clear b3 s0 s1 sz t0 t1 tz
  have AB := heap_alloc_new w3 (bxPv a b_ e_ t)
  have ba := below_box (w := w3) (bxPv a b_ e_ t)
  replace hl := hl.below ba
  replace hs := hs.below ba
  replace hl2 := hl2.below ba
  replace hs2 := hs2.below ba
  replace S0 := hcall S0 ba
  replace T0 := hcall T0 ba
  replace D := below_call D ba
  clear ba
  obtain ⟨s0, s1, sz⟩ := cellsT S0
  obtain ⟨t0, t1, tz⟩ := cellsT T0
  go_wp2_with fail
  with_reducible refine (rVal_is n c A l m d B s _ hl hs zl zs (by omega) (by omega) p q a b_ e_ t y HV).mono ?_
  rintro e w4 ⟨rfl, b4⟩
  replace hl := hl.below b4
  replace hs := hs.below b4
  replace hl2 := hl2.below b4
  replace hs2 := hs2.below b4
  replace S0 := hcall S0 b4
  replace T0 := hcall T0 b4
  replace AB := hcall AB b4
  replace D := below_call D b4
  clear b4 s0 s1 sz t0 t1 tz
  have BB := heap_alloc_new w4 (bxPv a b_ e_ t)
  have ba := below_box (w := w4) (bxPv a b_ e_ t)
  replace hl := hl.below ba
  replace hs := hs.below ba
  replace hl2 := hl2.below ba
  replace hs2 := hs2.below ba
  replace S0 := hcall S0 ba
  replace T0 := hcall T0 ba
  replace AB := hcall AB ba
  replace D := below_call D ba
  clear ba
  obtain ⟨s0, s1, sz⟩ := cellsT S0
  obtain ⟨t0, t1, tz⟩ := cellsT T0
  obtain ⟨a0, a1, a2, a3, az⟩ := cellsPv AB
  obtain ⟨c0', c1', c2', c3', cz'⟩ := cellsPv BB
  have hE := eqlVl a b_ e_ t a b_ e_ t
  rw [eqvVl, decide_eq_true rfl] at hE
  replace s0 : (w4.alloc (bxPv a b_ e_ t)).drew.cell? _ = _ := s0
  replace s1 : (w4.alloc (bxPv a b_ e_ t)).drew.cell? _ = _ := s1
  replace t0 : (w4.alloc (bxPv a b_ e_ t)).drew.cell? _ = _ := t0
  replace t1 : (w4.alloc (bxPv a b_ e_ t)).drew.cell? _ = _ := t1
  replace a0 : (w4.alloc (bxPv a b_ e_ t)).drew.cell? _ = _ := a0
  replace a1 : (w4.alloc (bxPv a b_ e_ t)).drew.cell? _ = _ := a1
  replace a2 : (w4.alloc (bxPv a b_ e_ t)).drew.cell? _ = _ := a2
  replace a3 : (w4.alloc (bxPv a b_ e_ t)).drew.cell? _ = _ := a3
  replace c0' : (w4.alloc (bxPv a b_ e_ t)).drew.cell? _ = _ := c0'
  replace c1' : (w4.alloc (bxPv a b_ e_ t)).drew.cell? _ = _ := c1'
  replace c2' : (w4.alloc (bxPv a b_ e_ t)).drew.cell? _ = _ := c2'
  replace c3' : (w4.alloc (bxPv a b_ e_ t)).drew.cell? _ = _ := c3'
  replace hl : Row _ _ (w4.alloc (bxPv a b_ e_ t)).drew _ _ := hl
  replace hs : Row _ _ (w4.alloc (bxPv a b_ e_ t)).drew _ _ := hs
  replace hl2 : Row _ _ (w4.alloc (bxPv a b_ e_ t)).drew _ _ := hl2
  replace hs2 : Row _ _ (w4.alloc (bxPv a b_ e_ t)).drew _ _ := hs2
  replace D : Below _ _ (w4.alloc (bxPv a b_ e_ t)).drew := D.drew
  clear S0 T0 AB BB sz tz az cz'
  go_wp2_with fail
  refine Held.start (ops := opsvgt) (S := fun w' => w'.cell? ⟨g, 0, none⟩ = some (.slice A n c) ∧ w'.cell? ⟨g, 1, none⟩ = some (.slice B m d) ∧ w'.cell? ⟨g + 1, 0, none⟩ = some (.slice A2 n2 c2) ∧ w'.cell? ⟨g + 1, 1, none⟩ = some (.slice B2 m2 d2) ∧ w'.cell? ⟨w3.heap.size, 0, none⟩ = some (.int .i64 a) ∧ w'.cell? ⟨w3.heap.size, 1, none⟩ = some (.int .i64 b_) ∧ w'.cell? ⟨w3.heap.size, 2, none⟩ = some (.int .i64 e_) ∧ w'.cell? ⟨w3.heap.size, 3, none⟩ = some (.string t) ∧ w'.cell? ⟨w4.heap.size, 0, none⟩ = some (.int .i64 a) ∧ w'.cell? ⟨w4.heap.size, 1, none⟩ = some (.int .i64 b_) ∧ w'.cell? ⟨w4.heap.size, 2, none⟩ = some (.int .i64 e_) ∧ w'.cell? ⟨w4.heap.size, 3, none⟩ = some (.string t)) ordvgt 41 (by kernel_rfl) rgvgt.siz (by kernel_rfl) ⟨s0, s1, t0, t1, a0, a1, a2, a3, c0', c1', c2', c3'⟩ (fun hHeld => ?_)
  iterate 13
    refine Held.tk (v := ?_) rgvgt rfl rfl rfl (fun _ _ _ h => h) (by assumption) (Or.inl ⟨by kernel_rfl, ?_⟩) ?_
    rotate_left
    · (intro w hSw; (try dsimp only at hSw); go_simp; (try (first | with_reducible rfl | rw [if_neg (by omega)])))
    try simp only [Act.put, List.getElem_toArray, List.getElem_cons_succ, List.getElem_cons_zero, List.setIfInBounds_toArray, List.set_cons_zero, List.set_cons_succ]
  refine Held.only (k := 13) (i := 11) (by kernel_rfl) (by kernel_rfl) rfl (by kernel_rfl) (fun K hK => ?_)
  go_simp
  go_at_call 22
  with_reducible refine (vOf_is n c A l m d B s _ hl hs zl zs (by omega) (by omega) p _ (Lib.hid rfl)).mono ?_
  rintro e y11 ⟨q1, rfl, r1, hbx⟩
  obtain ⟨Q1, qc1, rfl⟩ := form_Sn r1
  replace s0 := cell_below hbx s0
  replace s1 := cell_below hbx s1
  replace t0 := cell_below hbx t0
  replace t1 := cell_below hbx t1
  replace a0 := cell_below hbx a0
  replace a1 := cell_below hbx a1
  replace a2 := cell_below hbx a2
  replace a3 := cell_below hbx a3
  replace c0' := cell_below hbx c0'
  replace c1' := cell_below hbx c1'
  replace c2' := cell_below hbx c2'
  replace c3' := cell_below hbx c3'
  replace hl := hl.below hbx
  replace hs := hs.below hbx
  replace hl2 := hl2.below hbx
  replace hs2 := hs2.below hbx
  replace D := below_call D hbx
  clear hbx
  refine hK.out _ _ (by (try dsimp only); (exact ⟨s0, s1, t0, t1, a0, a1, a2, a3, c0', c1', c2', c3'⟩)) (fun hHeld => ?_)
  clear hK K
  try simp only [Act.put, List.getElem_toArray, List.getElem_cons_succ, List.getElem_cons_zero, List.setIfInBounds_toArray, List.set_cons_zero, List.set_cons_succ]
  refine Held.only (k := 14) (i := 14) (by kernel_rfl) (by kernel_rfl) rfl (by kernel_rfl) (fun K hK => ?_)
  go_simp
  go_at_call 23
  with_reducible refine (rOf_is n c A l m d B s _ hl hs zl zs (by omega) (by omega) p _ (Lib.hid rfl)).mono ?_
  rintro e y14 ⟨q2, rfl, r2, hbx⟩
  obtain ⟨Q2, qc2, rfl⟩ := form_Sn r2
  replace s0 := cell_below hbx s0
  replace s1 := cell_below hbx s1
  replace t0 := cell_below hbx t0
  replace t1 := cell_below hbx t1
  replace a0 := cell_below hbx a0
  replace a1 := cell_below hbx a1
  replace a2 := cell_below hbx a2
  replace a3 := cell_below hbx a3
  replace c0' := cell_below hbx c0'
  replace c1' := cell_below hbx c1'
  replace c2' := cell_below hbx c2'
  replace c3' := cell_below hbx c3'
  replace hl := hl.below hbx
  replace hs := hs.below hbx
  replace hl2 := hl2.below hbx
  replace hs2 := hs2.below hbx
  replace r1 := r1.below hbx
  replace D := below_call D hbx
  clear hbx
  refine hK.out _ _ (by (try dsimp only); (exact ⟨s0, s1, t0, t1, a0, a1, a2, a3, c0', c1', c2', c3'⟩)) (fun hHeld => ?_)
  clear hK K
  try simp only [Act.put, List.getElem_toArray, List.getElem_cons_succ, List.getElem_cons_zero, List.setIfInBounds_toArray, List.set_cons_zero, List.set_cons_succ]
  refine Held.only (k := 15) (i := 15) (by kernel_rfl) (by kernel_rfl) rfl (by kernel_rfl) (fun K hK => ?_)
  go_simp
  go_at_call 21
  with_reducible refine (re_ (sameSn _ _ _ _ _ _ _ _ _ r1 r2) (ret_bool (decide_eq_true rfl))).mono ?_
  rintro e y15 ⟨rfl, hbx⟩
  replace s0 := cell_below hbx s0
  replace s1 := cell_below hbx s1
  replace t0 := cell_below hbx t0
  replace t1 := cell_below hbx t1
  replace a0 := cell_below hbx a0
  replace a1 := cell_below hbx a1
  replace a2 := cell_below hbx a2
  replace a3 := cell_below hbx a3
  replace c0' := cell_below hbx c0'
  replace c1' := cell_below hbx c1'
  replace c2' := cell_below hbx c2'
  replace c3' := cell_below hbx c3'
  replace hl := hl.below hbx
  replace hs := hs.below hbx
  replace hl2 := hl2.below hbx
  replace hs2 := hs2.below hbx
  replace D := below_call D hbx
  clear hbx r1 r2
  refine hK.out _ _ (by (try dsimp only); (exact ⟨s0, s1, t0, t1, a0, a1, a2, a3, c0', c1', c2', c3'⟩)) (fun hHeld => ?_)
  clear hK K
  try simp only [Act.put, List.getElem_toArray, List.getElem_cons_succ, List.getElem_cons_zero, List.setIfInBounds_toArray, List.set_cons_zero, List.set_cons_succ]
  iterate 6
    refine Held.tk (v := ?_) rgvgt rfl rfl rfl (fun _ _ _ h => h) (by assumption) (Or.inl ⟨by kernel_rfl, ?_⟩) ?_
    rotate_left
    · (intro w hSw; (try dsimp only at hSw); go_simp; (try (first | with_reducible rfl | rw [if_neg (by omega)])))
    try simp only [Act.put, List.getElem_toArray, List.getElem_cons_succ, List.getElem_cons_zero, List.setIfInBounds_toArray, List.set_cons_zero, List.set_cons_succ]
  refine Held.only (k := 22) (i := 20) (by kernel_rfl) (by kernel_rfl) rfl (by kernel_rfl) (fun K hK => ?_)
  go_simp
  go_at_call 25
  with_reducible refine (vWatch_is n c A l m d B s _ hl hs zl zs (by omega) (by omega) q _ (Lib.hid rfl)).mono ?_
  rintro e y20 ⟨q1, rfl, r1, hbx⟩
  obtain ⟨Q1, qc1, rfl⟩ := form_S15 r1
  replace s0 := cell_below hbx s0
  replace s1 := cell_below hbx s1
  replace t0 := cell_below hbx t0
  replace t1 := cell_below hbx t1
  replace a0 := cell_below hbx a0
  replace a1 := cell_below hbx a1
  replace a2 := cell_below hbx a2
  replace a3 := cell_below hbx a3
  replace c0' := cell_below hbx c0'
  replace c1' := cell_below hbx c1'
  replace c2' := cell_below hbx c2'
  replace c3' := cell_below hbx c3'
  replace hl := hl.below hbx
  replace hs := hs.below hbx
  replace hl2 := hl2.below hbx
  replace hs2 := hs2.below hbx
  replace D := below_call D hbx
  clear hbx
  refine hK.out _ _ (by (try dsimp only); (exact ⟨s0, s1, t0, t1, a0, a1, a2, a3, c0', c1', c2', c3'⟩)) (fun hHeld => ?_)
  clear hK K
  try simp only [Act.put, List.getElem_toArray, List.getElem_cons_succ, List.getElem_cons_zero, List.setIfInBounds_toArray, List.set_cons_zero, List.set_cons_succ]
  refine Held.only (k := 23) (i := 23) (by kernel_rfl) (by kernel_rfl) rfl (by kernel_rfl) (fun K hK => ?_)
  go_simp
  go_at_call 26
  with_reducible refine (rWatch_is n c A l m d B s _ hl hs zl zs (by omega) (by omega) q _ (Lib.hid rfl)).mono ?_
  rintro e y23 ⟨q2, rfl, r2, hbx⟩
  obtain ⟨Q2, qc2, rfl⟩ := form_S15 r2
  replace s0 := cell_below hbx s0
  replace s1 := cell_below hbx s1
  replace t0 := cell_below hbx t0
  replace t1 := cell_below hbx t1
  replace a0 := cell_below hbx a0
  replace a1 := cell_below hbx a1
  replace a2 := cell_below hbx a2
  replace a3 := cell_below hbx a3
  replace c0' := cell_below hbx c0'
  replace c1' := cell_below hbx c1'
  replace c2' := cell_below hbx c2'
  replace c3' := cell_below hbx c3'
  replace hl := hl.below hbx
  replace hs := hs.below hbx
  replace hl2 := hl2.below hbx
  replace hs2 := hs2.below hbx
  replace r1 := r1.below hbx
  replace D := below_call D hbx
  clear hbx
  refine hK.out _ _ (by (try dsimp only); (exact ⟨s0, s1, t0, t1, a0, a1, a2, a3, c0', c1', c2', c3'⟩)) (fun hHeld => ?_)
  clear hK K
  try simp only [Act.put, List.getElem_toArray, List.getElem_cons_succ, List.getElem_cons_zero, List.setIfInBounds_toArray, List.set_cons_zero, List.set_cons_succ]
  refine Held.only (k := 24) (i := 24) (by kernel_rfl) (by kernel_rfl) rfl (by kernel_rfl) (fun K hK => ?_)
  go_simp
  go_at_call 24
  with_reducible refine (re_ (refSame_calls _ _ _ _ _ _ _ _ _ r1 r2) (ret_bool (decide_eq_true rfl))).mono ?_
  rintro e y24 ⟨rfl, hbx⟩
  replace s0 := cell_below hbx s0
  replace s1 := cell_below hbx s1
  replace t0 := cell_below hbx t0
  replace t1 := cell_below hbx t1
  replace a0 := cell_below hbx a0
  replace a1 := cell_below hbx a1
  replace a2 := cell_below hbx a2
  replace a3 := cell_below hbx a3
  replace c0' := cell_below hbx c0'
  replace c1' := cell_below hbx c1'
  replace c2' := cell_below hbx c2'
  replace c3' := cell_below hbx c3'
  replace hl := hl.below hbx
  replace hs := hs.below hbx
  replace hl2 := hl2.below hbx
  replace hs2 := hs2.below hbx
  replace D := below_call D hbx
  clear hbx r1 r2
  refine hK.out _ _ (by (try dsimp only); (exact ⟨s0, s1, t0, t1, a0, a1, a2, a3, c0', c1', c2', c3'⟩)) (fun hHeld => ?_)
  clear hK K
  try simp only [Act.put, List.getElem_toArray, List.getElem_cons_succ, List.getElem_cons_zero, List.setIfInBounds_toArray, List.set_cons_zero, List.set_cons_succ]
  iterate 8
    refine Held.tk (v := ?_) rgvgt rfl rfl rfl (fun _ _ _ h => h) (by assumption) (Or.inl ⟨by kernel_rfl, ?_⟩) ?_
    rotate_left
    · (intro w hSw; (try dsimp only at hSw); go_simp; (try (first | with_reducible rfl | rw [if_neg (by omega)])))
    try simp only [Act.put, List.getElem_toArray, List.getElem_cons_succ, List.getElem_cons_zero, List.setIfInBounds_toArray, List.set_cons_zero, List.set_cons_succ]
  refine Held.only (k := 33) (i := 30) (by kernel_rfl) (by kernel_rfl) rfl (by kernel_rfl) (fun K hK => ?_)
  go_simp
  go_at_call 28
  with_reducible refine (vBet_is n c A l m d B s n2 c2 A2 l2 m2 d2 B2 s2 _ hl hs hl2 hs2 zl zs zl2 zs2 (by omega) (by omega) (by omega) (by omega) p _ (Lib.hid rfl)).mono ?_
  rintro e y30 ⟨q1, rfl, r1, hbx⟩
  obtain ⟨Q1, qc1, rfl⟩ := form_Ch r1
  replace s0 := cell_below hbx s0
  replace s1 := cell_below hbx s1
  replace t0 := cell_below hbx t0
  replace t1 := cell_below hbx t1
  replace a0 := cell_below hbx a0
  replace a1 := cell_below hbx a1
  replace a2 := cell_below hbx a2
  replace a3 := cell_below hbx a3
  replace c0' := cell_below hbx c0'
  replace c1' := cell_below hbx c1'
  replace c2' := cell_below hbx c2'
  replace c3' := cell_below hbx c3'
  replace hl := hl.below hbx
  replace hs := hs.below hbx
  replace hl2 := hl2.below hbx
  replace hs2 := hs2.below hbx
  replace D := below_call D hbx
  clear hbx
  refine hK.out _ _ (by (try dsimp only); (exact ⟨s0, s1, t0, t1, a0, a1, a2, a3, c0', c1', c2', c3'⟩)) (fun hHeld => ?_)
  clear hK K
  try simp only [Act.put, List.getElem_toArray, List.getElem_cons_succ, List.getElem_cons_zero, List.setIfInBounds_toArray, List.set_cons_zero, List.set_cons_succ]
  refine Held.only (k := 34) (i := 34) (by kernel_rfl) (by kernel_rfl) rfl (by kernel_rfl) (fun K hK => ?_)
  go_simp
  go_at_call 29
  with_reducible refine (rBet_is n c A l m d B s n2 c2 A2 l2 m2 d2 B2 s2 _ hl hs hl2 hs2 zl zs zl2 zs2 (by omega) (by omega) (by omega) (by omega) p _ (Lib.hid rfl)).mono ?_
  rintro e y34 ⟨q2, rfl, r2, hbx⟩
  obtain ⟨Q2, qc2, rfl⟩ := form_Ch r2
  replace s0 := cell_below hbx s0
  replace s1 := cell_below hbx s1
  replace t0 := cell_below hbx t0
  replace t1 := cell_below hbx t1
  replace a0 := cell_below hbx a0
  replace a1 := cell_below hbx a1
  replace a2 := cell_below hbx a2
  replace a3 := cell_below hbx a3
  replace c0' := cell_below hbx c0'
  replace c1' := cell_below hbx c1'
  replace c2' := cell_below hbx c2'
  replace c3' := cell_below hbx c3'
  replace hl := hl.below hbx
  replace hs := hs.below hbx
  replace hl2 := hl2.below hbx
  replace hs2 := hs2.below hbx
  replace r1 := r1.below hbx
  replace D := below_call D hbx
  clear hbx
  refine hK.out _ _ (by (try dsimp only); (exact ⟨s0, s1, t0, t1, a0, a1, a2, a3, c0', c1', c2', c3'⟩)) (fun hHeld => ?_)
  clear hK K
  try simp only [Act.put, List.getElem_toArray, List.getElem_cons_succ, List.getElem_cons_zero, List.setIfInBounds_toArray, List.set_cons_zero, List.set_cons_succ]
  refine Held.only (k := 35) (i := 35) (by kernel_rfl) (by kernel_rfl) rfl (by kernel_rfl) (fun K hK => ?_)
  go_simp
  go_at_call 27
  with_reducible refine (re_ (sameCh _ _ _ _ _ _ _ _ _ r1 r2) (ret_bool (decide_eq_true rfl))).mono ?_
  rintro e y35 ⟨rfl, hbx⟩
  replace s0 := cell_below hbx s0
  replace s1 := cell_below hbx s1
  replace t0 := cell_below hbx t0
  replace t1 := cell_below hbx t1
  replace a0 := cell_below hbx a0
  replace a1 := cell_below hbx a1
  replace a2 := cell_below hbx a2
  replace a3 := cell_below hbx a3
  replace c0' := cell_below hbx c0'
  replace c1' := cell_below hbx c1'
  replace c2' := cell_below hbx c2'
  replace c3' := cell_below hbx c3'
  replace hl := hl.below hbx
  replace hs := hs.below hbx
  replace hl2 := hl2.below hbx
  replace hs2 := hs2.below hbx
  replace D := below_call D hbx
  clear hbx r1 r2
  refine hK.out _ _ (by (try dsimp only); (exact ⟨s0, s1, t0, t1, a0, a1, a2, a3, c0', c1', c2', c3'⟩)) (fun hHeld => ?_)
  clear hK K
  try simp only [Act.put, List.getElem_toArray, List.getElem_cons_succ, List.getElem_cons_zero, List.setIfInBounds_toArray, List.set_cons_zero, List.set_cons_succ]
  iterate 2
    refine Held.tk (v := ?_) rgvgt rfl rfl rfl (fun _ _ _ h => h) (by assumption) (Or.inl ⟨by kernel_rfl, ?_⟩) ?_
    rotate_left
    · (intro w hSw; (try dsimp only at hSw); go_simp; (try (first | with_reducible rfl | rw [if_neg (by omega)])))
    try simp only [Act.put, List.getElem_toArray, List.getElem_cons_succ, List.getElem_cons_zero, List.setIfInBounds_toArray, List.set_cons_zero, List.set_cons_succ]
  refine Held.only (k := 38) (i := 38) (by kernel_rfl) (by kernel_rfl) rfl (by kernel_rfl) (fun K hK => ?_)
  go_simp
  go_at_call 18
  with_reducible refine (live15 _).mono ?_
  rintro e y38 ⟨rfl, hbx⟩
  replace s0 := cell_below hbx s0
  replace s1 := cell_below hbx s1
  replace t0 := cell_below hbx t0
  replace t1 := cell_below hbx t1
  replace a0 := cell_below hbx a0
  replace a1 := cell_below hbx a1
  replace a2 := cell_below hbx a2
  replace a3 := cell_below hbx a3
  replace c0' := cell_below hbx c0'
  replace c1' := cell_below hbx c1'
  replace c2' := cell_below hbx c2'
  replace c3' := cell_below hbx c3'
  replace hl := hl.below hbx
  replace hs := hs.below hbx
  replace hl2 := hl2.below hbx
  replace hs2 := hs2.below hbx
  replace D := below_call D hbx
  clear hbx
  refine hK.out _ _ (by (try dsimp only); (exact ⟨s0, s1, t0, t1, a0, a1, a2, a3, c0', c1', c2', c3'⟩)) (fun hHeld => ?_)
  clear hK K
  try simp only [Act.put, List.getElem_toArray, List.getElem_cons_succ, List.getElem_cons_zero, List.setIfInBounds_toArray, List.set_cons_zero, List.set_cons_succ]
  iterate 2
    refine Held.tk (v := ?_) rgvgt rfl rfl rfl (fun _ _ _ h => h) (by assumption) (Or.inl ⟨by kernel_rfl, ?_⟩) ?_
    rotate_left
    · (intro w hSw; (try dsimp only at hSw); go_simp; (try (first | with_reducible rfl | rw [if_neg (by omega)])))
    try simp only [Act.put, List.getElem_toArray, List.getElem_cons_succ, List.getElem_cons_zero, List.setIfInBounds_toArray, List.set_cons_zero, List.set_cons_succ]
  refine wpAnyH_done (by kernel_rfl) ?_ _
  go_wp2
  go_ret
  exact ⟨rfl, D⟩
end Go.Proofs.YtbpfcjdjhponaaaGreat
