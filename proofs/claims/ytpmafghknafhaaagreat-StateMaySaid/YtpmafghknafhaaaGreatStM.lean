/-
Layer 14: the walk of StateMay.
-/
import Derived.Test.YtpmafghknafhaaaGreatStI
import Derived.Test.YtpmafghknafhaaaGreatStG
import Derived.Test.YtpmafghknafhaaaGreatStL
set_option linter.unusedVariables false
set_option linter.unusedSimpArgs false
namespace Go.Proofs.YtpmafghknafhaaaGreat
open Go.RowKit
open Sp
abbrev bxA2 (x y : ByteArray) : Obj := .cells #[.string x, .string y] 47
theorem cellsA2 {W : World} {g : Nat} {x y : ByteArray} (h : W.heap[g]? = some (bxA2 x y)) : W.cell? ⟨g, 0, none⟩ = some (.string x) ∧ W.cell? ⟨g, 1, none⟩ = some (.string y) ∧ g < W.heap.size :=
  ⟨by simp [World.cell?, h], by simp [World.cell?, h], (Array.getElem?_eq_some_iff.1 h).1⟩
noncomputable def opssmb : Array Oper := Held.inBody 14 Tryz.f5.body
def ordsmb : List Nat := [0, 1, 2, 3, 5, 6, 7, 8, 4, 9, 10, 11, 12, 13, 14, 15, 16, 17, 19, 20, 21, 22, 23, 24, 18, 25, 26, 27, 28, 29, 30, 31]
set_option maxRecDepth 100000 in
theorem rgsmb : Held.Reg opssmb ordsmb 32 [0, 1, 2, 3, 4, 5, 6, 7, 11, 12, 13, 14, 15, 16, 17, 18, 19, 20, 21, 22, 23, 26, 27, 28, 30, 31] := ⟨by kernel_rfl, by kernel_rfl, by kernel_rfl⟩
noncomputable def opssmc : Array Oper := Held.inBody 14 Tryz.f5.body
def ordsmc : List Nat := [0, 1, 2, 3, 5, 6, 7, 8, 4, 9, 10, 11, 12, 13, 14, 15, 16, 17, 19, 20, 21, 22, 23, 24, 18, 25, 26, 27, 28, 29, 30, 31]
set_option maxRecDepth 100000 in
theorem rgsmc : Held.Reg opssmc ordsmc 32 [0, 1, 2, 3, 4, 5, 6, 7, 11, 12, 13, 14, 15, 16, 17, 18, 19, 20, 21, 22, 23, 26, 27, 28, 30, 31] := ⟨by kernel_rfl, by kernel_rfl, by kernel_rfl⟩
set_option maxHeartbeats 32000000 in
set_option maxRecDepth 100000 in
theorem may14_walk (n c : Nat) (A : Option Addr) (l : List En) (m d : Nat) (B : Option Addr) (s : List Se) (e : Evt) (x y : ByteArray) (w : World)
    (hl : Row enEn 7 w (.slice A n c) l) (hz : SzE l) (hs : Row enSe 6 w (.slice B m d) s) (hy : SzEs s) (he : OkEv e) :
    Calls Tryz.prog 5 #[agT A n c B m d, vaEv e, .agg #[.string x, .string y]] w fun r w' => r = .returned (.bool true) ∧ Below w.heap.size w w' := by
  obtain ⟨k, u, o, i, ⟨a, p, q, t⟩⟩ := e
  have hq : u.size ≤ 9223372036854775807 ∧ o.size ≤ 9223372036854775807 ∧ t.size ≤ 9223372036854775807 := by simp only [OkEv, maxLen] at he; exact he
  clear he
  have EA := Lib.hid hl.len_eq
  have EM := Lib.hid hs.len_eq
  have D := below_alloc0 (below_alloc0 (below_box (w := w) (bxT A n c B m d)) (bxEv k u o i a p q t)) (bxA2 x y)
  have S0 := halloc (halloc (heap_alloc_new w (bxT A n c B m d)) (bxEv k u o i a p q t)) (bxA2 x y)
  have E0 := halloc (heap_alloc_new (w.alloc (bxT A n c B m d)) (bxEv k u o i a p q t)) (bxA2 x y)
  have A0 := heap_alloc_new ((w.alloc (bxT A n c B m d)).alloc (bxEv k u o i a p q t)) (bxA2 x y)
  simp only [size_alloc] at E0 A0
  replace hl := hl.below D
  replace hs := hs.below D
  cases h : fewT (l, s) with
  | false =>
    have H1 := Lib.hid h
    clear h
    obtain ⟨s0, s1, sz⟩ := cellsT S0
    obtain ⟨e0, e1, e2, e3, e4, e5, e6, e7, ez⟩ := cellsEv k u o i a p q t E0
    obtain ⟨z0, z1, zz⟩ := cellsA2 A0
    go_enter Tryz.func5, Tryz.ntmps5
    go_wp2_with fail
    with_reducible refine (FewT_is n c A l m d B s _ hl hs hz hy false H1).mono ?_
    rintro e w1 ⟨rfl, b1⟩
    replace hl := hl.below b1
    replace hs := hs.below b1
    replace S0 := hcall S0 b1
    replace E0 := hcall E0 b1
    replace A0 := hcall A0 b1
    replace D := below_call D b1
    clear b1 s0 s1 sz e0 e1 e2 e3 e4 e5 e6 e7 ez z0 z1 zz
    go_wp2_with fail
    with_reducible refine (live14 _).mono ?_
    rintro e w2 ⟨rfl, b2⟩
    replace hl := hl.below b2
    replace hs := hs.below b2
    replace S0 := hcall S0 b2
    replace E0 := hcall E0 b2
    replace A0 := hcall A0 b2
    replace D := below_call D b2
    clear b2
    go_wp2
    go_ret
    exact ⟨rfl, D⟩
  | true =>
  obtain ⟨zl, zs, zn, zm⟩ := fewT_sz h
  have H1 := Lib.hid h
  have hn : n ≤ 900 := by have := EA.out; omega
  have hn1 : n ≤ 100000 := by omega
  have hm1 : m ≤ 100000 := by have := EM.out; omega
  clear h
  cases hmy : mayT (l, s) with
  | false =>
    have H2 := Lib.hid hmy
    clear hmy
    obtain ⟨s0, s1, sz⟩ := cellsT S0
    obtain ⟨e0, e1, e2, e3, e4, e5, e6, e7, ez⟩ := cellsEv k u o i a p q t E0
    obtain ⟨z0, z1, zz⟩ := cellsA2 A0
    go_enter Tryz.func5, Tryz.ntmps5
    go_wp2_with fail
    with_reducible refine (FewT_is n c A l m d B s _ hl hs hz hy true H1).mono ?_
    rintro e w1 ⟨rfl, b1⟩
    replace hl := hl.below b1
    replace hs := hs.below b1
    replace S0 := hcall S0 b1
    replace E0 := hcall E0 b1
    replace A0 := hcall A0 b1
    replace D := below_call D b1
    clear b1 s0 s1 sz e0 e1 e2 e3 e4 e5 e6 e7 ez z0 z1 zz
    obtain ⟨s0, s1, sz⟩ := cellsT S0
    obtain ⟨e0, e1, e2, e3, e4, e5, e6, e7, ez⟩ := cellsEv k u o i a p q t E0
    obtain ⟨z0, z1, zz⟩ := cellsA2 A0
    go_wp2_with fail
    with_reducible refine (refMayT_is n c A l m d B s _ hl hs zl zs hn1 false H2).mono ?_
    rintro e w2 ⟨rfl, b2⟩
    replace hl := hl.below b2
    replace hs := hs.below b2
    replace S0 := hcall S0 b2
    replace E0 := hcall E0 b2
    replace A0 := hcall A0 b2
    replace D := below_call D b2
    clear b2 s0 s1 sz e0 e1 e2 e3 e4 e5 e6 e7 ez z0 z1 zz
    go_wp2_with fail
    with_reducible refine (live14 _).mono ?_
    rintro e w3 ⟨rfl, b3⟩
    replace hl := hl.below b3
    replace hs := hs.below b3
    replace S0 := hcall S0 b3
    replace E0 := hcall E0 b3
    replace A0 := hcall A0 b3
    replace D := below_call D b3
    clear b3
    go_wp2
    go_ret
    exact ⟨rfl, D⟩
  | true =>
  have H2 := Lib.hid hmy
  clear hmy
  cases h : shortE ⟨k, u, o, i, (a, p, q, t)⟩ with
  | false =>
    have H3 := Lib.hid h
    clear h
    obtain ⟨s0, s1, sz⟩ := cellsT S0
    obtain ⟨e0, e1, e2, e3, e4, e5, e6, e7, ez⟩ := cellsEv k u o i a p q t E0
    obtain ⟨z0, z1, zz⟩ := cellsA2 A0
    go_enter Tryz.func5, Tryz.ntmps5
    go_wp2_with fail
    with_reducible refine (FewT_is n c A l m d B s _ hl hs hz hy true H1).mono ?_
    rintro e w1 ⟨rfl, b1⟩
    replace hl := hl.below b1
    replace hs := hs.below b1
    replace S0 := hcall S0 b1
    replace E0 := hcall E0 b1
    replace A0 := hcall A0 b1
    replace D := below_call D b1
    clear b1 s0 s1 sz e0 e1 e2 e3 e4 e5 e6 e7 ez z0 z1 zz
    obtain ⟨s0, s1, sz⟩ := cellsT S0
    obtain ⟨e0, e1, e2, e3, e4, e5, e6, e7, ez⟩ := cellsEv k u o i a p q t E0
    obtain ⟨z0, z1, zz⟩ := cellsA2 A0
    go_wp2_with fail
    with_reducible refine (refMayT_is n c A l m d B s _ hl hs zl zs hn1 true H2).mono ?_
    rintro e w2 ⟨rfl, b2⟩
    replace hl := hl.below b2
    replace hs := hs.below b2
    replace S0 := hcall S0 b2
    replace E0 := hcall E0 b2
    replace A0 := hcall A0 b2
    replace D := below_call D b2
    clear b2 s0 s1 sz e0 e1 e2 e3 e4 e5 e6 e7 ez z0 z1 zz
    obtain ⟨s0, s1, sz⟩ := cellsT S0
    obtain ⟨e0, e1, e2, e3, e4, e5, e6, e7, ez⟩ := cellsEv k u o i a p q t E0
    obtain ⟨z0, z1, zz⟩ := cellsA2 A0
    go_wp2_with fail
    with_reducible refine (Short_is k u o i a p q t false _ hq.1 hq.2.1 hq.2.2 H3).mono ?_
    rintro e w3 ⟨rfl, b3⟩
    replace hl := hl.below b3
    replace hs := hs.below b3
    replace S0 := hcall S0 b3
    replace E0 := hcall E0 b3
    replace A0 := hcall A0 b3
    replace D := below_call D b3
    clear b3 s0 s1 sz e0 e1 e2 e3 e4 e5 e6 e7 ez z0 z1 zz
    go_wp2_with fail
    with_reducible refine (live14 _).mono ?_
    rintro e w4 ⟨rfl, b4⟩
    replace hl := hl.below b4
    replace hs := hs.below b4
    replace S0 := hcall S0 b4
    replace E0 := hcall E0 b4
    replace A0 := hcall A0 b4
    replace D := below_call D b4
    clear b4
    go_wp2
    go_ret
    exact ⟨rfl, D⟩
  | true =>
  obtain ⟨hu, ho, ht⟩ := shortE_sz h
  have H3 := Lib.hid h
  clear h
  by_cases hxs : (40 : Int) < (x.size : Int)
  · obtain ⟨s0, s1, sz⟩ := cellsT S0
    obtain ⟨e0, e1, e2, e3, e4, e5, e6, e7, ez⟩ := cellsEv k u o i a p q t E0
    obtain ⟨z0, z1, zz⟩ := cellsA2 A0
    go_enter Tryz.func5, Tryz.ntmps5
    go_wp2_with fail
    with_reducible refine (FewT_is n c A l m d B s _ hl hs hz hy true H1).mono ?_
    rintro e w1 ⟨rfl, b1⟩
    replace hl := hl.below b1
    replace hs := hs.below b1
    replace S0 := hcall S0 b1
    replace E0 := hcall E0 b1
    replace A0 := hcall A0 b1
    replace D := below_call D b1
    clear b1 s0 s1 sz e0 e1 e2 e3 e4 e5 e6 e7 ez z0 z1 zz
    obtain ⟨s0, s1, sz⟩ := cellsT S0
    obtain ⟨e0, e1, e2, e3, e4, e5, e6, e7, ez⟩ := cellsEv k u o i a p q t E0
    obtain ⟨z0, z1, zz⟩ := cellsA2 A0
    go_wp2_with fail
    with_reducible refine (refMayT_is n c A l m d B s _ hl hs zl zs hn1 true H2).mono ?_
    rintro e w2 ⟨rfl, b2⟩
    replace hl := hl.below b2
    replace hs := hs.below b2
    replace S0 := hcall S0 b2
    replace E0 := hcall E0 b2
    replace A0 := hcall A0 b2
    replace D := below_call D b2
    clear b2 s0 s1 sz e0 e1 e2 e3 e4 e5 e6 e7 ez z0 z1 zz
    obtain ⟨s0, s1, sz⟩ := cellsT S0
    obtain ⟨e0, e1, e2, e3, e4, e5, e6, e7, ez⟩ := cellsEv k u o i a p q t E0
    obtain ⟨z0, z1, zz⟩ := cellsA2 A0
    go_wp2_with fail
    with_reducible refine (Short_is k u o i a p q t true _ hq.1 hq.2.1 hq.2.2 H3).mono ?_
    rintro e w3 ⟨rfl, b3⟩
    replace hl := hl.below b3
    replace hs := hs.below b3
    replace S0 := hcall S0 b3
    replace E0 := hcall E0 b3
    replace A0 := hcall A0 b3
    replace D := below_call D b3
    clear b3 s0 s1 sz e0 e1 e2 e3 e4 e5 e6 e7 ez z0 z1 zz
    obtain ⟨s0, s1, sz⟩ := cellsT S0
    obtain ⟨e0, e1, e2, e3, e4, e5, e6, e7, ez⟩ := cellsEv k u o i a p q t E0
    obtain ⟨z0, z1, zz⟩ := cellsA2 A0
    go_wp2_with fail
    with_reducible refine (live14 _).mono ?_
    rintro e w4 ⟨rfl, b4⟩
    replace hl := hl.below b4
    replace hs := hs.below b4
    replace S0 := hcall S0 b4
    replace E0 := hcall E0 b4
    replace A0 := hcall A0 b4
    replace D := below_call D b4
    clear b4 s0 s1 sz e0 e1 e2 e3 e4 e5 e6 e7 ez z0 z1 zz
    go_wp2
    go_ret
    exact ⟨rfl, D⟩
  have hxl : (x.size : Int) ≤ 40 := by omega
  clear hxs
  by_cases hys : (40 : Int) < (y.size : Int)
  · obtain ⟨s0, s1, sz⟩ := cellsT S0
    obtain ⟨e0, e1, e2, e3, e4, e5, e6, e7, ez⟩ := cellsEv k u o i a p q t E0
    obtain ⟨z0, z1, zz⟩ := cellsA2 A0
    go_enter Tryz.func5, Tryz.ntmps5
    go_wp2_with fail
    with_reducible refine (FewT_is n c A l m d B s _ hl hs hz hy true H1).mono ?_
    rintro e w1 ⟨rfl, b1⟩
    replace hl := hl.below b1
    replace hs := hs.below b1
    replace S0 := hcall S0 b1
    replace E0 := hcall E0 b1
    replace A0 := hcall A0 b1
    replace D := below_call D b1
    clear b1 s0 s1 sz e0 e1 e2 e3 e4 e5 e6 e7 ez z0 z1 zz
    obtain ⟨s0, s1, sz⟩ := cellsT S0
    obtain ⟨e0, e1, e2, e3, e4, e5, e6, e7, ez⟩ := cellsEv k u o i a p q t E0
    obtain ⟨z0, z1, zz⟩ := cellsA2 A0
    go_wp2_with fail
    with_reducible refine (refMayT_is n c A l m d B s _ hl hs zl zs hn1 true H2).mono ?_
    rintro e w2 ⟨rfl, b2⟩
    replace hl := hl.below b2
    replace hs := hs.below b2
    replace S0 := hcall S0 b2
    replace E0 := hcall E0 b2
    replace A0 := hcall A0 b2
    replace D := below_call D b2
    clear b2 s0 s1 sz e0 e1 e2 e3 e4 e5 e6 e7 ez z0 z1 zz
    obtain ⟨s0, s1, sz⟩ := cellsT S0
    obtain ⟨e0, e1, e2, e3, e4, e5, e6, e7, ez⟩ := cellsEv k u o i a p q t E0
    obtain ⟨z0, z1, zz⟩ := cellsA2 A0
    go_wp2_with fail
    with_reducible refine (Short_is k u o i a p q t true _ hq.1 hq.2.1 hq.2.2 H3).mono ?_
    rintro e w3 ⟨rfl, b3⟩
    replace hl := hl.below b3
    replace hs := hs.below b3
    replace S0 := hcall S0 b3
    replace E0 := hcall E0 b3
    replace A0 := hcall A0 b3
    replace D := below_call D b3
    clear b3 s0 s1 sz e0 e1 e2 e3 e4 e5 e6 e7 ez z0 z1 zz
    obtain ⟨s0, s1, sz⟩ := cellsT S0
    obtain ⟨e0, e1, e2, e3, e4, e5, e6, e7, ez⟩ := cellsEv k u o i a p q t E0
    obtain ⟨z0, z1, zz⟩ := cellsA2 A0
    go_wp2_with fail
    with_reducible refine (live14 _).mono ?_
    rintro e w4 ⟨rfl, b4⟩
    replace hl := hl.below b4
    replace hs := hs.below b4
    replace S0 := hcall S0 b4
    replace E0 := hcall E0 b4
    replace A0 := hcall A0 b4
    replace D := below_call D b4
    clear b4 s0 s1 sz e0 e1 e2 e3 e4 e5 e6 e7 ez z0 z1 zz
    go_wp2
    go_ret
    exact ⟨rfl, D⟩
  have hyl : (y.size : Int) ≤ 40 := by omega
  clear hys
  obtain ⟨⟨rE, rS⟩, er, hap⟩ : ∃ r e, applyT (l, s) ⟨k, u, o, i, (a, p, q, t)⟩ = (r, e) := ⟨_, _, rfl⟩
  have HAP := Lib.hid hap
  have hsz := applyT_sz hap zl zs hu ho ht
  simp only at hsz
  by_cases her : er = 0
  case neg =>
    have he2 : (er == 0) = false := by simpa using her
    have hrs := applyT_err hap her
    injection hrs with hr1 hr2
    subst hr1 hr2
    clear her hap
    obtain ⟨s0, s1, sz⟩ := cellsT S0
    obtain ⟨e0, e1, e2, e3, e4, e5, e6, e7, ez⟩ := cellsEv k u o i a p q t E0
    obtain ⟨z0, z1, zz⟩ := cellsA2 A0
    go_enter Tryz.func5, Tryz.ntmps5
    go_wp2_with fail
    with_reducible refine (FewT_is n c A rE m d B rS _ hl hs hz hy true H1).mono ?_
    rintro e w1 ⟨rfl, b1⟩
    replace hl := hl.below b1
    replace hs := hs.below b1
    replace S0 := hcall S0 b1
    replace E0 := hcall E0 b1
    replace A0 := hcall A0 b1
    replace D := below_call D b1
    clear b1 s0 s1 sz e0 e1 e2 e3 e4 e5 e6 e7 ez z0 z1 zz
    obtain ⟨s0, s1, sz⟩ := cellsT S0
    obtain ⟨e0, e1, e2, e3, e4, e5, e6, e7, ez⟩ := cellsEv k u o i a p q t E0
    obtain ⟨z0, z1, zz⟩ := cellsA2 A0
    go_wp2_with fail
    with_reducible refine (refMayT_is n c A rE m d B rS _ hl hs zl zs hn1 true H2).mono ?_
    rintro e w2 ⟨rfl, b2⟩
    replace hl := hl.below b2
    replace hs := hs.below b2
    replace S0 := hcall S0 b2
    replace E0 := hcall E0 b2
    replace A0 := hcall A0 b2
    replace D := below_call D b2
    clear b2 s0 s1 sz e0 e1 e2 e3 e4 e5 e6 e7 ez z0 z1 zz
    obtain ⟨s0, s1, sz⟩ := cellsT S0
    obtain ⟨e0, e1, e2, e3, e4, e5, e6, e7, ez⟩ := cellsEv k u o i a p q t E0
    obtain ⟨z0, z1, zz⟩ := cellsA2 A0
    go_wp2_with fail
    with_reducible refine (Short_is k u o i a p q t true _ hq.1 hq.2.1 hq.2.2 H3).mono ?_
    rintro e w3 ⟨rfl, b3⟩
    replace hl := hl.below b3
    replace hs := hs.below b3
    replace S0 := hcall S0 b3
    replace E0 := hcall E0 b3
    replace A0 := hcall A0 b3
    replace D := below_call D b3
    clear b3 s0 s1 sz e0 e1 e2 e3 e4 e5 e6 e7 ez z0 z1 zz
    obtain ⟨s0, s1, sz⟩ := cellsT S0
    obtain ⟨e0, e1, e2, e3, e4, e5, e6, e7, ez⟩ := cellsEv k u o i a p q t E0
    obtain ⟨z0, z1, zz⟩ := cellsA2 A0
    go_wp2_with fail
    refine (ApplyT_is n c A rE m d B rS _ hl hs zl zs hn k u o i a p q t hu ho ht er (rE, rS) HAP).mono ?_
    rintro e w4 ⟨fA, fn, fc, fB, fm, fd, rfl, fl, fs, b4, -, -⟩
    replace hl := hl.below b4
    replace hs := hs.below b4
    replace S0 := hcall S0 b4
    replace E0 := hcall E0 b4
    replace A0 := hcall A0 b4
    replace D := below_call D b4
    clear b4 s0 s1 sz e0 e1 e2 e3 e4 e5 e6 e7 ez z0 z1 zz
    have F0 := heap_alloc_new w4 (bxT fA fn fc fB fm fd)
    replace hl := hl.below (below_box (bxT fA fn fc fB fm fd))
    replace hs := hs.below (below_box (bxT fA fn fc fB fm fd))
    replace S0 := halloc S0 (bxT fA fn fc fB fm fd)
    replace E0 := halloc E0 (bxT fA fn fc fB fm fd)
    replace A0 := halloc A0 (bxT fA fn fc fB fm fd)
    replace fl := fl.below (below_box (bxT fA fn fc fB fm fd))
    replace fs := fs.below (below_box (bxT fA fn fc fB fm fd))
    replace D := below_alloc0 D (bxT fA fn fc fB fm fd)
    obtain ⟨s0, s1, sz⟩ := cellsT S0
    obtain ⟨e0, e1, e2, e3, e4, e5, e6, e7, ez⟩ := cellsEv k u o i a p q t E0
    obtain ⟨z0, z1, zz⟩ := cellsA2 A0
    obtain ⟨f0, f1, fz⟩ := cellsT F0
    go_wp2_with fail
    with_reducible refine (refSameT_is n c A rE m d B rS fn fc fA rE fm fd fB rS _ hl hs fl fs true (Lib.hid (decide_eq_true rfl))).mono ?_
    rintro e w5 ⟨rfl, b5⟩
    replace hl := hl.below b5
    replace hs := hs.below b5
    replace S0 := hcall S0 b5
    replace E0 := hcall E0 b5
    replace A0 := hcall A0 b5
    replace fl := fl.below b5
    replace fs := fs.below b5
    replace F0 := hcall F0 b5
    replace D := below_call D b5
    clear b5 s0 s1 sz e0 e1 e2 e3 e4 e5 e6 e7 ez z0 z1 zz f0 f1 fz
    go_wp2_with fail
    with_reducible refine (live14 _).mono ?_
    rintro e w6 ⟨rfl, b6⟩
    replace hl := hl.below b6
    replace hs := hs.below b6
    replace S0 := hcall S0 b6
    replace E0 := hcall E0 b6
    replace A0 := hcall A0 b6
    replace fl := fl.below b6
    replace fs := fs.below b6
    replace F0 := hcall F0 b6
    replace D := below_call D b6
    clear b6
    go_wp2
    go_ret
    exact ⟨rfl, D⟩
  subst her
  have hrm := applyT_may H2.out hap
  have hrn := applyT_ne H2.out hap
  have hal := fun (q9 : ByteArray) (h9 : x ∉ touchT ⟨k, u, o, i, (a, p, q, t)⟩) => applyT_alone (p := x) H2.out hap h9 q9
  have HRM := Lib.hid hrm
  have HAL := Lib.hid hal
  obtain ⟨tr, htr⟩ : ∃ r, touchT ⟨k, u, o, i, (a, p, q, t)⟩ = r := ⟨_, rfl⟩
  have HTR := Lib.hid htr
  obtain ⟨sb, hsb⟩ : ∃ b, decide ((l, s) = (rE, rS)) = b := ⟨_, rfl⟩
  have HSB := Lib.hid hsb
  have hfn : rE.length ≤ 100 := by have := hsz.2.2; omega
  obtain ⟨szE, szS, _⟩ := hsz
  clear hap hrm hal htr zn zm
  cases sb with
  | false =>
    clear hsb hrn
    obtain ⟨s0, s1, sz⟩ := cellsT S0
    obtain ⟨e0, e1, e2, e3, e4, e5, e6, e7, ez⟩ := cellsEv k u o i a p q t E0
    obtain ⟨z0, z1, zz⟩ := cellsA2 A0
    go_enter Tryz.func5, Tryz.ntmps5
    go_wp2_with fail
    with_reducible refine (FewT_is n c A l m d B s _ hl hs hz hy true H1).mono ?_
    rintro e w1 ⟨rfl, b1⟩
    replace hl := hl.below b1
    replace hs := hs.below b1
    replace S0 := hcall S0 b1
    replace E0 := hcall E0 b1
    replace A0 := hcall A0 b1
    replace D := below_call D b1
    clear b1 s0 s1 sz e0 e1 e2 e3 e4 e5 e6 e7 ez z0 z1 zz
    obtain ⟨s0, s1, sz⟩ := cellsT S0
    obtain ⟨e0, e1, e2, e3, e4, e5, e6, e7, ez⟩ := cellsEv k u o i a p q t E0
    obtain ⟨z0, z1, zz⟩ := cellsA2 A0
    go_wp2_with fail
    with_reducible refine (refMayT_is n c A l m d B s _ hl hs zl zs hn1 true H2).mono ?_
    rintro e w2 ⟨rfl, b2⟩
    replace hl := hl.below b2
    replace hs := hs.below b2
    replace S0 := hcall S0 b2
    replace E0 := hcall E0 b2
    replace A0 := hcall A0 b2
    replace D := below_call D b2
    clear b2 s0 s1 sz e0 e1 e2 e3 e4 e5 e6 e7 ez z0 z1 zz
    obtain ⟨s0, s1, sz⟩ := cellsT S0
    obtain ⟨e0, e1, e2, e3, e4, e5, e6, e7, ez⟩ := cellsEv k u o i a p q t E0
    obtain ⟨z0, z1, zz⟩ := cellsA2 A0
    go_wp2_with fail
    with_reducible refine (Short_is k u o i a p q t true _ hq.1 hq.2.1 hq.2.2 H3).mono ?_
    rintro e w3 ⟨rfl, b3⟩
    replace hl := hl.below b3
    replace hs := hs.below b3
    replace S0 := hcall S0 b3
    replace E0 := hcall E0 b3
    replace A0 := hcall A0 b3
    replace D := below_call D b3
    clear b3 s0 s1 sz e0 e1 e2 e3 e4 e5 e6 e7 ez z0 z1 zz
    obtain ⟨s0, s1, sz⟩ := cellsT S0
    obtain ⟨e0, e1, e2, e3, e4, e5, e6, e7, ez⟩ := cellsEv k u o i a p q t E0
    obtain ⟨z0, z1, zz⟩ := cellsA2 A0
    go_wp2_with fail
    refine (ApplyT_is n c A l m d B s _ hl hs zl zs hn k u o i a p q t hu ho ht 0 (rE, rS) HAP).mono ?_
    rintro e w4 ⟨fA, fn, fc, fB, fm, fd, rfl, fl, fs, b4, -, -⟩
    replace hl := hl.below b4
    replace hs := hs.below b4
    replace S0 := hcall S0 b4
    replace E0 := hcall E0 b4
    replace A0 := hcall A0 b4
    replace D := below_call D b4
    clear b4 s0 s1 sz e0 e1 e2 e3 e4 e5 e6 e7 ez z0 z1 zz
    have F0 := heap_alloc_new w4 (bxT fA fn fc fB fm fd)
    replace hl := hl.below (below_box (bxT fA fn fc fB fm fd))
    replace hs := hs.below (below_box (bxT fA fn fc fB fm fd))
    replace S0 := halloc S0 (bxT fA fn fc fB fm fd)
    replace E0 := halloc E0 (bxT fA fn fc fB fm fd)
    replace A0 := halloc A0 (bxT fA fn fc fB fm fd)
    replace fl := fl.below (below_box (bxT fA fn fc fB fm fd))
    replace fs := fs.below (below_box (bxT fA fn fc fB fm fd))
    replace D := below_alloc0 D (bxT fA fn fc fB fm fd)
    have hfn1 : fn ≤ 100000 := by have h9 : fn = rE.length := fl.len_eq; omega
    have hfm1 : fm ≤ 100000 := by have h9 := fs.len_eq; have h8 := (mayT_and.1 HRM.out).2; have h7 := ((maySe_iff _).1 h8).1; simp only at h9 h7; omega
    obtain ⟨f0, f1, fz⟩ := cellsT F0
    go_wp2_with fail
    with_reducible refine (MayT_is fn fc fA rE fm fd fB rS _ fl fs szE szS hfn1 true HRM).mono ?_
    rintro e w5 ⟨rfl, b5⟩
    replace hl := hl.below b5
    replace hs := hs.below b5
    replace S0 := hcall S0 b5
    replace E0 := hcall E0 b5
    replace A0 := hcall A0 b5
    replace fl := fl.below b5
    replace fs := fs.below b5
    replace F0 := hcall F0 b5
    replace D := below_call D b5
    clear b5 f0 f1 fz
    obtain ⟨s0, s1, sz⟩ := cellsT S0
    obtain ⟨e0, e1, e2, e3, e4, e5, e6, e7, ez⟩ := cellsEv k u o i a p q t E0
    obtain ⟨z0, z1, zz⟩ := cellsA2 A0
    obtain ⟨f0, f1, fz⟩ := cellsT F0
    go_wp2_with fail
    with_reducible refine (SameT_is n c A l m d B s fn fc fA rE fm fd fB rS _ hl hs fl fs false HSB).mono ?_
    rintro e w6 ⟨rfl, b6⟩
    replace hl := hl.below b6
    replace hs := hs.below b6
    replace S0 := hcall S0 b6
    replace E0 := hcall E0 b6
    replace A0 := hcall A0 b6
    replace fl := fl.below b6
    replace fs := fs.below b6
    replace F0 := hcall F0 b6
    replace D := below_call D b6
    clear b6 s0 s1 sz e0 e1 e2 e3 e4 e5 e6 e7 ez z0 z1 zz f0 f1 fz
    obtain ⟨s0, s1, sz⟩ := cellsT S0
    obtain ⟨e0, e1, e2, e3, e4, e5, e6, e7, ez⟩ := cellsEv k u o i a p q t E0
    obtain ⟨z0, z1, zz⟩ := cellsA2 A0
    go_wp2_with fail
    with_reducible refine (Touch_is k u o i a p q t tr _ HTR).mono ?_
    rintro e w7 ⟨va, rfl, r1, b7⟩
    replace hl := hl.below b7
    replace hs := hs.below b7
    replace S0 := hcall S0 b7
    replace E0 := hcall E0 b7
    replace A0 := hcall A0 b7
    replace fl := fl.below b7
    replace fs := fs.below b7
    replace F0 := hcall F0 b7
    replace D := below_call D b7
    clear b7 s0 s1 sz e0 e1 e2 e3 e4 e5 e6 e7 ez z0 z1 zz
    obtain ⟨nt, hnt⟩ : ∃ nt, tr.length = nt := ⟨_, rfl⟩
    obtain ⟨Aa, ca, rfl⟩ := r1.form8 nt hnt
    have HNT := Lib.hid hnt
    have hnt1 : nt ≤ 9223372036854775807 := by rw [← hnt]; exact r1.len
    clear hnt
    go_wp2
    go_loopw [10] (fun vc wr => ∃ (j : Nat), vc = .int .i64 j ∧ j ≤ nt ∧ Hid (∀ j' (h : j' < tr.length), j' < j → tr[j'] ≠ x) ∧ Below w7.heap.size w7 wr) (fun vc _ => (nt - intOf vc).toNat)
    case atStart => exact ⟨0, rfl, Nat.zero_le _, fun j' _ h => absurd h (by omega), Below.refl _ _⟩
    case round =>
      obtain ⟨j, rfl, hj, HT, hB⟩ := hrel
      by_cases hlt : j < nt
      · have hjl : j < tr.length := by have := HNT.out; omega
        obtain ⟨b_, hb_⟩ : ∃ e, tr[j] = e := ⟨_, rfl⟩
        obtain ⟨ad, hA1, c0⟩ := (r1.below hB).get1 j hjl
        rw [hb_] at c0
        subst hA1
        obtain ⟨z0, z1, zz⟩ := cellsA2 (hcall A0 hB)
        have x1 : (0 : Int) ≤ (j : Int) := by omega
        have x2 : (j : Int) < (nt : Int) := by omega
        by_cases hbx : b_ = x
        · have g1 : (b_.toList == x.toList) = true := by rw [hbx]; exact beq_self_eq_true _
          have D5 := below_call D hB
          clear hbx hb_
          go_wp2_with fail
          go_quiet (fail)
          have D6 : Below w.heap.size w (wr.drewN nq) := below_drewN D5 _
          clear D5
          go_wp2_with fail
          with_reducible refine (live14 _).mono ?_
          rintro e w9 ⟨rfl, b9⟩
          have D7 := below_call D6 b9
          go_wp2
          go_ret
          exact ⟨rfl, D7⟩
        · have g1 : (b_.toList == x.toList) = false := by simpa [toList_inj'] using hbx
          have g2 : ¬ b_.toList = x.toList := by simpa [toList_inj'] using hbx
          have HN : Hid (∀ j' (h : j' < tr.length), j' < j + 1 → tr[j'] ≠ x) := fun j' h hj' => by
            rcases Nat.lt_or_ge j' j with h' | h'
            · exact HT.out j' h h'
            · obtain rfl : j' = j := by omega
              rw [hb_]; exact hbx
          clear hbx hb_
          go_wp2_with fail
          go_quiet (fail)
          have hB2 : Below w7.heap.size w7 (wr.drewN nq) := below_drewN hB _
          go_wp2
          exact ⟨⟨j + 1, by go_num, by omega, HN, hB2⟩, by simp [intOf]; omega⟩
      · have hin : j = nt := by omega
        have hnm : x ∉ touchT ⟨k, u, o, i, (a, p, q, t)⟩ := by
          rw [HTR.out]
          intro hmem
          obtain ⟨j', hj', he'⟩ := List.getElem_of_mem hmem
          exact HT.out j' hj' (by have := HNT.out; omega) he'
        obtain ⟨hof, hgt⟩ := HAL.out y hnm
        (try simp only at hof hgt)
        obtain ⟨os, hos⟩ : ∃ v, ofSe s x = v := ⟨_, rfl⟩
        obtain ⟨⟨g1, g2, g3, g4, g5⟩, hg⟩ : ∃ v, getRo l x y = v := ⟨_, rfl⟩
        have HO1 := Lib.hid (hof.trans hos)
        have HO2 := Lib.hid hos
        have HG1 := Lib.hid (hgt.trans hg)
        have HG2 := Lib.hid hg
        have hci := eqlIt g1 g2 g3 g4 g5 g1 g2 g3 g4 g5
        rw [eqvIt, decide_eq_true rfl] at hci
        clear hnm hof hgt hos hg HT r1
        replace hl := hl.below hB
        replace hs := hs.below hB
        replace S0 := hcall S0 hB
        replace E0 := hcall E0 hB
        replace A0 := hcall A0 hB
        replace fl := fl.below hB
        replace fs := fs.below hB
        replace F0 := hcall F0 hB
        replace D := below_call D hB
        clear hB
        obtain ⟨f0, f1, fz⟩ := cellsT F0
        obtain ⟨s0, s1, sz⟩ := cellsT S0
        obtain ⟨z0, z1, zz⟩ := cellsA2 A0
        clear sz zz fz
        replace hl : Row _ _ wr.drew _ _ := hl
        replace hs : Row _ _ wr.drew _ _ := hs
        replace S0 : wr.drew.heap[_]? = _ := S0
        replace E0 : wr.drew.heap[_]? = _ := E0
        replace A0 : wr.drew.heap[_]? = _ := A0
        replace fl : Row _ _ wr.drew _ _ := fl
        replace fs : Row _ _ wr.drew _ _ := fs
        replace F0 : wr.drew.heap[_]? = _ := F0
        replace D : Below _ _ wr.drew := D.drew
        go_wp2_with fail
        refine Held.start (ops := opssmb) (S := fun w' => w'.cell? ⟨w.heap.size, 0, none⟩ = some (.slice A n c) ∧ w'.cell? ⟨w.heap.size, 1, none⟩ = some (.slice B m d) ∧ w'.cell? ⟨w.heap.size + 1 + 1, 0, none⟩ = some (.string x) ∧ w'.cell? ⟨w.heap.size + 1 + 1, 1, none⟩ = some (.string y) ∧ w'.cell? ⟨w4.heap.size, 0, none⟩ = some (.slice fA fn fc) ∧ w'.cell? ⟨w4.heap.size, 1, none⟩ = some (.slice fB fm fd)) ordsmb 32 (by kernel_rfl) rgsmb.siz (by kernel_rfl) ⟨s0, s1, z0, z1, f0, f1⟩ (fun hHeld => ?_)
        iterate 8
          refine Held.tk (v := ?_) rgsmb rfl rfl rfl (fun _ _ _ h => h) (by assumption) (Or.inl ⟨by kernel_rfl, ?_⟩) ?_
          rotate_left
          · (intro w hSw; (try dsimp only at hSw); go_simp; (try (first | with_reducible rfl | rw [if_neg (by omega)])))
          try simp only [Act.put, List.getElem_toArray, List.getElem_cons_succ, List.getElem_cons_zero, List.setIfInBounds_toArray, List.set_cons_zero, List.set_cons_succ]
        refine Held.only (k := 8) (i := 4) (by kernel_rfl) (by kernel_rfl) rfl (by kernel_rfl) (fun K hK => ?_)
        go_simp
        go_at_call 23
        with_reducible refine (refOf9_is fm fd fB rS _ fs x os hfm1 HO1).mono ?_
        rintro e w8 ⟨va, rfl, r1, hbx⟩
        obtain ⟨Aa1, ca1, rfl⟩ := r1.form8 _ rfl
        replace s0 := cell_below hbx s0
        replace s1 := cell_below hbx s1
        replace z0 := cell_below hbx z0
        replace z1 := cell_below hbx z1
        replace f0 := cell_below hbx f0
        replace f1 := cell_below hbx f1
        replace hl := hl.below hbx
        replace hs := hs.below hbx
        replace S0 := hcall S0 hbx
        replace E0 := hcall E0 hbx
        replace A0 := hcall A0 hbx
        replace fl := fl.below hbx
        replace fs := fs.below hbx
        replace F0 := hcall F0 hbx
        replace D := below_call D hbx
        refine hK.out _ _ (by (try dsimp only); (exact ⟨s0, s1, z0, z1, f0, f1⟩)) (fun hHeld => ?_)
        clear hK K
        try simp only [Act.put, List.getElem_toArray, List.getElem_cons_succ, List.getElem_cons_zero, List.setIfInBounds_toArray, List.set_cons_zero, List.set_cons_succ]
        refine Held.only (k := 9) (i := 9) (by kernel_rfl) (by kernel_rfl) rfl (by kernel_rfl) (fun K hK => ?_)
        go_simp
        go_at_call 23
        with_reducible refine (refOf9_is m d B s _ hs x os hm1 HO2).mono ?_
        rintro e w9 ⟨vb, rfl, r2, hbx⟩
        obtain ⟨Ab1, cb1, rfl⟩ := r2.form8 _ rfl
        replace s0 := cell_below hbx s0
        replace s1 := cell_below hbx s1
        replace z0 := cell_below hbx z0
        replace z1 := cell_below hbx z1
        replace f0 := cell_below hbx f0
        replace f1 := cell_below hbx f1
        replace hl := hl.below hbx
        replace hs := hs.below hbx
        replace S0 := hcall S0 hbx
        replace E0 := hcall E0 hbx
        replace A0 := hcall A0 hbx
        replace fl := fl.below hbx
        replace fs := fs.below hbx
        replace F0 := hcall F0 hbx
        replace r1 := r1.below hbx
        replace D := below_call D hbx
        refine hK.out _ _ (by (try dsimp only); (exact ⟨s0, s1, z0, z1, f0, f1⟩)) (fun hHeld => ?_)
        clear hK K
        try simp only [Act.put, List.getElem_toArray, List.getElem_cons_succ, List.getElem_cons_zero, List.setIfInBounds_toArray, List.set_cons_zero, List.set_cons_succ]
        refine Held.only (k := 10) (i := 10) (by kernel_rfl) (by kernel_rfl) rfl (by kernel_rfl) (fun K hK => ?_)
        go_simp
        go_at_call 22
        with_reducible refine (re_ (sameSe _ _ _ _ _ _ os os _ r1 r2) (ret_bool (decide_eq_true rfl))).mono ?_
        rintro e w10 ⟨rfl, hbx⟩
        replace s0 := cell_below hbx s0
        replace s1 := cell_below hbx s1
        replace z0 := cell_below hbx z0
        replace z1 := cell_below hbx z1
        replace f0 := cell_below hbx f0
        replace f1 := cell_below hbx f1
        replace hl := hl.below hbx
        replace hs := hs.below hbx
        replace S0 := hcall S0 hbx
        replace E0 := hcall E0 hbx
        replace A0 := hcall A0 hbx
        replace fl := fl.below hbx
        replace fs := fs.below hbx
        replace F0 := hcall F0 hbx
        replace r1 := r1.below hbx
        replace r2 := r2.below hbx
        replace D := below_call D hbx
        clear r1 r2
        refine hK.out _ _ (by (try dsimp only); (exact ⟨s0, s1, z0, z1, f0, f1⟩)) (fun hHeld => ?_)
        clear hK K
        try simp only [Act.put, List.getElem_toArray, List.getElem_cons_succ, List.getElem_cons_zero, List.setIfInBounds_toArray, List.set_cons_zero, List.set_cons_succ]
        iterate 13
          refine Held.tk (v := ?_) rgsmb rfl rfl rfl (fun _ _ _ h => h) (by assumption) (Or.inl ⟨by kernel_rfl, ?_⟩) ?_
          rotate_left
          · (intro w hSw; (try dsimp only at hSw); go_simp; (try (first | with_reducible rfl | rw [if_neg (by omega)])))
          try simp only [Act.put, List.getElem_toArray, List.getElem_cons_succ, List.getElem_cons_zero, List.setIfInBounds_toArray, List.set_cons_zero, List.set_cons_succ]
        refine Held.only (k := 24) (i := 18) (by kernel_rfl) (by kernel_rfl) rfl (by kernel_rfl) (fun K hK => ?_)
        go_simp
        go_at_call 24
        with_reducible refine (refGet8_is fn fc fA rE _ fl x y g1 g2 g3 g4 g5 HG1).mono ?_
        rintro e w11 ⟨rfl, hbx⟩
        replace s0 := cell_below hbx s0
        replace s1 := cell_below hbx s1
        replace z0 := cell_below hbx z0
        replace z1 := cell_below hbx z1
        replace f0 := cell_below hbx f0
        replace f1 := cell_below hbx f1
        replace hl := hl.below hbx
        replace hs := hs.below hbx
        replace S0 := hcall S0 hbx
        replace E0 := hcall E0 hbx
        replace A0 := hcall A0 hbx
        replace fl := fl.below hbx
        replace fs := fs.below hbx
        replace F0 := hcall F0 hbx
        replace D := below_call D hbx
        refine hK.out _ _ (by (try dsimp only); (exact ⟨s0, s1, z0, z1, f0, f1⟩)) (fun hHeld => ?_)
        clear hK K
        try simp only [Act.put, List.getElem_toArray, List.getElem_cons_succ, List.getElem_cons_zero, List.setIfInBounds_toArray, List.set_cons_zero, List.set_cons_succ]
        refine Held.only (k := 25) (i := 25) (by kernel_rfl) (by kernel_rfl) rfl (by kernel_rfl) (fun K hK => ?_)
        go_simp
        go_at_call 24
        with_reducible refine (refGet8_is n c A l _ hl x y g1 g2 g3 g4 g5 HG2).mono ?_
        rintro e w12 ⟨rfl, hbx⟩
        replace s0 := cell_below hbx s0
        replace s1 := cell_below hbx s1
        replace z0 := cell_below hbx z0
        replace z1 := cell_below hbx z1
        replace f0 := cell_below hbx f0
        replace f1 := cell_below hbx f1
        replace hl := hl.below hbx
        replace hs := hs.below hbx
        replace S0 := hcall S0 hbx
        replace E0 := hcall E0 hbx
        replace A0 := hcall A0 hbx
        replace fl := fl.below hbx
        replace fs := fs.below hbx
        replace F0 := hcall F0 hbx
        replace D := below_call D hbx
        refine hK.out _ _ (by (try dsimp only); (exact ⟨s0, s1, z0, z1, f0, f1⟩)) (fun hHeld => ?_)
        clear hK K
        try simp only [Act.put, List.getElem_toArray, List.getElem_cons_succ, List.getElem_cons_zero, List.setIfInBounds_toArray, List.set_cons_zero, List.set_cons_succ]
        iterate 3
          refine Held.tk (v := ?_) rgsmb rfl rfl rfl (fun _ _ _ h => h) (by assumption) (Or.inl ⟨by kernel_rfl, ?_⟩) ?_
          rotate_left
          · (intro w hSw; (try dsimp only at hSw); go_simp; (try (first | with_reducible rfl | rw [if_neg (by omega)])))
          try simp only [Act.put, List.getElem_toArray, List.getElem_cons_succ, List.getElem_cons_zero, List.setIfInBounds_toArray, List.set_cons_zero, List.set_cons_succ]
        refine Held.only (k := 29) (i := 29) (by kernel_rfl) (by kernel_rfl) rfl (by kernel_rfl) (fun K hK => ?_)
        go_simp
        go_at_call 9
        with_reducible refine (live14 _).mono ?_
        rintro e w13 ⟨rfl, hbx⟩
        replace s0 := cell_below hbx s0
        replace s1 := cell_below hbx s1
        replace z0 := cell_below hbx z0
        replace z1 := cell_below hbx z1
        replace f0 := cell_below hbx f0
        replace f1 := cell_below hbx f1
        replace hl := hl.below hbx
        replace hs := hs.below hbx
        replace S0 := hcall S0 hbx
        replace E0 := hcall E0 hbx
        replace A0 := hcall A0 hbx
        replace fl := fl.below hbx
        replace fs := fs.below hbx
        replace F0 := hcall F0 hbx
        replace D := below_call D hbx
        refine hK.out _ _ (by (try dsimp only); (exact ⟨s0, s1, z0, z1, f0, f1⟩)) (fun hHeld => ?_)
        clear hK K
        try simp only [Act.put, List.getElem_toArray, List.getElem_cons_succ, List.getElem_cons_zero, List.setIfInBounds_toArray, List.set_cons_zero, List.set_cons_succ]
        iterate 2
          refine Held.tk (v := ?_) rgsmb rfl rfl rfl (fun _ _ _ h => h) (by assumption) (Or.inl ⟨by kernel_rfl, ?_⟩) ?_
          rotate_left
          · (intro w hSw; (try dsimp only at hSw); go_simp; (try (first | with_reducible rfl | rw [if_neg (by omega)])))
          try simp only [Act.put, List.getElem_toArray, List.getElem_cons_succ, List.getElem_cons_zero, List.setIfInBounds_toArray, List.set_cons_zero, List.set_cons_succ]
        refine wpAnyH_done (by kernel_rfl) ?_ _
        clear s0 s1 z0 z1 f0 f1
        go_wp2
        go_ret
        exact ⟨rfl, D⟩
  | true =>
    have k7 : (k == 7) = true := by
      by_cases h7 : k = 7
      · simpa using h7
      · exact absurd (of_decide_eq_true hsb) (hrn h7)
    clear hsb hrn
    obtain ⟨s0, s1, sz⟩ := cellsT S0
    obtain ⟨e0, e1, e2, e3, e4, e5, e6, e7, ez⟩ := cellsEv k u o i a p q t E0
    obtain ⟨z0, z1, zz⟩ := cellsA2 A0
    go_enter Tryz.func5, Tryz.ntmps5
    go_wp2_with fail
    with_reducible refine (FewT_is n c A l m d B s _ hl hs hz hy true H1).mono ?_
    rintro e w1 ⟨rfl, b1⟩
    replace hl := hl.below b1
    replace hs := hs.below b1
    replace S0 := hcall S0 b1
    replace E0 := hcall E0 b1
    replace A0 := hcall A0 b1
    replace D := below_call D b1
    clear b1 s0 s1 sz e0 e1 e2 e3 e4 e5 e6 e7 ez z0 z1 zz
    obtain ⟨s0, s1, sz⟩ := cellsT S0
    obtain ⟨e0, e1, e2, e3, e4, e5, e6, e7, ez⟩ := cellsEv k u o i a p q t E0
    obtain ⟨z0, z1, zz⟩ := cellsA2 A0
    go_wp2_with fail
    with_reducible refine (refMayT_is n c A l m d B s _ hl hs zl zs hn1 true H2).mono ?_
    rintro e w2 ⟨rfl, b2⟩
    replace hl := hl.below b2
    replace hs := hs.below b2
    replace S0 := hcall S0 b2
    replace E0 := hcall E0 b2
    replace A0 := hcall A0 b2
    replace D := below_call D b2
    clear b2 s0 s1 sz e0 e1 e2 e3 e4 e5 e6 e7 ez z0 z1 zz
    obtain ⟨s0, s1, sz⟩ := cellsT S0
    obtain ⟨e0, e1, e2, e3, e4, e5, e6, e7, ez⟩ := cellsEv k u o i a p q t E0
    obtain ⟨z0, z1, zz⟩ := cellsA2 A0
    go_wp2_with fail
    with_reducible refine (Short_is k u o i a p q t true _ hq.1 hq.2.1 hq.2.2 H3).mono ?_
    rintro e w3 ⟨rfl, b3⟩
    replace hl := hl.below b3
    replace hs := hs.below b3
    replace S0 := hcall S0 b3
    replace E0 := hcall E0 b3
    replace A0 := hcall A0 b3
    replace D := below_call D b3
    clear b3 s0 s1 sz e0 e1 e2 e3 e4 e5 e6 e7 ez z0 z1 zz
    obtain ⟨s0, s1, sz⟩ := cellsT S0
    obtain ⟨e0, e1, e2, e3, e4, e5, e6, e7, ez⟩ := cellsEv k u o i a p q t E0
    obtain ⟨z0, z1, zz⟩ := cellsA2 A0
    go_wp2_with fail
    refine (ApplyT_is n c A l m d B s _ hl hs zl zs hn k u o i a p q t hu ho ht 0 (rE, rS) HAP).mono ?_
    rintro e w4 ⟨fA, fn, fc, fB, fm, fd, rfl, fl, fs, b4, -, -⟩
    replace hl := hl.below b4
    replace hs := hs.below b4
    replace S0 := hcall S0 b4
    replace E0 := hcall E0 b4
    replace A0 := hcall A0 b4
    replace D := below_call D b4
    clear b4 s0 s1 sz e0 e1 e2 e3 e4 e5 e6 e7 ez z0 z1 zz
    have F0 := heap_alloc_new w4 (bxT fA fn fc fB fm fd)
    replace hl := hl.below (below_box (bxT fA fn fc fB fm fd))
    replace hs := hs.below (below_box (bxT fA fn fc fB fm fd))
    replace S0 := halloc S0 (bxT fA fn fc fB fm fd)
    replace E0 := halloc E0 (bxT fA fn fc fB fm fd)
    replace A0 := halloc A0 (bxT fA fn fc fB fm fd)
    replace fl := fl.below (below_box (bxT fA fn fc fB fm fd))
    replace fs := fs.below (below_box (bxT fA fn fc fB fm fd))
    replace D := below_alloc0 D (bxT fA fn fc fB fm fd)
    have hfn1 : fn ≤ 100000 := by have h9 : fn = rE.length := fl.len_eq; omega
    have hfm1 : fm ≤ 100000 := by have h9 := fs.len_eq; have h8 := (mayT_and.1 HRM.out).2; have h7 := ((maySe_iff _).1 h8).1; simp only at h9 h7; omega
    obtain ⟨f0, f1, fz⟩ := cellsT F0
    go_wp2_with fail
    with_reducible refine (MayT_is fn fc fA rE fm fd fB rS _ fl fs szE szS hfn1 true HRM).mono ?_
    rintro e w5 ⟨rfl, b5⟩
    replace hl := hl.below b5
    replace hs := hs.below b5
    replace S0 := hcall S0 b5
    replace E0 := hcall E0 b5
    replace A0 := hcall A0 b5
    replace fl := fl.below b5
    replace fs := fs.below b5
    replace F0 := hcall F0 b5
    replace D := below_call D b5
    clear b5 f0 f1 fz
    obtain ⟨s0, s1, sz⟩ := cellsT S0
    obtain ⟨e0, e1, e2, e3, e4, e5, e6, e7, ez⟩ := cellsEv k u o i a p q t E0
    obtain ⟨z0, z1, zz⟩ := cellsA2 A0
    obtain ⟨f0, f1, fz⟩ := cellsT F0
    go_wp2_with fail
    with_reducible refine (SameT_is n c A l m d B s fn fc fA rE fm fd fB rS _ hl hs fl fs true HSB).mono ?_
    rintro e w6 ⟨rfl, b6⟩
    replace hl := hl.below b6
    replace hs := hs.below b6
    replace S0 := hcall S0 b6
    replace E0 := hcall E0 b6
    replace A0 := hcall A0 b6
    replace fl := fl.below b6
    replace fs := fs.below b6
    replace F0 := hcall F0 b6
    replace D := below_call D b6
    clear b6 s0 s1 sz e0 e1 e2 e3 e4 e5 e6 e7 ez z0 z1 zz f0 f1 fz
    obtain ⟨s0, s1, sz⟩ := cellsT S0
    obtain ⟨e0, e1, e2, e3, e4, e5, e6, e7, ez⟩ := cellsEv k u o i a p q t E0
    obtain ⟨z0, z1, zz⟩ := cellsA2 A0
    go_wp2_with fail
    with_reducible refine (Touch_is k u o i a p q t tr _ HTR).mono ?_
    rintro e w7 ⟨va, rfl, r1, b7⟩
    replace hl := hl.below b7
    replace hs := hs.below b7
    replace S0 := hcall S0 b7
    replace E0 := hcall E0 b7
    replace A0 := hcall A0 b7
    replace fl := fl.below b7
    replace fs := fs.below b7
    replace F0 := hcall F0 b7
    replace D := below_call D b7
    clear b7 s0 s1 sz e0 e1 e2 e3 e4 e5 e6 e7 ez z0 z1 zz
    obtain ⟨nt, hnt⟩ : ∃ nt, tr.length = nt := ⟨_, rfl⟩
    obtain ⟨Aa, ca, rfl⟩ := r1.form8 nt hnt
    have HNT := Lib.hid hnt
    have hnt1 : nt ≤ 9223372036854775807 := by rw [← hnt]; exact r1.len
    clear hnt
    go_wp2
    go_loopw [10] (fun vc wr => ∃ (j : Nat), vc = .int .i64 j ∧ j ≤ nt ∧ Hid (∀ j' (h : j' < tr.length), j' < j → tr[j'] ≠ x) ∧ Below w7.heap.size w7 wr) (fun vc _ => (nt - intOf vc).toNat)
    case atStart => exact ⟨0, rfl, Nat.zero_le _, fun j' _ h => absurd h (by omega), Below.refl _ _⟩
    case round =>
      obtain ⟨j, rfl, hj, HT, hB⟩ := hrel
      by_cases hlt : j < nt
      · have hjl : j < tr.length := by have := HNT.out; omega
        obtain ⟨b_, hb_⟩ : ∃ e, tr[j] = e := ⟨_, rfl⟩
        obtain ⟨ad, hA1, c0⟩ := (r1.below hB).get1 j hjl
        rw [hb_] at c0
        subst hA1
        obtain ⟨z0, z1, zz⟩ := cellsA2 (hcall A0 hB)
        have x1 : (0 : Int) ≤ (j : Int) := by omega
        have x2 : (j : Int) < (nt : Int) := by omega
        by_cases hbx : b_ = x
        · have g1 : (b_.toList == x.toList) = true := by rw [hbx]; exact beq_self_eq_true _
          have D5 := below_call D hB
          clear hbx hb_
          go_wp2_with fail
          go_quiet (fail)
          have D6 : Below w.heap.size w (wr.drewN nq) := below_drewN D5 _
          clear D5
          go_wp2_with fail
          with_reducible refine (live14 _).mono ?_
          rintro e w9 ⟨rfl, b9⟩
          have D7 := below_call D6 b9
          go_wp2
          go_ret
          exact ⟨rfl, D7⟩
        · have g1 : (b_.toList == x.toList) = false := by simpa [toList_inj'] using hbx
          have g2 : ¬ b_.toList = x.toList := by simpa [toList_inj'] using hbx
          have HN : Hid (∀ j' (h : j' < tr.length), j' < j + 1 → tr[j'] ≠ x) := fun j' h hj' => by
            rcases Nat.lt_or_ge j' j with h' | h'
            · exact HT.out j' h h'
            · obtain rfl : j' = j := by omega
              rw [hb_]; exact hbx
          clear hbx hb_
          go_wp2_with fail
          go_quiet (fail)
          have hB2 : Below w7.heap.size w7 (wr.drewN nq) := below_drewN hB _
          go_wp2
          exact ⟨⟨j + 1, by go_num, by omega, HN, hB2⟩, by simp [intOf]; omega⟩
      · have hin : j = nt := by omega
        have hnm : x ∉ touchT ⟨k, u, o, i, (a, p, q, t)⟩ := by
          rw [HTR.out]
          intro hmem
          obtain ⟨j', hj', he'⟩ := List.getElem_of_mem hmem
          exact HT.out j' hj' (by have := HNT.out; omega) he'
        obtain ⟨hof, hgt⟩ := HAL.out y hnm
        (try simp only at hof hgt)
        obtain ⟨os, hos⟩ : ∃ v, ofSe s x = v := ⟨_, rfl⟩
        obtain ⟨⟨g1, g2, g3, g4, g5⟩, hg⟩ : ∃ v, getRo l x y = v := ⟨_, rfl⟩
        have HO1 := Lib.hid (hof.trans hos)
        have HO2 := Lib.hid hos
        have HG1 := Lib.hid (hgt.trans hg)
        have HG2 := Lib.hid hg
        have hci := eqlIt g1 g2 g3 g4 g5 g1 g2 g3 g4 g5
        rw [eqvIt, decide_eq_true rfl] at hci
        clear hnm hof hgt hos hg HT r1
        replace hl := hl.below hB
        replace hs := hs.below hB
        replace S0 := hcall S0 hB
        replace E0 := hcall E0 hB
        replace A0 := hcall A0 hB
        replace fl := fl.below hB
        replace fs := fs.below hB
        replace F0 := hcall F0 hB
        replace D := below_call D hB
        clear hB
        obtain ⟨f0, f1, fz⟩ := cellsT F0
        obtain ⟨s0, s1, sz⟩ := cellsT S0
        obtain ⟨z0, z1, zz⟩ := cellsA2 A0
        clear sz zz fz
        replace hl : Row _ _ wr.drew _ _ := hl
        replace hs : Row _ _ wr.drew _ _ := hs
        replace S0 : wr.drew.heap[_]? = _ := S0
        replace E0 : wr.drew.heap[_]? = _ := E0
        replace A0 : wr.drew.heap[_]? = _ := A0
        replace fl : Row _ _ wr.drew _ _ := fl
        replace fs : Row _ _ wr.drew _ _ := fs
        replace F0 : wr.drew.heap[_]? = _ := F0
        replace D : Below _ _ wr.drew := D.drew
        go_wp2_with fail
        refine Held.start (ops := opssmc) (S := fun w' => w'.cell? ⟨w.heap.size, 0, none⟩ = some (.slice A n c) ∧ w'.cell? ⟨w.heap.size, 1, none⟩ = some (.slice B m d) ∧ w'.cell? ⟨w.heap.size + 1 + 1, 0, none⟩ = some (.string x) ∧ w'.cell? ⟨w.heap.size + 1 + 1, 1, none⟩ = some (.string y) ∧ w'.cell? ⟨w4.heap.size, 0, none⟩ = some (.slice fA fn fc) ∧ w'.cell? ⟨w4.heap.size, 1, none⟩ = some (.slice fB fm fd)) ordsmc 32 (by kernel_rfl) rgsmc.siz (by kernel_rfl) ⟨s0, s1, z0, z1, f0, f1⟩ (fun hHeld => ?_)
        iterate 8
          refine Held.tk (v := ?_) rgsmc rfl rfl rfl (fun _ _ _ h => h) (by assumption) (Or.inl ⟨by kernel_rfl, ?_⟩) ?_
          rotate_left
          · (intro w hSw; (try dsimp only at hSw); go_simp; (try (first | with_reducible rfl | rw [if_neg (by omega)])))
          try simp only [Act.put, List.getElem_toArray, List.getElem_cons_succ, List.getElem_cons_zero, List.setIfInBounds_toArray, List.set_cons_zero, List.set_cons_succ]
        refine Held.only (k := 8) (i := 4) (by kernel_rfl) (by kernel_rfl) rfl (by kernel_rfl) (fun K hK => ?_)
        go_simp
        go_at_call 23
        with_reducible refine (refOf9_is fm fd fB rS _ fs x os hfm1 HO1).mono ?_
        rintro e w8 ⟨va, rfl, r1, hbx⟩
        obtain ⟨Aa1, ca1, rfl⟩ := r1.form8 _ rfl
        replace s0 := cell_below hbx s0
        replace s1 := cell_below hbx s1
        replace z0 := cell_below hbx z0
        replace z1 := cell_below hbx z1
        replace f0 := cell_below hbx f0
        replace f1 := cell_below hbx f1
        replace hl := hl.below hbx
        replace hs := hs.below hbx
        replace S0 := hcall S0 hbx
        replace E0 := hcall E0 hbx
        replace A0 := hcall A0 hbx
        replace fl := fl.below hbx
        replace fs := fs.below hbx
        replace F0 := hcall F0 hbx
        replace D := below_call D hbx
        refine hK.out _ _ (by (try dsimp only); (exact ⟨s0, s1, z0, z1, f0, f1⟩)) (fun hHeld => ?_)
        clear hK K
        try simp only [Act.put, List.getElem_toArray, List.getElem_cons_succ, List.getElem_cons_zero, List.setIfInBounds_toArray, List.set_cons_zero, List.set_cons_succ]
        refine Held.only (k := 9) (i := 9) (by kernel_rfl) (by kernel_rfl) rfl (by kernel_rfl) (fun K hK => ?_)
        go_simp
        go_at_call 23
        with_reducible refine (refOf9_is m d B s _ hs x os hm1 HO2).mono ?_
        rintro e w9 ⟨vb, rfl, r2, hbx⟩
        obtain ⟨Ab1, cb1, rfl⟩ := r2.form8 _ rfl
        replace s0 := cell_below hbx s0
        replace s1 := cell_below hbx s1
        replace z0 := cell_below hbx z0
        replace z1 := cell_below hbx z1
        replace f0 := cell_below hbx f0
        replace f1 := cell_below hbx f1
        replace hl := hl.below hbx
        replace hs := hs.below hbx
        replace S0 := hcall S0 hbx
        replace E0 := hcall E0 hbx
        replace A0 := hcall A0 hbx
        replace fl := fl.below hbx
        replace fs := fs.below hbx
        replace F0 := hcall F0 hbx
        replace r1 := r1.below hbx
        replace D := below_call D hbx
        refine hK.out _ _ (by (try dsimp only); (exact ⟨s0, s1, z0, z1, f0, f1⟩)) (fun hHeld => ?_)
        clear hK K
        try simp only [Act.put, List.getElem_toArray, List.getElem_cons_succ, List.getElem_cons_zero, List.setIfInBounds_toArray, List.set_cons_zero, List.set_cons_succ]
        refine Held.only (k := 10) (i := 10) (by kernel_rfl) (by kernel_rfl) rfl (by kernel_rfl) (fun K hK => ?_)
        go_simp
        go_at_call 22
        with_reducible refine (re_ (sameSe _ _ _ _ _ _ os os _ r1 r2) (ret_bool (decide_eq_true rfl))).mono ?_
        rintro e w10 ⟨rfl, hbx⟩
        replace s0 := cell_below hbx s0
        replace s1 := cell_below hbx s1
        replace z0 := cell_below hbx z0
        replace z1 := cell_below hbx z1
        replace f0 := cell_below hbx f0
        replace f1 := cell_below hbx f1
        replace hl := hl.below hbx
        replace hs := hs.below hbx
        replace S0 := hcall S0 hbx
        replace E0 := hcall E0 hbx
        replace A0 := hcall A0 hbx
        replace fl := fl.below hbx
        replace fs := fs.below hbx
        replace F0 := hcall F0 hbx
        replace r1 := r1.below hbx
        replace r2 := r2.below hbx
        replace D := below_call D hbx
        clear r1 r2
        refine hK.out _ _ (by (try dsimp only); (exact ⟨s0, s1, z0, z1, f0, f1⟩)) (fun hHeld => ?_)
        clear hK K
        try simp only [Act.put, List.getElem_toArray, List.getElem_cons_succ, List.getElem_cons_zero, List.setIfInBounds_toArray, List.set_cons_zero, List.set_cons_succ]
        iterate 13
          refine Held.tk (v := ?_) rgsmc rfl rfl rfl (fun _ _ _ h => h) (by assumption) (Or.inl ⟨by kernel_rfl, ?_⟩) ?_
          rotate_left
          · (intro w hSw; (try dsimp only at hSw); go_simp; (try (first | with_reducible rfl | rw [if_neg (by omega)])))
          try simp only [Act.put, List.getElem_toArray, List.getElem_cons_succ, List.getElem_cons_zero, List.setIfInBounds_toArray, List.set_cons_zero, List.set_cons_succ]
        refine Held.only (k := 24) (i := 18) (by kernel_rfl) (by kernel_rfl) rfl (by kernel_rfl) (fun K hK => ?_)
        go_simp
        go_at_call 24
        with_reducible refine (refGet8_is fn fc fA rE _ fl x y g1 g2 g3 g4 g5 HG1).mono ?_
        rintro e w11 ⟨rfl, hbx⟩
        replace s0 := cell_below hbx s0
        replace s1 := cell_below hbx s1
        replace z0 := cell_below hbx z0
        replace z1 := cell_below hbx z1
        replace f0 := cell_below hbx f0
        replace f1 := cell_below hbx f1
        replace hl := hl.below hbx
        replace hs := hs.below hbx
        replace S0 := hcall S0 hbx
        replace E0 := hcall E0 hbx
        replace A0 := hcall A0 hbx
        replace fl := fl.below hbx
        replace fs := fs.below hbx
        replace F0 := hcall F0 hbx
        replace D := below_call D hbx
        refine hK.out _ _ (by (try dsimp only); (exact ⟨s0, s1, z0, z1, f0, f1⟩)) (fun hHeld => ?_)
        clear hK K
        try simp only [Act.put, List.getElem_toArray, List.getElem_cons_succ, List.getElem_cons_zero, List.setIfInBounds_toArray, List.set_cons_zero, List.set_cons_succ]
        refine Held.only (k := 25) (i := 25) (by kernel_rfl) (by kernel_rfl) rfl (by kernel_rfl) (fun K hK => ?_)
        go_simp
        go_at_call 24
        with_reducible refine (refGet8_is n c A l _ hl x y g1 g2 g3 g4 g5 HG2).mono ?_
        rintro e w12 ⟨rfl, hbx⟩
        replace s0 := cell_below hbx s0
        replace s1 := cell_below hbx s1
        replace z0 := cell_below hbx z0
        replace z1 := cell_below hbx z1
        replace f0 := cell_below hbx f0
        replace f1 := cell_below hbx f1
        replace hl := hl.below hbx
        replace hs := hs.below hbx
        replace S0 := hcall S0 hbx
        replace E0 := hcall E0 hbx
        replace A0 := hcall A0 hbx
        replace fl := fl.below hbx
        replace fs := fs.below hbx
        replace F0 := hcall F0 hbx
        replace D := below_call D hbx
        refine hK.out _ _ (by (try dsimp only); (exact ⟨s0, s1, z0, z1, f0, f1⟩)) (fun hHeld => ?_)
        clear hK K
        try simp only [Act.put, List.getElem_toArray, List.getElem_cons_succ, List.getElem_cons_zero, List.setIfInBounds_toArray, List.set_cons_zero, List.set_cons_succ]
        iterate 3
          refine Held.tk (v := ?_) rgsmc rfl rfl rfl (fun _ _ _ h => h) (by assumption) (Or.inl ⟨by kernel_rfl, ?_⟩) ?_
          rotate_left
          · (intro w hSw; (try dsimp only at hSw); go_simp; (try (first | with_reducible rfl | rw [if_neg (by omega)])))
          try simp only [Act.put, List.getElem_toArray, List.getElem_cons_succ, List.getElem_cons_zero, List.setIfInBounds_toArray, List.set_cons_zero, List.set_cons_succ]
        refine Held.only (k := 29) (i := 29) (by kernel_rfl) (by kernel_rfl) rfl (by kernel_rfl) (fun K hK => ?_)
        go_simp
        go_at_call 9
        with_reducible refine (live14 _).mono ?_
        rintro e w13 ⟨rfl, hbx⟩
        replace s0 := cell_below hbx s0
        replace s1 := cell_below hbx s1
        replace z0 := cell_below hbx z0
        replace z1 := cell_below hbx z1
        replace f0 := cell_below hbx f0
        replace f1 := cell_below hbx f1
        replace hl := hl.below hbx
        replace hs := hs.below hbx
        replace S0 := hcall S0 hbx
        replace E0 := hcall E0 hbx
        replace A0 := hcall A0 hbx
        replace fl := fl.below hbx
        replace fs := fs.below hbx
        replace F0 := hcall F0 hbx
        replace D := below_call D hbx
        refine hK.out _ _ (by (try dsimp only); (exact ⟨s0, s1, z0, z1, f0, f1⟩)) (fun hHeld => ?_)
        clear hK K
        try simp only [Act.put, List.getElem_toArray, List.getElem_cons_succ, List.getElem_cons_zero, List.setIfInBounds_toArray, List.set_cons_zero, List.set_cons_succ]
        iterate 2
          refine Held.tk (v := ?_) rgsmc rfl rfl rfl (fun _ _ _ h => h) (by assumption) (Or.inl ⟨by kernel_rfl, ?_⟩) ?_
          rotate_left
          · (intro w hSw; (try dsimp only at hSw); go_simp; (try (first | with_reducible rfl | rw [if_neg (by omega)])))
          try simp only [Act.put, List.getElem_toArray, List.getElem_cons_succ, List.getElem_cons_zero, List.setIfInBounds_toArray, List.set_cons_zero, List.set_cons_succ]
        refine wpAnyH_done (by kernel_rfl) ?_ _
        clear s0 s1 z0 z1 f0 f1
        go_wp2
        go_ret
        exact ⟨rfl, D⟩
end Go.Proofs.YtpmafghknafhaaaGreat
