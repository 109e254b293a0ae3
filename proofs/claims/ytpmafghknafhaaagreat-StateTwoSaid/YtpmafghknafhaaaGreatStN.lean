/-
Layer 14: the walk of StateTwo.
-/
import Derived.Test.YtpmafghknafhaaaGreatStI
import Derived.Test.YtpmafghknafhaaaGreatStG
import Derived.Test.YtpmafghknafhaaaGreatStL
set_option linter.unusedVariables false
set_option linter.unusedSimpArgs false
namespace Go.Proofs.YtpmafghknafhaaaGreat
open Go.RowKit
open Sp
set_option maxHeartbeats 32000000 in
set_option maxRecDepth 100000 in
theorem two14_walk (n c : Nat) (A : Option Addr) (l : List En) (m d : Nat) (B : Option Addr) (s : List Se) (e f : Evt) (w : World)
    (hl : Row enEn 7 w (.slice A n c) l) (hz : SzE l) (hs : Row enSe 6 w (.slice B m d) s) (hy : SzEs s) (he : OkEv e) (hf : OkEv f) :
    Calls Tryz.prog 6 #[agT A n c B m d, vaEv e, vaEv f] w fun r w' => r = .returned (.bool true) ∧ Below w.heap.size w w' := by
  obtain ⟨k, u, o, i, ⟨a, p, q, t⟩⟩ := e
  obtain ⟨k', u', o', i', ⟨a', p', q', t'⟩⟩ := f
  have hq : u.size ≤ 9223372036854775807 ∧ o.size ≤ 9223372036854775807 ∧ t.size ≤ 9223372036854775807 := by simp only [OkEv, maxLen] at he; exact he
  have hq' : u'.size ≤ 9223372036854775807 ∧ o'.size ≤ 9223372036854775807 ∧ t'.size ≤ 9223372036854775807 := by simp only [OkEv, maxLen] at hf; exact hf
  clear he hf
  have EA := Lib.hid hl.len_eq
  have EM := Lib.hid hs.len_eq
  have hml : m ≤ 9223372036854775807 := by rw [EM.out]; exact hs.len
  have D := below_alloc0 (below_alloc0 (below_box (w := w) (bxT A n c B m d)) (bxEv k u o i a p q t)) (bxEv k' u' o' i' a' p' q' t')
  have S0 := halloc (halloc (heap_alloc_new w (bxT A n c B m d)) (bxEv k u o i a p q t)) (bxEv k' u' o' i' a' p' q' t')
  have E0 := halloc (heap_alloc_new (w.alloc (bxT A n c B m d)) (bxEv k u o i a p q t)) (bxEv k' u' o' i' a' p' q' t')
  have F0 := heap_alloc_new ((w.alloc (bxT A n c B m d)).alloc (bxEv k u o i a p q t)) (bxEv k' u' o' i' a' p' q' t')
  simp only [size_alloc] at E0 F0
  replace hl := hl.below D
  replace hs := hs.below D
  cases h : fewT (l, s) with
  | false =>
    have H1 := Lib.hid h
    clear h
    obtain ⟨s0, s1, sz⟩ := cellsT S0
    obtain ⟨e0, e1, e2, e3, e4, e5, e6, e7, ez⟩ := cellsEv k u o i a p q t E0
    obtain ⟨f0, f1, f2, f3, f4, f5, f6, f7, fz⟩ := cellsEv k' u' o' i' a' p' q' t' F0
    go_enter Tryz.func6, Tryz.ntmps6
    go_wp2_with fail
    with_reducible refine (FewT_is n c A l m d B s _ hl hs hz hy false H1).mono ?_
    rintro e w1 ⟨rfl, b1⟩
    replace hl := hl.below b1
    replace hs := hs.below b1
    replace S0 := hcall S0 b1
    replace E0 := hcall E0 b1
    replace F0 := hcall F0 b1
    replace D := below_call D b1
    clear b1 s0 s1 sz e0 e1 e2 e3 e4 e5 e6 e7 ez f0 f1 f2 f3 f4 f5 f6 f7 fz
    go_wp2_with fail
    with_reducible refine (live14 _).mono ?_
    rintro e w2 ⟨rfl, b2⟩
    replace hl := hl.below b2
    replace hs := hs.below b2
    replace S0 := hcall S0 b2
    replace E0 := hcall E0 b2
    replace F0 := hcall F0 b2
    replace D := below_call D b2
    clear b2
    go_wp2
    go_ret
    exact ⟨rfl, D⟩
  | true =>
  obtain ⟨zl, zs, zn, zm⟩ := fewT_sz h
  have H1 := Lib.hid h
  have hn : n ≤ 200 := by have := EA.out; omega
  have hn1 : n ≤ 100000 := by omega
  clear h
  cases hmy : mayT (l, s) with
  | false =>
    have H2 := Lib.hid hmy
    clear hmy
    obtain ⟨s0, s1, sz⟩ := cellsT S0
    obtain ⟨e0, e1, e2, e3, e4, e5, e6, e7, ez⟩ := cellsEv k u o i a p q t E0
    obtain ⟨f0, f1, f2, f3, f4, f5, f6, f7, fz⟩ := cellsEv k' u' o' i' a' p' q' t' F0
    go_enter Tryz.func6, Tryz.ntmps6
    go_wp2_with fail
    with_reducible refine (FewT_is n c A l m d B s _ hl hs hz hy true H1).mono ?_
    rintro e w1 ⟨rfl, b1⟩
    replace hl := hl.below b1
    replace hs := hs.below b1
    replace S0 := hcall S0 b1
    replace E0 := hcall E0 b1
    replace F0 := hcall F0 b1
    replace D := below_call D b1
    clear b1 s0 s1 sz e0 e1 e2 e3 e4 e5 e6 e7 ez f0 f1 f2 f3 f4 f5 f6 f7 fz
    obtain ⟨s0, s1, sz⟩ := cellsT S0
    obtain ⟨e0, e1, e2, e3, e4, e5, e6, e7, ez⟩ := cellsEv k u o i a p q t E0
    obtain ⟨f0, f1, f2, f3, f4, f5, f6, f7, fz⟩ := cellsEv k' u' o' i' a' p' q' t' F0
    go_wp2_with fail
    with_reducible refine (refMayT_is n c A l m d B s _ hl hs zl zs hn1 false H2).mono ?_
    rintro e w2 ⟨rfl, b2⟩
    replace hl := hl.below b2
    replace hs := hs.below b2
    replace S0 := hcall S0 b2
    replace E0 := hcall E0 b2
    replace F0 := hcall F0 b2
    replace D := below_call D b2
    clear b2 s0 s1 sz e0 e1 e2 e3 e4 e5 e6 e7 ez f0 f1 f2 f3 f4 f5 f6 f7 fz
    go_wp2_with fail
    with_reducible refine (live14 _).mono ?_
    rintro e w3 ⟨rfl, b3⟩
    replace hl := hl.below b3
    replace hs := hs.below b3
    replace S0 := hcall S0 b3
    replace E0 := hcall E0 b3
    replace F0 := hcall F0 b3
    replace D := below_call D b3
    clear b3
    go_wp2
    go_ret
    exact ⟨rfl, D⟩
  | true =>
  have H2 := Lib.hid hmy
  clear hmy
  by_cases hm30 : (30 : Int) < (m : Int)
  · obtain ⟨s0, s1, sz⟩ := cellsT S0
    obtain ⟨e0, e1, e2, e3, e4, e5, e6, e7, ez⟩ := cellsEv k u o i a p q t E0
    obtain ⟨f0, f1, f2, f3, f4, f5, f6, f7, fz⟩ := cellsEv k' u' o' i' a' p' q' t' F0
    go_enter Tryz.func6, Tryz.ntmps6
    go_wp2_with fail
    with_reducible refine (FewT_is n c A l m d B s _ hl hs hz hy true H1).mono ?_
    rintro e w1 ⟨rfl, b1⟩
    replace hl := hl.below b1
    replace hs := hs.below b1
    replace S0 := hcall S0 b1
    replace E0 := hcall E0 b1
    replace F0 := hcall F0 b1
    replace D := below_call D b1
    clear b1 s0 s1 sz e0 e1 e2 e3 e4 e5 e6 e7 ez f0 f1 f2 f3 f4 f5 f6 f7 fz
    obtain ⟨s0, s1, sz⟩ := cellsT S0
    obtain ⟨e0, e1, e2, e3, e4, e5, e6, e7, ez⟩ := cellsEv k u o i a p q t E0
    obtain ⟨f0, f1, f2, f3, f4, f5, f6, f7, fz⟩ := cellsEv k' u' o' i' a' p' q' t' F0
    go_wp2_with fail
    with_reducible refine (refMayT_is n c A l m d B s _ hl hs zl zs hn1 true H2).mono ?_
    rintro e w2 ⟨rfl, b2⟩
    replace hl := hl.below b2
    replace hs := hs.below b2
    replace S0 := hcall S0 b2
    replace E0 := hcall E0 b2
    replace F0 := hcall F0 b2
    replace D := below_call D b2
    clear b2 s0 s1 sz e0 e1 e2 e3 e4 e5 e6 e7 ez f0 f1 f2 f3 f4 f5 f6 f7 fz
    obtain ⟨s0, s1, sz⟩ := cellsT S0
    obtain ⟨e0, e1, e2, e3, e4, e5, e6, e7, ez⟩ := cellsEv k u o i a p q t E0
    obtain ⟨f0, f1, f2, f3, f4, f5, f6, f7, fz⟩ := cellsEv k' u' o' i' a' p' q' t' F0
    go_wp2_with fail
    with_reducible refine (live14 _).mono ?_
    rintro e w3 ⟨rfl, b3⟩
    replace hl := hl.below b3
    replace hs := hs.below b3
    replace S0 := hcall S0 b3
    replace E0 := hcall E0 b3
    replace F0 := hcall F0 b3
    replace D := below_call D b3
    clear b3 s0 s1 sz e0 e1 e2 e3 e4 e5 e6 e7 ez f0 f1 f2 f3 f4 f5 f6 f7 fz
    go_wp2
    go_ret
    exact ⟨rfl, D⟩
  have hm30' : (m : Int) ≤ 30 := by omega
  clear hm30
  cases h : shortE ⟨k, u, o, i, (a, p, q, t)⟩ with
  | false =>
    have H3 := Lib.hid h
    clear h
    obtain ⟨s0, s1, sz⟩ := cellsT S0
    obtain ⟨e0, e1, e2, e3, e4, e5, e6, e7, ez⟩ := cellsEv k u o i a p q t E0
    obtain ⟨f0, f1, f2, f3, f4, f5, f6, f7, fz⟩ := cellsEv k' u' o' i' a' p' q' t' F0
    go_enter Tryz.func6, Tryz.ntmps6
    go_wp2_with fail
    with_reducible refine (FewT_is n c A l m d B s _ hl hs hz hy true H1).mono ?_
    rintro e w1 ⟨rfl, b1⟩
    replace hl := hl.below b1
    replace hs := hs.below b1
    replace S0 := hcall S0 b1
    replace E0 := hcall E0 b1
    replace F0 := hcall F0 b1
    replace D := below_call D b1
    clear b1 s0 s1 sz e0 e1 e2 e3 e4 e5 e6 e7 ez f0 f1 f2 f3 f4 f5 f6 f7 fz
    obtain ⟨s0, s1, sz⟩ := cellsT S0
    obtain ⟨e0, e1, e2, e3, e4, e5, e6, e7, ez⟩ := cellsEv k u o i a p q t E0
    obtain ⟨f0, f1, f2, f3, f4, f5, f6, f7, fz⟩ := cellsEv k' u' o' i' a' p' q' t' F0
    go_wp2_with fail
    with_reducible refine (refMayT_is n c A l m d B s _ hl hs zl zs hn1 true H2).mono ?_
    rintro e w2 ⟨rfl, b2⟩
    replace hl := hl.below b2
    replace hs := hs.below b2
    replace S0 := hcall S0 b2
    replace E0 := hcall E0 b2
    replace F0 := hcall F0 b2
    replace D := below_call D b2
    clear b2 s0 s1 sz e0 e1 e2 e3 e4 e5 e6 e7 ez f0 f1 f2 f3 f4 f5 f6 f7 fz
    obtain ⟨s0, s1, sz⟩ := cellsT S0
    obtain ⟨e0, e1, e2, e3, e4, e5, e6, e7, ez⟩ := cellsEv k u o i a p q t E0
    obtain ⟨f0, f1, f2, f3, f4, f5, f6, f7, fz⟩ := cellsEv k' u' o' i' a' p' q' t' F0
    go_wp2_with fail
    with_reducible refine (Short_is k u o i a p q t false _ hq.1 hq.2.1 hq.2.2 H3).mono ?_
    rintro e w3 ⟨rfl, b3⟩
    replace hl := hl.below b3
    replace hs := hs.below b3
    replace S0 := hcall S0 b3
    replace E0 := hcall E0 b3
    replace F0 := hcall F0 b3
    replace D := below_call D b3
    clear b3 s0 s1 sz e0 e1 e2 e3 e4 e5 e6 e7 ez f0 f1 f2 f3 f4 f5 f6 f7 fz
    go_wp2_with fail
    with_reducible refine (live14 _).mono ?_
    rintro e w4 ⟨rfl, b4⟩
    replace hl := hl.below b4
    replace hs := hs.below b4
    replace S0 := hcall S0 b4
    replace E0 := hcall E0 b4
    replace F0 := hcall F0 b4
    replace D := below_call D b4
    clear b4
    go_wp2
    go_ret
    exact ⟨rfl, D⟩
  | true =>
  obtain ⟨hu, ho, ht⟩ := shortE_sz h
  have H3 := Lib.hid h
  clear h
  cases h : shortE ⟨k', u', o', i', (a', p', q', t')⟩ with
  | false =>
    have H4 := Lib.hid h
    clear h
    obtain ⟨s0, s1, sz⟩ := cellsT S0
    obtain ⟨e0, e1, e2, e3, e4, e5, e6, e7, ez⟩ := cellsEv k u o i a p q t E0
    obtain ⟨f0, f1, f2, f3, f4, f5, f6, f7, fz⟩ := cellsEv k' u' o' i' a' p' q' t' F0
    go_enter Tryz.func6, Tryz.ntmps6
    go_wp2_with fail
    with_reducible refine (FewT_is n c A l m d B s _ hl hs hz hy true H1).mono ?_
    rintro e w1 ⟨rfl, b1⟩
    replace hl := hl.below b1
    replace hs := hs.below b1
    replace S0 := hcall S0 b1
    replace E0 := hcall E0 b1
    replace F0 := hcall F0 b1
    replace D := below_call D b1
    clear b1 s0 s1 sz e0 e1 e2 e3 e4 e5 e6 e7 ez f0 f1 f2 f3 f4 f5 f6 f7 fz
    obtain ⟨s0, s1, sz⟩ := cellsT S0
    obtain ⟨e0, e1, e2, e3, e4, e5, e6, e7, ez⟩ := cellsEv k u o i a p q t E0
    obtain ⟨f0, f1, f2, f3, f4, f5, f6, f7, fz⟩ := cellsEv k' u' o' i' a' p' q' t' F0
    go_wp2_with fail
    with_reducible refine (refMayT_is n c A l m d B s _ hl hs zl zs hn1 true H2).mono ?_
    rintro e w2 ⟨rfl, b2⟩
    replace hl := hl.below b2
    replace hs := hs.below b2
    replace S0 := hcall S0 b2
    replace E0 := hcall E0 b2
    replace F0 := hcall F0 b2
    replace D := below_call D b2
    clear b2 s0 s1 sz e0 e1 e2 e3 e4 e5 e6 e7 ez f0 f1 f2 f3 f4 f5 f6 f7 fz
    obtain ⟨s0, s1, sz⟩ := cellsT S0
    obtain ⟨e0, e1, e2, e3, e4, e5, e6, e7, ez⟩ := cellsEv k u o i a p q t E0
    obtain ⟨f0, f1, f2, f3, f4, f5, f6, f7, fz⟩ := cellsEv k' u' o' i' a' p' q' t' F0
    go_wp2_with fail
    with_reducible refine (Short_is k u o i a p q t true _ hq.1 hq.2.1 hq.2.2 H3).mono ?_
    rintro e w3 ⟨rfl, b3⟩
    replace hl := hl.below b3
    replace hs := hs.below b3
    replace S0 := hcall S0 b3
    replace E0 := hcall E0 b3
    replace F0 := hcall F0 b3
    replace D := below_call D b3
    clear b3 s0 s1 sz e0 e1 e2 e3 e4 e5 e6 e7 ez f0 f1 f2 f3 f4 f5 f6 f7 fz
    obtain ⟨s0, s1, sz⟩ := cellsT S0
    obtain ⟨e0, e1, e2, e3, e4, e5, e6, e7, ez⟩ := cellsEv k u o i a p q t E0
    obtain ⟨f0, f1, f2, f3, f4, f5, f6, f7, fz⟩ := cellsEv k' u' o' i' a' p' q' t' F0
    go_wp2_with fail
    with_reducible refine (Short_is k' u' o' i' a' p' q' t' false _ hq'.1 hq'.2.1 hq'.2.2 H4).mono ?_
    rintro e w4 ⟨rfl, b4⟩
    replace hl := hl.below b4
    replace hs := hs.below b4
    replace S0 := hcall S0 b4
    replace E0 := hcall E0 b4
    replace F0 := hcall F0 b4
    replace D := below_call D b4
    clear b4 s0 s1 sz e0 e1 e2 e3 e4 e5 e6 e7 ez f0 f1 f2 f3 f4 f5 f6 f7 fz
    go_wp2_with fail
    with_reducible refine (live14 _).mono ?_
    rintro e w5 ⟨rfl, b5⟩
    replace hl := hl.below b5
    replace hs := hs.below b5
    replace S0 := hcall S0 b5
    replace E0 := hcall E0 b5
    replace F0 := hcall F0 b5
    replace D := below_call D b5
    clear b5
    go_wp2
    go_ret
    exact ⟨rfl, D⟩
  | true =>
  obtain ⟨hu', ho', ht'⟩ := shortE_sz h
  have H4 := Lib.hid h
  clear h
  obtain ⟨xr, hxr⟩ : ∃ r, touchT ⟨k, u, o, i, (a, p, q, t)⟩ = r := ⟨_, rfl⟩
  obtain ⟨yr, hyr⟩ : ∃ r, touchT ⟨k', u', o', i', (a', p', q', t')⟩ = r := ⟨_, rfl⟩
  have HX := Lib.hid hxr
  have HY := Lib.hid hyr
  have hsl : s.length ≤ 30 := by have := EM.out; omega
  obtain ⟨⟨tE, tS⟩, da, p1⟩ : ∃ r e, applyT (l, s) ⟨k, u, o, i, (a, p, q, t)⟩ = (r, e) := ⟨_, _, rfl⟩
  obtain ⟨⟨abE, abS⟩, eb, p2⟩ : ∃ r e, applyT (tE, tS) ⟨k', u', o', i', (a', p', q', t')⟩ = (r, e) := ⟨_, _, rfl⟩
  obtain ⟨⟨uE, uS⟩, fb, p3⟩ : ∃ r e, applyT (l, s) ⟨k', u', o', i', (a', p', q', t')⟩ = (r, e) := ⟨_, _, rfl⟩
  obtain ⟨⟨baE, baS⟩, ga, p4⟩ : ∃ r e, applyT (uE, uS) ⟨k, u, o, i, (a, p, q, t)⟩ = (r, e) := ⟨_, _, rfl⟩
  have hz1 := applyT_sz p1 zl zs hu ho ht
  have hz3 := applyT_sz p3 zl zs hu' ho' ht'
  simp only at hz1 hz3
  have hz2 := applyT_sz p2 hz1.1 hz1.2.1 hu' ho' ht'
  have hz4 := applyT_sz p4 hz3.1 hz3.2.1 hu ho ht
  simp only at hz2 hz4
  have htw : (∀ x ∈ xr, x ∉ yr) → da = ga ∧ eb = fb ∧ ((abE, abS) : Sta) = (baE, baS) := by
    intro h
    have := two_events (s := (l, s)) (a := ⟨k, u, o, i, (a, p, q, t)⟩) (b := ⟨k', u', o', i', (a', p', q', t')⟩) H2.out hsl (by rw [hxr, hyr]; exact h)
    rw [p1, p3] at this
    simp only at this
    rw [p2, p4] at this
    exact this
  have HTW := Lib.hid htw
  have P1 := Lib.hid p1
  have P2 := Lib.hid p2
  have P3 := Lib.hid p3
  have P4 := Lib.hid p4
  have hlE := EA.out
  have ht1 : tE.length ≤ 300 := by have := hz1.2.2; omega
  have ht3 : uE.length ≤ 300 := by have := hz3.2.2; omega
  obtain ⟨zt1, zt2, _⟩ := hz1
  obtain ⟨zu1, zu2, _⟩ := hz3
  clear hxr hyr p1 p2 p3 p4 htw zn zm hlE hsl hz2 hz4
  obtain ⟨s0, s1, sz⟩ := cellsT S0
  obtain ⟨e0, e1, e2, e3, e4, e5, e6, e7, ez⟩ := cellsEv k u o i a p q t E0
  obtain ⟨f0, f1, f2, f3, f4, f5, f6, f7, fz⟩ := cellsEv k' u' o' i' a' p' q' t' F0
  go_enter Tryz.func6, Tryz.ntmps6
  go_wp2_with fail
  with_reducible refine (FewT_is n c A l m d B s _ hl hs hz hy true H1).mono ?_
  rintro e w1 ⟨rfl, b1⟩
  replace hl := hl.below b1
  replace hs := hs.below b1
  replace S0 := hcall S0 b1
  replace E0 := hcall E0 b1
  replace F0 := hcall F0 b1
  replace D := below_call D b1
  clear b1 s0 s1 sz e0 e1 e2 e3 e4 e5 e6 e7 ez f0 f1 f2 f3 f4 f5 f6 f7 fz
  obtain ⟨s0, s1, sz⟩ := cellsT S0
  obtain ⟨e0, e1, e2, e3, e4, e5, e6, e7, ez⟩ := cellsEv k u o i a p q t E0
  obtain ⟨f0, f1, f2, f3, f4, f5, f6, f7, fz⟩ := cellsEv k' u' o' i' a' p' q' t' F0
  go_wp2_with fail
  with_reducible refine (refMayT_is n c A l m d B s _ hl hs zl zs hn1 true H2).mono ?_
  rintro e w2 ⟨rfl, b2⟩
  replace hl := hl.below b2
  replace hs := hs.below b2
  replace S0 := hcall S0 b2
  replace E0 := hcall E0 b2
  replace F0 := hcall F0 b2
  replace D := below_call D b2
  clear b2 s0 s1 sz e0 e1 e2 e3 e4 e5 e6 e7 ez f0 f1 f2 f3 f4 f5 f6 f7 fz
  obtain ⟨s0, s1, sz⟩ := cellsT S0
  obtain ⟨e0, e1, e2, e3, e4, e5, e6, e7, ez⟩ := cellsEv k u o i a p q t E0
  obtain ⟨f0, f1, f2, f3, f4, f5, f6, f7, fz⟩ := cellsEv k' u' o' i' a' p' q' t' F0
  go_wp2_with fail
  with_reducible refine (Short_is k u o i a p q t true _ hq.1 hq.2.1 hq.2.2 H3).mono ?_
  rintro e w3 ⟨rfl, b3⟩
  replace hl := hl.below b3
  replace hs := hs.below b3
  replace S0 := hcall S0 b3
  replace E0 := hcall E0 b3
  replace F0 := hcall F0 b3
  replace D := below_call D b3
  clear b3 s0 s1 sz e0 e1 e2 e3 e4 e5 e6 e7 ez f0 f1 f2 f3 f4 f5 f6 f7 fz
  obtain ⟨s0, s1, sz⟩ := cellsT S0
  obtain ⟨e0, e1, e2, e3, e4, e5, e6, e7, ez⟩ := cellsEv k u o i a p q t E0
  obtain ⟨f0, f1, f2, f3, f4, f5, f6, f7, fz⟩ := cellsEv k' u' o' i' a' p' q' t' F0
  go_wp2_with fail
  with_reducible refine (Short_is k' u' o' i' a' p' q' t' true _ hq'.1 hq'.2.1 hq'.2.2 H4).mono ?_
  rintro e w4 ⟨rfl, b4⟩
  replace hl := hl.below b4
  replace hs := hs.below b4
  replace S0 := hcall S0 b4
  replace E0 := hcall E0 b4
  replace F0 := hcall F0 b4
  replace D := below_call D b4
  clear b4 s0 s1 sz e0 e1 e2 e3 e4 e5 e6 e7 ez f0 f1 f2 f3 f4 f5 f6 f7 fz
  obtain ⟨e0, e1, e2, e3, e4, e5, e6, e7, ez⟩ := cellsEv k u o i a p q t E0
  obtain ⟨f0, f1, f2, f3, f4, f5, f6, f7, fz⟩ := cellsEv k' u' o' i' a' p' q' t' F0
  go_wp2_with fail
  with_reducible refine (Touch_is k u o i a p q t xr _ HX).mono ?_
  rintro e w5 ⟨va, rfl, rx, b5⟩
  replace hl := hl.below b5
  replace hs := hs.below b5
  replace S0 := hcall S0 b5
  replace E0 := hcall E0 b5
  replace F0 := hcall F0 b5
  replace D := below_call D b5
  clear b5 e0 e1 e2 e3 e4 e5 e6 e7 ez f0 f1 f2 f3 f4 f5 f6 f7 fz
  obtain ⟨nx, hnx⟩ : ∃ j, xr.length = j := ⟨_, rfl⟩
  obtain ⟨Ax, cx, rfl⟩ := rx.form8 nx hnx
  obtain ⟨f0, f1, f2, f3, f4, f5, f6, f7, fz⟩ := cellsEv k' u' o' i' a' p' q' t' F0
  go_wp2_with fail
  with_reducible refine (Touch_is k' u' o' i' a' p' q' t' yr _ HY).mono ?_
  rintro e w6 ⟨vb, rfl, ry, b6⟩
  replace hl := hl.below b6
  replace hs := hs.below b6
  replace S0 := hcall S0 b6
  replace E0 := hcall E0 b6
  replace F0 := hcall F0 b6
  replace rx := rx.below b6
  replace D := below_call D b6
  clear b6 f0 f1 f2 f3 f4 f5 f6 f7 fz
  obtain ⟨ny, hny⟩ : ∃ j, yr.length = j := ⟨_, rfl⟩
  obtain ⟨Ay, cy, rfl⟩ := ry.form8 ny hny
  have HNX := Lib.hid hnx
  have HNY := Lib.hid hny
  have hnx1 : nx ≤ 9223372036854775807 := by rw [← hnx]; exact rx.len
  have hny1 : ny ≤ 9223372036854775807 := by rw [← hny]; exact ry.len
  clear hnx hny
  go_wp2
  go_loopw [9] (fun vc wr => ∃ (j : Nat), vc = .int .i64 j ∧ j ≤ nx ∧ Hid (∀ j' (h : j' < xr.length), j' < j → xr[j'] ∉ yr) ∧ Below w6.heap.size w6 wr) (fun vc _ => (nx - intOf vc).toNat)
  case atStart => exact ⟨0, rfl, Nat.zero_le _, fun j' _ h => absurd h (by omega), Below.refl _ _⟩
  case round =>
    obtain ⟨j, rfl, hj, HT, hB⟩ := hrel
    by_cases hlt : j < nx
    · have hjl : j < xr.length := by have := HNX.out; omega
      obtain ⟨b_, hb_⟩ : ∃ e, xr[j] = e := ⟨_, rfl⟩
      have HBJ := Lib.hid hb_
      obtain ⟨ad, hA1, c0⟩ := (rx.below hB).get1 j hjl
      rw [hb_] at c0
      subst hA1
      clear hb_
      have x1 : (0 : Int) ≤ (j : Int) := by omega
      have x2 : (j : Int) < (nx : Int) := by omega
      clear c0
      go_wp2
      go_loopw [10] (fun vc2 wr2 => ∃ (j2 : Nat), vc2 = .int .i64 j2 ∧ j2 ≤ ny ∧ Hid (∀ j' (h : j' < yr.length), j' < j2 → b_ ≠ yr[j']) ∧ Below w6.heap.size w6 wr2) (fun vc2 _ => (ny - intOf vc2).toNat)
      case atStart => exact ⟨0, rfl, Nat.zero_le _, fun j' _ h => absurd h (by omega), hB⟩
      case round =>
        obtain ⟨j2, rfl, hj2, HT2, hB2⟩ := hrel
        by_cases hlt2 : j2 < ny
        · have hjl2 : j2 < yr.length := by have := HNY.out; omega
          obtain ⟨g_, hg_⟩ : ∃ e, yr[j2] = e := ⟨_, rfl⟩
          obtain ⟨ad', hA1', c0'⟩ := (ry.below hB2).get1 j2 hjl2
          rw [hg_] at c0'
          subst hA1'
          obtain ⟨ad2, hA2, c0⟩ := (rx.below hB2).get1 j hjl
          rw [HBJ.out] at c0
          injection hA2 with hA2
          subst hA2
          have y1 : (0 : Int) ≤ (j2 : Int) := by omega
          have y2 : (j2 : Int) < (ny : Int) := by omega
          by_cases hbg : b_ = g_
          · have g1 : (b_.toList == g_.toList) = true := by rw [hbg]; exact beq_self_eq_true _
            have D5 := below_call D hB2
            clear hbg hg_
            go_wp2_with fail
            go_quiet (fail)
            have D6 : Below w.heap.size w (wr.drewN nq) := below_drewN D5 _
            clear D5
            go_wp2_with fail
            with_reducible refine (live14 _).mono ?_
            rintro e w9 ⟨rfl, b9⟩
            have D7 := below_call D6 b9
            go_wp2
            go_ret
            exact ⟨rfl, D7⟩
          · have g1 : (b_.toList == g_.toList) = false := by simpa [toList_inj'] using hbg
            have g2 : ¬ b_.toList = g_.toList := by simpa [toList_inj'] using hbg
            have HN : Hid (∀ j' (h : j' < yr.length), j' < j2 + 1 → b_ ≠ yr[j']) := fun j' h hj' => by
              rcases Nat.lt_or_ge j' j2 with h' | h'
              · exact HT2.out j' h h'
              · obtain rfl : j' = j2 := by omega
                rw [hg_]; exact hbg
            clear hbg hg_
            go_wp2_with fail
            go_quiet (fail)
            have hB3 : Below w6.heap.size w6 (wr.drewN nq) := below_drewN hB2 _
            go_wp2
            exact ⟨⟨j2 + 1, by go_num, by omega, HN, hB3⟩, by simp [intOf]; omega⟩
        · have hin2 : j2 = ny := by omega
          have HN : Hid (∀ j' (h : j' < xr.length), j' < j + 1 → xr[j'] ∉ yr) := fun j' h hj' => by
            rcases Nat.lt_or_ge j' j with h' | h'
            · exact HT.out j' h h'
            · obtain rfl : j' = j := by omega
              rw [HBJ.out]
              intro hmem
              obtain ⟨q2, hq2, he2⟩ := List.getElem_of_mem hmem
              exact HT2.out q2 hq2 (by have := HNY.out; omega) he2.symm
          go_wp2
          exact ⟨⟨j + 1, by go_num, by omega, HN, hB2⟩, by simp [intOf]; omega⟩
    · have hin : j = nx := by omega
      obtain ⟨h1, h2, h3⟩ := HTW.out (fun x hx hy => by
        obtain ⟨q1, hq1, he1⟩ := List.getElem_of_mem hx
        exact HT.out q1 hq1 (by have := HNX.out; omega) (by rw [he1]; exact hy))
      subst h1 h2
      injection h3 with h3 h4
      subst h3 h4
      clear HT HTW
      replace hl := hl.below hB
      replace hs := hs.below hB
      replace S0 := hcall S0 hB
      replace E0 := hcall E0 hB
      replace F0 := hcall F0 hB
      replace D := below_call D hB
      clear hB rx ry
      obtain ⟨s0, s1, sz⟩ := cellsT S0
      obtain ⟨e0, e1, e2, e3, e4, e5, e6, e7, ez⟩ := cellsEv k u o i a p q t E0
      go_wp2_with fail
      refine (ApplyT_is n c A l m d B s _ hl hs zl zs (by omega) k u o i a p q t hu ho ht da (tE, tS) P1).mono ?_
      rintro e w7 ⟨gA, gn, gc, gB, gm, gd, rfl, gl, gs, b7, -, -⟩
      replace hl := hl.below b7
      replace hs := hs.below b7
      replace S0 := hcall S0 b7
      replace E0 := hcall E0 b7
      replace F0 := hcall F0 b7
      replace D := below_call D b7
      clear b7 s0 s1 sz e0 e1 e2 e3 e4 e5 e6 e7 ez
      have G0 := heap_alloc_new w7 (bxT gA gn gc gB gm gd)
      replace hl := hl.below (below_box (bxT gA gn gc gB gm gd))
      replace hs := hs.below (below_box (bxT gA gn gc gB gm gd))
      replace S0 := halloc S0 (bxT gA gn gc gB gm gd)
      replace E0 := halloc E0 (bxT gA gn gc gB gm gd)
      replace F0 := halloc F0 (bxT gA gn gc gB gm gd)
      replace gl := gl.below (below_box (bxT gA gn gc gB gm gd))
      replace gs := gs.below (below_box (bxT gA gn gc gB gm gd))
      replace D := below_alloc0 D (bxT gA gn gc gB gm gd)
      have hgn : gn ≤ 900 := by have h9 : gn = tE.length := gl.len_eq; omega
      obtain ⟨g0, g1, gz⟩ := cellsT G0
      obtain ⟨f0, f1, f2, f3, f4, f5, f6, f7, fz⟩ := cellsEv k' u' o' i' a' p' q' t' F0
      go_wp2_with fail
      refine (ApplyT_is gn gc gA tE gm gd gB tS _ gl gs zt1 zt2 hgn k' u' o' i' a' p' q' t' hu' ho' ht' eb (abE, abS) P2).mono ?_
      rintro e w8 ⟨vA, vn, vc, vB, vm, vd, rfl, vl, vs, b8, -, -⟩
      replace hl := hl.below b8
      replace hs := hs.below b8
      replace S0 := hcall S0 b8
      replace E0 := hcall E0 b8
      replace F0 := hcall F0 b8
      replace gl := gl.below b8
      replace gs := gs.below b8
      replace G0 := hcall G0 b8
      replace D := below_call D b8
      clear b8 g0 g1 gz f0 f1 f2 f3 f4 f5 f6 f7 fz
      have V0 := heap_alloc_new w8 (bxT vA vn vc vB vm vd)
      replace hl := hl.below (below_box (bxT vA vn vc vB vm vd))
      replace hs := hs.below (below_box (bxT vA vn vc vB vm vd))
      replace S0 := halloc S0 (bxT vA vn vc vB vm vd)
      replace E0 := halloc E0 (bxT vA vn vc vB vm vd)
      replace F0 := halloc F0 (bxT vA vn vc vB vm vd)
      replace gl := gl.below (below_box (bxT vA vn vc vB vm vd))
      replace gs := gs.below (below_box (bxT vA vn vc vB vm vd))
      replace G0 := halloc G0 (bxT vA vn vc vB vm vd)
      replace vl := vl.below (below_box (bxT vA vn vc vB vm vd))
      replace vs := vs.below (below_box (bxT vA vn vc vB vm vd))
      replace D := below_alloc0 D (bxT vA vn vc vB vm vd)
      obtain ⟨s0, s1, sz⟩ := cellsT S0
      obtain ⟨f0, f1, f2, f3, f4, f5, f6, f7, fz⟩ := cellsEv k' u' o' i' a' p' q' t' F0
      go_wp2_with fail
      refine (ApplyT_is n c A l m d B s _ hl hs zl zs (by omega) k' u' o' i' a' p' q' t' hu' ho' ht' eb (uE, uS) P3).mono ?_
      rintro e w9 ⟨yA, yn, yc, yB, ym, yd, rfl, yl, ys, b9, -, -⟩
      replace hl := hl.below b9
      replace hs := hs.below b9
      replace S0 := hcall S0 b9
      replace E0 := hcall E0 b9
      replace F0 := hcall F0 b9
      replace gl := gl.below b9
      replace gs := gs.below b9
      replace G0 := hcall G0 b9
      replace vl := vl.below b9
      replace vs := vs.below b9
      replace V0 := hcall V0 b9
      replace D := below_call D b9
      clear b9 s0 s1 sz f0 f1 f2 f3 f4 f5 f6 f7 fz
      have Y0 := heap_alloc_new w9 (bxT yA yn yc yB ym yd)
      replace hl := hl.below (below_box (bxT yA yn yc yB ym yd))
      replace hs := hs.below (below_box (bxT yA yn yc yB ym yd))
      replace S0 := halloc S0 (bxT yA yn yc yB ym yd)
      replace E0 := halloc E0 (bxT yA yn yc yB ym yd)
      replace F0 := halloc F0 (bxT yA yn yc yB ym yd)
      replace gl := gl.below (below_box (bxT yA yn yc yB ym yd))
      replace gs := gs.below (below_box (bxT yA yn yc yB ym yd))
      replace G0 := halloc G0 (bxT yA yn yc yB ym yd)
      replace vl := vl.below (below_box (bxT yA yn yc yB ym yd))
      replace vs := vs.below (below_box (bxT yA yn yc yB ym yd))
      replace V0 := halloc V0 (bxT yA yn yc yB ym yd)
      replace yl := yl.below (below_box (bxT yA yn yc yB ym yd))
      replace ys := ys.below (below_box (bxT yA yn yc yB ym yd))
      replace D := below_alloc0 D (bxT yA yn yc yB ym yd)
      have hyn : yn ≤ 900 := by have h9 : yn = uE.length := yl.len_eq; omega
      obtain ⟨g0, g1, gz⟩ := cellsT Y0
      obtain ⟨e0, e1, e2, e3, e4, e5, e6, e7, ez⟩ := cellsEv k u o i a p q t E0
      go_wp2_with fail
      refine (ApplyT_is yn yc yA uE ym yd yB uS _ yl ys zu1 zu2 hyn k u o i a p q t hu ho ht da (abE, abS) P4).mono ?_
      rintro e w10 ⟨xA, xn, xc, xB, xm, xd, rfl, xl, xs, b10, -, -⟩
      replace hl := hl.below b10
      replace hs := hs.below b10
      replace S0 := hcall S0 b10
      replace E0 := hcall E0 b10
      replace F0 := hcall F0 b10
      replace gl := gl.below b10
      replace gs := gs.below b10
      replace G0 := hcall G0 b10
      replace vl := vl.below b10
      replace vs := vs.below b10
      replace V0 := hcall V0 b10
      replace yl := yl.below b10
      replace ys := ys.below b10
      replace Y0 := hcall Y0 b10
      replace D := below_call D b10
      clear b10 g0 g1 gz e0 e1 e2 e3 e4 e5 e6 e7 ez
      have X0 := heap_alloc_new w10 (bxT xA xn xc xB xm xd)
      replace hl := hl.below (below_box (bxT xA xn xc xB xm xd))
      replace hs := hs.below (below_box (bxT xA xn xc xB xm xd))
      replace S0 := halloc S0 (bxT xA xn xc xB xm xd)
      replace E0 := halloc E0 (bxT xA xn xc xB xm xd)
      replace F0 := halloc F0 (bxT xA xn xc xB xm xd)
      replace gl := gl.below (below_box (bxT xA xn xc xB xm xd))
      replace gs := gs.below (below_box (bxT xA xn xc xB xm xd))
      replace G0 := halloc G0 (bxT xA xn xc xB xm xd)
      replace vl := vl.below (below_box (bxT xA xn xc xB xm xd))
      replace vs := vs.below (below_box (bxT xA xn xc xB xm xd))
      replace V0 := halloc V0 (bxT xA xn xc xB xm xd)
      replace yl := yl.below (below_box (bxT xA xn xc xB xm xd))
      replace ys := ys.below (below_box (bxT xA xn xc xB xm xd))
      replace Y0 := halloc Y0 (bxT xA xn xc xB xm xd)
      replace xl := xl.below (below_box (bxT xA xn xc xB xm xd))
      replace xs := xs.below (below_box (bxT xA xn xc xB xm xd))
      replace D := below_alloc0 D (bxT xA xn xc xB xm xd)
      obtain ⟨g0, g1, gz⟩ := cellsT V0
      obtain ⟨q0, q1, qz⟩ := cellsT X0
      go_wp2_with fail
      with_reducible refine (SameT_is vn vc vA abE vm vd vB abS xn xc xA abE xm xd xB abS _ vl vs xl xs true (Lib.hid (decide_eq_true rfl))).mono ?_
      rintro e w11 ⟨rfl, b11⟩
      replace hl := hl.below b11
      replace hs := hs.below b11
      replace S0 := hcall S0 b11
      replace E0 := hcall E0 b11
      replace F0 := hcall F0 b11
      replace gl := gl.below b11
      replace gs := gs.below b11
      replace G0 := hcall G0 b11
      replace vl := vl.below b11
      replace vs := vs.below b11
      replace V0 := hcall V0 b11
      replace yl := yl.below b11
      replace ys := ys.below b11
      replace Y0 := hcall Y0 b11
      replace xl := xl.below b11
      replace xs := xs.below b11
      replace X0 := hcall X0 b11
      replace D := below_call D b11
      clear b11 g0 g1 gz q0 q1 qz
      go_wp2_with fail
      with_reducible refine (live14 _).mono ?_
      rintro e w12 ⟨rfl, b12⟩
      replace hl := hl.below b12
      replace hs := hs.below b12
      replace S0 := hcall S0 b12
      replace E0 := hcall E0 b12
      replace F0 := hcall F0 b12
      replace gl := gl.below b12
      replace gs := gs.below b12
      replace G0 := hcall G0 b12
      replace vl := vl.below b12
      replace vs := vs.below b12
      replace V0 := hcall V0 b12
      replace yl := yl.below b12
      replace ys := ys.below b12
      replace Y0 := hcall Y0 b12
      replace xl := xl.below b12
      replace xs := xs.below b12
      replace X0 := hcall X0 b12
      replace D := below_call D b12
      clear b12
      go_wp2
      go_ret
      exact ⟨rfl, D⟩
end Go.Proofs.YtpmafghknafhaaaGreat
