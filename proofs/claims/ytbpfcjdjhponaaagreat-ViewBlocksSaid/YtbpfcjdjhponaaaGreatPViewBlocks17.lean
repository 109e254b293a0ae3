import Derived.Test.YtbpfcjdjhponaaaGreatPViewBlocks16
set_option linter.unusedVariables false
set_option linter.unusedSimpArgs false
namespace Go.Proofs.YtbpfcjdjhponaaaGreat
open Go.RowKit
open Sp
theorem vGet_is (n c : Nat) (A : Option Addr) (l : List Sn) (q : ByteArray) (w : World) (x y z : Int) (t : ByteArray) (b : Bool) (hl : Row enSn 5 w (.slice A n c) l) (h : Hid (getT l q = ((x, y, z, t), b))) :
    Calls Tryz.prog 31 #[.slice A n c, .string q] w fun e w' => e = .returned (.tuple #[.agg #[.int .i64 x, .int .i64 y, .int .i64 z, .string t], .bool b]) ∧ Below w.heap.size w w' := by
  have := GetT_calls n c A l q w hl
  rw [h.out] at this
  exact this
noncomputable def opsvgb : Array Oper := Held.inBody 10 Tryz.f8.body
def ordvgb0 : List Nat := [0, 1, 2, 4, 5, 3, 6, 7, 8, 9, 10, 11, 12]
set_option maxRecDepth 100000 in
theorem rgordvgb0 : Held.Reg opsvgb ordvgb0 13 [0, 1, 2, 3, 4, 7, 8, 9, 12] := ⟨by kernel_rfl, by kernel_rfl, by kernel_rfl⟩
def ordvgb1 : List Nat := [0, 1, 2, 4, 5, 10, 3, 6, 7, 8, 9, 11, 12]
set_option maxRecDepth 100000 in
theorem rgordvgb1 : Held.Reg opsvgb ordvgb1 13 [0, 1, 2, 3, 4, 8, 9, 10, 12] := ⟨by kernel_rfl, by kernel_rfl, by kernel_rfl⟩
def ordvgb2 : List Nat := [0, 1, 2, 4, 5, 3, 10, 6, 7, 8, 9, 11, 12]
set_option maxRecDepth 100000 in
theorem rgordvgb2 : Held.Reg opsvgb ordvgb2 13 [0, 1, 2, 3, 4, 8, 9, 10, 12] := ⟨by kernel_rfl, by kernel_rfl, by kernel_rfl⟩
noncomputable def opsvgc : Array Oper := Held.inBody 15 Tryz.f8.body
def ordvgc : List Nat := [0, 1, 2, 3, 4, 5, 6, 7, 8, 9, 10]
set_option maxRecDepth 100000 in
theorem rgvgc : Held.Reg opsvgc ordvgc 11 [0, 1, 2, 3, 4, 5, 6, 7, 8, 9, 10] := ⟨by kernel_rfl, by kernel_rfl, by kernel_rfl⟩
set_option maxHeartbeats 32000000 in
set_option maxRecDepth 100000 in
theorem blocks15_walk (n c : Nat) (A : Option Addr) (l : List En) (m d : Nat) (B : Option Addr) (s : List Se) (e : Evt) (w : World)
    (hl : Row enEn 7 w (.slice A n c) l) (hz : SzE l) (hs : Row enSe 6 w (.slice B m d) s) (hy : SzEs s) (he : OkEv e) :
    Calls Tryz.prog 8 #[agT A n c B m d, vaEv e] w fun r w' => r = .returned (.bool true) ∧ Below w.heap.size w w' := by
  obtain ⟨k, u, o, i, ⟨a, p, q, t⟩⟩ := e
  have hq : u.size ≤ 9223372036854775807 ∧ o.size ≤ 9223372036854775807 ∧ t.size ≤ 9223372036854775807 := by simp only [OkEv, maxLen] at he; exact he
  clear he
  have EA := Lib.hid hl.len_eq
  have EM := Lib.hid hs.len_eq
  have D := below_alloc0 (below_box (w := w) (bxT A n c B m d)) (bxEv k u o i a p q t)
  have S0 := halloc (heap_alloc_new w (bxT A n c B m d)) (bxEv k u o i a p q t)
  have E0 := heap_alloc_new (w.alloc (bxT A n c B m d)) (bxEv k u o i a p q t)
  simp only [size_alloc] at E0
  replace hl := hl.below D
  replace hs := hs.below D
  cases h : fewT (l, s) with
  | false =>
    have H1 := Lib.hid h
    clear h
    obtain ⟨s0, s1, sz⟩ := cellsT S0
    obtain ⟨e0, e1, e2, e3, e4, e5, e6, e7, ez⟩ := cellsEv k u o i a p q t E0
    go_enter Tryz.func8, Tryz.ntmps8
    go_wp2_with fail
    with_reducible refine (FewT_is n c A l m d B s _ hl hs hz hy false H1).mono ?_
    rintro e w1 ⟨rfl, b1⟩
    replace hl := hl.below b1
    replace hs := hs.below b1
    replace S0 := hcall S0 b1
    replace E0 := hcall E0 b1
    replace D := below_call D b1
    clear b1 s0 s1 sz e0 e1 e2 e3 e4 e5 e6 e7 ez
    go_wp2_with fail
    with_reducible refine (live15 _).mono ?_
    rintro e w2 ⟨rfl, b2⟩
    replace hl := hl.below b2
    replace hs := hs.below b2
    replace S0 := hcall S0 b2
    replace E0 := hcall E0 b2
    replace D := below_call D b2
    clear b2
    go_wp2
    go_ret
    exact ⟨rfl, D⟩
  | true =>
  obtain ⟨zl, zs, zn, zm⟩ := fewT_sz h
  have H1 := Lib.hid h
  have hn : n ≤ 900 := by have := EA.out; omega
  have hn1 : n ≤ 100000 := by omega
  have hm1 : m ≤ 100000 := by have := EM.out; omega
  clear h
  cases hmy : mayT (l, s) with
  | false =>
    have H2 := Lib.hid hmy
    clear hmy
    obtain ⟨s0, s1, sz⟩ := cellsT S0
    obtain ⟨e0, e1, e2, e3, e4, e5, e6, e7, ez⟩ := cellsEv k u o i a p q t E0
    go_enter Tryz.func8, Tryz.ntmps8
    go_wp2_with fail
    with_reducible refine (FewT_is n c A l m d B s _ hl hs hz hy true H1).mono ?_
    rintro e w1 ⟨rfl, b1⟩
    replace hl := hl.below b1
    replace hs := hs.below b1
    replace S0 := hcall S0 b1
    replace E0 := hcall E0 b1
    replace D := below_call D b1
    clear b1 s0 s1 sz e0 e1 e2 e3 e4 e5 e6 e7 ez
    obtain ⟨s0, s1, sz⟩ := cellsT S0
    obtain ⟨e0, e1, e2, e3, e4, e5, e6, e7, ez⟩ := cellsEv k u o i a p q t E0
    go_wp2_with fail
    with_reducible refine (refMayT_is n c A l m d B s _ hl hs zl zs hn1 false H2).mono ?_
    rintro e w2 ⟨rfl, b2⟩
    replace hl := hl.below b2
    replace hs := hs.below b2
    replace S0 := hcall S0 b2
    replace E0 := hcall E0 b2
    replace D := below_call D b2
    clear b2 s0 s1 sz e0 e1 e2 e3 e4 e5 e6 e7 ez
    go_wp2_with fail
    with_reducible refine (live15 _).mono ?_
    rintro e w3 ⟨rfl, b3⟩
    replace hl := hl.below b3
    replace hs := hs.below b3
    replace S0 := hcall S0 b3
    replace E0 := hcall E0 b3
    replace D := below_call D b3
    clear b3
    go_wp2
    go_ret
    exact ⟨rfl, D⟩
  | true =>
  have H2 := Lib.hid hmy
  clear hmy
  cases h : shortE ⟨k, u, o, i, (a, p, q, t)⟩ with
  | false =>
    have H3 := Lib.hid h
    clear h
    obtain ⟨s0, s1, sz⟩ := cellsT S0
    obtain ⟨e0, e1, e2, e3, e4, e5, e6, e7, ez⟩ := cellsEv k u o i a p q t E0
    go_enter Tryz.func8, Tryz.ntmps8
    go_wp2_with fail
    with_reducible refine (FewT_is n c A l m d B s _ hl hs hz hy true H1).mono ?_
    rintro e w1 ⟨rfl, b1⟩
    replace hl := hl.below b1
    replace hs := hs.below b1
    replace S0 := hcall S0 b1
    replace E0 := hcall E0 b1
    replace D := below_call D b1
    clear b1 s0 s1 sz e0 e1 e2 e3 e4 e5 e6 e7 ez
    obtain ⟨s0, s1, sz⟩ := cellsT S0
    obtain ⟨e0, e1, e2, e3, e4, e5, e6, e7, ez⟩ := cellsEv k u o i a p q t E0
    go_wp2_with fail
    with_reducible refine (refMayT_is n c A l m d B s _ hl hs zl zs hn1 true H2).mono ?_
    rintro e w2 ⟨rfl, b2⟩
    replace hl := hl.below b2
    replace hs := hs.below b2
    replace S0 := hcall S0 b2
    replace E0 := hcall E0 b2
    replace D := below_call D b2
    clear b2 s0 s1 sz e0 e1 e2 e3 e4 e5 e6 e7 ez
    obtain ⟨s0, s1, sz⟩ := cellsT S0
    obtain ⟨e0, e1, e2, e3, e4, e5, e6, e7, ez⟩ := cellsEv k u o i a p q t E0
    go_wp2_with fail
    with_reducible refine (Short_is k u o i a p q t false _ hq.1 hq.2.1 hq.2.2 H3).mono ?_
    rintro e w3 ⟨rfl, b3⟩
    replace hl := hl.below b3
    replace hs := hs.below b3
    replace S0 := hcall S0 b3
    replace E0 := hcall E0 b3
    replace D := below_call D b3
    clear b3 s0 s1 sz e0 e1 e2 e3 e4 e5 e6 e7 ez
    go_wp2_with fail
    with_reducible refine (live15 _).mono ?_
    rintro e w4 ⟨rfl, b4⟩
    replace hl := hl.below b4
    replace hs := hs.below b4
    replace S0 := hcall S0 b4
    replace E0 := hcall E0 b4
    replace D := below_call D b4
    clear b4
    go_wp2
    go_ret
    exact ⟨rfl, D⟩
  | true =>
  obtain ⟨hu, ho, ht⟩ := shortE_sz h
  have H3 := Lib.hid h
  clear h
  by_cases hk3 : k < 3
  · obtain ⟨s0, s1, sz⟩ := cellsT S0
    obtain ⟨e0, e1, e2, e3, e4, e5, e6, e7, ez⟩ := cellsEv k u o i a p q t E0
    go_enter Tryz.func8, Tryz.ntmps8
    go_wp2_with fail
    with_reducible refine (FewT_is n c A l m d B s _ hl hs hz hy true H1).mono ?_
    rintro e w1 ⟨rfl, b1⟩
    replace hl := hl.below b1
    replace hs := hs.below b1
    replace S0 := hcall S0 b1
    replace E0 := hcall E0 b1
    replace D := below_call D b1
    clear b1 s0 s1 sz e0 e1 e2 e3 e4 e5 e6 e7 ez
    obtain ⟨s0, s1, sz⟩ := cellsT S0
    obtain ⟨e0, e1, e2, e3, e4, e5, e6, e7, ez⟩ := cellsEv k u o i a p q t E0
    go_wp2_with fail
    with_reducible refine (refMayT_is n c A l m d B s _ hl hs zl zs hn1 true H2).mono ?_
    rintro e w2 ⟨rfl, b2⟩
    replace hl := hl.below b2
    replace hs := hs.below b2
    replace S0 := hcall S0 b2
    replace E0 := hcall E0 b2
    replace D := below_call D b2
    clear b2 s0 s1 sz e0 e1 e2 e3 e4 e5 e6 e7 ez
    obtain ⟨s0, s1, sz⟩ := cellsT S0
    obtain ⟨e0, e1, e2, e3, e4, e5, e6, e7, ez⟩ := cellsEv k u o i a p q t E0
    go_wp2_with fail
    with_reducible refine (Short_is k u o i a p q t true _ hq.1 hq.2.1 hq.2.2 H3).mono ?_
    rintro e w3 ⟨rfl, b3⟩
    replace hl := hl.below b3
    replace hs := hs.below b3
    replace S0 := hcall S0 b3
    replace E0 := hcall E0 b3
    replace D := below_call D b3
    clear b3 s0 s1 sz e0 e1 e2 e3 e4 e5 e6 e7 ez
    obtain ⟨s0, s1, sz⟩ := cellsT S0
    obtain ⟨e0, e1, e2, e3, e4, e5, e6, e7, ez⟩ := cellsEv k u o i a p q t E0
    go_wp2_with fail
    with_reducible refine (live15 _).mono ?_
    rintro e w4 ⟨rfl, b4⟩
    replace hl := hl.below b4
    replace hs := hs.below b4
    replace S0 := hcall S0 b4
    replace E0 := hcall E0 b4
    replace D := below_call D b4
    clear b4 s0 s1 sz e0 e1 e2 e3 e4 e5 e6 e7 ez
    go_wp2
    go_ret
    exact ⟨rfl, D⟩
  by_cases hk5 : 5 < k
  · obtain ⟨s0, s1, sz⟩ := cellsT S0
    obtain ⟨e0, e1, e2, e3, e4, e5, e6, e7, ez⟩ := cellsEv k u o i a p q t E0
    go_enter Tryz.func8, Tryz.ntmps8
    go_wp2_with fail
    with_reducible refine (FewT_is n c A l m d B s _ hl hs hz hy true H1).mono ?_
    rintro e w1 ⟨rfl, b1⟩
    replace hl := hl.below b1
    replace hs := hs.below b1
    replace S0 := hcall S0 b1
    replace E0 := hcall E0 b1
    replace D := below_call D b1
    clear b1 s0 s1 sz e0 e1 e2 e3 e4 e5 e6 e7 ez
    obtain ⟨s0, s1, sz⟩ := cellsT S0
    obtain ⟨e0, e1, e2, e3, e4, e5, e6, e7, ez⟩ := cellsEv k u o i a p q t E0
    go_wp2_with fail
    with_reducible refine (refMayT_is n c A l m d B s _ hl hs zl zs hn1 true H2).mono ?_
    rintro e w2 ⟨rfl, b2⟩
    replace hl := hl.below b2
    replace hs := hs.below b2
    replace S0 := hcall S0 b2
    replace E0 := hcall E0 b2
    replace D := below_call D b2
    clear b2 s0 s1 sz e0 e1 e2 e3 e4 e5 e6 e7 ez
    obtain ⟨s0, s1, sz⟩ := cellsT S0
    obtain ⟨e0, e1, e2, e3, e4, e5, e6, e7, ez⟩ := cellsEv k u o i a p q t E0
    go_wp2_with fail
    with_reducible refine (Short_is k u o i a p q t true _ hq.1 hq.2.1 hq.2.2 H3).mono ?_
    rintro e w3 ⟨rfl, b3⟩
    replace hl := hl.below b3
    replace hs := hs.below b3
    replace S0 := hcall S0 b3
    replace E0 := hcall E0 b3
    replace D := below_call D b3
    clear b3 s0 s1 sz e0 e1 e2 e3 e4 e5 e6 e7 ez
    obtain ⟨s0, s1, sz⟩ := cellsT S0
    obtain ⟨e0, e1, e2, e3, e4, e5, e6, e7, ez⟩ := cellsEv k u o i a p q t E0
    go_wp2_with fail
    with_reducible refine (live15 _).mono ?_
    rintro e w4 ⟨rfl, b4⟩
    replace hl := hl.below b4
    replace hs := hs.below b4
    replace S0 := hcall S0 b4
    replace E0 := hcall E0 b4
    replace D := below_call D b4
    clear b4 s0 s1 sz e0 e1 e2 e3 e4 e5 e6 e7 ez
    go_wp2
    go_ret
    exact ⟨rfl, D⟩
  obtain ⟨⟨rE, rS⟩, er, hap⟩ : ∃ r e, applyT (l, s) ⟨k, u, o, i, (a, p, q, t)⟩ = (r, e) := ⟨_, _, rfl⟩
  have HAP := Lib.hid hap
  have hsz := applyT_sz hap zl zs hu ho ht
  simp only at hsz
  by_cases her : er = 0
  case neg =>
    have he2 : (er != 0) = true := by simpa using her
    have hrs := applyT_err hap her
    injection hrs with hr1 hr2
    subst hr1 hr2
    clear her hap
    obtain ⟨s0, s1, sz⟩ := cellsT S0
    obtain ⟨e0, e1, e2, e3, e4, e5, e6, e7, ez⟩ := cellsEv k u o i a p q t E0
    go_enter Tryz.func8, Tryz.ntmps8
    go_wp2_with fail
    with_reducible refine (FewT_is n c A rE m d B rS _ hl hs hz hy true H1).mono ?_
    rintro e w1 ⟨rfl, b1⟩
    replace hl := hl.below b1
    replace hs := hs.below b1
    replace S0 := hcall S0 b1
    replace E0 := hcall E0 b1
    replace D := below_call D b1
    clear b1 s0 s1 sz e0 e1 e2 e3 e4 e5 e6 e7 ez
    obtain ⟨s0, s1, sz⟩ := cellsT S0
    obtain ⟨e0, e1, e2, e3, e4, e5, e6, e7, ez⟩ := cellsEv k u o i a p q t E0
    go_wp2_with fail
    with_reducible refine (refMayT_is n c A rE m d B rS _ hl hs zl zs hn1 true H2).mono ?_
    rintro e w2 ⟨rfl, b2⟩
    replace hl := hl.below b2
    replace hs := hs.below b2
    replace S0 := hcall S0 b2
    replace E0 := hcall E0 b2
    replace D := below_call D b2
    clear b2 s0 s1 sz e0 e1 e2 e3 e4 e5 e6 e7 ez
    obtain ⟨s0, s1, sz⟩ := cellsT S0
    obtain ⟨e0, e1, e2, e3, e4, e5, e6, e7, ez⟩ := cellsEv k u o i a p q t E0
    go_wp2_with fail
    with_reducible refine (Short_is k u o i a p q t true _ hq.1 hq.2.1 hq.2.2 H3).mono ?_
    rintro e w3 ⟨rfl, b3⟩
    replace hl := hl.below b3
    replace hs := hs.below b3
    replace S0 := hcall S0 b3
    replace E0 := hcall E0 b3
    replace D := below_call D b3
    clear b3 s0 s1 sz e0 e1 e2 e3 e4 e5 e6 e7 ez
    obtain ⟨s0, s1, sz⟩ := cellsT S0
    obtain ⟨e0, e1, e2, e3, e4, e5, e6, e7, ez⟩ := cellsEv k u o i a p q t E0
    go_wp2_with fail
    refine (ApplyT_is n c A rE m d B rS _ hl hs zl zs hn k u o i a p q t hu ho ht er (rE, rS) HAP).mono ?_
    rintro e w4 ⟨fA, fn, fc, fB, fm, fd, rfl, fl, fs, b4, -, -⟩
    replace hl := hl.below b4
    replace hs := hs.below b4
    replace S0 := hcall S0 b4
    replace E0 := hcall E0 b4
    replace D := below_call D b4
    clear b4 s0 s1 sz e0 e1 e2 e3 e4 e5 e6 e7 ez
    have F0 := heap_alloc_new w4 (bxT fA fn fc fB fm fd)
    replace hl := hl.below (below_box (bxT fA fn fc fB fm fd))
    replace hs := hs.below (below_box (bxT fA fn fc fB fm fd))
    replace S0 := halloc S0 (bxT fA fn fc fB fm fd)
    replace E0 := halloc E0 (bxT fA fn fc fB fm fd)
    replace fl := fl.below (below_box (bxT fA fn fc fB fm fd))
    replace fs := fs.below (below_box (bxT fA fn fc fB fm fd))
    replace D := below_alloc0 D (bxT fA fn fc fB fm fd)
    obtain ⟨s0, s1, sz⟩ := cellsT S0
    obtain ⟨e0, e1, e2, e3, e4, e5, e6, e7, ez⟩ := cellsEv k u o i a p q t E0
    obtain ⟨f0, f1, fz⟩ := cellsT F0
    go_wp2_with fail
    with_reducible refine (SameT_is n c A rE m d B rS fn fc fA rE fm fd fB rS _ hl hs fl fs true (Lib.hid (decide_eq_true rfl))).mono ?_
    rintro e w5 ⟨rfl, b5⟩
    replace hl := hl.below b5
    replace hs := hs.below b5
    replace S0 := hcall S0 b5
    replace E0 := hcall E0 b5
    replace fl := fl.below b5
    replace fs := fs.below b5
    replace F0 := hcall F0 b5
    replace D := below_call D b5
    clear b5 s0 s1 sz e0 e1 e2 e3 e4 e5 e6 e7 ez f0 f1 fz
    go_wp2_with fail
    with_reducible refine (live15 _).mono ?_
    rintro e w6 ⟨rfl, b6⟩
    replace hl := hl.below b6
    replace hs := hs.below b6
    replace S0 := hcall S0 b6
    replace E0 := hcall E0 b6
    replace fl := fl.below b6
    replace fs := fs.below b6
    replace F0 := hcall F0 b6
    replace D := below_call D b6
    clear b6
    go_wp2
    go_ret
    exact ⟨rfl, D⟩
  subst her
  have hrm := applyT_may H2.out hap
  have hbl := blocks_plain H2.out hap (by simp only; omega)
  simp only at hbl
  have HRM := Lib.hid hrm
  obtain ⟨szE, szS, hln⟩ := hsz
  obtain ⟨va, vb, ve, vt, x, hvx⟩ : ∃ va vb ve vt x, valT (rE, rS) u o = ((va, vb, ve, vt), x) := ⟨_, _, _, _, _, rfl⟩
  obtain ⟨ya, yb, ye, yt, y, hvy⟩ : ∃ va vb ve vt x, valT (rE, rS) o u = ((va, vb, ve, vt), x) := ⟨_, _, _, _, _, rfl⟩
  rw [hvx, hvy] at hbl
  simp only at hbl
  have HVX := Lib.hid hvx
  have HVY := Lib.hid hvy
  obtain ⟨b4, hb4⟩ : ∃ b, (k != 4) = b := ⟨_, rfl⟩
  obtain ⟨b3, hb3⟩ : ∃ b, (k != 3) = b := ⟨_, rfl⟩
  have hbb : ((b4 && x) || (b3 && y)) = false := by
    rw [← hb4, ← hb3]
    rw [Bool.or_eq_false_iff, Bool.and_eq_false_iff, Bool.and_eq_false_iff]
    constructor
    · by_cases h4 : k = 4
      · exact .inl (by simp [h4])
      · exact .inr (hbl.1 h4)
    · by_cases h3 : k = 3
      · exact .inl (by simp [h3])
      · exact .inr (hbl.2 h3)
  obtain ⟨tb, htb⟩ : ∃ r, tabT (rE, rS) u = r := ⟨_, rfl⟩
  have HTB := Lib.hid htb
  have HGT : Hid (getT tb o = ((va, vb, ve, vt), x)) := by
    show _ = _
    rw [← htb, tabT_get hrm, hvx]
  obtain ⟨ws, hws⟩ : ∃ r, watT (rE, rS) o = r := ⟨_, rfl⟩
  have HWS := Lib.hid hws
  have HWX : Hid (u ∈ ws → x = true) := fun hh => by
    rw [← hws, watT_mem hrm, hvx] at hh
    exact hh
  have hwl : ws.length ≤ 9223372036854775807 ∨ True := .inr trivial
  clear hap hrm hbl hvx hvy htb hws zn zm hwl
  obtain ⟨s0, s1, sz⟩ := cellsT S0
  obtain ⟨e0, e1, e2, e3, e4, e5, e6, e7, ez⟩ := cellsEv k u o i a p q t E0
  go_enter Tryz.func8, Tryz.ntmps8
  go_wp2_with fail
  with_reducible refine (FewT_is n c A l m d B s _ hl hs hz hy true H1).mono ?_
  rintro e w1 ⟨rfl, b1⟩
  replace hl := hl.below b1
  replace hs := hs.below b1
  replace S0 := hcall S0 b1
  replace E0 := hcall E0 b1
  replace D := below_call D b1
  clear b1 s0 s1 sz e0 e1 e2 e3 e4 e5 e6 e7 ez
  obtain ⟨s0, s1, sz⟩ := cellsT S0
  obtain ⟨e0, e1, e2, e3, e4, e5, e6, e7, ez⟩ := cellsEv k u o i a p q t E0
  go_wp2_with fail
  with_reducible refine (refMayT_is n c A l m d B s _ hl hs zl zs hn1 true H2).mono ?_
  rintro e w2 ⟨rfl, b2⟩
  replace hl := hl.below b2
  replace hs := hs.below b2
  replace S0 := hcall S0 b2
  replace E0 := hcall E0 b2
  replace D := below_call D b2
  clear b2 s0 s1 sz e0 e1 e2 e3 e4 e5 e6 e7 ez
  obtain ⟨s0, s1, sz⟩ := cellsT S0
  obtain ⟨e0, e1, e2, e3, e4, e5, e6, e7, ez⟩ := cellsEv k u o i a p q t E0
  go_wp2_with fail
  with_reducible refine (Short_is k u o i a p q t true _ hq.1 hq.2.1 hq.2.2 H3).mono ?_
  rintro e w3 ⟨rfl, b3⟩
  replace hl := hl.below b3
  replace hs := hs.below b3
  replace S0 := hcall S0 b3
  replace E0 := hcall E0 b3
  replace D := below_call D b3
  clear b3 s0 s1 sz e0 e1 e2 e3 e4 e5 e6 e7 ez
  obtain ⟨s0, s1, sz⟩ := cellsT S0
  obtain ⟨e0, e1, e2, e3, e4, e5, e6, e7, ez⟩ := cellsEv k u o i a p q t E0
  go_wp2_with fail
  refine (ApplyT_is n c A l m d B s _ hl hs zl zs hn k u o i a p q t hu ho ht 0 (rE, rS) HAP).mono ?_
  rintro e w4 ⟨fA, fn, fc, fB, fm, fd, rfl, fl, fs, b4, -, -⟩
  replace hl := hl.below b4
  replace hs := hs.below b4
  replace S0 := hcall S0 b4
  replace E0 := hcall E0 b4
  replace D := below_call D b4
  clear b4 s0 s1 sz e0 e1 e2 e3 e4 e5 e6 e7 ez
  have F0 := heap_alloc_new w4 (bxT fA fn fc fB fm fd)
  replace hl := hl.below (below_box (bxT fA fn fc fB fm fd))
  replace hs := hs.below (below_box (bxT fA fn fc fB fm fd))
  replace S0 := halloc S0 (bxT fA fn fc fB fm fd)
  replace E0 := halloc E0 (bxT fA fn fc fB fm fd)
  replace fl := fl.below (below_box (bxT fA fn fc fB fm fd))
  replace fs := fs.below (below_box (bxT fA fn fc fB fm fd))
  replace D := below_alloc0 D (bxT fA fn fc fB fm fd)
  have hfn1 : fn ≤ 100000 := by have h9 : fn = rE.length := fl.len_eq; have := EA.out; omega
  have hfm1 : fm ≤ 100000 := by have h9 := fs.len_eq; have h8 := (mayT_and.1 HRM.out).2; have h7 := ((maySe_iff _).1 h8).1; simp only at h9 h7; omega
  obtain ⟨e0, e1, e2, e3, e4, e5, e6, e7, ez⟩ := cellsEv k u o i a p q t E0
  obtain ⟨f0, f1, fz⟩ := cellsT F0
  go_wp2_with fail
  with_reducible refine (vValue_is fn fc fA rE fm fd fB rS _ fl fs szE szS hfn1 hfm1 u o va vb ve vt x HVX).mono ?_
  rintro e w5 ⟨rfl, b5⟩
  replace hl := hl.below b5
  replace hs := hs.below b5
  replace S0 := hcall S0 b5
  replace E0 := hcall E0 b5
  replace fl := fl.below b5
  replace fs := fs.below b5
  replace F0 := hcall F0 b5
  replace D := below_call D b5
  clear b5 e0 e1 e2 e3 e4 e5 e6 e7 ez f0 f1 fz
  replace hl := hl.below (below_box (bxPv va vb ve vt))
  replace hs := hs.below (below_box (bxPv va vb ve vt))
  replace S0 := halloc S0 (bxPv va vb ve vt)
  replace E0 := halloc E0 (bxPv va vb ve vt)
  replace fl := fl.below (below_box (bxPv va vb ve vt))
  replace fs := fs.below (below_box (bxPv va vb ve vt))
  replace F0 := halloc F0 (bxPv va vb ve vt)
  replace D := below_alloc0 D (bxPv va vb ve vt)
  obtain ⟨e0, e1, e2, e3, e4, e5, e6, e7, ez⟩ := cellsEv k u o i a p q t E0
  obtain ⟨f0, f1, fz⟩ := cellsT F0
  go_wp2_with fail
  with_reducible refine (vValue_is fn fc fA rE fm fd fB rS _ fl fs szE szS hfn1 hfm1 o u ya yb ye yt y HVY).mono ?_
  rintro e w6 ⟨rfl, b6⟩
  replace hl := hl.below b6
  replace hs := hs.below b6
  replace S0 := hcall S0 b6
  replace E0 := hcall E0 b6
  replace fl := fl.below b6
  replace fs := fs.below b6
  replace F0 := hcall F0 b6
  replace D := below_call D b6
  clear b6 e0 e1 e2 e3 e4 e5 e6 e7 ez f0 f1 fz
  replace hl := hl.below (below_box (bxPv ya yb ye yt))
  replace hs := hs.below (below_box (bxPv ya yb ye yt))
  replace S0 := halloc S0 (bxPv ya yb ye yt)
  replace E0 := halloc E0 (bxPv ya yb ye yt)
  replace fl := fl.below (below_box (bxPv ya yb ye yt))
  replace fs := fs.below (below_box (bxPv ya yb ye yt))
  replace F0 := halloc F0 (bxPv ya yb ye yt)
  replace D := below_alloc0 D (bxPv ya yb ye yt)
  obtain ⟨e0, e1, e2, e3, e4, e5, e6, e7, ez⟩ := cellsEv k u o i a p q t E0
  obtain ⟨f0, f1, fz⟩ := cellsT F0
  cases b4 <;> cases b3 <;> cases x <;> cases y
  all_goals first
    | (exfalso; simp at hbb; done)
    | skip
  all_goals
    go_wp2_with fail
  all_goals
    have kf0 := f0
    have kf1 := f1
    have ke1 := e1
    have ke2 := e2
    clear e0 e1 e2 e3 e4 e5 e6 e7 ez f0 f1 fz
    have D2 : Below (w6.alloc (bxPv ya yb ye yt)).heap.size (w6.alloc (bxPv ya yb ye yt)) (w6.alloc (bxPv ya yb ye yt)).drew := (Below.refl _ _).drew
    have f0 := cell_below D2 kf0
    have f1 := cell_below D2 kf1
    have e1 := cell_below D2 ke1
    have e2 := cell_below D2 ke2
    refine Held.start (ops := opsvgb) (S := fun w' => w'.cell? ⟨w4.heap.size, 0, none⟩ = some (.slice fA fn fc) ∧ w'.cell? ⟨w4.heap.size, 1, none⟩ = some (.slice fB fm fd) ∧ w'.cell? ⟨w.heap.size + 1, 1, none⟩ = some (.string u) ∧ w'.cell? ⟨w.heap.size + 1, 2, none⟩ = some (.string o)) ordvgb0 13 (by kernel_rfl) rgordvgb0.siz (by kernel_rfl) ⟨f0, f1, e1, e2⟩ (fun hHeld => ?_)
    iterate 5
      refine Held.tw rgordvgb0 ?_
      try simp only [Act.put, zA, zB, zC, zD, zE, zF]
    refine Held.two (o := ordvgb0) (o1 := ordvgb0) (o2 := ordvgb1) (k := 5) (i := 3) (j := 10) (by kernel_rfl) (by kernel_rfl) (by kernel_rfl) rfl rfl (by kernel_rfl) (by kernel_rfl) (fun K hK => ?_) (fun K hK => ?_)
    · go_simp
      go_at_call 22
      with_reducible refine (vOf_is fn fc fA rE fm fd fB rS _ (fl.below D2) (fs.below D2) szE szS hfn1 hfm1 u tb HTB).mono ?_
      rintro e y3 ⟨q1, rfl, r1, hbx⟩
      obtain ⟨Q1, qc1, rfl⟩ := form_Sn r1
      replace D2 := below_call D2 hbx
      clear hbx
      clear f0 f1 e1 e2
      have f0 := cell_below D2 kf0
      have f1 := cell_below D2 kf1
      have e1 := cell_below D2 ke1
      have e2 := cell_below D2 ke2
      refine hK.out _ _ (by (try dsimp only); (exact ⟨f0, f1, e1, e2⟩)) (fun hHeld => ?_)
      clear hK K
      try simp only [Act.put, zA, zB, zC, zD, zE, zF]
      refine Held.two (o := ordvgb0) (o1 := ordvgb0) (o2 := ordvgb2) (k := 6) (i := 6) (j := 10) (by kernel_rfl) (by kernel_rfl) (by kernel_rfl) rfl rfl (by kernel_rfl) (by kernel_rfl) (fun K hK => ?_) (fun K hK => ?_)
      · go_simp
        go_at_call 31
        with_reducible refine (vGet_is _ qc1 Q1 tb o _ va vb ve vt _ r1 HGT).mono ?_
        rintro e y6 ⟨rfl, hbx⟩
        replace D2 := below_call D2 hbx
        replace r1 := r1.below hbx
        clear hbx
        clear f0 f1 e1 e2
        have f0 := cell_below D2 kf0
        have f1 := cell_below D2 kf1
        have e1 := cell_below D2 ke1
        have e2 := cell_below D2 ke2
        refine hK.out _ _ (by (try dsimp only); (exact ⟨f0, f1, e1, e2⟩)) (fun hHeld => ?_)
        clear hK K
        try simp only [Act.put, zA, zB, zC, zD, zE, zF]
        iterate 3
          refine Held.tw rgordvgb0 ?_
          try simp only [Act.put, zA, zB, zC, zD, zE, zF]
        refine Held.only (k := 10) (i := 10) (show Region.ready .any opsvgb (Held.lst 13 ordvgb0 10) = [10] by kernel_rfl) (by kernel_rfl) rfl (by kernel_rfl) (fun K hK => ?_)
        go_simp
        have D2y := below_alloc0 D2 (bxPv va vb ve vt)
        replace D2 := below_alloc0 D2 (bxPv 0 0 0 ⟨#[]⟩)
        clear f0 f1 e1 e2
        have f0 := cell_below D2 kf0
        have f1 := cell_below D2 kf1
        have e1 := cell_below D2 ke1
        have e2 := cell_below D2 ke2
        refine hK.out _ _ (by (try dsimp only); (exact ⟨f0, f1, e1, e2⟩)) (fun hHeld => ?_)
        clear hK K
        try simp only [Act.put, zA, zB, zC, zD, zE, zF]
        refine Held.only (k := 11) (i := 11) (show Region.ready .any opsvgb (Held.lst 13 ordvgb0 11) = [11] by kernel_rfl) (by kernel_rfl) rfl (by kernel_rfl) (fun K hK => ?_)
        go_simp
        replace D2 := D2y
        clear f0 f1 e1 e2
        have f0 := cell_below D2 kf0
        have f1 := cell_below D2 kf1
        have e1 := cell_below D2 ke1
        have e2 := cell_below D2 ke2
        refine hK.out _ _ (by (try dsimp only); (exact ⟨f0, f1, e1, e2⟩)) (fun hHeld => ?_)
        clear hK K
        try simp only [Act.put, zA, zB, zC, zD, zE, zF]
        iterate 1
          refine Held.tw rgordvgb0 ?_
          try simp only [Act.put, zA, zB, zC, zD, zE, zF]
        refine wpAnyH_done (by kernel_rfl) ?_ _
        clear f0 f1 e1 e2
        obtain ⟨W5, hW5, D3⟩ : ∃ W5 : World, W5 = W5 ∧ Below w.heap.size w W5 := ⟨_, rfl, below_call D D2⟩
        clear W5 hW5 D3
        have f0 := cell_below D2 kf0
        have f1 := cell_below D2 kf1
        go_wp2_with fail
        with_reducible refine (vWatch_is fn fc fA rE fm fd fB rS _ (fl.below D2) (fs.below D2) szE szS hfn1 hfm1 o ws HWS).mono ?_
        rintro e W6 ⟨v, rfl, rw_, b6⟩
        obtain ⟨wA, wc, rfl⟩ := form_S15 rw_
        replace D2 := below_call D2 b6
        clear b6 f0 f1
        obtain ⟨wn, hwn⟩ : ∃ wn, ws.length = wn := ⟨_, rfl⟩
        have hw63 : wn ≤ 9223372036854775807 := by rw [← hwn]; exact rw_.len
        have HWN := Lib.hid hwn
        rw [hwn] at rw_
        try rw [hwn]
        clear hwn
        have D4 := below_call D D2
        have e1 := cell_below D2 ke1
        go_wp2_with fail
        go_loopw [14] (fun v14 wr => ∃ (j : Nat), v14 = .int .i64 j ∧ j ≤ wn ∧ Below W6.heap.size W6 wr) (fun v14 _ => (wn - intOf v14).toNat)
        case atStart => exact ⟨0, rfl, Nat.zero_le _, Below.refl _ _⟩
        case round =>
          obtain ⟨j, rfl, hj, D6⟩ := hrel
          by_cases hlt : j < wn
          · have hjl : j < ws.length := by have := HWN.out; omega
            obtain ⟨z, hz9⟩ : ∃ z, ws[j] = z := ⟨_, rfl⟩
            obtain ⟨ad, rfl, cz⟩ := (rw_.below D6).get1 (f := Value.string) j hjl
            rw [hz9] at cz
            have ce := cell_below D6 e1
            have x3 : (0 : Int) ≤ (j : Int) := by omega
            have x4 : (j : Int) < (wn : Int) := by omega
            have D7 : Below W6.heap.size W6 wr.drew := D6.drew
            by_cases hzu : z = u
            · have hx9 := HWX.out (by rw [← hzu, ← hz9]; exact List.getElem_mem _)
              have hE : (z.toList == u.toList) = true := by rw [hzu]; exact beq_self_eq_true _
              first
                | (exact absurd hx9 (by decide))
                | skip
              all_goals
                clear hz9 hzu hx9
                go_wp2_with fail
                replace cz : wr.drew.cell? _ = _ := cz
                replace ce : wr.drew.cell? _ = _ := ce
                refine Held.start (ops := opsvgc) (S := fun w' => w'.cell? (ad.add j) = some (.string z) ∧ w'.cell? ⟨w.heap.size + 1, 1, none⟩ = some (.string u)) ordvgc 11 (by kernel_rfl) rgvgc.siz (by kernel_rfl) ⟨cz, ce⟩ (fun hHeld => ?_)
                iterate 11
                  refine Held.tw rgvgc ?_
                  try simp only [Act.put, zA, zB, zC, zD, zE, zF]
                refine wpAnyH_done (by kernel_rfl) ?_ _
                go_wp2
                exact ⟨⟨j + 1, by go_num, by omega, D7⟩, by simp [intOf]; omega⟩
            · have hE : (z.toList == u.toList) = false := by rw [beq_eq_false_iff_ne]; exact fun e9 => hzu (toList_inj'.1 e9)
              clear hz9 hzu
              go_wp2_with fail
              replace cz : wr.drew.cell? _ = _ := cz
              replace ce : wr.drew.cell? _ = _ := ce
              refine Held.start (ops := opsvgc) (S := fun w' => w'.cell? (ad.add j) = some (.string z) ∧ w'.cell? ⟨w.heap.size + 1, 1, none⟩ = some (.string u)) ordvgc 11 (by kernel_rfl) rgvgc.siz (by kernel_rfl) ⟨cz, ce⟩ (fun hHeld => ?_)
              iterate 8
                refine Held.tw rgvgc ?_
                try simp only [Act.put, zA, zB, zC, zD, zE, zF]
              iterate 2
                refine Held.tu rgvgc ?_
                try simp only [Act.put, zA, zB, zC, zD, zE, zF]
              iterate 1
                refine Held.tw rgvgc ?_
                try simp only [Act.put, zA, zB, zC, zD, zE, zF]
              refine wpAnyH_done (by kernel_rfl) ?_ _
              go_wp2
              exact ⟨⟨j + 1, by go_num, by omega, D7⟩, by simp [intOf]; omega⟩
          · have hjn : j = wn := by omega
            have D8 := below_call D4 D6
            clear hlt
            subst hjn
            go_wp2_with fail
            with_reducible refine (live15 _).mono ?_
            rintro e z9 ⟨rfl, b9⟩
            replace D8 := below_call D8 b9
            go_wp2
            go_ret
            exact ⟨rfl, D8⟩
      · go_simp
        have Y1 : (y3.alloc (bxPv 0 0 0 ⟨#[]⟩)).heap[y3.heap.size]? = some (bxPv 0 0 0 ⟨#[]⟩) := heap_alloc_new y3 (bxPv 0 0 0 ⟨#[]⟩)
        have hcz : (w6.alloc (bxPv ya yb ye yt)).heap.size ≤ y3.heap.size := D2.size
        replace D2 : Below (w6.alloc (bxPv ya yb ye yt)).heap.size (w6.alloc (bxPv ya yb ye yt)) (y3.alloc (bxPv 0 0 0 ⟨#[]⟩)) := below_alloc0 D2 (bxPv 0 0 0 ⟨#[]⟩)
        replace r1 := r1.below (below_box (bxPv 0 0 0 ⟨#[]⟩))
        clear f0 f1 e1 e2
        have f0 := cell_below D2 kf0
        have f1 := cell_below D2 kf1
        have e1 := cell_below D2 ke1
        have e2 := cell_below D2 ke2
        refine hK.out _ _ (by (try dsimp only); (exact ⟨f0, f1, e1, e2⟩)) (fun hHeld => ?_)
        clear hK K
        try simp only [Act.put, zA, zB, zC, zD, zE, zF]
        refine Held.only (k := 7) (i := 6) (show Region.ready .any opsvgb (Held.lst 13 ordvgb2 7) = [6] by kernel_rfl) (by kernel_rfl) rfl (by kernel_rfl) (fun K hK => ?_)
        go_simp
        go_at_call 31
        with_reducible refine (vGet_is _ qc1 Q1 tb o _ va vb ve vt _ r1 HGT).mono ?_
        rintro e y6 ⟨rfl, hbx⟩
        have Y1 := hcall Y1 hbx
        replace D2 := below_call D2 hbx
        replace r1 := r1.below hbx
        clear hbx
        clear f0 f1 e1 e2
        have f0 := cell_below D2 kf0
        have f1 := cell_below D2 kf1
        have e1 := cell_below D2 ke1
        have e2 := cell_below D2 ke2
        refine hK.out _ _ (by (try dsimp only); (exact ⟨f0, f1, e1, e2⟩)) (fun hHeld => ?_)
        clear hK K
        try simp only [Act.put, zA, zB, zC, zD, zE, zF]
        iterate 3
          refine Held.tw rgordvgb2 ?_
          try simp only [Act.put, zA, zB, zC, zD, zE, zF]
        refine Held.only (k := 11) (i := 11) (show Region.ready .any opsvgb (Held.lst 13 ordvgb2 11) = [11] by kernel_rfl) (by kernel_rfl) rfl (by kernel_rfl) (fun K hK => ?_)
        obtain ⟨y0, y1, y2, y3_, yz⟩ := cellsPv Y1
        have yfr := frozenG Y1
        go_simp
        clear y0 y1 y2 y3_ yz yfr
        replace D2 := below4 D2 hcz (.int .i64 va) (.int .i64 vb) (.int .i64 ve) (.string vt)
        clear hcz
        clear f0 f1 e1 e2
        have f0 := cell_below D2 kf0
        have f1 := cell_below D2 kf1
        have e1 := cell_below D2 ke1
        have e2 := cell_below D2 ke2
        refine hK.out _ _ (by (try dsimp only); (exact ⟨f0, f1, e1, e2⟩)) (fun hHeld => ?_)
        clear hK K
        try simp only [Act.put, zA, zB, zC, zD, zE, zF]
        iterate 1
          refine Held.tw rgordvgb2 ?_
          try simp only [Act.put, zA, zB, zC, zD, zE, zF]
        refine wpAnyH_done (by kernel_rfl) ?_ _
        clear f0 f1 e1 e2
        obtain ⟨W5, hW5, D3⟩ : ∃ W5 : World, W5 = W5 ∧ Below w.heap.size w W5 := ⟨_, rfl, below_call D D2⟩
        clear W5 hW5 D3
        have f0 := cell_below D2 kf0
        have f1 := cell_below D2 kf1
        go_wp2_with fail
        with_reducible refine (vWatch_is fn fc fA rE fm fd fB rS _ (fl.below D2) (fs.below D2) szE szS hfn1 hfm1 o ws HWS).mono ?_
        rintro e W6 ⟨v, rfl, rw_, b6⟩
        obtain ⟨wA, wc, rfl⟩ := form_S15 rw_
        replace D2 := below_call D2 b6
        clear b6 f0 f1
        obtain ⟨wn, hwn⟩ : ∃ wn, ws.length = wn := ⟨_, rfl⟩
        have hw63 : wn ≤ 9223372036854775807 := by rw [← hwn]; exact rw_.len
        have HWN := Lib.hid hwn
        rw [hwn] at rw_
        try rw [hwn]
        clear hwn
        have D4 := below_call D D2
        have e1 := cell_below D2 ke1
        go_wp2_with fail
        go_loopw [14] (fun v14 wr => ∃ (j : Nat), v14 = .int .i64 j ∧ j ≤ wn ∧ Below W6.heap.size W6 wr) (fun v14 _ => (wn - intOf v14).toNat)
        case atStart => exact ⟨0, rfl, Nat.zero_le _, Below.refl _ _⟩
        case round =>
          obtain ⟨j, rfl, hj, D6⟩ := hrel
          by_cases hlt : j < wn
          · have hjl : j < ws.length := by have := HWN.out; omega
            obtain ⟨z, hz9⟩ : ∃ z, ws[j] = z := ⟨_, rfl⟩
            obtain ⟨ad, rfl, cz⟩ := (rw_.below D6).get1 (f := Value.string) j hjl
            rw [hz9] at cz
            have ce := cell_below D6 e1
            have x3 : (0 : Int) ≤ (j : Int) := by omega
            have x4 : (j : Int) < (wn : Int) := by omega
            have D7 : Below W6.heap.size W6 wr.drew := D6.drew
            by_cases hzu : z = u
            · have hx9 := HWX.out (by rw [← hzu, ← hz9]; exact List.getElem_mem _)
              have hE : (z.toList == u.toList) = true := by rw [hzu]; exact beq_self_eq_true _
              first
                | (exact absurd hx9 (by decide))
                | skip
              all_goals
                clear hz9 hzu hx9
                go_wp2_with fail
                replace cz : wr.drew.cell? _ = _ := cz
                replace ce : wr.drew.cell? _ = _ := ce
                refine Held.start (ops := opsvgc) (S := fun w' => w'.cell? (ad.add j) = some (.string z) ∧ w'.cell? ⟨w.heap.size + 1, 1, none⟩ = some (.string u)) ordvgc 11 (by kernel_rfl) rgvgc.siz (by kernel_rfl) ⟨cz, ce⟩ (fun hHeld => ?_)
                iterate 11
                  refine Held.tw rgvgc ?_
                  try simp only [Act.put, zA, zB, zC, zD, zE, zF]
                refine wpAnyH_done (by kernel_rfl) ?_ _
                go_wp2
                exact ⟨⟨j + 1, by go_num, by omega, D7⟩, by simp [intOf]; omega⟩
            · have hE : (z.toList == u.toList) = false := by rw [beq_eq_false_iff_ne]; exact fun e9 => hzu (toList_inj'.1 e9)
              clear hz9 hzu
              go_wp2_with fail
              replace cz : wr.drew.cell? _ = _ := cz
              replace ce : wr.drew.cell? _ = _ := ce
              refine Held.start (ops := opsvgc) (S := fun w' => w'.cell? (ad.add j) = some (.string z) ∧ w'.cell? ⟨w.heap.size + 1, 1, none⟩ = some (.string u)) ordvgc 11 (by kernel_rfl) rgvgc.siz (by kernel_rfl) ⟨cz, ce⟩ (fun hHeld => ?_)
              iterate 8
                refine Held.tw rgvgc ?_
                try simp only [Act.put, zA, zB, zC, zD, zE, zF]
              iterate 2
                refine Held.tu rgvgc ?_
                try simp only [Act.put, zA, zB, zC, zD, zE, zF]
              iterate 1
                refine Held.tw rgvgc ?_
                try simp only [Act.put, zA, zB, zC, zD, zE, zF]
              refine wpAnyH_done (by kernel_rfl) ?_ _
              go_wp2
              exact ⟨⟨j + 1, by go_num, by omega, D7⟩, by simp [intOf]; omega⟩
          · have hjn : j = wn := by omega
            have D8 := below_call D4 D6
            clear hlt
            subst hjn
            go_wp2_with fail
            with_reducible refine (live15 _).mono ?_
            rintro e z9 ⟨rfl, b9⟩
            replace D8 := below_call D8 b9
            go_wp2
            go_ret
            exact ⟨rfl, D8⟩
    · go_simp
      have Y1 : ((w6.alloc (bxPv ya yb ye yt)).alloc (bxPv 0 0 0 ⟨#[]⟩)).drew.heap[w6.heap.size + 1]? = some (bxPv 0 0 0 ⟨#[]⟩) := (by have h9 := heap_alloc_new (w6.alloc (bxPv ya yb ye yt)) (bxPv 0 0 0 ⟨#[]⟩); rw [size_alloc] at h9; exact h9)
      have hcz : (w6.alloc (bxPv ya yb ye yt)).heap.size ≤ w6.heap.size + 1 := (by rw [size_alloc]; exact Nat.le_refl _)
      replace D2 : Below (w6.alloc (bxPv ya yb ye yt)).heap.size (w6.alloc (bxPv ya yb ye yt)) ((w6.alloc (bxPv ya yb ye yt)).alloc (bxPv 0 0 0 ⟨#[]⟩)).drew := (below_box (w := (w6.alloc (bxPv ya yb ye yt))) (bxPv 0 0 0 ⟨#[]⟩)).drew
      clear f0 f1 e1 e2
      have f0 := cell_below D2 kf0
      have f1 := cell_below D2 kf1
      have e1 := cell_below D2 ke1
      have e2 := cell_below D2 ke2
      refine hK.out _ _ (by (try dsimp only); (exact ⟨f0, f1, e1, e2⟩)) (fun hHeld => ?_)
      clear hK K
      try simp only [Act.put, zA, zB, zC, zD, zE, zF]
      refine Held.only (k := 6) (i := 3) (show Region.ready .any opsvgb (Held.lst 13 ordvgb1 6) = [3] by kernel_rfl) (by kernel_rfl) rfl (by kernel_rfl) (fun K hK => ?_)
      go_simp
      go_at_call 22
      with_reducible refine (vOf_is fn fc fA rE fm fd fB rS _ (fl.below D2) (fs.below D2) szE szS hfn1 hfm1 u tb HTB).mono ?_
      rintro e y3 ⟨q1, rfl, r1, hbx⟩
      obtain ⟨Q1, qc1, rfl⟩ := form_Sn r1
      have Y1 := hcall Y1 hbx
      replace D2 := below_call D2 hbx
      clear hbx
      clear f0 f1 e1 e2
      have f0 := cell_below D2 kf0
      have f1 := cell_below D2 kf1
      have e1 := cell_below D2 ke1
      have e2 := cell_below D2 ke2
      refine hK.out _ _ (by (try dsimp only); (exact ⟨f0, f1, e1, e2⟩)) (fun hHeld => ?_)
      clear hK K
      try simp only [Act.put, zA, zB, zC, zD, zE, zF]
      refine Held.only (k := 7) (i := 6) (show Region.ready .any opsvgb (Held.lst 13 ordvgb1 7) = [6] by kernel_rfl) (by kernel_rfl) rfl (by kernel_rfl) (fun K hK => ?_)
      go_simp
      go_at_call 31
      with_reducible refine (vGet_is _ qc1 Q1 tb o _ va vb ve vt _ r1 HGT).mono ?_
      rintro e y6 ⟨rfl, hbx⟩
      have Y1 := hcall Y1 hbx
      replace D2 := below_call D2 hbx
      replace r1 := r1.below hbx
      clear hbx
      clear f0 f1 e1 e2
      have f0 := cell_below D2 kf0
      have f1 := cell_below D2 kf1
      have e1 := cell_below D2 ke1
      have e2 := cell_below D2 ke2
      refine hK.out _ _ (by (try dsimp only); (exact ⟨f0, f1, e1, e2⟩)) (fun hHeld => ?_)
      clear hK K
      try simp only [Act.put, zA, zB, zC, zD, zE, zF]
      iterate 3
        refine Held.tw rgordvgb1 ?_
        try simp only [Act.put, zA, zB, zC, zD, zE, zF]
      refine Held.only (k := 11) (i := 11) (show Region.ready .any opsvgb (Held.lst 13 ordvgb1 11) = [11] by kernel_rfl) (by kernel_rfl) rfl (by kernel_rfl) (fun K hK => ?_)
      obtain ⟨y0, y1, y2, y3_, yz⟩ := cellsPv Y1
      have yfr := frozenG Y1
      go_simp
      clear y0 y1 y2 y3_ yz yfr
      replace D2 := below4 D2 hcz (.int .i64 va) (.int .i64 vb) (.int .i64 ve) (.string vt)
      clear hcz
      clear f0 f1 e1 e2
      have f0 := cell_below D2 kf0
      have f1 := cell_below D2 kf1
      have e1 := cell_below D2 ke1
      have e2 := cell_below D2 ke2
      refine hK.out _ _ (by (try dsimp only); (exact ⟨f0, f1, e1, e2⟩)) (fun hHeld => ?_)
      clear hK K
      try simp only [Act.put, zA, zB, zC, zD, zE, zF]
      iterate 1
        refine Held.tw rgordvgb1 ?_
        try simp only [Act.put, zA, zB, zC, zD, zE, zF]
      refine wpAnyH_done (by kernel_rfl) ?_ _
      clear f0 f1 e1 e2
      obtain ⟨W5, hW5, D3⟩ : ∃ W5 : World, W5 = W5 ∧ Below w.heap.size w W5 := ⟨_, rfl, below_call D D2⟩
      clear W5 hW5 D3
      have f0 := cell_below D2 kf0
      have f1 := cell_below D2 kf1
      go_wp2_with fail
      with_reducible refine (vWatch_is fn fc fA rE fm fd fB rS _ (fl.below D2) (fs.below D2) szE szS hfn1 hfm1 o ws HWS).mono ?_
      rintro e W6 ⟨v, rfl, rw_, b6⟩
      obtain ⟨wA, wc, rfl⟩ := form_S15 rw_
      replace D2 := below_call D2 b6
      clear b6 f0 f1
      obtain ⟨wn, hwn⟩ : ∃ wn, ws.length = wn := ⟨_, rfl⟩
      have hw63 : wn ≤ 9223372036854775807 := by rw [← hwn]; exact rw_.len
      have HWN := Lib.hid hwn
      rw [hwn] at rw_
      try rw [hwn]
      clear hwn
      have D4 := below_call D D2
      have e1 := cell_below D2 ke1
      go_wp2_with fail
      go_loopw [14] (fun v14 wr => ∃ (j : Nat), v14 = .int .i64 j ∧ j ≤ wn ∧ Below W6.heap.size W6 wr) (fun v14 _ => (wn - intOf v14).toNat)
      case atStart => exact ⟨0, rfl, Nat.zero_le _, Below.refl _ _⟩
      case round =>
        obtain ⟨j, rfl, hj, D6⟩ := hrel
        by_cases hlt : j < wn
        · have hjl : j < ws.length := by have := HWN.out; omega
          obtain ⟨z, hz9⟩ : ∃ z, ws[j] = z := ⟨_, rfl⟩
          obtain ⟨ad, rfl, cz⟩ := (rw_.below D6).get1 (f := Value.string) j hjl
          rw [hz9] at cz
          have ce := cell_below D6 e1
          have x3 : (0 : Int) ≤ (j : Int) := by omega
          have x4 : (j : Int) < (wn : Int) := by omega
          have D7 : Below W6.heap.size W6 wr.drew := D6.drew
          by_cases hzu : z = u
          · have hx9 := HWX.out (by rw [← hzu, ← hz9]; exact List.getElem_mem _)
            have hE : (z.toList == u.toList) = true := by rw [hzu]; exact beq_self_eq_true _
            first
              | (exact absurd hx9 (by decide))
              | skip
            all_goals
              clear hz9 hzu hx9
              go_wp2_with fail
              replace cz : wr.drew.cell? _ = _ := cz
              replace ce : wr.drew.cell? _ = _ := ce
              refine Held.start (ops := opsvgc) (S := fun w' => w'.cell? (ad.add j) = some (.string z) ∧ w'.cell? ⟨w.heap.size + 1, 1, none⟩ = some (.string u)) ordvgc 11 (by kernel_rfl) rgvgc.siz (by kernel_rfl) ⟨cz, ce⟩ (fun hHeld => ?_)
              iterate 11
                refine Held.tw rgvgc ?_
                try simp only [Act.put, zA, zB, zC, zD, zE, zF]
              refine wpAnyH_done (by kernel_rfl) ?_ _
              go_wp2
              exact ⟨⟨j + 1, by go_num, by omega, D7⟩, by simp [intOf]; omega⟩
          · have hE : (z.toList == u.toList) = false := by rw [beq_eq_false_iff_ne]; exact fun e9 => hzu (toList_inj'.1 e9)
            clear hz9 hzu
            go_wp2_with fail
            replace cz : wr.drew.cell? _ = _ := cz
            replace ce : wr.drew.cell? _ = _ := ce
            refine Held.start (ops := opsvgc) (S := fun w' => w'.cell? (ad.add j) = some (.string z) ∧ w'.cell? ⟨w.heap.size + 1, 1, none⟩ = some (.string u)) ordvgc 11 (by kernel_rfl) rgvgc.siz (by kernel_rfl) ⟨cz, ce⟩ (fun hHeld => ?_)
            iterate 8
              refine Held.tw rgvgc ?_
              try simp only [Act.put, zA, zB, zC, zD, zE, zF]
            iterate 2
              refine Held.tu rgvgc ?_
              try simp only [Act.put, zA, zB, zC, zD, zE, zF]
            iterate 1
              refine Held.tw rgvgc ?_
              try simp only [Act.put, zA, zB, zC, zD, zE, zF]
            refine wpAnyH_done (by kernel_rfl) ?_ _
            go_wp2
            exact ⟨⟨j + 1, by go_num, by omega, D7⟩, by simp [intOf]; omega⟩
        · have hjn : j = wn := by omega
          have D8 := below_call D4 D6
          clear hlt
          subst hjn
          go_wp2_with fail
          with_reducible refine (live15 _).mono ?_
          rintro e z9 ⟨rfl, b9⟩
          replace D8 := below_call D8 b9
          go_wp2
          go_ret
          exact ⟨rfl, D8⟩
end Go.Proofs.YtbpfcjdjhponaaaGreat
