import Derived.Test.YtbpfcjdjhponaaaGreatPViewTouches16
set_option linter.unusedVariables false
set_option linter.unusedSimpArgs false
namespace Go.Proofs.YtbpfcjdjhponaaaGreat
open Go.RowKit
open Sp
theorem joinW {H G : World → Nat → Prop} {R : Prop} (h1 : (∀ W g, H W g → G W g) → R) (h2 : ∀ W g, H W g → G W g) : R := h1 h2
namespace Sp
def mineL (x : ByteArray) (ts : List ByteArray) : Bool := ts.any fun z => x.toList == z.toList
theorem mineL_iff {x : ByteArray} {ts : List ByteArray} : mineL x ts = true ↔ x ∈ ts := by
  unfold mineL
  rw [List.any_eq_true]
  constructor
  · rintro ⟨z, hz, e⟩
    rw [beq_iff_eq, toList_inj'] at e
    exact e ▸ hz
  · exact fun h => ⟨x, h, beq_self_eq_true _⟩
end Sp
theorem mine_step {x z : ByteArray} {ts : List ByteArray} {j : Nat} (hj : j < ts.length) (hz : ts[j] = z) {au : Bool} (h : Hid (au = mineL x (ts.take j))) : Hid ((au || (x.toList == z.toList)) = mineL x (ts.take (j + 1))) := by
  show _ = _
  rw [h.out, List.take_succ_eq_append_getElem hj, hz]
  unfold mineL
  rw [List.any_append]
  simp only [List.any_cons, List.any_nil, Bool.or_false]
theorem form_Ch15 {w : World} {v : Value} {l : List Ch} (h : Row enCh 6 w v l) : ∃ A c, v = .slice A l.length c := by
  obtain ⟨A, c, rfl, -⟩ := h
  exact ⟨A, c, rfl⟩
noncomputable def opsvka : Array Oper := Held.inBody 15 Tryz.f6.body
def ordvka : List Nat := [0, 1, 2, 3, 4, 5, 6, 7, 8, 9, 10, 11, 12, 13]
set_option maxRecDepth 100000 in
theorem rgvka : Held.Reg opsvka ordvka 14 [0, 1, 2, 3, 4, 5, 6, 7, 8, 9, 10, 11, 12, 13] := ⟨by kernel_rfl, by kernel_rfl, by kernel_rfl⟩
noncomputable def opsvkb : Array Oper := Held.inBody 15 Tryz.f6.body
def ordvkb : List Nat := [0, 1, 2, 3, 4, 5, 6, 7, 8, 9, 10, 11, 12, 13]
set_option maxRecDepth 100000 in
theorem rgvkb : Held.Reg opsvkb ordvkb 14 [0, 1, 2, 3, 4, 5, 6, 7, 8, 9, 10, 11, 12, 13] := ⟨by kernel_rfl, by kernel_rfl, by kernel_rfl⟩
noncomputable def opsvkc : Array Oper := Held.inBody 18 Tryz.f6.body
def ordvkc0 : List Nat := [0, 1, 2, 3, 4, 5, 6, 7, 8, 9, 10, 11, 12, 13]
set_option maxRecDepth 100000 in
theorem rgordvkc0 : Held.Reg opsvkc ordvkc0 14 [0, 1, 2, 3, 4, 5, 6, 8, 9, 10, 13] := ⟨by kernel_rfl, by kernel_rfl, by kernel_rfl⟩
def ordvkc1 : List Nat := [0, 1, 2, 3, 4, 5, 6, 11, 7, 8, 9, 10, 12, 13]
set_option maxRecDepth 100000 in
theorem rgordvkc1 : Held.Reg opsvkc ordvkc1 14 [0, 1, 2, 3, 4, 5, 6, 9, 10, 11, 13] := ⟨by kernel_rfl, by kernel_rfl, by kernel_rfl⟩
noncomputable def opsvkd : Array Oper := Held.inBody 19 Tryz.f6.body
def ordvkd0 : List Nat := [0, 1, 2, 3, 4, 5, 6, 7, 8, 9, 10, 11, 12, 13]
set_option maxRecDepth 100000 in
theorem rgordvkd0 : Held.Reg opsvkd ordvkd0 14 [0, 1, 2, 3, 4, 5, 6, 8, 9, 10, 13] := ⟨by kernel_rfl, by kernel_rfl, by kernel_rfl⟩
def ordvkd1 : List Nat := [0, 1, 2, 3, 4, 5, 6, 11, 7, 8, 9, 10, 12, 13]
set_option maxRecDepth 100000 in
theorem rgordvkd1 : Held.Reg opsvkd ordvkd1 14 [0, 1, 2, 3, 4, 5, 6, 9, 10, 11, 13] := ⟨by kernel_rfl, by kernel_rfl, by kernel_rfl⟩
set_option maxHeartbeats 32000000 in
set_option maxRecDepth 100000 in
theorem touches15_walk (n c : Nat) (A : Option Addr) (l : List En) (m d : Nat) (B : Option Addr) (s : List Se) (e : Evt) (pw : ByteArray) (w : World)
    (hl : Row enEn 7 w (.slice A n c) l) (hz : SzE l) (hs : Row enSe 6 w (.slice B m d) s) (hy : SzEs s) (he : OkEv e) :
    Calls Tryz.prog 6 #[agT A n c B m d, vaEv e, .string pw] w fun r w' => r = .returned (.bool true) ∧ Below w.heap.size w w' := by
  obtain ⟨k, u, o, i, ⟨a, p, q, t⟩⟩ := e
  have hq : u.size ≤ 9223372036854775807 ∧ o.size ≤ 9223372036854775807 ∧ t.size ≤ 9223372036854775807 := by simp only [OkEv, maxLen] at he; exact he
  clear he
  have EA := Lib.hid hl.len_eq
  have EM := Lib.hid hs.len_eq
  have D := below_alloc0 (below_box (w := w) (bxT A n c B m d)) (bxEv k u o i a p q t)
  have S0 := halloc (heap_alloc_new w (bxT A n c B m d)) (bxEv k u o i a p q t)
  have E0 := heap_alloc_new (w.alloc (bxT A n c B m d)) (bxEv k u o i a p q t)
  simp only [size_alloc] at E0
  replace hl := hl.below D
  replace hs := hs.below D
  cases h : fewT (l, s) with
  | false =>
    have H1 := Lib.hid h
    clear h
    obtain ⟨s0, s1, sz⟩ := cellsT S0
    obtain ⟨e0, e1, e2, e3, e4, e5, e6, e7, ez⟩ := cellsEv k u o i a p q t E0
    go_enter Tryz.func6, Tryz.ntmps6
    go_wp2_with fail
    with_reducible refine (FewT_is n c A l m d B s _ hl hs hz hy false H1).mono ?_
    rintro e w1 ⟨rfl, b1⟩
    replace hl := hl.below b1
    replace hs := hs.below b1
    replace S0 := hcall S0 b1
    replace E0 := hcall E0 b1
    replace D := below_call D b1
    clear b1 s0 s1 sz e0 e1 e2 e3 e4 e5 e6 e7 ez
    go_wp2_with fail
    with_reducible refine (live15 _).mono ?_
    rintro e w2 ⟨rfl, b2⟩
    replace hl := hl.below b2
    replace hs := hs.below b2
    replace S0 := hcall S0 b2
    replace E0 := hcall E0 b2
    replace D := below_call D b2
    clear b2
    go_wp2
    go_ret
    exact ⟨rfl, D⟩
  | true =>
  obtain ⟨zl, zs, zn, zm⟩ := fewT_sz h
  have H1 := Lib.hid h
  have hn : n ≤ 900 := by have := EA.out; omega
  have hn1 : n ≤ 100000 := by omega
  have hm1 : m ≤ 100000 := by have := EM.out; omega
  clear h
  cases hmy : mayT (l, s) with
  | false =>
    have H2 := Lib.hid hmy
    clear hmy
    obtain ⟨s0, s1, sz⟩ := cellsT S0
    obtain ⟨e0, e1, e2, e3, e4, e5, e6, e7, ez⟩ := cellsEv k u o i a p q t E0
    go_enter Tryz.func6, Tryz.ntmps6
    go_wp2_with fail
    with_reducible refine (FewT_is n c A l m d B s _ hl hs hz hy true H1).mono ?_
    rintro e w1 ⟨rfl, b1⟩
    replace hl := hl.below b1
    replace hs := hs.below b1
    replace S0 := hcall S0 b1
    replace E0 := hcall E0 b1
    replace D := below_call D b1
    clear b1 s0 s1 sz e0 e1 e2 e3 e4 e5 e6 e7 ez
    obtain ⟨s0, s1, sz⟩ := cellsT S0
    obtain ⟨e0, e1, e2, e3, e4, e5, e6, e7, ez⟩ := cellsEv k u o i a p q t E0
    go_wp2_with fail
    with_reducible refine (refMayT_is n c A l m d B s _ hl hs zl zs hn1 false H2).mono ?_
    rintro e w2 ⟨rfl, b2⟩
    replace hl := hl.below b2
    replace hs := hs.below b2
    replace S0 := hcall S0 b2
    replace E0 := hcall E0 b2
    replace D := below_call D b2
    clear b2 s0 s1 sz e0 e1 e2 e3 e4 e5 e6 e7 ez
    go_wp2_with fail
    with_reducible refine (live15 _).mono ?_
    rintro e w3 ⟨rfl, b3⟩
    replace hl := hl.below b3
    replace hs := hs.below b3
    replace S0 := hcall S0 b3
    replace E0 := hcall E0 b3
    replace D := below_call D b3
    clear b3
    go_wp2
    go_ret
    exact ⟨rfl, D⟩
  | true =>
  have H2 := Lib.hid hmy
  clear hmy
  cases h : shortE ⟨k, u, o, i, (a, p, q, t)⟩ with
  | false =>
    have H3 := Lib.hid h
    clear h
    obtain ⟨s0, s1, sz⟩ := cellsT S0
    obtain ⟨e0, e1, e2, e3, e4, e5, e6, e7, ez⟩ := cellsEv k u o i a p q t E0
    go_enter Tryz.func6, Tryz.ntmps6
    go_wp2_with fail
    with_reducible refine (FewT_is n c A l m d B s _ hl hs hz hy true H1).mono ?_
    rintro e w1 ⟨rfl, b1⟩
    replace hl := hl.below b1
    replace hs := hs.below b1
    replace S0 := hcall S0 b1
    replace E0 := hcall E0 b1
    replace D := below_call D b1
    clear b1 s0 s1 sz e0 e1 e2 e3 e4 e5 e6 e7 ez
    obtain ⟨s0, s1, sz⟩ := cellsT S0
    obtain ⟨e0, e1, e2, e3, e4, e5, e6, e7, ez⟩ := cellsEv k u o i a p q t E0
    go_wp2_with fail
    with_reducible refine (refMayT_is n c A l m d B s _ hl hs zl zs hn1 true H2).mono ?_
    rintro e w2 ⟨rfl, b2⟩
    replace hl := hl.below b2
    replace hs := hs.below b2
    replace S0 := hcall S0 b2
    replace E0 := hcall E0 b2
    replace D := below_call D b2
    clear b2 s0 s1 sz e0 e1 e2 e3 e4 e5 e6 e7 ez
    obtain ⟨s0, s1, sz⟩ := cellsT S0
    obtain ⟨e0, e1, e2, e3, e4, e5, e6, e7, ez⟩ := cellsEv k u o i a p q t E0
    go_wp2_with fail
    with_reducible refine (Short_is k u o i a p q t false _ hq.1 hq.2.1 hq.2.2 H3).mono ?_
    rintro e w3 ⟨rfl, b3⟩
    replace hl := hl.below b3
    replace hs := hs.below b3
    replace S0 := hcall S0 b3
    replace E0 := hcall E0 b3
    replace D := below_call D b3
    clear b3 s0 s1 sz e0 e1 e2 e3 e4 e5 e6 e7 ez
    go_wp2_with fail
    with_reducible refine (live15 _).mono ?_
    rintro e w4 ⟨rfl, b4⟩
    replace hl := hl.below b4
    replace hs := hs.below b4
    replace S0 := hcall S0 b4
    replace E0 := hcall E0 b4
    replace D := below_call D b4
    clear b4
    go_wp2
    go_ret
    exact ⟨rfl, D⟩
  | true =>
  obtain ⟨hu, ho, ht⟩ := shortE_sz h
  have H3 := Lib.hid h
  clear h
  by_cases hp4 : (40 : Int) < (pw.size : Int)
  · skip
    obtain ⟨s0, s1, sz⟩ := cellsT S0
    obtain ⟨e0, e1, e2, e3, e4, e5, e6, e7, ez⟩ := cellsEv k u o i a p q t E0
    go_enter Tryz.func6, Tryz.ntmps6
    go_wp2_with fail
    with_reducible refine (FewT_is n c A l m d B s _ hl hs hz hy true H1).mono ?_
    rintro e w1 ⟨rfl, b1⟩
    replace hl := hl.below b1
    replace hs := hs.below b1
    replace S0 := hcall S0 b1
    replace E0 := hcall E0 b1
    replace D := below_call D b1
    clear b1 s0 s1 sz e0 e1 e2 e3 e4 e5 e6 e7 ez
    obtain ⟨s0, s1, sz⟩ := cellsT S0
    obtain ⟨e0, e1, e2, e3, e4, e5, e6, e7, ez⟩ := cellsEv k u o i a p q t E0
    go_wp2_with fail
    with_reducible refine (refMayT_is n c A l m d B s _ hl hs zl zs hn1 true H2).mono ?_
    rintro e w2 ⟨rfl, b2⟩
    replace hl := hl.below b2
    replace hs := hs.below b2
    replace S0 := hcall S0 b2
    replace E0 := hcall E0 b2
    replace D := below_call D b2
    clear b2 s0 s1 sz e0 e1 e2 e3 e4 e5 e6 e7 ez
    obtain ⟨s0, s1, sz⟩ := cellsT S0
    obtain ⟨e0, e1, e2, e3, e4, e5, e6, e7, ez⟩ := cellsEv k u o i a p q t E0
    go_wp2_with fail
    with_reducible refine (Short_is k u o i a p q t true _ hq.1 hq.2.1 hq.2.2 H3).mono ?_
    rintro e w3 ⟨rfl, b3⟩
    replace hl := hl.below b3
    replace hs := hs.below b3
    replace S0 := hcall S0 b3
    replace E0 := hcall E0 b3
    replace D := below_call D b3
    clear b3 s0 s1 sz e0 e1 e2 e3 e4 e5 e6 e7 ez
    obtain ⟨s0, s1, sz⟩ := cellsT S0
    obtain ⟨e0, e1, e2, e3, e4, e5, e6, e7, ez⟩ := cellsEv k u o i a p q t E0
    go_wp2_with fail
    with_reducible refine (live15 _).mono ?_
    rintro e w4 ⟨rfl, b4⟩
    replace hl := hl.below b4
    replace hs := hs.below b4
    replace S0 := hcall S0 b4
    replace E0 := hcall E0 b4
    replace D := below_call D b4
    clear b4 s0 s1 sz e0 e1 e2 e3 e4 e5 e6 e7 ez
    go_wp2
    go_ret
    exact ⟨rfl, D⟩
  obtain ⟨⟨rE, rS⟩, er, hap⟩ : ∃ r e, applyT (l, s) ⟨k, u, o, i, (a, p, q, t)⟩ = (r, e) := ⟨_, _, rfl⟩
  have HAP := Lib.hid hap
  have hsz := applyT_sz hap zl zs hu ho ht
  simp only at hsz
  by_cases her : er = 0
  case neg =>
    have he2 : (er != 0) = true := by simpa using her
    have hrs := applyT_err hap her
    injection hrs with hr1 hr2
    subst hr1 hr2
    clear her hap
    obtain ⟨s0, s1, sz⟩ := cellsT S0
    obtain ⟨e0, e1, e2, e3, e4, e5, e6, e7, ez⟩ := cellsEv k u o i a p q t E0
    go_enter Tryz.func6, Tryz.ntmps6
    go_wp2_with fail
    with_reducible refine (FewT_is n c A rE m d B rS _ hl hs hz hy true H1).mono ?_
    rintro e w1 ⟨rfl, b1⟩
    replace hl := hl.below b1
    replace hs := hs.below b1
    replace S0 := hcall S0 b1
    replace E0 := hcall E0 b1
    replace D := below_call D b1
    clear b1 s0 s1 sz e0 e1 e2 e3 e4 e5 e6 e7 ez
    obtain ⟨s0, s1, sz⟩ := cellsT S0
    obtain ⟨e0, e1, e2, e3, e4, e5, e6, e7, ez⟩ := cellsEv k u o i a p q t E0
    go_wp2_with fail
    with_reducible refine (refMayT_is n c A rE m d B rS _ hl hs zl zs hn1 true H2).mono ?_
    rintro e w2 ⟨rfl, b2⟩
    replace hl := hl.below b2
    replace hs := hs.below b2
    replace S0 := hcall S0 b2
    replace E0 := hcall E0 b2
    replace D := below_call D b2
    clear b2 s0 s1 sz e0 e1 e2 e3 e4 e5 e6 e7 ez
    obtain ⟨s0, s1, sz⟩ := cellsT S0
    obtain ⟨e0, e1, e2, e3, e4, e5, e6, e7, ez⟩ := cellsEv k u o i a p q t E0
    go_wp2_with fail
    with_reducible refine (Short_is k u o i a p q t true _ hq.1 hq.2.1 hq.2.2 H3).mono ?_
    rintro e w3 ⟨rfl, b3⟩
    replace hl := hl.below b3
    replace hs := hs.below b3
    replace S0 := hcall S0 b3
    replace E0 := hcall E0 b3
    replace D := below_call D b3
    clear b3 s0 s1 sz e0 e1 e2 e3 e4 e5 e6 e7 ez
    obtain ⟨s0, s1, sz⟩ := cellsT S0
    obtain ⟨e0, e1, e2, e3, e4, e5, e6, e7, ez⟩ := cellsEv k u o i a p q t E0
    go_wp2_with fail
    refine (ApplyT_is n c A rE m d B rS _ hl hs zl zs hn k u o i a p q t hu ho ht er (rE, rS) HAP).mono ?_
    rintro e w4 ⟨fA, fn, fc, fB, fm, fd, rfl, fl, fs, b4, -, -⟩
    replace hl := hl.below b4
    replace hs := hs.below b4
    replace S0 := hcall S0 b4
    replace E0 := hcall E0 b4
    replace D := below_call D b4
    clear b4 s0 s1 sz e0 e1 e2 e3 e4 e5 e6 e7 ez
    have F0 := heap_alloc_new w4 (bxT fA fn fc fB fm fd)
    replace hl := hl.below (below_box (bxT fA fn fc fB fm fd))
    replace hs := hs.below (below_box (bxT fA fn fc fB fm fd))
    replace S0 := halloc S0 (bxT fA fn fc fB fm fd)
    replace E0 := halloc E0 (bxT fA fn fc fB fm fd)
    replace fl := fl.below (below_box (bxT fA fn fc fB fm fd))
    replace fs := fs.below (below_box (bxT fA fn fc fB fm fd))
    replace D := below_alloc0 D (bxT fA fn fc fB fm fd)
    have hfn1 : fn ≤ 100000 := by have h9 : fn = rE.length := fl.len_eq; have := EA.out; omega
    have hfm1 : fm ≤ 100000 := by have h9 : fm = rS.length := fs.len_eq; have := EM.out; omega
    obtain ⟨s0, s1, sz⟩ := cellsT S0
    obtain ⟨e0, e1, e2, e3, e4, e5, e6, e7, ez⟩ := cellsEv k u o i a p q t E0
    obtain ⟨f0, f1, fz⟩ := cellsT F0
    go_wp2_with fail
    with_reducible refine (vBet_is n c A rE m d B rS fn fc fA rE fm fd fB rS _ hl hs fl fs zl zs zl zs hn1 hm1 hfn1 hfm1 pw [] (Lib.hid (betT_self (rE, rS) pw))).mono ?_
    rintro e w5 ⟨q1, rfl, r1, b5⟩
    replace hl := hl.below b5
    replace hs := hs.below b5
    replace S0 := hcall S0 b5
    replace E0 := hcall E0 b5
    replace fl := fl.below b5
    replace fs := fs.below b5
    replace F0 := hcall F0 b5
    replace D := below_call D b5
    clear b5 s0 s1 sz e0 e1 e2 e3 e4 e5 e6 e7 ez f0 f1 fz
    obtain ⟨Q1, qc1, rfl⟩ := form_Ch15 r1
    rw [List.length_nil] at r1
    try rw [List.length_nil]
    have hz0 : (((0 : Nat) : Int) == 0) = true := rfl
    go_wp2_with fail
    with_reducible refine (live15 _).mono ?_
    rintro e w6 ⟨rfl, b6⟩
    replace hl := hl.below b6
    replace hs := hs.below b6
    replace S0 := hcall S0 b6
    replace E0 := hcall E0 b6
    replace fl := fl.below b6
    replace fs := fs.below b6
    replace F0 := hcall F0 b6
    replace D := below_call D b6
    clear b6
    go_wp2
    go_ret
    exact ⟨rfl, D⟩
  subst her
  have hrm := applyT_may H2.out hap
  have HRM := Lib.hid hrm
  obtain ⟨szE, szS, hln⟩ := hsz
  obtain ⟨bl, hbl⟩ : ∃ r, betT (l, s) (rE, rS) pw = r := ⟨_, rfl⟩
  have HBL := Lib.hid hbl
  obtain ⟨ts, hts⟩ : ∃ r, touchT ⟨k, u, o, i, (a, p, q, t)⟩ = r := ⟨_, rfl⟩
  have HTS := Lib.hid hts
  have hb1 : bl.length ≤ 1 := by rw [← hbl]; exact touch_one H2.out hap pw
  have HROW : Hid (∀ x ∈ bl, x.c ∈ ts ∧ ((valT (l, s) pw x.c).2 || (valT (rE, rS) pw x.c).2) = true ∧ x.on = (valT (rE, rS) pw x.c).2) := fun x hx => by
    rw [← hbl] at hx
    rw [← hts]
    exact touch_row H2.out hap hx
  obtain ⟨bn, hbn⟩ : ∃ k, bl.length = k := ⟨_, rfl⟩
  have HBN := Lib.hid hbn
  rw [hbn] at hb1
  obtain ⟨tn, htn⟩ : ∃ k, ts.length = k := ⟨_, rfl⟩
  have HTN := Lib.hid htn
  clear hap hrm hbl hts hbn htn zn zm
  obtain ⟨s0, s1, sz⟩ := cellsT S0
  obtain ⟨e0, e1, e2, e3, e4, e5, e6, e7, ez⟩ := cellsEv k u o i a p q t E0
  go_enter Tryz.func6, Tryz.ntmps6
  go_wp2_with fail
  with_reducible refine (FewT_is n c A l m d B s _ hl hs hz hy true H1).mono ?_
  rintro e w1 ⟨rfl, b1⟩
  replace hl := hl.below b1
  replace hs := hs.below b1
  replace S0 := hcall S0 b1
  replace E0 := hcall E0 b1
  replace D := below_call D b1
  clear b1 s0 s1 sz e0 e1 e2 e3 e4 e5 e6 e7 ez
  obtain ⟨s0, s1, sz⟩ := cellsT S0
  obtain ⟨e0, e1, e2, e3, e4, e5, e6, e7, ez⟩ := cellsEv k u o i a p q t E0
  go_wp2_with fail
  with_reducible refine (refMayT_is n c A l m d B s _ hl hs zl zs hn1 true H2).mono ?_
  rintro e w2 ⟨rfl, b2⟩
  replace hl := hl.below b2
  replace hs := hs.below b2
  replace S0 := hcall S0 b2
  replace E0 := hcall E0 b2
  replace D := below_call D b2
  clear b2 s0 s1 sz e0 e1 e2 e3 e4 e5 e6 e7 ez
  obtain ⟨s0, s1, sz⟩ := cellsT S0
  obtain ⟨e0, e1, e2, e3, e4, e5, e6, e7, ez⟩ := cellsEv k u o i a p q t E0
  go_wp2_with fail
  with_reducible refine (Short_is k u o i a p q t true _ hq.1 hq.2.1 hq.2.2 H3).mono ?_
  rintro e w3 ⟨rfl, b3⟩
  replace hl := hl.below b3
  replace hs := hs.below b3
  replace S0 := hcall S0 b3
  replace E0 := hcall E0 b3
  replace D := below_call D b3
  clear b3 s0 s1 sz e0 e1 e2 e3 e4 e5 e6 e7 ez
  obtain ⟨s0, s1, sz⟩ := cellsT S0
  obtain ⟨e0, e1, e2, e3, e4, e5, e6, e7, ez⟩ := cellsEv k u o i a p q t E0
  go_wp2_with fail
  refine (ApplyT_is n c A l m d B s _ hl hs zl zs hn k u o i a p q t hu ho ht 0 (rE, rS) HAP).mono ?_
  rintro e w4 ⟨fA, fn, fc, fB, fm, fd, rfl, fl, fs, b4, -, -⟩
  replace hl := hl.below b4
  replace hs := hs.below b4
  replace S0 := hcall S0 b4
  replace E0 := hcall E0 b4
  replace D := below_call D b4
  clear b4 s0 s1 sz e0 e1 e2 e3 e4 e5 e6 e7 ez
  have F0 := heap_alloc_new w4 (bxT fA fn fc fB fm fd)
  replace hl := hl.below (below_box (bxT fA fn fc fB fm fd))
  replace hs := hs.below (below_box (bxT fA fn fc fB fm fd))
  replace S0 := halloc S0 (bxT fA fn fc fB fm fd)
  replace E0 := halloc E0 (bxT fA fn fc fB fm fd)
  replace fl := fl.below (below_box (bxT fA fn fc fB fm fd))
  replace fs := fs.below (below_box (bxT fA fn fc fB fm fd))
  replace D := below_alloc0 D (bxT fA fn fc fB fm fd)
  have hfn1 : fn ≤ 100000 := by have h9 : fn = rE.length := fl.len_eq; have := EA.out; omega
  have hfm1 : fm ≤ 100000 := by have h9 := fs.len_eq; have h8 := (mayT_and.1 HRM.out).2; have h7 := ((maySe_iff _).1 h8).1; simp only at h9 h7; omega
  obtain ⟨s0, s1, sz⟩ := cellsT S0
  obtain ⟨e0, e1, e2, e3, e4, e5, e6, e7, ez⟩ := cellsEv k u o i a p q t E0
  obtain ⟨f0, f1, fz⟩ := cellsT F0
  go_wp2_with fail
  with_reducible refine (vBet_is n c A l m d B s fn fc fA rE fm fd fB rS _ hl hs fl fs zl zs szE szS hn1 hm1 hfn1 hfm1 pw bl HBL).mono ?_
  rintro e w5 ⟨q1, rfl, r1, b5⟩
  replace hl := hl.below b5
  replace hs := hs.below b5
  replace S0 := hcall S0 b5
  replace E0 := hcall E0 b5
  replace fl := fl.below b5
  replace fs := fs.below b5
  replace F0 := hcall F0 b5
  replace D := below_call D b5
  clear b5 s0 s1 sz e0 e1 e2 e3 e4 e5 e6 e7 ez f0 f1 fz
  obtain ⟨Q1, qc1, rfl⟩ := form_Ch15 r1
  rw [HBN.out] at r1
  try rw [HBN.out]
  obtain ⟨s0, s1, sz⟩ := cellsT S0
  obtain ⟨e0, e1, e2, e3, e4, e5, e6, e7, ez⟩ := cellsEv k u o i a p q t E0
  obtain ⟨f0, f1, fz⟩ := cellsT F0
  go_wp2_with fail
  with_reducible refine (Touch_is k u o i a p q t ts _ HTS).mono ?_
  rintro e w6 ⟨q2, rfl, r2, b6⟩
  replace hl := hl.below b6
  replace hs := hs.below b6
  replace S0 := hcall S0 b6
  replace E0 := hcall E0 b6
  replace fl := fl.below b6
  replace fs := fs.below b6
  replace F0 := hcall F0 b6
  replace r1 := r1.below b6
  replace D := below_call D b6
  clear b6 s0 s1 sz e0 e1 e2 e3 e4 e5 e6 e7 ez f0 f1 fz
  obtain ⟨Q2, qc2, rfl⟩ := form_S15 r2
  rw [HTN.out] at r2
  try rw [HTN.out]
  have htn63 : tn ≤ 9223372036854775807 := by rw [← HTN.out]; exact r2.len
  obtain ⟨s0, s1, sz⟩ := cellsT S0
  obtain ⟨f0, f1, fz⟩ := cellsT F0
  go_wp2_with fail
  go_loopw [11] (fun v11 wr => ∃ j : Nat, v11 = .int .i64 j ∧ j ≤ bn ∧ Below w6.heap.size w6 wr) (fun v11 _ => (bn - intOf v11).toNat)
  case atStart => exact ⟨0, rfl, Nat.zero_le _, Below.refl _ _⟩
  case round =>
    obtain ⟨j, rfl, hj, D3⟩ := hrel
    by_cases hlt : j < bn
    · have hjl : j < bl.length := by have := HBN.out; omega
      obtain ⟨⟨x, on, va, vb, ve, vt⟩, hx⟩ : ∃ x, bl[j] = x := ⟨_, rfl⟩
      have h1 := HROW.out bl[j] (List.getElem_mem _)
      rw [hx] at h1
      obtain ⟨hxt, hxb, hxo⟩ := h1
      simp only at hxt hxb hxo
      obtain ⟨ad, rfl, c0, c1, c2, c3, c4, c5⟩ := rowCh r1 j hjl x on va vb ve vt hx
      obtain ⟨a1, b1, e1, t1, y1, hv1⟩ : ∃ a b e t y, valT (l, s) pw x = ((a, b, e, t), y) := ⟨_, _, _, _, _, rfl⟩
      obtain ⟨a2, b2, e2, t2, y2, hv2⟩ : ∃ a b e t y, valT (rE, rS) pw x = ((a, b, e, t), y) := ⟨_, _, _, _, _, rfl⟩
      rw [hv1, hv2] at hxb
      rw [hv2] at hxo
      simp only at hxb hxo
      subst hxo
      have HV1 := Lib.hid hv1
      have HV2 := Lib.hid hv2
      have HXT := Lib.hid hxt
      have HXB := Lib.hid hxb
      have x1 : (0 : Int) ≤ (j : Int) := by omega
      have x2 : (j : Int) < (bn : Int) := by omega
      clear hx hxt hxb hv1 hv2 hlt
      go_wp2_with fail
      go_loopw [12, 13] (fun v12 v13 wr => ∃ (i : Nat) (au : Bool), v13 = .int .i64 i ∧ v12 = .bool au ∧ i ≤ tn ∧ Hid (au = mineL x (ts.take i)) ∧ Below w6.heap.size w6 wr) (fun _ v13 _ => (tn - intOf v13).toNat)
      case atStart => exact ⟨0, false, rfl, rfl, Nat.zero_le _, rfl, D3⟩
      case round =>
        obtain ⟨i', au, rfl, rfl, hi, HAU, D6⟩ := hrel
        by_cases hlt : i' < tn
        · have hil : i' < ts.length := by have := HTN.out; omega
          obtain ⟨z, hz9⟩ : ∃ z, ts[i'] = z := ⟨_, rfl⟩
          obtain ⟨ad2, rfl, cz⟩ := (r2.below D6).get1 (f := Value.string) i' hil
          rw [hz9] at cz
          have x3 : (0 : Int) ≤ (i' : Int) := by omega
          have x4 : (i' : Int) < (tn : Int) := by omega
          have HA2 := mine_step hil hz9 HAU
          obtain ⟨g2, hb2⟩ : ∃ b, (x.toList == z.toList) = b := ⟨_, rfl⟩
          rw [hb2] at HA2
          have cx := cell_below D6 c0
          have D7 : Below w6.heap.size w6 wr.drew := D6.drew
          clear hz9 HAU s0 s1 sz f0 f1 fz c1 c2 c3 c4 c5
          go_wp2_with fail
          replace cz : wr.drew.cell? _ = _ := cz
          replace cx : wr.drew.cell? _ = _ := cx
          cases au
          · rw [Bool.false_or] at HA2
            refine Held.start (ops := opsvka) (S := fun w' => w'.cell? (ad.add (j * 6)) = some (.string x) ∧ w'.cell? (ad2.add i') = some (.string z)) ordvka 14 (by kernel_rfl) rgvka.siz (by kernel_rfl) ⟨cx, cz⟩ (fun hHeld => ?_)
            iterate 14
              refine Held.tw rgvka ?_
              try simp only [Act.put, zA, zB, zC, zD, zE, zF]
            refine wpAnyH_done (by kernel_rfl) ?_ _
            go_wp2
            exact ⟨⟨i' + 1, g2, by go_num, rfl, by omega, HA2, D7⟩, by simp [intOf]; omega⟩
          · rw [Bool.true_or] at HA2
            refine Held.start (ops := opsvkb) (S := fun w' => w'.cell? (ad.add (j * 6)) = some (.string x) ∧ w'.cell? (ad2.add i') = some (.string z)) ordvkb 14 (by kernel_rfl) rgvkb.siz (by kernel_rfl) ⟨cx, cz⟩ (fun hHeld => ?_)
            iterate 2
              refine Held.tw rgvkb ?_
              try simp only [Act.put, zA, zB, zC, zD, zE, zF]
            iterate 10
              refine Held.tu rgvkb ?_
              try simp only [Act.put, zA, zB, zC, zD, zE, zF]
            iterate 2
              refine Held.tw rgvkb ?_
              try simp only [Act.put, zA, zB, zC, zD, zE, zF]
            refine wpAnyH_done (by kernel_rfl) ?_ _
            go_wp2
            exact ⟨⟨i' + 1, true, by go_num, rfl, by omega, HA2, D7⟩, by simp [intOf]; omega⟩
        · have hin : i' = tn := by omega
          have HX : au = true := by
            have h1 := HAU.out
            rw [hin, List.take_of_length_le (Nat.le_of_eq HTN.out)] at h1
            rw [h1, mineL_iff]
            exact HXT.out
          subst HX
          clear hlt HAU
          subst hin
          have z0K := s0
          have z1K := s1
          have cxK := c0
          have z00 := cell_below D6 z0K
          have z10 := cell_below D6 z1K
          have cx0 := cell_below D6 cxK
          have h10 := hl.below D6
          have h20 := hs.below D6
          have hDs := D6.size
          go_wp2_with fail
          apply joinW (H := fun W _ => Below w6.heap.size w6 W)
          case h1 =>
              intro hcont
              have D2 : Below w6.heap.size w6 wr.drew := D6.drew
              have h1 : Row _ _ wr.drew _ _ := h10
              have h2 : Row _ _ wr.drew _ _ := h20
              have z0 : wr.drew.cell? _ = _ := z00
              have z1 : wr.drew.cell? _ = _ := z10
              have cx : wr.drew.cell? _ = _ := cx0
              refine Held.start (ops := opsvkc) (S := fun w' => w'.cell? ⟨w.heap.size, 0, none⟩ = some (.slice A n c) ∧ w'.cell? ⟨w.heap.size, 1, none⟩ = some (.slice B m d) ∧ w'.cell? (ad.add (j * 6)) = some (.string x)) ordvkc0 14 (by kernel_rfl) rgordvkc0.siz (by kernel_rfl) ⟨z0, z1, cx⟩ (fun hHeld => ?_)
              iterate 7
                refine Held.tw rgordvkc0 ?_
                try simp only [Act.put, zA, zB, zC, zD, zE, zF]
              refine Held.two (o := ordvkc0) (o1 := ordvkc0) (o2 := ordvkc1) (k := 7) (i := 7) (j := 11) (by kernel_rfl) (by kernel_rfl) (by kernel_rfl) rfl rfl (by kernel_rfl) (by kernel_rfl) (fun K hK => ?_) (fun K hK => ?_)
              · go_simp
                go_at_call 19
                with_reducible refine (vValue_is n c A l m d B s _ h1 h2 zl zs hn1 hm1 pw x a1 b1 e1 t1 y1 HV1).mono ?_
                rintro e w5 ⟨rfl, b5⟩
                replace z0 := cell_below b5 z0
                replace z1 := cell_below b5 z1
                replace cx := cell_below b5 cx
                replace D2 := below_call D2 b5
                clear b5 h1 h2
                refine hK.out _ _ (by (try dsimp only); (exact ⟨z0, z1, cx⟩)) (fun hHeld => ?_)
                clear hK K
                try simp only [Act.put, zA, zB, zC, zD, zE, zF]
                iterate 3
                  refine Held.tw rgordvkc0 ?_
                  try simp only [Act.put, zA, zB, zC, zD, zE, zF]
                refine Held.only (k := 11) (i := 11) (show Region.ready .any opsvkc (Held.lst 14 ordvkc0 11) = [11] by kernel_rfl) (by kernel_rfl) rfl (by kernel_rfl) (fun K hK => ?_)
                go_simp
                have bz := below_box (w := w5) (bxPv a1 b1 e1 t1)
                have D5 := below_call D2 bz
                have z05 := cell_below bz z0
                have z15 := cell_below bz z1
                have cx5 := cell_below bz cx
                clear bz
                replace z0 := cell_below (below_box (w := w5) (bxPv 0 0 0 ⟨#[]⟩)) z0
                replace z1 := cell_below (below_box (w := w5) (bxPv 0 0 0 ⟨#[]⟩)) z1
                replace cx := cell_below (below_box (w := w5) (bxPv 0 0 0 ⟨#[]⟩)) cx
                refine hK.out _ _ (by (try dsimp only); (exact ⟨z0, z1, cx⟩)) (fun hHeld => ?_)
                clear hK K
                try simp only [Act.put, zA, zB, zC, zD, zE, zF]
                refine Held.only (k := 12) (i := 12) (show Region.ready .any opsvkc (Held.lst 14 ordvkc0 12) = [12] by kernel_rfl) (by kernel_rfl) rfl (by kernel_rfl) (fun K hK => ?_)
                go_simp
                clear z0 z1 cx
                have z0 := z05
                have z1 := z15
                have cx := cx5
                clear z05 z15 cx5
                refine hK.out _ _ (by (try dsimp only); (exact ⟨z0, z1, cx⟩)) (fun hHeld => ?_)
                clear hK K
                try simp only [Act.put, zA, zB, zC, zD, zE, zF]
                iterate 1
                  refine Held.tw rgordvkc0 ?_
                  try simp only [Act.put, zA, zB, zC, zD, zE, zF]
                refine wpAnyH_done (by kernel_rfl) ?_ _
                obtain ⟨W5, hW5⟩ : ∃ W5, (w5.alloc (bxPv a1 b1 e1 t1)) = W5 := ⟨_, rfl⟩
                obtain ⟨g8, hg8⟩ : ∃ g8, w5.heap.size = g8 := ⟨_, rfl⟩
                rw [hW5] at D5
                try rw [hW5]
                try rw [hg8]
                clear hW5 hg8
                exact hcont W5 g8 D5
              · go_simp
                have bz : Below wr.heap.size wr (wr.alloc (bxPv 0 0 0 ⟨#[]⟩)).drew := (below_box (w := wr) (bxPv 0 0 0 ⟨#[]⟩)).drew
                have Y1 : (wr.alloc (bxPv 0 0 0 ⟨#[]⟩)).drew.heap[wr.heap.size]? = _ := heap_alloc_new wr (bxPv 0 0 0 ⟨#[]⟩)
                replace h1 : Row _ _ (wr.alloc (bxPv 0 0 0 ⟨#[]⟩)).drew _ _ := h10.below bz
                replace h2 : Row _ _ (wr.alloc (bxPv 0 0 0 ⟨#[]⟩)).drew _ _ := h20.below bz
                replace D2 : Below _ _ (wr.alloc (bxPv 0 0 0 ⟨#[]⟩)).drew := below_call D6 bz
                replace z0 : (wr.alloc (bxPv 0 0 0 ⟨#[]⟩)).drew.cell? _ = _ := cell_below bz z00
                replace z1 : (wr.alloc (bxPv 0 0 0 ⟨#[]⟩)).drew.cell? _ = _ := cell_below bz z10
                replace cx : (wr.alloc (bxPv 0 0 0 ⟨#[]⟩)).drew.cell? _ = _ := cell_below bz cx0
                clear bz
                refine hK.out _ _ (by (try dsimp only); (exact ⟨z0, z1, cx⟩)) (fun hHeld => ?_)
                clear hK K
                try simp only [Act.put, zA, zB, zC, zD, zE, zF]
                refine Held.only (k := 8) (i := 7) (show Region.ready .any opsvkc (Held.lst 14 ordvkc1 8) = [7] by kernel_rfl) (by kernel_rfl) rfl (by kernel_rfl) (fun K hK => ?_)
                go_simp
                go_at_call 19
                with_reducible refine (vValue_is n c A l m d B s _ h1 h2 zl zs hn1 hm1 pw x a1 b1 e1 t1 y1 HV1).mono ?_
                rintro e w5 ⟨rfl, b5⟩
                replace z0 := cell_below b5 z0
                replace z1 := cell_below b5 z1
                replace cx := cell_below b5 cx
                replace D2 := below_call D2 b5
                replace Y1 := hcall Y1 b5
                clear b5 h1 h2
                refine hK.out _ _ (by (try dsimp only); (exact ⟨z0, z1, cx⟩)) (fun hHeld => ?_)
                clear hK K
                try simp only [Act.put, zA, zB, zC, zD, zE, zF]
                iterate 3
                  refine Held.tw rgordvkc1 ?_
                  try simp only [Act.put, zA, zB, zC, zD, zE, zF]
                refine Held.only (k := 12) (i := 12) (show Region.ready .any opsvkc (Held.lst 14 ordvkc1 12) = [12] by kernel_rfl) (by kernel_rfl) rfl (by kernel_rfl) (fun K hK => ?_)
                obtain ⟨y0, y1_, y2_, y3, yz⟩ := cellsPv Y1
                have yfr := frozenG Y1
                go_simp
                clear y0 y1_ y2_ y3 yz yfr
                have D5 : Below w6.heap.size w6 ((((w5.setCell ⟨wr.heap.size, 0, none⟩ (.int .i64 a1)).setCell ⟨wr.heap.size, 1, none⟩ (.int .i64 b1)).setCell ⟨wr.heap.size, 2, none⟩ (.int .i64 e1)).setCell ⟨wr.heap.size, 3, none⟩ (.string t1)) := below4 D2 hDs _ _ _ _
                clear z0 z1 cx
                have z0 := cell_below D5 z0K
                have z1 := cell_below D5 z1K
                have cx := cell_below D5 cxK
                refine hK.out _ _ (by (try dsimp only); (exact ⟨z0, z1, cx⟩)) (fun hHeld => ?_)
                clear hK K
                try simp only [Act.put, zA, zB, zC, zD, zE, zF]
                iterate 1
                  refine Held.tw rgordvkc1 ?_
                  try simp only [Act.put, zA, zB, zC, zD, zE, zF]
                refine wpAnyH_done (by kernel_rfl) ?_ _
                obtain ⟨W5, hW5⟩ : ∃ W5, ((((w5.setCell ⟨wr.heap.size, 0, none⟩ (.int .i64 a1)).setCell ⟨wr.heap.size, 1, none⟩ (.int .i64 b1)).setCell ⟨wr.heap.size, 2, none⟩ (.int .i64 e1)).setCell ⟨wr.heap.size, 3, none⟩ (.string t1)) = W5 := ⟨_, rfl⟩
                obtain ⟨g8, hg8⟩ : ∃ g8, wr.heap.size = g8 := ⟨_, rfl⟩
                rw [hW5] at D5
                try rw [hW5]
                try rw [hg8]
                clear hW5 hg8
                exact hcont W5 g8 D5
          case h2 =>
            intro W9 g9 D9
            replace D9 : Below w6.heap.size w6 W9 := D9
            clear z00 z10 cx0 z0K z1K cxK h10 h20 hDs
            have z0K := f0
            have z1K := f1
            have cxK := c0
            have z00 := cell_below D9 z0K
            have z10 := cell_below D9 z1K
            have cx0 := cell_below D9 cxK
            have h10 := fl.below D9
            have h20 := fs.below D9
            have hDs := D9.size
            go_wp2_with fail
            apply joinW (H := fun W _ => Below w6.heap.size w6 W)
            case h1 =>
                intro hcont
                have D2 : Below w6.heap.size w6 W9.drew := D9.drew
                have h1 : Row _ _ W9.drew _ _ := h10
                have h2 : Row _ _ W9.drew _ _ := h20
                have z0 : W9.drew.cell? _ = _ := z00
                have z1 : W9.drew.cell? _ = _ := z10
                have cx : W9.drew.cell? _ = _ := cx0
                refine Held.start (ops := opsvkd) (S := fun w' => w'.cell? ⟨w4.heap.size, 0, none⟩ = some (.slice fA fn fc) ∧ w'.cell? ⟨w4.heap.size, 1, none⟩ = some (.slice fB fm fd) ∧ w'.cell? (ad.add (j * 6)) = some (.string x)) ordvkd0 14 (by kernel_rfl) rgordvkd0.siz (by kernel_rfl) ⟨z0, z1, cx⟩ (fun hHeld => ?_)
                iterate 7
                  refine Held.tw rgordvkd0 ?_
                  try simp only [Act.put, zA, zB, zC, zD, zE, zF]
                refine Held.two (o := ordvkd0) (o1 := ordvkd0) (o2 := ordvkd1) (k := 7) (i := 7) (j := 11) (by kernel_rfl) (by kernel_rfl) (by kernel_rfl) rfl rfl (by kernel_rfl) (by kernel_rfl) (fun K hK => ?_) (fun K hK => ?_)
                · go_simp
                  go_at_call 19
                  with_reducible refine (vValue_is fn fc fA rE fm fd fB rS _ h1 h2 szE szS hfn1 hfm1 pw x a2 b2 e2 t2 on HV2).mono ?_
                  rintro e w5 ⟨rfl, b5⟩
                  replace z0 := cell_below b5 z0
                  replace z1 := cell_below b5 z1
                  replace cx := cell_below b5 cx
                  replace D2 := below_call D2 b5
                  clear b5 h1 h2
                  refine hK.out _ _ (by (try dsimp only); (exact ⟨z0, z1, cx⟩)) (fun hHeld => ?_)
                  clear hK K
                  try simp only [Act.put, zA, zB, zC, zD, zE, zF]
                  iterate 3
                    refine Held.tw rgordvkd0 ?_
                    try simp only [Act.put, zA, zB, zC, zD, zE, zF]
                  refine Held.only (k := 11) (i := 11) (show Region.ready .any opsvkd (Held.lst 14 ordvkd0 11) = [11] by kernel_rfl) (by kernel_rfl) rfl (by kernel_rfl) (fun K hK => ?_)
                  go_simp
                  have bz := below_box (w := w5) (bxPv a2 b2 e2 t2)
                  have D5 := below_call D2 bz
                  have z05 := cell_below bz z0
                  have z15 := cell_below bz z1
                  have cx5 := cell_below bz cx
                  clear bz
                  replace z0 := cell_below (below_box (w := w5) (bxPv 0 0 0 ⟨#[]⟩)) z0
                  replace z1 := cell_below (below_box (w := w5) (bxPv 0 0 0 ⟨#[]⟩)) z1
                  replace cx := cell_below (below_box (w := w5) (bxPv 0 0 0 ⟨#[]⟩)) cx
                  refine hK.out _ _ (by (try dsimp only); (exact ⟨z0, z1, cx⟩)) (fun hHeld => ?_)
                  clear hK K
                  try simp only [Act.put, zA, zB, zC, zD, zE, zF]
                  refine Held.only (k := 12) (i := 12) (show Region.ready .any opsvkd (Held.lst 14 ordvkd0 12) = [12] by kernel_rfl) (by kernel_rfl) rfl (by kernel_rfl) (fun K hK => ?_)
                  go_simp
                  clear z0 z1 cx
                  have z0 := z05
                  have z1 := z15
                  have cx := cx5
                  clear z05 z15 cx5
                  refine hK.out _ _ (by (try dsimp only); (exact ⟨z0, z1, cx⟩)) (fun hHeld => ?_)
                  clear hK K
                  try simp only [Act.put, zA, zB, zC, zD, zE, zF]
                  iterate 1
                    refine Held.tw rgordvkd0 ?_
                    try simp only [Act.put, zA, zB, zC, zD, zE, zF]
                  refine wpAnyH_done (by kernel_rfl) ?_ _
                  obtain ⟨W5, hW5⟩ : ∃ W5, (w5.alloc (bxPv a2 b2 e2 t2)) = W5 := ⟨_, rfl⟩
                  obtain ⟨g8, hg8⟩ : ∃ g8, w5.heap.size = g8 := ⟨_, rfl⟩
                  rw [hW5] at D5
                  try rw [hW5]
                  try rw [hg8]
                  clear hW5 hg8
                  exact hcont W5 g8 D5
                · go_simp
                  have bz : Below W9.heap.size W9 (W9.alloc (bxPv 0 0 0 ⟨#[]⟩)).drew := (below_box (w := W9) (bxPv 0 0 0 ⟨#[]⟩)).drew
                  have Y1 : (W9.alloc (bxPv 0 0 0 ⟨#[]⟩)).drew.heap[W9.heap.size]? = _ := heap_alloc_new W9 (bxPv 0 0 0 ⟨#[]⟩)
                  replace h1 : Row _ _ (W9.alloc (bxPv 0 0 0 ⟨#[]⟩)).drew _ _ := h10.below bz
                  replace h2 : Row _ _ (W9.alloc (bxPv 0 0 0 ⟨#[]⟩)).drew _ _ := h20.below bz
                  replace D2 : Below _ _ (W9.alloc (bxPv 0 0 0 ⟨#[]⟩)).drew := below_call D9 bz
                  replace z0 : (W9.alloc (bxPv 0 0 0 ⟨#[]⟩)).drew.cell? _ = _ := cell_below bz z00
                  replace z1 : (W9.alloc (bxPv 0 0 0 ⟨#[]⟩)).drew.cell? _ = _ := cell_below bz z10
                  replace cx : (W9.alloc (bxPv 0 0 0 ⟨#[]⟩)).drew.cell? _ = _ := cell_below bz cx0
                  clear bz
                  refine hK.out _ _ (by (try dsimp only); (exact ⟨z0, z1, cx⟩)) (fun hHeld => ?_)
                  clear hK K
                  try simp only [Act.put, zA, zB, zC, zD, zE, zF]
                  refine Held.only (k := 8) (i := 7) (show Region.ready .any opsvkd (Held.lst 14 ordvkd1 8) = [7] by kernel_rfl) (by kernel_rfl) rfl (by kernel_rfl) (fun K hK => ?_)
                  go_simp
                  go_at_call 19
                  with_reducible refine (vValue_is fn fc fA rE fm fd fB rS _ h1 h2 szE szS hfn1 hfm1 pw x a2 b2 e2 t2 on HV2).mono ?_
                  rintro e w5 ⟨rfl, b5⟩
                  replace z0 := cell_below b5 z0
                  replace z1 := cell_below b5 z1
                  replace cx := cell_below b5 cx
                  replace D2 := below_call D2 b5
                  replace Y1 := hcall Y1 b5
                  clear b5 h1 h2
                  refine hK.out _ _ (by (try dsimp only); (exact ⟨z0, z1, cx⟩)) (fun hHeld => ?_)
                  clear hK K
                  try simp only [Act.put, zA, zB, zC, zD, zE, zF]
                  iterate 3
                    refine Held.tw rgordvkd1 ?_
                    try simp only [Act.put, zA, zB, zC, zD, zE, zF]
                  refine Held.only (k := 12) (i := 12) (show Region.ready .any opsvkd (Held.lst 14 ordvkd1 12) = [12] by kernel_rfl) (by kernel_rfl) rfl (by kernel_rfl) (fun K hK => ?_)
                  obtain ⟨y0, y1_, y2_, y3, yz⟩ := cellsPv Y1
                  have yfr := frozenG Y1
                  go_simp
                  clear y0 y1_ y2_ y3 yz yfr
                  have D5 : Below w6.heap.size w6 ((((w5.setCell ⟨W9.heap.size, 0, none⟩ (.int .i64 a2)).setCell ⟨W9.heap.size, 1, none⟩ (.int .i64 b2)).setCell ⟨W9.heap.size, 2, none⟩ (.int .i64 e2)).setCell ⟨W9.heap.size, 3, none⟩ (.string t2)) := below4 D2 hDs _ _ _ _
                  clear z0 z1 cx
                  have z0 := cell_below D5 z0K
                  have z1 := cell_below D5 z1K
                  have cx := cell_below D5 cxK
                  refine hK.out _ _ (by (try dsimp only); (exact ⟨z0, z1, cx⟩)) (fun hHeld => ?_)
                  clear hK K
                  try simp only [Act.put, zA, zB, zC, zD, zE, zF]
                  iterate 1
                    refine Held.tw rgordvkd1 ?_
                    try simp only [Act.put, zA, zB, zC, zD, zE, zF]
                  refine wpAnyH_done (by kernel_rfl) ?_ _
                  obtain ⟨W5, hW5⟩ : ∃ W5, ((((w5.setCell ⟨W9.heap.size, 0, none⟩ (.int .i64 a2)).setCell ⟨W9.heap.size, 1, none⟩ (.int .i64 b2)).setCell ⟨W9.heap.size, 2, none⟩ (.int .i64 e2)).setCell ⟨W9.heap.size, 3, none⟩ (.string t2)) = W5 := ⟨_, rfl⟩
                  obtain ⟨g8, hg8⟩ : ∃ g8, W9.heap.size = g8 := ⟨_, rfl⟩
                  rw [hW5] at D5
                  try rw [hW5]
                  try rw [hg8]
                  clear hW5 hg8
                  exact hcont W5 g8 D5
            case h2 =>
              intro W8 g8 D8
              replace D8 : Below w6.heap.size w6 W8 := D8
              clear z00 z10 cx0 z0K z1K cxK h10 h20 hDs
              have cn := cell_below D8 c1
              clear c0 c1 c2 c3 c4 c5 s0 s1 sz f0 f1 fz
              have hyy : Hid ((y1 || on) = true) := HXB
              cases y1 <;> cases on
              all_goals first
                | exact absurd hyy.out (by decide)
                | (go_wp2
                   exact ⟨⟨j + 1, by go_num, by omega, D8⟩, by simp [intOf]; omega⟩)
    · have hjn : j = bn := by omega
      have D8 := below_call D D3
      have hle : ((j : Nat) : Int) ≤ 1 := by omega
      have hle2 : decide (((j : Nat) : Int) ≤ 1) = true := decide_eq_true hle
      clear hlt
      subst hjn
      go_wp2_with fail
      with_reducible refine (live15 _).mono ?_
      rintro e z9 ⟨rfl, b9⟩
      replace D8 := below_call D8 b9
      go_wp2
      go_ret
      exact ⟨rfl, D8⟩
end Go.Proofs.YtbpfcjdjhponaaaGreat
