import Derived.Test.YtbpfcjdjhponaaaGreatPViewHides16
set_option linter.unusedVariables false
set_option linter.unusedSimpArgs false
namespace Go.Proofs.YtbpfcjdjhponaaaGreat
open Go.RowKit
open Sp
theorem joinT {H G : World → Nat → Option Addr → Nat → Nat → Option Addr → Nat → Nat → Prop} {R : Prop} (h1 : (∀ W g A n c B m d, H W g A n c B m d → G W g A n c B m d) → R) (h2 : ∀ W g A n c B m d, H W g A n c B m d → G W g A n c B m d) : R := h1 h2
namespace Sp
def hidL (a b : List En) (p : ByteArray) (ts : List ByteArray) : Bool := ts.all fun z => !(z.toList == p.toList) && (!seesRo a p z && !seesRo b p z)
end Sp
theorem hid_step {a b : List En} {p z : ByteArray} {ts : List ByteArray} {j : Nat} (hj : j < ts.length) (hz : ts[j] = z) {au : Bool} (h : Hid (au = hidL a b p (ts.take j))) : Hid ((au && (!(z.toList == p.toList) && (!seesRo a p z && !seesRo b p z))) = hidL a b p (ts.take (j + 1))) := by
  show _ = _
  rw [h.out, List.take_succ_eq_append_getElem hj, hz]
  unfold hidL
  rw [List.all_append]
  simp only [List.all_cons, List.all_nil, Bool.and_true]
theorem hide_step {s r : Sta} {e : Evt} {d : Int} {p : ByteArray} (hm : mayT s = true) (h : applyT s e = (r, d)) (hh : hidL s.1 r.1 p (touchT e) = true) : mayT r = true ∧ tabT r p = tabT s p := by
  refine ⟨?_, hide_plain hm h fun x hx => ?_⟩
  · by_cases hd : d = 0
    · subst hd
      exact applyT_may hm h
    · rw [applyT_err h hd]
      exact hm
  · unfold hidL at hh
    rw [List.all_eq_true] at hh
    have := hh x hx
    simp only [Bool.and_eq_true, Bool.not_eq_true'] at this
    exact this.2
theorem events_all {l : List Evt} {z : Int} (h : eventsT l z = true) : (l.length : Int) ≤ z ∧ ∀ e ∈ l, shortE e = true := by
  unfold eventsT at h
  rw [Bool.and_eq_true, decide_eq_true_eq, List.all_eq_true] at h
  exact h
noncomputable def opsvla : Array Oper := Held.inBody 8 Tryz.f7.body
def ordvla0 : List Nat := [0, 1, 2, 3, 4, 5, 6, 7, 8, 9, 10, 11]
set_option maxRecDepth 100000 in
theorem rgordvla0 : Held.Reg opsvla ordvla0 12 [0, 1, 2, 3, 4, 6, 7, 8, 11] := ⟨by kernel_rfl, by kernel_rfl, by kernel_rfl⟩
def ordvla1 : List Nat := [0, 1, 2, 3, 4, 9, 5, 6, 7, 8, 10, 11]
set_option maxRecDepth 100000 in
theorem rgordvla1 : Held.Reg opsvla ordvla1 12 [0, 1, 2, 3, 4, 7, 8, 9, 11] := ⟨by kernel_rfl, by kernel_rfl, by kernel_rfl⟩
noncomputable def opsvlb : Array Oper := Held.inBody 14 Tryz.f7.body
def ordvlb : List Nat := [0, 1, 2, 3, 4, 5, 6, 7, 8, 9, 10, 11, 12, 13, 14, 15, 16, 17, 18, 19, 20, 21, 22, 23, 24, 25, 26, 27, 28, 29, 30, 31]
set_option maxRecDepth 100000 in
theorem rgvlb : Held.Reg opsvlb ordvlb 32 [0, 1, 2, 3, 4, 5, 6, 7, 8, 9, 10, 11, 12, 13, 14, 15, 16, 17, 18, 19, 20, 21, 22, 23, 24, 25, 26, 27, 28, 29, 30, 31] := ⟨by kernel_rfl, by kernel_rfl, by kernel_rfl⟩
noncomputable def opsvlc : Array Oper := Held.inBody 14 Tryz.f7.body
def ordvlc : List Nat := [0, 1, 2, 3, 4, 5, 6, 7, 8, 9, 10, 11, 12, 13, 14, 15, 16, 17, 18, 19, 20, 21, 22, 23, 24, 25, 26, 27, 28, 29, 30, 31]
set_option maxRecDepth 100000 in
theorem rgvlc : Held.Reg opsvlc ordvlc 32 [0, 1, 2, 3, 4, 5, 6, 7, 8, 9, 10, 11, 12, 13, 14, 15, 16, 18, 19, 20, 21, 22, 23, 24, 25, 26, 27, 28, 29, 30, 31] := ⟨by kernel_rfl, by kernel_rfl, by kernel_rfl⟩
noncomputable def opsvld : Array Oper := Held.inBody 14 Tryz.f7.body
def ordvld : List Nat := [0, 1, 2, 3, 4, 5, 6, 7, 8, 9, 10, 11, 12, 13, 14, 15, 16, 17, 18, 19, 20, 21, 22, 23, 24, 25, 26, 27, 28, 29, 30, 31]
set_option maxRecDepth 100000 in
theorem rgvld : Held.Reg opsvld ordvld 32 [0, 1, 2, 3, 4, 5, 6, 7, 8, 9, 10, 11, 12, 13, 14, 15, 16, 18, 19, 20, 21, 22, 23, 24, 25, 26, 27, 29, 30, 31] := ⟨by kernel_rfl, by kernel_rfl, by kernel_rfl⟩
set_option maxHeartbeats 32000000 in
set_option maxRecDepth 100000 in
theorem hides15_walk (n c : Nat) (A : Option Addr) (l : List En) (m d : Nat) (B : Option Addr) (s : List Se) (ne ce : Nat) (E : Option Addr) (es : List Evt) (pw : ByteArray) (w : World)
    (hl : Row enEn 7 w (.slice A n c) l) (hz : SzE l) (hs : Row enSe 6 w (.slice B m d) s) (hy : SzEs s) (he : Row enEv 8 w (.slice E ne ce) es) (hv : SzEvM es) :
    Calls Tryz.prog 7 #[agT A n c B m d, .slice E ne ce, .string pw] w fun r w' => r = .returned (.bool true) ∧ Below w.heap.size w w' := by
  have EA := Lib.hid hl.len_eq
  have EM := Lib.hid hs.len_eq
  have EE := Lib.hid he.len_eq
  have D := below_box (w := w) (bxT A n c B m d)
  have S0 := heap_alloc_new w (bxT A n c B m d)
  replace hl := hl.below D
  replace hs := hs.below D
  replace he := he.below D
  cases h : fewT (l, s) with
  | false =>
    have H1 := Lib.hid h
    clear h
    obtain ⟨s0, s1, sz⟩ := cellsT S0
    go_enter Tryz.func7, Tryz.ntmps7
    go_wp2_with fail
    with_reducible refine (FewT_is n c A l m d B s _ hl hs hz hy false H1).mono ?_
    rintro e w1 ⟨rfl, b1⟩
    replace hl := hl.below b1
    replace hs := hs.below b1
    replace he := he.below b1
    replace S0 := hcall S0 b1
    replace D := below_call D b1
    clear b1 s0 s1 sz
    go_wp2_with fail
    with_reducible refine (live15 _).mono ?_
    rintro e w2 ⟨rfl, b2⟩
    replace hl := hl.below b2
    replace hs := hs.below b2
    replace he := he.below b2
    replace S0 := hcall S0 b2
    replace D := below_call D b2
    clear b2
    go_wp2
    go_ret
    exact ⟨rfl, D⟩
  | true =>
  obtain ⟨zl, zs, zn, zm⟩ := fewT_sz h
  have H1 := Lib.hid h
  have hn80 : n ≤ 80 := by have := EA.out; omega
  have hn1 : n ≤ 100000 := by omega
  have hm1 : m ≤ 100000 := by have := EM.out; omega
  clear h zn zm
  cases hmy : mayT (l, s) with
  | false =>
    have H2 := Lib.hid hmy
    clear hmy
    obtain ⟨s0, s1, sz⟩ := cellsT S0
    go_enter Tryz.func7, Tryz.ntmps7
    go_wp2_with fail
    with_reducible refine (FewT_is n c A l m d B s _ hl hs hz hy true H1).mono ?_
    rintro e w1 ⟨rfl, b1⟩
    replace hl := hl.below b1
    replace hs := hs.below b1
    replace he := he.below b1
    replace S0 := hcall S0 b1
    replace D := below_call D b1
    clear b1 s0 s1 sz
    obtain ⟨s0, s1, sz⟩ := cellsT S0
    go_wp2_with fail
    with_reducible refine (refMayT_is n c A l m d B s _ hl hs zl zs hn1 false H2).mono ?_
    rintro e w2 ⟨rfl, b2⟩
    replace hl := hl.below b2
    replace hs := hs.below b2
    replace he := he.below b2
    replace S0 := hcall S0 b2
    replace D := below_call D b2
    clear b2 s0 s1 sz
    go_wp2_with fail
    with_reducible refine (live15 _).mono ?_
    rintro e w3 ⟨rfl, b3⟩
    replace hl := hl.below b3
    replace hs := hs.below b3
    replace he := he.below b3
    replace S0 := hcall S0 b3
    replace D := below_call D b3
    clear b3
    go_wp2
    go_ret
    exact ⟨rfl, D⟩
  | true =>
  have H2 := Lib.hid hmy
  clear hmy
  cases h : eventsT es 20 with
  | false =>
    have H3 := Lib.hid h
    clear h
    obtain ⟨s0, s1, sz⟩ := cellsT S0
    go_enter Tryz.func7, Tryz.ntmps7
    go_wp2_with fail
    with_reducible refine (FewT_is n c A l m d B s _ hl hs hz hy true H1).mono ?_
    rintro e w1 ⟨rfl, b1⟩
    replace hl := hl.below b1
    replace hs := hs.below b1
    replace he := he.below b1
    replace S0 := hcall S0 b1
    replace D := below_call D b1
    clear b1 s0 s1 sz
    obtain ⟨s0, s1, sz⟩ := cellsT S0
    go_wp2_with fail
    with_reducible refine (refMayT_is n c A l m d B s _ hl hs zl zs hn1 true H2).mono ?_
    rintro e w2 ⟨rfl, b2⟩
    replace hl := hl.below b2
    replace hs := hs.below b2
    replace he := he.below b2
    replace S0 := hcall S0 b2
    replace D := below_call D b2
    clear b2 s0 s1 sz
    obtain ⟨s0, s1, sz⟩ := cellsT S0
    go_wp2_with fail
    with_reducible refine (Events_is ne ce E es 20 false _ he hv H3).mono ?_
    rintro e w3 ⟨rfl, b3⟩
    replace hl := hl.below b3
    replace hs := hs.below b3
    replace he := he.below b3
    replace S0 := hcall S0 b3
    replace D := below_call D b3
    clear b3 s0 s1 sz
    go_wp2_with fail
    with_reducible refine (live15 _).mono ?_
    rintro e w4 ⟨rfl, b4⟩
    replace hl := hl.below b4
    replace hs := hs.below b4
    replace he := he.below b4
    replace S0 := hcall S0 b4
    replace D := below_call D b4
    clear b4
    go_wp2
    go_ret
    exact ⟨rfl, D⟩
  | true =>
  have HSH := Lib.hid (events_all h).2
  have hne : ne ≤ 20 := by have h1 := (events_all h).1; have h2 := EE.out; omega
  have H3 := Lib.hid h
  clear h
  by_cases hp4 : (40 : Int) < (pw.size : Int)
  · skip
    obtain ⟨s0, s1, sz⟩ := cellsT S0
    go_enter Tryz.func7, Tryz.ntmps7
    go_wp2_with fail
    with_reducible refine (FewT_is n c A l m d B s _ hl hs hz hy true H1).mono ?_
    rintro e w1 ⟨rfl, b1⟩
    replace hl := hl.below b1
    replace hs := hs.below b1
    replace he := he.below b1
    replace S0 := hcall S0 b1
    replace D := below_call D b1
    clear b1 s0 s1 sz
    obtain ⟨s0, s1, sz⟩ := cellsT S0
    go_wp2_with fail
    with_reducible refine (refMayT_is n c A l m d B s _ hl hs zl zs hn1 true H2).mono ?_
    rintro e w2 ⟨rfl, b2⟩
    replace hl := hl.below b2
    replace hs := hs.below b2
    replace he := he.below b2
    replace S0 := hcall S0 b2
    replace D := below_call D b2
    clear b2 s0 s1 sz
    obtain ⟨s0, s1, sz⟩ := cellsT S0
    go_wp2_with fail
    with_reducible refine (Events_is ne ce E es 20 true _ he hv H3).mono ?_
    rintro e w3 ⟨rfl, b3⟩
    replace hl := hl.below b3
    replace hs := hs.below b3
    replace he := he.below b3
    replace S0 := hcall S0 b3
    replace D := below_call D b3
    clear b3 s0 s1 sz
    obtain ⟨s0, s1, sz⟩ := cellsT S0
    go_wp2_with fail
    with_reducible refine (live15 _).mono ?_
    rintro e w4 ⟨rfl, b4⟩
    replace hl := hl.below b4
    replace hs := hs.below b4
    replace he := he.below b4
    replace S0 := hcall S0 b4
    replace D := below_call D b4
    clear b4 s0 s1 sz
    go_wp2
    go_ret
    exact ⟨rfl, D⟩
  obtain ⟨tb, htb⟩ : ∃ r, tabT (l, s) pw = r := ⟨_, rfl⟩
  have HTB := Lib.hid htb
  clear htb
  obtain ⟨s0, s1, sz⟩ := cellsT S0
  go_enter Tryz.func7, Tryz.ntmps7
  go_wp2_with fail
  with_reducible refine (FewT_is n c A l m d B s _ hl hs hz hy true H1).mono ?_
  rintro e w1 ⟨rfl, b1⟩
  replace hl := hl.below b1
  replace hs := hs.below b1
  replace he := he.below b1
  replace S0 := hcall S0 b1
  replace D := below_call D b1
  clear b1 s0 s1 sz
  obtain ⟨s0, s1, sz⟩ := cellsT S0
  go_wp2_with fail
  with_reducible refine (refMayT_is n c A l m d B s _ hl hs zl zs hn1 true H2).mono ?_
  rintro e w2 ⟨rfl, b2⟩
  replace hl := hl.below b2
  replace hs := hs.below b2
  replace he := he.below b2
  replace S0 := hcall S0 b2
  replace D := below_call D b2
  clear b2 s0 s1 sz
  obtain ⟨s0, s1, sz⟩ := cellsT S0
  go_wp2_with fail
  with_reducible refine (Events_is ne ce E es 20 true _ he hv H3).mono ?_
  rintro e w3 ⟨rfl, b3⟩
  replace hl := hl.below b3
  replace hs := hs.below b3
  replace he := he.below b3
  replace S0 := hcall S0 b3
  replace D := below_call D b3
  clear b3 s0 s1 sz
  obtain ⟨s0, s1, sz⟩ := cellsT S0
  go_wp2_with fail
  with_reducible refine (vOf_is n c A l m d B s _ hl hs zl zs hn1 hm1 pw tb HTB).mono ?_
  rintro e w4 ⟨q1, rfl, r1, b4⟩
  replace hl := hl.below b4
  replace hs := hs.below b4
  replace he := he.below b4
  replace S0 := hcall S0 b4
  replace D := below_call D b4
  clear b4 s0 s1 sz
  obtain ⟨Q1, qc1, rfl⟩ := form_Sn r1
  obtain ⟨bn, hbn⟩ : ∃ k, tb.length = k := ⟨_, rfl⟩
  rw [hbn] at r1
  try rw [hbn]
  clear hbn
  obtain ⟨s0, s1, sz⟩ := cellsT S0
  have T0 := heap_alloc_new w4 (bxT A n c B m d)
  have hlA := hl.below (below_box (w := w4) (bxT A n c B m d))
  have hsA := hs.below (below_box (w := w4) (bxT A n c B m d))
  go_wp2_with fail
  clear s0 s1 sz
  go_loopw [9] (fun v9 wr => ∃ (j : Nat) (A' : Option Addr) (n' c' : Nat) (B' : Option Addr) (m' d' : Nat) (st : Sta), v9 = .int .i64 j ∧ j ≤ ne ∧ Hid (mayT st = true ∧ tabT st pw = tb) ∧ wr.heap[w4.heap.size]? = some (bxT A' n' c' B' m' d') ∧ Row enEn 7 wr (.slice A' n' c') st.1 ∧ Row enSe 6 wr (.slice B' m' d') st.2 ∧ n' ≤ n + 2 * j ∧ SzRo st.1 ∧ SzSe st.2 ∧ Below w4.heap.size w4 wr) (fun v9 _ => (ne - intOf v9).toNat)
  case atStart => exact ⟨0, A, n, c, B, m, d, (l, s), rfl, Nat.zero_le _, ⟨H2.out, HTB.out⟩, T0, hlA, hsA, by omega, zl, zs, below_alloc0 (Below.refl _ _) (bxT A n c B m d)⟩
  case round =>
    obtain ⟨j, A', n', c', B', m', d', st, rfl, hj, HM, S1, hl1, hs1, hlen, hz1, hy1, D3⟩ := hrel
    clear hlA hsA T0
    by_cases hlt : j < ne
    · have hjl : j < es.length := by have := EE.out; omega
      obtain ⟨⟨k, u, o, i, a, p, q, t⟩, hev⟩ : ∃ e, es[j] = e := ⟨_, rfl⟩
      obtain ⟨ad, rfl, -⟩ := rowEv he j hjl k u o i a p q t hev
      have hsh := HSH.out _ (List.getElem_mem hjl)
      rw [hev] at hsh
      obtain ⟨hu, ho, ht⟩ := shortE_sz hsh
      have HEV := Lib.hid hev
      obtain ⟨⟨rE, rS⟩, er, hap⟩ : ∃ r e, applyT st ⟨k, u, o, i, (a, p, q, t)⟩ = (r, e) := ⟨_, _, rfl⟩
      have hst := applyT_sz hap hz1 hy1 hu ho ht
      simp only at hst
      obtain ⟨szE, szS, hln⟩ := hst
      have HAP : Hid (applyT (st.1, st.2) ⟨k, u, o, i, (a, p, q, t)⟩ = ((rE, rS), er)) := hap
      obtain ⟨ts, hts⟩ : ∃ r, touchT ⟨k, u, o, i, (a, p, q, t)⟩ = r := ⟨_, rfl⟩
      have HTS := Lib.hid hts
      have HSTEP : Hid (hidL st.1 rE pw ts = true → mayT (rE, rS) = true ∧ tabT (rE, rS) pw = tb) := fun hh => by
        rw [← hts] at hh
        have h1 := hide_step HM.out.1 hap hh
        rw [HM.out.2] at h1
        exact h1
      have hn' : n' ≤ 900 := by omega
      have HNST := Lib.hid (show n' = st.1.length from hl1.len_eq)
      have x1 : (0 : Int) ≤ (j : Int) := by omega
      have x2 : (j : Int) < (ne : Int) := by omega
      have hgW : w4.heap.size < wr.heap.size := (Array.getElem?_eq_some_iff.1 S1).1
      have hKs := D3.size
      clear hev hsh hap hts
      go_wp2_with fail
      apply joinT (H := fun W g A9 n9 c9 B9 m9 d9 => W.heap[g]? = some (bxT A9 n9 c9 B9 m9 d9) ∧ W.heap[w4.heap.size]? = some (bxT A' n' c' B' m' d') ∧ Row enEn 7 W (.slice A' n' c') st.1 ∧ Row enSe 6 W (.slice B' m' d') st.2 ∧ Row enEn 7 W (.slice A9 n9 c9) rE ∧ Row enSe 6 W (.slice B9 m9 d9) rS ∧ w4.heap.size < g ∧ Below w4.heap.size w4 W)
      case h1 =>
        intro hcont
        obtain ⟨c0, c1, c2, c3, c4, c5, c6, c7⟩ := rowsEv (he.below D3) j hjl k u o i a p q t HEV.out
        obtain ⟨s0, s1, sz⟩ := cellsT S1
        have S2 : wr.drew.heap[_]? = _ := S1
        have hl2 : Row _ _ wr.drew _ _ := hl1
        have hs2 : Row _ _ wr.drew _ _ := hs1
        have D2 : Below w4.heap.size w4 wr.drew := D3.drew
        replace c0 : wr.drew.cell? _ = _ := c0
        replace c1 : wr.drew.cell? _ = _ := c1
        replace c2 : wr.drew.cell? _ = _ := c2
        replace c3 : wr.drew.cell? _ = _ := c3
        replace c4 : wr.drew.cell? _ = _ := c4
        replace c5 : wr.drew.cell? _ = _ := c5
        replace c6 : wr.drew.cell? _ = _ := c6
        replace c7 : wr.drew.cell? _ = _ := c7
        replace s0 : wr.drew.cell? _ = _ := s0
        replace s1 : wr.drew.cell? _ = _ := s1
        refine Held.start (ops := opsvla) (S := fun w' => w'.cell? (ad.add (j * 8)) = some (.int .i64 k) ∧ w'.cell? ⟨(ad.add (j * 8)).block, (ad.add (j * 8)).off + 1, none⟩ = some (.string u) ∧ w'.cell? ⟨(ad.add (j * 8)).block, (ad.add (j * 8)).off + 2, none⟩ = some (.string o) ∧ w'.cell? ⟨(ad.add (j * 8)).block, (ad.add (j * 8)).off + 3, none⟩ = some (.int .i64 i) ∧ w'.cell? ⟨(ad.add (j * 8)).block, (ad.add (j * 8)).off + 4, none⟩ = some (.int .i64 a) ∧ w'.cell? ⟨(ad.add (j * 8)).block, (ad.add (j * 8)).off + 5, none⟩ = some (.int .i64 p) ∧ w'.cell? ⟨(ad.add (j * 8)).block, (ad.add (j * 8)).off + 6, none⟩ = some (.int .i64 q) ∧ w'.cell? ⟨(ad.add (j * 8)).block, (ad.add (j * 8)).off + 7, none⟩ = some (.string t) ∧ w'.cell? ⟨w4.heap.size, 0, none⟩ = some (.slice A' n' c') ∧ w'.cell? ⟨w4.heap.size, 1, none⟩ = some (.slice B' m' d')) ordvla0 12 (by kernel_rfl) rgordvla0.siz (by kernel_rfl) ⟨c0, c1, c2, c3, c4, c5, c6, c7, s0, s1⟩ (fun hHeld => ?_)
        iterate 5
          refine Held.tw rgordvla0 ?_
          try simp only [Act.put, zA, zB, zC, zD, zE, zF]
        refine Held.two (o := ordvla0) (o1 := ordvla0) (o2 := ordvla1) (k := 5) (i := 5) (j := 9) (by kernel_rfl) (by kernel_rfl) (by kernel_rfl) rfl rfl (by kernel_rfl) (by kernel_rfl) (fun K hK => ?_) (fun K hK => ?_)
        · go_simp
          go_at_call 16
          with_reducible refine (ApplyT_is n' c' A' st.1 m' d' B' st.2 _ hl2 hs2 hz1 hy1 hn' k u o i a p q t hu ho ht er (rE, rS) HAP).mono ?_
          rintro x w5 ⟨A9, n9, c9, B9, m9, d9, rfl, hl4, hs4, b4, -, -⟩
          clear c0 c1 c2 c3 c4 c5 c6 c7 s0 s1
          replace S2 := hcall S2 b4
          replace D2 := below_call D2 b4
          replace hl2 := hl2.below b4
          replace hs2 := hs2.below b4
          have hg5 : w4.heap.size < w5.heap.size := Nat.lt_of_lt_of_le hgW b4.size
          clear b4
          obtain ⟨c0, c1, c2, c3, c4, c5, c6, c7⟩ := rowsEv (he.below D2) j hjl k u o i a p q t HEV.out
          have s0 := (cellsT S2).1
          have s1 := (cellsT S2).2.1
          refine hK.out _ _ (by (try dsimp only); (exact ⟨c0, c1, c2, c3, c4, c5, c6, c7, s0, s1⟩)) (fun hHeld => ?_)
          clear hK K
          try simp only [Act.put, zA, zB, zC, zD, zE, zF]
          iterate 3
            refine Held.tw rgordvla0 ?_
            try simp only [Act.put, zA, zB, zC, zD, zE, zF]
          refine Held.only (k := 9) (i := 9) (show Region.ready .any opsvla (Held.lst 12 ordvla0 9) = [9] by kernel_rfl) (by kernel_rfl) rfl (by kernel_rfl) (fun K hK => ?_)
          go_simp
          have bz := below_box (w := w5) (bxT A9 n9 c9 B9 m9 d9)
          have S5 := halloc S2 (bxT A9 n9 c9 B9 m9 d9)
          have D5 := below_call D2 bz
          have hl5 := hl2.below bz
          have hs5 := hs2.below bz
          have hl6 := hl4.below bz
          have hs6 := hs4.below bz
          have Y5 := heap_alloc_new w5 (bxT A9 n9 c9 B9 m9 d9)
          clear bz
          clear c0 c1 c2 c3 c4 c5 c6 c7 s0 s1
          have bz := below_box (w := w5) (bxT none 0 0 none 0 0)
          have D6 := below_call D2 bz
          have S6 := halloc S2 (bxT none 0 0 none 0 0)
          obtain ⟨c0, c1, c2, c3, c4, c5, c6, c7⟩ := rowsEv (he.below D6) j hjl k u o i a p q t HEV.out
          have s0 := (cellsT S6).1
          have s1 := (cellsT S6).2.1
          clear bz D6 S6
          refine hK.out _ _ (by (try dsimp only); (exact ⟨c0, c1, c2, c3, c4, c5, c6, c7, s0, s1⟩)) (fun hHeld => ?_)
          clear hK K
          try simp only [Act.put, zA, zB, zC, zD, zE, zF]
          refine Held.only (k := 10) (i := 10) (show Region.ready .any opsvla (Held.lst 12 ordvla0 10) = [10] by kernel_rfl) (by kernel_rfl) rfl (by kernel_rfl) (fun K hK => ?_)
          go_simp
          clear c0 c1 c2 c3 c4 c5 c6 c7 s0 s1
          obtain ⟨c0, c1, c2, c3, c4, c5, c6, c7⟩ := rowsEv (he.below D5) j hjl k u o i a p q t HEV.out
          have s0 := (cellsT S5).1
          have s1 := (cellsT S5).2.1
          refine hK.out _ _ (by (try dsimp only); (exact ⟨c0, c1, c2, c3, c4, c5, c6, c7, s0, s1⟩)) (fun hHeld => ?_)
          clear hK K
          try simp only [Act.put, zA, zB, zC, zD, zE, zF]
          iterate 1
            refine Held.tw rgordvla0 ?_
            try simp only [Act.put, zA, zB, zC, zD, zE, zF]
          refine wpAnyH_done (by kernel_rfl) ?_ _
          obtain ⟨W5, hW5⟩ : ∃ W5, (w5.alloc (bxT A9 n9 c9 B9 m9 d9)) = W5 := ⟨_, rfl⟩
          obtain ⟨g9, hg9⟩ : ∃ g9, w5.heap.size = g9 := ⟨_, rfl⟩
          have hgg : w4.heap.size < g9 := by omega
          rw [hW5] at Y5 S5 hl5 hs5 hl6 hs6 D5
          rw [hg9] at Y5
          try rw [hW5]
          try rw [hg9]
          clear hW5 hg9
          exact hcont W5 g9 A9 n9 c9 B9 m9 d9 ⟨Y5, S5, hl5, hs5, hl6, hs6, hgg, D5⟩
        · go_simp
          clear c0 c1 c2 c3 c4 c5 c6 c7 s0 s1
          have bz : Below wr.heap.size wr (wr.alloc (bxT none 0 0 none 0 0)).drew := (below_box (w := wr) (bxT none 0 0 none 0 0)).drew
          have Y1 : (wr.alloc (bxT none 0 0 none 0 0)).drew.heap[wr.heap.size]? = _ := heap_alloc_new wr (bxT none 0 0 none 0 0)
          replace S2 : (wr.alloc (bxT none 0 0 none 0 0)).drew.heap[_]? = _ := halloc S1 (bxT none 0 0 none 0 0)
          replace hl2 : Row _ _ (wr.alloc (bxT none 0 0 none 0 0)).drew _ _ := hl1.below bz
          replace hs2 : Row _ _ (wr.alloc (bxT none 0 0 none 0 0)).drew _ _ := hs1.below bz
          replace D2 : Below _ _ (wr.alloc (bxT none 0 0 none 0 0)).drew := below_call D3 bz
          clear bz
          obtain ⟨c0, c1, c2, c3, c4, c5, c6, c7⟩ := rowsEv (he.below D2) j hjl k u o i a p q t HEV.out
          have s0 := (cellsT S2).1
          have s1 := (cellsT S2).2.1
          refine hK.out _ _ (by (try dsimp only); (exact ⟨c0, c1, c2, c3, c4, c5, c6, c7, s0, s1⟩)) (fun hHeld => ?_)
          clear hK K
          try simp only [Act.put, zA, zB, zC, zD, zE, zF]
          refine Held.only (k := 6) (i := 5) (show Region.ready .any opsvla (Held.lst 12 ordvla1 6) = [5] by kernel_rfl) (by kernel_rfl) rfl (by kernel_rfl) (fun K hK => ?_)
          go_simp
          go_at_call 16
          with_reducible refine (ApplyT_is n' c' A' st.1 m' d' B' st.2 _ hl2 hs2 hz1 hy1 hn' k u o i a p q t hu ho ht er (rE, rS) HAP).mono ?_
          rintro x w5 ⟨A9, n9, c9, B9, m9, d9, rfl, hl4, hs4, b4, -, -⟩
          clear c0 c1 c2 c3 c4 c5 c6 c7 s0 s1
          replace S2 := hcall S2 b4
          replace D2 := below_call D2 b4
          replace hl2 := hl2.below b4
          replace hs2 := hs2.below b4
          replace Y1 := hcall Y1 b4
          clear b4
          obtain ⟨c0, c1, c2, c3, c4, c5, c6, c7⟩ := rowsEv (he.below D2) j hjl k u o i a p q t HEV.out
          have s0 := (cellsT S2).1
          have s1 := (cellsT S2).2.1
          refine hK.out _ _ (by (try dsimp only); (exact ⟨c0, c1, c2, c3, c4, c5, c6, c7, s0, s1⟩)) (fun hHeld => ?_)
          clear hK K
          try simp only [Act.put, zA, zB, zC, zD, zE, zF]
          iterate 3
            refine Held.tw rgordvla1 ?_
            try simp only [Act.put, zA, zB, zC, zD, zE, zF]
          refine Held.only (k := 10) (i := 10) (show Region.ready .any opsvla (Held.lst 12 ordvla1 10) = [10] by kernel_rfl) (by kernel_rfl) rfl (by kernel_rfl) (fun K hK => ?_)
          obtain ⟨⟨y0, y1⟩, ⟨yf0, yf1⟩, yz⟩ := openT Y1
          have Y4 := hset0 Y1 A9 n9 c9
          obtain ⟨⟨y40, y41⟩, ⟨y4f0, y4f1⟩, y4z⟩ := openT Y4
          have Y5 := hset1 Y4 B9 m9 d9
          go_simp
          clear c0 c1 c2 c3 c4 c5 c6 c7 s0 s1 y0 y1 yf0 yf1 yz y40 y41 y4f0 y4f1 y4z
          have S5 : ((w5.setCell ⟨wr.heap.size, 0, none⟩ (.slice A9 n9 c9)).setCell ⟨wr.heap.size, 1, none⟩ (.slice B9 m9 d9)).heap[w4.heap.size]? = _ := hset_neT (by omega) (hset_neT (by omega) S2)
          have hl5 := Row.setT (Row.setT hl2 nsEn Y1 0 (.slice A9 n9 c9)) nsEn Y4 1 (.slice B9 m9 d9)
          have hs5 := Row.setT (Row.setT hs2 nsSe Y1 0 (.slice A9 n9 c9)) nsSe Y4 1 (.slice B9 m9 d9)
          have hl6 := Row.setT (Row.setT hl4 nsEn Y1 0 (.slice A9 n9 c9)) nsEn Y4 1 (.slice B9 m9 d9)
          have hs6 := Row.setT (Row.setT hs4 nsSe Y1 0 (.slice A9 n9 c9)) nsSe Y4 1 (.slice B9 m9 d9)
          have D5 : Below w4.heap.size w4 ((w5.setCell ⟨wr.heap.size, 0, none⟩ (.slice A9 n9 c9)).setCell ⟨wr.heap.size, 1, none⟩ (.slice B9 m9 d9)) := bset (bset D2 wr.heap.size 0 (.slice A9 n9 c9) hKs) wr.heap.size 1 (.slice B9 m9 d9) hKs
          obtain ⟨c0, c1, c2, c3, c4, c5, c6, c7⟩ := rowsEv (he.below D5) j hjl k u o i a p q t HEV.out
          have s0 := (cellsT S5).1
          have s1 := (cellsT S5).2.1
          refine hK.out _ _ (by (try dsimp only); (exact ⟨c0, c1, c2, c3, c4, c5, c6, c7, s0, s1⟩)) (fun hHeld => ?_)
          clear hK K
          try simp only [Act.put, zA, zB, zC, zD, zE, zF]
          iterate 1
            refine Held.tw rgordvla1 ?_
            try simp only [Act.put, zA, zB, zC, zD, zE, zF]
          refine wpAnyH_done (by kernel_rfl) ?_ _
          obtain ⟨W5, hW5⟩ : ∃ W5, ((w5.setCell ⟨wr.heap.size, 0, none⟩ (.slice A9 n9 c9)).setCell ⟨wr.heap.size, 1, none⟩ (.slice B9 m9 d9)) = W5 := ⟨_, rfl⟩
          obtain ⟨g9, hg9⟩ : ∃ g9, wr.heap.size = g9 := ⟨_, rfl⟩
          have hgg : w4.heap.size < g9 := by omega
          rw [hW5] at Y5 S5 hl5 hs5 hl6 hs6 D5
          rw [hg9] at Y5
          try rw [hW5]
          try rw [hg9]
          clear hW5 hg9
          exact hcont W5 g9 A9 n9 c9 B9 m9 d9 ⟨Y5, S5, hl5, hs5, hl6, hs6, hgg, D5⟩
      case h2 =>
        intro W5 g9 A9 n9 c9 B9 m9 d9 hh
        obtain ⟨Y5, S5, hl5, hs5, hl6, hs6, hgg, D5⟩ := hh
        replace D5 : Below w4.heap.size w4 W5 := D5
        clear S1 hl1 hs1 D3 hgW hKs
        obtain ⟨c0, c1, c2, c3, c4, c5, c6, c7⟩ := rowsEv (he.below D5) j hjl k u o i a p q t HEV.out
        go_wp2_with fail
        with_reducible refine (Touch_is k u o i a p q t ts _ HTS).mono ?_
        rintro e W6 ⟨v, rfl, r2, b6⟩
        obtain ⟨Q2, qc2, rfl⟩ := form_S15 r2
        obtain ⟨tn, htn⟩ : ∃ k, ts.length = k := ⟨_, rfl⟩
        have htn63 : tn ≤ 9223372036854775807 := by rw [← htn]; exact r2.len
        have HTN := Lib.hid htn
        rw [htn] at r2
        try rw [htn]
        have hgW : w4.heap.size < W5.heap.size := (Array.getElem?_eq_some_iff.1 S5).1
        have hgY : g9 < W5.heap.size := (Array.getElem?_eq_some_iff.1 Y5).1
        clear htn c0 c1 c2 c3 c4 c5 c6 c7
        replace Y5 := hcall Y5 b6
        replace S5 := hcall S5 b6
        replace hl5 := hl5.below b6
        replace hs5 := hs5.below b6
        replace hl6 := hl6.below b6
        replace hs6 := hs6.below b6
        replace D5 := below_call D5 b6
        clear b6
        go_wp2_with fail
        go_loopw [12, 14] (fun v12 v14 wr => ∃ (i' : Nat) (au : Bool), v14 = .int .i64 i' ∧ v12 = .bool au ∧ i' ≤ tn ∧ Hid (au = hidL st.1 rE pw (ts.take i')) ∧ Below W6.heap.size W6 wr) (fun _ v14 _ => (tn - intOf v14).toNat)
        case atStart => exact ⟨0, true, rfl, rfl, Nat.zero_le _, rfl, Below.refl _ _⟩
        case round =>
          obtain ⟨i', au, rfl, rfl, hi, HAU, D6⟩ := hrel
          have hl7 := hl5.below D6
          have hs7 := hs5.below D6
          have hl8 := hl6.below D6
          have hs8 := hs6.below D6
          have S7 := hcall S5 D6
          have Y7 := hcall Y5 D6
          by_cases hlt : i' < tn
          · have hil : i' < ts.length := by have := HTN.out; omega
            obtain ⟨z, hz9⟩ : ∃ z, ts[i'] = z := ⟨_, rfl⟩
            obtain ⟨ad2, rfl, cz⟩ := (r2.below D6).get1 (f := Value.string) i' hil
            rw [hz9] at cz
            have x3 : (0 : Int) ≤ (i' : Int) := by omega
            have x4 : (i' : Int) < (tn : Int) := by omega
            have HA2 := hid_step (a := st.1) (b := rE) (p := pw) hil hz9 HAU
            obtain ⟨bz, hbz⟩ : ∃ b, (z.toList == pw.toList) = b := ⟨_, rfl⟩
            obtain ⟨b1, hb1⟩ : ∃ b, seesRo st.1 pw z = b := ⟨_, rfl⟩
            obtain ⟨b2, hb2⟩ : ∃ b, seesRo rE pw z = b := ⟨_, rfl⟩
            rw [hbz, hb1, hb2] at HA2
            have HS1 := Lib.hid hb1
            have HS2 := Lib.hid hb2
            have hbn : (z.toList != pw.toList) = !bz := by rw [← hbz]; rfl
            have s0 := (cellsT S7).1
            have y0 := (cellsT Y7).1
            have D7 : Below W6.heap.size W6 wr.drew := D6.drew
            clear hz9 HAU hb1 hb2 S7 Y7 hs7 hs8
            go_wp2_with fail
            replace cz : wr.drew.cell? _ = _ := cz
            replace s0 : wr.drew.cell? _ = _ := s0
            replace y0 : wr.drew.cell? _ = _ := y0
            replace hl7 : Row _ _ wr.drew _ _ := hl7
            replace hl8 : Row _ _ wr.drew _ _ := hl8
            cases au
            · refine Held.start (ops := opsvlb) (S := fun w' => w'.cell? (ad2.add i') = some (.string z) ∧ w'.cell? ⟨w4.heap.size, 0, none⟩ = some (.slice A' n' c') ∧ w'.cell? ⟨g9, 0, none⟩ = some (.slice A9 n9 c9)) ordvlb 32 (by kernel_rfl) rgvlb.siz (by kernel_rfl) ⟨cz, s0, y0⟩ (fun hHeld => ?_)
              iterate 2
                refine Held.tw rgvlb ?_
                try simp only [Act.put, zA, zB, zC, zD, zE, zF]
              iterate 6
                refine Held.tu rgvlb ?_
                try simp only [Act.put, zA, zB, zC, zD, zE, zF]
              iterate 2
                refine Held.tw rgvlb ?_
                try simp only [Act.put, zA, zB, zC, zD, zE, zF]
              iterate 9
                refine Held.tu rgvlb ?_
                try simp only [Act.put, zA, zB, zC, zD, zE, zF]
              iterate 2
                refine Held.tw rgvlb ?_
                try simp only [Act.put, zA, zB, zC, zD, zE, zF]
              iterate 9
                refine Held.tu rgvlb ?_
                try simp only [Act.put, zA, zB, zC, zD, zE, zF]
              iterate 2
                refine Held.tw rgvlb ?_
                try simp only [Act.put, zA, zB, zC, zD, zE, zF]
              refine wpAnyH_done (by kernel_rfl) ?_ _
              go_wp2
              exact ⟨⟨i' + 1, false, by go_num, rfl, by omega, HA2, D7⟩, by simp [intOf]; omega⟩
            cases bz
            rotate_left
            · refine Held.start (ops := opsvlb) (S := fun w' => w'.cell? (ad2.add i') = some (.string z) ∧ w'.cell? ⟨w4.heap.size, 0, none⟩ = some (.slice A' n' c') ∧ w'.cell? ⟨g9, 0, none⟩ = some (.slice A9 n9 c9)) ordvlb 32 (by kernel_rfl) rgvlb.siz (by kernel_rfl) ⟨cz, s0, y0⟩ (fun hHeld => ?_)
              iterate 10
                refine Held.tw rgvlb ?_
                try simp only [Act.put, zA, zB, zC, zD, zE, zF]
              iterate 9
                refine Held.tu rgvlb ?_
                try simp only [Act.put, zA, zB, zC, zD, zE, zF]
              iterate 2
                refine Held.tw rgvlb ?_
                try simp only [Act.put, zA, zB, zC, zD, zE, zF]
              iterate 9
                refine Held.tu rgvlb ?_
                try simp only [Act.put, zA, zB, zC, zD, zE, zF]
              iterate 2
                refine Held.tw rgvlb ?_
                try simp only [Act.put, zA, zB, zC, zD, zE, zF]
              refine wpAnyH_done (by kernel_rfl) ?_ _
              go_wp2
              exact ⟨⟨i' + 1, false, by go_num, rfl, by omega, HA2, D7⟩, by simp [intOf]; omega⟩
            cases b1
            · refine Held.start (ops := opsvld) (S := fun w' => w'.cell? (ad2.add i') = some (.string z) ∧ w'.cell? ⟨w4.heap.size, 0, none⟩ = some (.slice A' n' c') ∧ w'.cell? ⟨g9, 0, none⟩ = some (.slice A9 n9 c9)) ordvld 32 (by kernel_rfl) rgvld.siz (by kernel_rfl) ⟨cz, s0, y0⟩ (fun hHeld => ?_)
              iterate 17
                refine Held.tw rgvld ?_
                try simp only [Act.put, zA, zB, zC, zD, zE, zF]
              refine Held.only (k := 17) (i := 17) (by kernel_rfl) (by kernel_rfl) rfl (by kernel_rfl) (fun K hK => ?_)
              go_simp
              go_at_call 32
              with_reducible refine (Sees8_is n' c' A' st.1 _ hl7 pw z false HS1).mono ?_
              rintro e w7 ⟨rfl, b7⟩
              replace cz := cell_below b7 cz
              replace s0 := cell_below b7 s0
              replace y0 := cell_below b7 y0
              replace hl8 := hl8.below b7
              replace D7 := below_call D7 b7
              clear b7
              refine hK.out _ _ (by (try dsimp only); (exact ⟨cz, s0, y0⟩)) (fun hHeld => ?_)
              clear hK K
              try simp only [Act.put, zA, zB, zC, zD, zE, zF]
              iterate 10
                refine Held.tw rgvld ?_
                try simp only [Act.put, zA, zB, zC, zD, zE, zF]
              refine Held.only (k := 28) (i := 28) (by kernel_rfl) (by kernel_rfl) rfl (by kernel_rfl) (fun K hK => ?_)
              go_simp
              go_at_call 32
              with_reducible refine (Sees8_is n9 c9 A9 rE _ hl8 pw z b2 HS2).mono ?_
              rintro e w7 ⟨rfl, b7⟩
              replace cz := cell_below b7 cz
              replace s0 := cell_below b7 s0
              replace y0 := cell_below b7 y0
              replace D7 := below_call D7 b7
              clear b7
              refine hK.out _ _ (by (try dsimp only); (exact ⟨cz, s0, y0⟩)) (fun hHeld => ?_)
              clear hK K
              try simp only [Act.put, zA, zB, zC, zD, zE, zF]
              iterate 3
                refine Held.tw rgvld ?_
                try simp only [Act.put, zA, zB, zC, zD, zE, zF]
              refine wpAnyH_done (by kernel_rfl) ?_ _
              go_wp2
              exact ⟨⟨i' + 1, !b2, by go_num, rfl, by omega, HA2, D7⟩, by simp [intOf]; omega⟩
            · refine Held.start (ops := opsvlc) (S := fun w' => w'.cell? (ad2.add i') = some (.string z) ∧ w'.cell? ⟨w4.heap.size, 0, none⟩ = some (.slice A' n' c') ∧ w'.cell? ⟨g9, 0, none⟩ = some (.slice A9 n9 c9)) ordvlc 32 (by kernel_rfl) rgvlc.siz (by kernel_rfl) ⟨cz, s0, y0⟩ (fun hHeld => ?_)
              iterate 17
                refine Held.tw rgvlc ?_
                try simp only [Act.put, zA, zB, zC, zD, zE, zF]
              refine Held.only (k := 17) (i := 17) (by kernel_rfl) (by kernel_rfl) rfl (by kernel_rfl) (fun K hK => ?_)
              go_simp
              go_at_call 32
              with_reducible refine (Sees8_is n' c' A' st.1 _ hl7 pw z true HS1).mono ?_
              rintro e w7 ⟨rfl, b7⟩
              replace cz := cell_below b7 cz
              replace s0 := cell_below b7 s0
              replace y0 := cell_below b7 y0
              replace hl8 := hl8.below b7
              replace D7 := below_call D7 b7
              clear b7
              refine hK.out _ _ (by (try dsimp only); (exact ⟨cz, s0, y0⟩)) (fun hHeld => ?_)
              clear hK K
              try simp only [Act.put, zA, zB, zC, zD, zE, zF]
              iterate 3
                refine Held.tw rgvlc ?_
                try simp only [Act.put, zA, zB, zC, zD, zE, zF]
              iterate 9
                refine Held.tu rgvlc ?_
                try simp only [Act.put, zA, zB, zC, zD, zE, zF]
              iterate 2
                refine Held.tw rgvlc ?_
                try simp only [Act.put, zA, zB, zC, zD, zE, zF]
              refine wpAnyH_done (by kernel_rfl) ?_ _
              go_wp2
              exact ⟨⟨i' + 1, false, by go_num, rfl, by omega, HA2, D7⟩, by simp [intOf]; omega⟩
          · have hin : i' = tn := by omega
            have HX : au = hidL st.1 rE pw ts := by
              have h1 := HAU.out
              rw [hin, List.take_of_length_le (Nat.le_of_eq HTN.out)] at h1
              exact h1
            have HX2 := Lib.hid HX
            have D8 := D5.trans (D6.mono (by have := D5.size; omega))
            have hgW8 : w4.heap.size < wr.heap.size := (Array.getElem?_eq_some_iff.1 S7).1
            clear hlt HAU HX
            subst hin
            cases au
            · go_wp2
              exact ⟨⟨j + 1, A', n', c', B', m', d', st, by go_num, by omega, HM, S7, hl7, hs7, by omega, hz1, hy1, D8⟩, by simp [intOf]; omega⟩
            · have HM2 : Hid (mayT (rE, rS) = true ∧ tabT (rE, rS) pw = tb) := HSTEP.out HX2.out.symm
              have hlen2 : n9 ≤ n + 2 * (j + 1) := by have h9 : n9 = rE.length := hl8.len_eq; have := HNST.out; omega
              have S7b := hset0 S7 A9 n9 c9
              have S8 := hset1 S7b B9 m9 d9
              have hl9 := Row.setT (Row.setT hl8 nsEn S7 0 (.slice A9 n9 c9)) nsEn S7b 1 (.slice B9 m9 d9)
              have hs9 := Row.setT (Row.setT hs8 nsSe S7 0 (.slice A9 n9 c9)) nsSe S7b 1 (.slice B9 m9 d9)
              have D9 := bset (bset D8 w4.heap.size 0 (.slice A9 n9 c9) (Nat.le_refl _)) w4.heap.size 1 (.slice B9 m9 d9) (Nat.le_refl _)
              obtain ⟨⟨t0, t1⟩, ⟨tf0, tf1⟩, tz⟩ := openT S7
              obtain ⟨⟨t50, t51⟩, ⟨tf50, tf51⟩, t5z⟩ := openT S7b
              obtain ⟨⟨y0, y1⟩, ⟨yf0, yf1⟩, yz⟩ := openT Y7
              go_wp2
              exact ⟨⟨j + 1, A9, n9, c9, B9, m9, d9, (rE, rS), by go_num, by omega, HM2, S8, hl9, hs9, hlen2, szE, szS, D9⟩, by simp [intOf]; omega⟩
    · have hjn : j = ne := by omega
      have D8 := below_call D D3
      have HT2 := Lib.hid HM.out.2
      have hn2 : n' ≤ 100000 := by omega
      have hm2 : m' ≤ 100000 := by have h9 := hs1.len_eq; have h8 := (mayT_and.1 HM.out.1).2; have h7 := ((maySe_iff _).1 h8).1; omega
      have r3 := r1.below (D3.mono (Nat.le_refl _))
      obtain ⟨s0, s1, sz⟩ := cellsT S1
      clear hlt
      go_wp2_with fail
      with_reducible refine (vOf_is n' c' A' st.1 m' d' B' st.2 _ hl1 hs1 hz1 hy1 hn2 hm2 pw tb HT2).mono ?_
      rintro e z5 ⟨v, rfl, r5, b5⟩
      obtain ⟨Q5, qc5, rfl⟩ := form_Sn r5
      replace D8 := below_call D8 b5
      replace r3 := r3.below b5
      go_wp2_with fail
      with_reducible refine (re_ (sameSn _ _ _ _ _ _ _ _ _ r5 r3) (ret_bool (decide_eq_true rfl))).mono ?_
      rintro e z6 ⟨rfl, b6⟩
      replace D8 := below_call D8 b6
      go_wp2_with fail
      with_reducible refine (live15 _).mono ?_
      rintro e z9 ⟨rfl, b9⟩
      replace D8 := below_call D8 b9
      go_wp2
      go_ret
      exact ⟨rfl, D8⟩
end Go.Proofs.YtbpfcjdjhponaaaGreat
