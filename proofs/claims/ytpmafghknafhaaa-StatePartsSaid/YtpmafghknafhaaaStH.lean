/-
Layer 14: the walk of StateParts.
-/
import Derived.Test.YtpmafghknafhaaaStG
set_option linter.unusedVariables false
set_option linter.unusedSimpArgs false
namespace Go.Proofs.Ytpmafghknafhaaa
open Go.RowKit
open Sp
namespace Sp
theorem goodT_mem : ∀ (l : List Evt) (x : List Int) (e : Evt), e ∈ goodT l x → e ∈ l
  | [], x, e, h => by cases x <;> simp [goodT] at h
  | a :: l, [], e, h => by simp [goodT] at h
  | a :: l, y :: ys, e, h => by
    unfold goodT at h
    split at h
    · rcases List.mem_cons.1 h with h | h
      · rw [h]; exact List.mem_cons_self ..
      · exact List.mem_cons_of_mem _ (goodT_mem l ys e h)
    · exact List.mem_cons_of_mem _ (goodT_mem l ys e h)
theorem goodT_take (l : List Evt) (x : List Int) (hl : l.length = x.length) (i : Nat) (hi : i < l.length) (hx : i < x.length) : goodT (l.take (i + 1)) (x.take (i + 1)) = goodT (l.take i) (x.take i) ++ (if x[i] = 0 then [l[i]] else []) := by
  rw [List.take_succ_eq_append_getElem hi, List.take_succ_eq_append_getElem hx]
  exact goodT_snoc _ _ (by rw [List.length_take, List.length_take, hl]) _ _
end Sp
theorem allT_sz {s r : Sta} {l : List Evt} {xs : List Int} (h : allT s l = (r, xs)) (hv : SzEv l) (hz : SzRo s.1) (hy : SzSe s.2) : SzRo r.1 ∧ SzSe r.2 ∧ r.1.length ≤ s.1.length + 2 * l.length := by
  induction l generalizing s xs with
  | nil =>
    injection h with h1 h2
    subst h1
    exact ⟨hz, hy, by simp⟩
  | cons e l ih =>
    simp only [allT] at h
    injection h with h1 h2
    obtain ⟨u1, u2, u3⟩ := hv e (List.mem_cons_self ..)
    obtain ⟨p1, p2, p3⟩ := applyT_sz (s := s) (e := e) (r := (applyT s e).1) (er := (applyT s e).2) rfl hz hy u1 u2 u3
    obtain ⟨q1, q2, q3⟩ := ih (s := (applyT s e).1) (xs := (allT (applyT s e).1 l).2) (by rw [← h1]) (fun e' he => hv e' (List.mem_cons_of_mem _ he)) p1 p2
    exact ⟨q1, q2, by rw [List.length_cons]; omega⟩
theorem eventsT_sz {l : List Evt} {z : Int} (h : eventsT l z = true) : (l.length : Int) ≤ z ∧ SzEv l := by
  unfold eventsT at h
  rw [Bool.and_eq_true, decide_eq_true_eq, List.all_eq_true] at h
  refine ⟨h.1, fun e he => ?_⟩
  have := h.2 e he
  unfold shortE at this
  simp only [Bool.and_eq_true, decide_eq_true_eq] at this
  omega
theorem Row.getI {w : World} {A : Option Addr} {n c : Nat} {xs : List Int} (h : Row enI 1 w (.slice A n c) xs) (i : Nat) (hi : i < xs.length) : ∃ ad, A = some ad ∧ w.cell? (ad.add i) = some (.int .i64 xs[i]) := Row.get1 (f := fun x => .int .i64 x) h i hi
set_option maxHeartbeats 32000000 in
set_option maxRecDepth 100000 in
theorem parts14_walk (n c : Nat) (A : Option Addr) (l : List Evt) (n2 c2 : Nat) (A2 : Option Addr) (l2 : List Evt) (w : World) (hl : Row enEv 8 w (.slice A n c) l) (hz : SzEvM l) (hl2 : Row enEv 8 w (.slice A2 n2 c2) l2) (hz2 : SzEvM l2) :
    Calls Try.prog 9 #[.slice A n c, .slice A2 n2 c2] w fun e w' => e = .returned (.bool true) ∧ Below w.heap.size w w' := by
  have EA := Lib.hid hl.len_eq
  have EB := Lib.hid hl2.len_eq
  have D := Below.refl w.heap.size w
  cases h : eventsT l 30 with
  | false =>
    have H1 := Lib.hid h
    clear h
    go_enter Try.func9, Try.ntmps9
    go_wp2_with fail
    with_reducible refine (Events_is n c A l 30 false _ hl hz H1).mono ?_
    rintro e w1 ⟨rfl, b1⟩
    replace hl := hl.below b1
    replace hl2 := hl2.below b1
    replace D := below_call D b1
    clear b1
    go_wp2_with fail
    with_reducible refine (live14 _).mono ?_
    rintro e w2 ⟨rfl, b2⟩
    replace hl := hl.below b2
    replace hl2 := hl2.below b2
    replace D := below_call D b2
    clear b2
    go_wp2
    go_ret
    exact ⟨rfl, D⟩
  | true =>
  have H1 := Lib.hid h
  cases h2 : eventsT l2 30 with
  | false =>
    have H2 := Lib.hid h2
    clear h h2
    go_enter Try.func9, Try.ntmps9
    go_wp2_with fail
    with_reducible refine (Events_is n c A l 30 true _ hl hz H1).mono ?_
    rintro e w1 ⟨rfl, b1⟩
    replace hl := hl.below b1
    replace hl2 := hl2.below b1
    replace D := below_call D b1
    clear b1
    go_wp2_with fail
    with_reducible refine (Events_is n2 c2 A2 l2 30 false _ hl2 hz2 H2).mono ?_
    rintro e w2 ⟨rfl, b2⟩
    replace hl := hl.below b2
    replace hl2 := hl2.below b2
    replace D := below_call D b2
    clear b2
    go_wp2_with fail
    with_reducible refine (live14 _).mono ?_
    rintro e w3 ⟨rfl, b3⟩
    replace hl := hl.below b3
    replace hl2 := hl2.below b3
    replace D := below_call D b3
    clear b3
    go_wp2
    go_ret
    exact ⟨rfl, D⟩
  | true =>
  have H2 := Lib.hid h2
  obtain ⟨hle1, hv1⟩ := eventsT_sz h
  obtain ⟨hle2, hv2⟩ := eventsT_sz h2
  have hn1 : n ≤ 30 := by have := EA.out; omega
  have hn2 : n2 ≤ 30 := by have := EB.out; omega
  have hv12 : SzEv (l ++ l2) := fun e he => (List.mem_append.1 he).elim (hv1 e) (hv2 e)
  obtain ⟨⟨sE, sS⟩, xl, ha1⟩ : ∃ s x, allT (([], []) : Sta) l = (s, x) := ⟨_, _, rfl⟩
  obtain ⟨⟨tE, tS⟩, yl, ha2⟩ : ∃ s x, allT (sE, sS) l2 = (s, x) := ⟨_, _, rfl⟩
  have ha3 : allT (([], []) : Sta) (l ++ l2) = ((tE, tS), xl ++ yl) := by rw [allT_app, ha1]; simp only; rw [ha2]
  obtain ⟨⟨vE, vS⟩, ws, ha5⟩ : ∃ s x, allT (([], []) : Sta) (goodT (l ++ l2) (xl ++ yl)) = (s, x) := ⟨_, _, rfl⟩
  have hgd := allT_good (([], []) : Sta) (l ++ l2)
  rw [ha3] at hgd
  simp only at hgd
  rw [ha5] at hgd
  obtain ⟨hg1, hg2⟩ := hgd
  simp only at hg1 hg2
  injection hg1 with hg1a hg1b
  subst hg1a hg1b
  obtain ⟨zs1, ys1, ln1⟩ := allT_sz ha1 hv1 sz14n sy14n
  obtain ⟨zs2, ys2, ln2⟩ := allT_sz ha2 hv2 zs1 ys1
  simp only at zs1 ys1 ln1 zs2 ys2 ln2
  have hxl : xl.length = n := by have := allT_len (([], []) : Sta) l; rw [ha1] at this; have := EA.out; simp only at *; omega
  have hyl : yl.length = n2 := by have := allT_len ((sE, sS) : Sta) l2; rw [ha2] at this; have := EB.out; simp only at *; omega
  have hwl : ws.length = (goodT (l ++ l2) (xl ++ yl)).length := by have := allT_len (([], []) : Sta) (goodT (l ++ l2) (xl ++ yl)); rw [ha5] at this; exact this
  have hgl := goodT_len (l ++ l2) (xl ++ yl)
  have hvg : SzEv (goodT (l ++ l2) (xl ++ yl)) := fun e he => hv12 e (goodT_mem _ _ _ he)
  obtain ⟨nn, hnn⟩ : ∃ nn, n + n2 = nn := ⟨_, rfl⟩
  obtain ⟨al, hal⟩ : ∃ al, l ++ l2 = al := ⟨_, rfl⟩
  obtain ⟨zl, hzl⟩ : ∃ zl, xl ++ yl = zl := ⟨_, rfl⟩
  obtain ⟨gs, hgs⟩ : ∃ gs, goodT al zl = gs := ⟨_, rfl⟩
  have hlal : al.length = nn := by rw [← hal, List.length_append, ← hnn]; have := EA.out; have := EB.out; omega
  have hlzl : zl.length = nn := by rw [← hzl, List.length_append, ← hnn]; omega
  have hzx : ∀ i (h1 : i < zl.length) (h2 : i < xl.length), zl[i] = xl[i] := fun i h1 h2 => by subst hzl; exact List.getElem_append_left h2
  have hzy : ∀ j (h1 : n + j < zl.length) (h2 : j < yl.length), zl[n + j] = yl[j] := fun j h1 h2 => by subst hzl; rw [List.getElem_append_right (by omega)]; congr 1; omega
  rw [hal, hzl, hgs] at ha5 hwl hvg
  rw [hal, hzl] at ha3
  rw [hal, hzl, hgs] at hgl
  rw [hal] at hv12
  have HA1 := Lib.hid ha1
  have HA2 := Lib.hid ha2
  have HA3 := Lib.hid ha3
  have HA5 := Lib.hid ha5
  have HG := Lib.hid hgs
  have HAL := Lib.hid hal
  have HNN := Lib.hid hnn
  have HWZ := Lib.hid hg2
  have HZX := Lib.hid hzx
  have HZY := Lib.hid hzy
  have h600a : sE.length ≤ 600 := by simp only [List.length_nil] at ln1; omega
  have HXL := Lib.hid hxl
  have HYL := Lib.hid hyl
  have HZL := Lib.hid hlzl
  have HLA := Lib.hid hlal
  have HWL := Lib.hid hwl
  have hnn60 : nn ≤ 60 := by omega
  have hgl60 : gs.length ≤ 60 := by omega
  clear h h2 hle1 hle2 ha1 ha2 ha3 ha5 hgs hal hnn hg2 hzx hzy hxl hyl hlzl hlal hzl hwl hgl
  go_enter Try.func9, Try.ntmps9
  go_wp2_with fail
  with_reducible refine (Events_is n c A l 30 true _ hl hz H1).mono ?_
  rintro e w1 ⟨rfl, b1⟩
  replace hl := hl.below b1
  replace hl2 := hl2.below b1
  replace D := below_call D b1
  clear b1
  go_wp2_with fail
  with_reducible refine (Events_is n2 c2 A2 l2 30 true _ hl2 hz2 H2).mono ?_
  rintro e w2 ⟨rfl, b2⟩
  replace hl := hl.below b2
  replace hl2 := hl2.below b2
  replace D := below_call D b2
  clear b2
  go_wp2_with fail
  with_reducible refine (AllT_is 0 0 none [] 0 0 none [] _ (Row.nil _ _ _) (Row.nil _ _ _) sz14n sy14n (by decide) n c A l hl (by omega) hv1 (sE, sS) xl HA1).mono ?_
  rintro e w3 ⟨B1, k1, d1, B2, k2, d2, vx, rfl, sl, ss, rx, b3⟩
  replace hl := hl.below b3
  replace hl2 := hl2.below b3
  replace D := below_call D b3
  clear b3
  obtain ⟨Ax, cx, rfl⟩ := rx.form8 n HXL.out
  have hk1 : k1 ≤ 600 := by have h9 : k1 = sE.length := sl.len_eq; omega
  have SB := heap_alloc_new w3 (bxT B1 k1 d1 B2 k2 d2)
  replace hl := hl.below (below_box (bxT B1 k1 d1 B2 k2 d2))
  replace hl2 := hl2.below (below_box (bxT B1 k1 d1 B2 k2 d2))
  replace sl := sl.below (below_box (bxT B1 k1 d1 B2 k2 d2))
  replace ss := ss.below (below_box (bxT B1 k1 d1 B2 k2 d2))
  replace rx := rx.below (below_box (bxT B1 k1 d1 B2 k2 d2))
  replace D := below_alloc0 D (bxT B1 k1 d1 B2 k2 d2)
  obtain ⟨s0, s1, sz⟩ := cellsT SB
  go_wp2_with fail
  with_reducible refine (AllT_is k1 d1 B1 sE k2 d2 B2 sS _ sl ss zs1 ys1 hk1 n2 c2 A2 l2 hl2 (by omega) hv2 (vE, vS) yl HA2).mono ?_
  rintro e w4 ⟨B3, k3, d3, B4, k4, d4, vy, rfl, tl, ts, ry, b4⟩
  replace hl := hl.below b4
  replace hl2 := hl2.below b4
  replace sl := sl.below b4
  replace ss := ss.below b4
  replace rx := rx.below b4
  replace SB := hcall SB b4
  replace D := below_call D b4
  clear b4 s0 s1 sz
  obtain ⟨Ay, cy, rfl⟩ := ry.form8 n2 HYL.out
  have TB := heap_alloc_new w4 (bxT B3 k3 d3 B4 k4 d4)
  replace hl := hl.below (below_box (bxT B3 k3 d3 B4 k4 d4))
  replace hl2 := hl2.below (below_box (bxT B3 k3 d3 B4 k4 d4))
  replace sl := sl.below (below_box (bxT B3 k3 d3 B4 k4 d4))
  replace ss := ss.below (below_box (bxT B3 k3 d3 B4 k4 d4))
  replace rx := rx.below (below_box (bxT B3 k3 d3 B4 k4 d4))
  replace SB := halloc SB (bxT B3 k3 d3 B4 k4 d4)
  replace tl := tl.below (below_box (bxT B3 k3 d3 B4 k4 d4))
  replace ts := ts.below (below_box (bxT B3 k3 d3 B4 k4 d4))
  replace ry := ry.below (below_box (bxT B3 k3 d3 B4 k4 d4))
  replace D := below_alloc0 D (bxT B3 k3 d3 B4 k4 d4)
  have O5 : Own enEv 8 63 ((w4.alloc (bxT B3 k3 d3 B4 k4 d4)).alloc (.cells #[] 63)) (w4.alloc (bxT B3 k3 d3 B4 k4 d4)).heap.size (.slice (some ⟨(w4.alloc (bxT B3 k3 d3 B4 k4 d4)).heap.size, 0, none⟩) 0 0) [] := Own.lit enEv_len (w4.alloc (bxT B3 k3 d3 B4 k4 d4)) [] #[] 0 rfl rfl (Nat.le_refl _) (by decide)
  have B5 : Below (w4.alloc (bxT B3 k3 d3 B4 k4 d4)).heap.size (w4.alloc (bxT B3 k3 d3 B4 k4 d4)) ((w4.alloc (bxT B3 k3 d3 B4 k4 d4)).alloc (.cells #[] 63)) := below_box _
  have HZ5 : Hid ((w4.alloc (bxT B3 k3 d3 B4 k4 d4)).heap.size = w4.heap.size + 1) := size_alloc _ _
  go_wp2_with (first | (at_builtin; refine Own.appendRow (w0 := (w4.alloc (bxT B3 k3 d3 B4 k4 d4))) (w4.alloc (bxT B3 k3 d3 B4 k4 d4)).heap.size rfl (.tmp 39) (.tmp 40) 51 63 zvEv 8 88 rfl Try.underlying51 infoEv rfl (by decide) (.slice (some ⟨(w4.alloc (bxT B3 k3 d3 B4 k4 d4)).heap.size, 0, none⟩) 0 0) (.slice A n c) [] l (by rw [HZ5.out]; rfl) rfl enEv_one O5 (hl.below B5) B5 B5.size (by have := EA.out; have := EB.out; (try simp only [List.length_nil]); omega) (by have := EA.out; have := EB.out; (try simp only [List.length_nil]); omega) ?_; intro va wa (OA : Own enEv 8 63 wa _ va l) BA _ _) | (at_builtin; refine Own.appendRow (w0 := (w4.alloc (bxT B3 k3 d3 B4 k4 d4))) (w4.alloc (bxT B3 k3 d3 B4 k4 d4)).heap.size rfl (.tmp 41) (.tmp 42) 51 63 zvEv 8 88 rfl Try.underlying51 infoEv rfl (by decide) va (.slice A2 n2 c2) l l2 rfl rfl enEv_one OA (hl2.below BA) BA BA.size (by have := EA.out; have := EB.out; (try simp only [List.length_nil]); omega) (by have := EA.out; have := EB.out; (try simp only [List.length_nil]); omega) ?_; intro vb wb OB BB _ _; rw [HAL.out] at OB; obtain ⟨A9, c9, hvb, _⟩ := OB.slice; rw [HLA.out] at hvb; subst hvb))
  have ra := OB.row
  replace hl := hl.below BB
  replace hl2 := hl2.below BB
  replace sl := sl.below BB
  replace ss := ss.below BB
  replace rx := rx.below BB
  replace SB := hcall SB BB
  replace tl := tl.below BB
  replace ts := ts.below BB
  replace ry := ry.below BB
  replace TB := hcall TB BB
  replace D := below_call D BB
  clear BB
  clear O5 B5 OA BA OB HZ5
  with_reducible refine (AllT_is 0 0 none [] 0 0 none [] _ (Row.nil _ _ _) (Row.nil _ _ _) sz14n sy14n (by decide) nn c9 A9 al ra (by omega) hv12 (vE, vS) zl HA3).mono ?_
  rintro e w5 ⟨B5, k5, d5, B6, k6, d6, vz, rfl, ul, us, rz, b5⟩
  replace hl := hl.below b5
  replace hl2 := hl2.below b5
  replace sl := sl.below b5
  replace ss := ss.below b5
  replace rx := rx.below b5
  replace SB := hcall SB b5
  replace tl := tl.below b5
  replace ts := ts.below b5
  replace ry := ry.below b5
  replace TB := hcall TB b5
  replace ra := ra.below b5
  replace D := below_call D b5
  clear b5
  obtain ⟨Az, cz, rfl⟩ := rz.form8 nn HZL.out
  have UB := heap_alloc_new w5 (bxT B5 k5 d5 B6 k6 d6)
  replace hl := hl.below (below_box (bxT B5 k5 d5 B6 k6 d6))
  replace hl2 := hl2.below (below_box (bxT B5 k5 d5 B6 k6 d6))
  replace sl := sl.below (below_box (bxT B5 k5 d5 B6 k6 d6))
  replace ss := ss.below (below_box (bxT B5 k5 d5 B6 k6 d6))
  replace rx := rx.below (below_box (bxT B5 k5 d5 B6 k6 d6))
  replace SB := halloc SB (bxT B5 k5 d5 B6 k6 d6)
  replace tl := tl.below (below_box (bxT B5 k5 d5 B6 k6 d6))
  replace ts := ts.below (below_box (bxT B5 k5 d5 B6 k6 d6))
  replace ry := ry.below (below_box (bxT B5 k5 d5 B6 k6 d6))
  replace TB := halloc TB (bxT B5 k5 d5 B6 k6 d6)
  replace ra := ra.below (below_box (bxT B5 k5 d5 B6 k6 d6))
  replace ul := ul.below (below_box (bxT B5 k5 d5 B6 k6 d6))
  replace us := us.below (below_box (bxT B5 k5 d5 B6 k6 d6))
  replace rz := rz.below (below_box (bxT B5 k5 d5 B6 k6 d6))
  replace D := below_alloc0 D (bxT B5 k5 d5 B6 k6 d6)
  obtain ⟨t0, t1, tz⟩ := cellsT TB
  obtain ⟨u0, u1, uz⟩ := cellsT UB
  go_wp2_with fail
  with_reducible refine (SameT_is k3 d3 B3 vE k4 d4 B4 vS k5 d5 B5 vE k6 d6 B6 vS _ tl ts ul us true (Lib.hid (decide_eq_true rfl))).mono ?_
  rintro e w6 ⟨rfl, b6⟩
  replace hl := hl.below b6
  replace hl2 := hl2.below b6
  replace sl := sl.below b6
  replace ss := ss.below b6
  replace rx := rx.below b6
  replace SB := hcall SB b6
  replace tl := tl.below b6
  replace ts := ts.below b6
  replace ry := ry.below b6
  replace TB := hcall TB b6
  replace ra := ra.below b6
  replace ul := ul.below b6
  replace us := us.below b6
  replace rz := rz.below b6
  replace UB := hcall UB b6
  replace D := below_call D b6
  clear b6 t0 t1 tz u0 u1 uz
  clear SB sl ss tl ts TB
  go_wp2
  go_loopw [12, 13] (fun vg vc wr => ∃ (i : Nat) (ys : List Evt), vc = .int .i64 i ∧ i ≤ nn ∧ Hid (goodT (al.take i) (zl.take i) = ys) ∧ ys.length ≤ i ∧ Own enEv 8 63 wr w6.heap.size vg ys ∧ Below w6.heap.size w6 wr) (fun _ vc _ => (nn - intOf vc).toNat)
  case atStart => exact ⟨0, [], rfl, Nat.zero_le _, by show _ = _; simp [goodT], Nat.le_refl _, Own.nil _ _ _ _ _, Below.refl _ _⟩
  case round =>
    obtain ⟨i, ys, rfl, hi, HT, hys, hO, hB⟩ := hrel
    by_cases hlt : i < nn
    · have hia : i < al.length := by rw [HLA.out]; exact hlt
      have hiz : i < zl.length := by rw [HZL.out]; exact hlt
      obtain ⟨⟨k, u, o, j, a, p, q, t⟩, hev⟩ : ∃ e, al[i] = e := ⟨_, rfl⟩
      obtain ⟨er, her⟩ : ∃ e, zl[i] = e := ⟨_, rfl⟩
      have hgt := goodT_take al zl (by rw [HLA.out, HZL.out]) i hia hiz
      rw [HT.out, her, hev] at hgt
      obtain ⟨adz, hz1, cz1⟩ := Row.getI (rz.below hB) i hiz
      rw [her] at cz1
      subst hz1
      obtain ⟨ad9, hz2_, c0, c1, c2', c3, c4, c5, c6, c7⟩ := rowEv (ra.below hB) i hia k u o j a p q t hev
      subst hz2_
      have x1 : (0 : Int) ≤ (i : Int) := by omega
      have x2 : (i : Int) < (nn : Int) := by omega
      have HGT := Lib.hid hgt
      have HER := Lib.hid her
      clear hgt her hev
      by_cases hin : i < n
      · have hix : i < xl.length := by rw [HXL.out]; exact hin
        obtain ⟨adx, hx1, cx1⟩ := Row.getI (rx.below hB) i hix
        rw [← HZX.out i hiz hix, HER.out] at cx1
        subst hx1
        have y1 : (i : Int) < (n : Int) := by omega
        by_cases h0 : er = 0
        · have g0 : (er == 0) = true := by simpa using h0
          have HT2 : Hid (goodT (al.take (i + 1)) (zl.take (i + 1)) = ys ++ [⟨k, u, o, j, (a, p, q, t)⟩]) := by show _ = _; rw [HGT.out, if_pos h0]
          clear h0
          go_wp2_with (at_builtin; refine Own.append (w0 := w6) w6.heap.size rfl (.tmp 107) (.tmp 112) 51 63 zvEv 8 88 rfl Try.underlying51 infoEv rfl (by decide) _ ys ⟨k, u, o, j, (a, p, q, t)⟩ (enEv ⟨k, u, o, j, (a, p, q, t)⟩) rfl rfl rfl rfl (enEv_one _) hO hB hB.size (by omega) (by omega) ?_; intro v2 w2 hO2 hB2 _ _)
          exact ⟨⟨i + 1, ys ++ [⟨k, u, o, j, (a, p, q, t)⟩], by go_num, by omega, HT2, by rw [List.length_append]; simp only [List.length_cons, List.length_nil]; omega, hO2, hB2⟩, by simp [intOf]; omega⟩
        · have g0 : (er == 0) = false := by simpa using h0
          have HT2 : Hid (goodT (al.take (i + 1)) (zl.take (i + 1)) = ys) := by show _ = _; rw [HGT.out, if_neg h0, List.append_nil]
          clear h0
          go_wp2
          exact ⟨⟨i + 1, ys, by go_num, by omega, HT2, by omega, hO, hB⟩, by simp [intOf]; omega⟩
      · obtain ⟨j2, rfl⟩ : ∃ j2, i = n + j2 := ⟨i - n, by omega⟩
        have hiy : j2 < yl.length := by rw [HYL.out]; have := HNN.out; omega
        obtain ⟨ady, hy1, cy1⟩ := Row.getI (ry.below hB) j2 hiy
        rw [← HZY.out j2 hiz hiy, HER.out] at cy1
        subst hy1
        have y1 : ¬ ((n + j2 : Nat) : Int) < (n : Int) := by omega
        have y2 : (0 : Int) ≤ (j2 : Int) := by omega
        have y3 : (j2 : Int) < (n2 : Int) := by have := HNN.out; omega
        have y4 : ((n + j2 : Nat) : Int) - (n : Int) = (j2 : Int) := by omega
        by_cases h0 : er = 0
        · have g0 : (er == 0) = true := by simpa using h0
          have HT2 : Hid (goodT (al.take ((n + j2) + 1)) (zl.take ((n + j2) + 1)) = ys ++ [⟨k, u, o, j, (a, p, q, t)⟩]) := by show _ = _; rw [HGT.out, if_pos h0]
          clear h0
          go_wp2_with (at_builtin; refine Own.append (w0 := w6) w6.heap.size rfl (.tmp 107) (.tmp 112) 51 63 zvEv 8 88 rfl Try.underlying51 infoEv rfl (by decide) _ ys ⟨k, u, o, j, (a, p, q, t)⟩ (enEv ⟨k, u, o, j, (a, p, q, t)⟩) rfl rfl rfl rfl (enEv_one _) hO hB hB.size (by omega) (by omega) ?_; intro v2 w2 hO2 hB2 _ _)
          exact ⟨⟨(n + j2) + 1, ys ++ [⟨k, u, o, j, (a, p, q, t)⟩], by go_num, by omega, HT2, by rw [List.length_append]; simp only [List.length_cons, List.length_nil]; omega, hO2, hB2⟩, by simp [intOf]; omega⟩
        · have g0 : (er == 0) = false := by simpa using h0
          have HT2 : Hid (goodT (al.take ((n + j2) + 1)) (zl.take ((n + j2) + 1)) = ys) := by show _ = _; rw [HGT.out, if_neg h0, List.append_nil]
          clear h0
          go_wp2
          exact ⟨⟨(n + j2) + 1, ys, by go_num, by omega, HT2, by omega, hO, hB⟩, by simp [intOf]; omega⟩
    · have hin : i = nn := by omega
      have HF : Hid (ys = gs) := by
        show _ = _
        rw [← HT.out, List.take_of_length_le (by rw [HLA.out]; omega), List.take_of_length_le (by rw [HZL.out]; omega)]
        exact HG.out
      have hgy := HF.out
      subst hgy
      obtain ⟨Ag, cg, rfl, _⟩ := hO.slice
      have rg := hO.row
      replace hl := hl.below hB
      replace hl2 := hl2.below hB
      replace rx := rx.below hB
      replace ry := ry.below hB
      replace ra := ra.below hB
      replace ul := ul.below hB
      replace us := us.below hB
      replace rz := rz.below hB
      replace UB := hcall UB hB
      replace D := below_call D hB
      clear hB hO HT rx ry rz ra
      go_wp2_with fail
      with_reducible refine (AllT_is 0 0 none [] 0 0 none [] _ (Row.nil _ _ _) (Row.nil _ _ _) sz14n sy14n (by decide) ys.length cg Ag ys rg (by omega) hvg (vE, vS) ws HA5).mono ?_
      rintro e w7 ⟨B7, k7, d7, B8, k8, d8, vw, rfl, vl, vs, rw_, b7⟩
      replace hl := hl.below b7
      replace hl2 := hl2.below b7
      replace ul := ul.below b7
      replace us := us.below b7
      replace UB := hcall UB b7
      replace rg := rg.below b7
      replace D := below_call D b7
      clear b7
      obtain ⟨Aw, cw, rfl⟩ := rw_.form8 ys.length HWL.out
      have VB := heap_alloc_new w7 (bxT B7 k7 d7 B8 k8 d8)
      replace hl := hl.below (below_box (bxT B7 k7 d7 B8 k8 d8))
      replace hl2 := hl2.below (below_box (bxT B7 k7 d7 B8 k8 d8))
      replace ul := ul.below (below_box (bxT B7 k7 d7 B8 k8 d8))
      replace us := us.below (below_box (bxT B7 k7 d7 B8 k8 d8))
      replace UB := halloc UB (bxT B7 k7 d7 B8 k8 d8)
      replace rg := rg.below (below_box (bxT B7 k7 d7 B8 k8 d8))
      replace vl := vl.below (below_box (bxT B7 k7 d7 B8 k8 d8))
      replace vs := vs.below (below_box (bxT B7 k7 d7 B8 k8 d8))
      replace rw_ := rw_.below (below_box (bxT B7 k7 d7 B8 k8 d8))
      replace D := below_alloc0 D (bxT B7 k7 d7 B8 k8 d8)
      go_wp2
      go_loopw [17] (fun vc wr2 => ∃ (i : Nat), vc = .int .i64 i ∧ i ≤ ys.length ∧ Below (w7.alloc (bxT B7 k7 d7 B8 k8 d8)).heap.size (w7.alloc (bxT B7 k7 d7 B8 k8 d8)) wr2) (fun vc _ => (ys.length - intOf vc).toNat)
      case atStart => exact ⟨0, rfl, Nat.zero_le _, Below.refl _ _⟩
      case round =>
        obtain ⟨i2, rfl, hi2, hB2⟩ := hrel
        by_cases hlt2 : i2 < ys.length
        · have hiw : i2 < ws.length := by rw [HWL.out]; exact hlt2
          obtain ⟨adw, hw1, cw1⟩ := Row.getI (rw_.below hB2) i2 hiw
          rw [HWZ.out _ (List.getElem_mem hiw)] at cw1
          subst hw1
          have x1 : (0 : Int) ≤ (i2 : Int) := by omega
          have x2 : (i2 : Int) < (ys.length : Int) := by omega
          go_wp2
          exact ⟨⟨i2 + 1, by go_num, by omega, hB2⟩, by simp [intOf]; omega⟩
        · have hin2 : i2 = ys.length := by omega
          replace hl := hl.below hB2
          replace hl2 := hl2.below hB2
          replace ul := ul.below hB2
          replace us := us.below hB2
          replace UB := hcall UB hB2
          replace rg := rg.below hB2
          replace vl := vl.below hB2
          replace vs := vs.below hB2
          replace rw_ := rw_.below hB2
          replace VB := hcall VB hB2
          replace D := below_call D hB2
          clear hB2
          obtain ⟨u0, u1, uz⟩ := cellsT UB
          obtain ⟨t0, t1, tz⟩ := cellsT VB
          go_wp2_with fail
          with_reducible refine (SameT_is k5 d5 B5 vE k6 d6 B6 vS k7 d7 B7 vE k8 d8 B8 vS _ ul us vl vs true (Lib.hid (decide_eq_true rfl))).mono ?_
          rintro e w8 ⟨rfl, b8⟩
          replace hl := hl.below b8
          replace hl2 := hl2.below b8
          replace ul := ul.below b8
          replace us := us.below b8
          replace UB := hcall UB b8
          replace rg := rg.below b8
          replace vl := vl.below b8
          replace vs := vs.below b8
          replace rw_ := rw_.below b8
          replace VB := hcall VB b8
          replace D := below_call D b8
          clear b8 t0 t1 tz u0 u1 uz
          go_wp2_with fail
          with_reducible refine (live14 _).mono ?_
          rintro e w9 ⟨rfl, b9⟩
          replace hl := hl.below b9
          replace hl2 := hl2.below b9
          replace ul := ul.below b9
          replace us := us.below b9
          replace UB := hcall UB b9
          replace rg := rg.below b9
          replace vl := vl.below b9
          replace vs := vs.below b9
          replace rw_ := rw_.below b9
          replace VB := hcall VB b9
          replace D := below_call D b9
          clear b9
          go_wp2
          go_ret
          exact ⟨rfl, D⟩
end Go.Proofs.Ytpmafghknafhaaa
