/-
Layer 14: the walk of StateAll.
-/
import Derived.Test.YtpmafghknafhaaaGreatStO
import Derived.Test.YtpmafghknafhaaaGreatStG
set_option linter.unusedVariables false
set_option linter.unusedSimpArgs false
namespace Go.Proofs.YtpmafghknafhaaaGreat
open Go.RowKit
open Sp
theorem eventsT_sz40 {l : List Evt} (h : eventsT l 40 = true) : l.length ≤ 40 ∧ SzEv l := by
  unfold eventsT at h
  rw [Bool.and_eq_true, decide_eq_true_eq, List.all_eq_true] at h
  refine ⟨by have := h.1; omega, fun e he => ?_⟩
  have := h.2 e he
  unfold shortE at this
  simp only [Bool.and_eq_true, decide_eq_true_eq] at this
  omega
theorem Row.getI {w : World} {A : Option Addr} {n c : Nat} {xs : List Int} (h : Row enI 1 w (.slice A n c) xs) (i : Nat) (hi : i < xs.length) : ∃ ad, A = some ad ∧ w.cell? (ad.add i) = some (.int .i64 xs[i]) := Row.get1 (f := fun x => .int .i64 x) h i hi
set_option maxHeartbeats 32000000 in
set_option maxRecDepth 100000 in
theorem all14_walk (n c : Nat) (A : Option Addr) (l : List En) (m d : Nat) (B : Option Addr) (s : List Se) (ne ce : Nat) (E : Option Addr) (es : List Evt) (w : World)
    (hl : Row enEn 7 w (.slice A n c) l) (hz : SzE l) (hs : Row enSe 6 w (.slice B m d) s) (hy : SzEs s) (he : Row enEv 8 w (.slice E ne ce) es) (hv : SzEvM es) :
    Calls Tryz.prog 4 #[agT A n c B m d, .slice E ne ce] w fun r w' => r = .returned (.bool true) ∧ Below w.heap.size w w' := by
  have EA := Lib.hid hl.len_eq
  have EE := Lib.hid he.len_eq
  have D := below_box (w := w) (bxT A n c B m d)
  have S0 := heap_alloc_new w (bxT A n c B m d)
  replace hl := hl.below D
  replace hs := hs.below D
  replace he := he.below D
  cases h : fewT (l, s) with
  | false =>
    have H1 := Lib.hid h
    clear h
    obtain ⟨s0, s1, sz⟩ := cellsT S0
    go_enter Tryz.func4, Tryz.ntmps4
    go_wp2_with fail
    with_reducible refine (FewT_is n c A l m d B s _ hl hs hz hy false H1).mono ?_
    rintro e w1 ⟨rfl, b1⟩
    replace hl := hl.below b1
    replace hs := hs.below b1
    replace he := he.below b1
    replace S0 := hcall S0 b1
    replace D := below_call D b1
    clear b1 s0 s1 sz
    go_wp2_with fail
    with_reducible refine (live14 _).mono ?_
    rintro e w2 ⟨rfl, b2⟩
    replace hl := hl.below b2
    replace hs := hs.below b2
    replace he := he.below b2
    replace S0 := hcall S0 b2
    replace D := below_call D b2
    clear b2
    go_wp2
    go_ret
    exact ⟨rfl, D⟩
  | true =>
  obtain ⟨zl, zs, zn, zm⟩ := fewT_sz h
  have H1 := Lib.hid h
  clear h
  cases h : eventsT es 40 with
  | false =>
    have H2 := Lib.hid h
    clear h
    obtain ⟨s0, s1, sz⟩ := cellsT S0
    go_enter Tryz.func4, Tryz.ntmps4
    go_wp2_with fail
    with_reducible refine (FewT_is n c A l m d B s _ hl hs hz hy true H1).mono ?_
    rintro e w1 ⟨rfl, b1⟩
    replace hl := hl.below b1
    replace hs := hs.below b1
    replace he := he.below b1
    replace S0 := hcall S0 b1
    replace D := below_call D b1
    clear b1 s0 s1 sz
    go_wp2_with fail
    with_reducible refine (Events_is ne ce E es 40 false _ he hv H2).mono ?_
    rintro e w2 ⟨rfl, b2⟩
    replace hl := hl.below b2
    replace hs := hs.below b2
    replace he := he.below b2
    replace S0 := hcall S0 b2
    replace D := below_call D b2
    clear b2
    go_wp2_with fail
    with_reducible refine (live14 _).mono ?_
    rintro e w3 ⟨rfl, b3⟩
    replace hl := hl.below b3
    replace hs := hs.below b3
    replace he := he.below b3
    replace S0 := hcall S0 b3
    replace D := below_call D b3
    clear b3
    go_wp2
    go_ret
    exact ⟨rfl, D⟩
  | true =>
  obtain ⟨hle, hve⟩ := eventsT_sz40 h
  have H2 := Lib.hid h
  clear h
  have hn : n ≤ 600 := by have := EA.out; omega
  have hne : ne ≤ 100 := by have := EE.out; omega
  obtain ⟨⟨rE, rS⟩, xs, ha⟩ : ∃ r x, allT (l, s) es = (r, x) := ⟨_, _, rfl⟩
  have HA := Lib.hid ha
  obtain ⟨nx, hnx⟩ : ∃ j, xs.length = j := ⟨_, rfl⟩
  have hnx1 : nx ≤ 100 := by have := allT_len ((l, s) : Sta) es; rw [ha] at this; simp only at this; omega
  have HNX := Lib.hid hnx
  clear ha hnx zn zm hle
  obtain ⟨s0, s1, sz⟩ := cellsT S0
  go_enter Tryz.func4, Tryz.ntmps4
  go_wp2_with fail
  with_reducible refine (FewT_is n c A l m d B s _ hl hs hz hy true H1).mono ?_
  rintro e w1 ⟨rfl, b1⟩
  replace hl := hl.below b1
  replace hs := hs.below b1
  replace he := he.below b1
  replace S0 := hcall S0 b1
  replace D := below_call D b1
  clear b1 s0 s1 sz
  go_wp2_with fail
  with_reducible refine (Events_is ne ce E es 40 true _ he hv H2).mono ?_
  rintro e w2 ⟨rfl, b2⟩
  replace hl := hl.below b2
  replace hs := hs.below b2
  replace he := he.below b2
  replace S0 := hcall S0 b2
  replace D := below_call D b2
  clear b2
  obtain ⟨s0, s1, sz⟩ := cellsT S0
  go_wp2_with fail
  with_reducible refine (AllT_is n c A l m d B s _ hl hs zl zs hn ne ce E es he hne hve (rE, rS) xs HA).mono ?_
  rintro e w3 ⟨fA, fn, fc, fB, fm, fd, fv, rfl, fl, fs, fx, b3⟩
  replace hl := hl.below b3
  replace hs := hs.below b3
  replace he := he.below b3
  replace S0 := hcall S0 b3
  replace D := below_call D b3
  clear b3 s0 s1 sz
  obtain ⟨fX, fy, rfl⟩ := fx.form8 nx HNX.out
  have F0 := heap_alloc_new w3 (bxT fA fn fc fB fm fd)
  replace hl := hl.below (below_box (bxT fA fn fc fB fm fd))
  replace hs := hs.below (below_box (bxT fA fn fc fB fm fd))
  replace he := he.below (below_box (bxT fA fn fc fB fm fd))
  replace S0 := halloc S0 (bxT fA fn fc fB fm fd)
  replace fl := fl.below (below_box (bxT fA fn fc fB fm fd))
  replace fs := fs.below (below_box (bxT fA fn fc fB fm fd))
  replace fx := fx.below (below_box (bxT fA fn fc fB fm fd))
  replace D := below_alloc0 D (bxT fA fn fc fB fm fd)
  obtain ⟨s0, s1, sz⟩ := cellsT S0
  go_wp2_with fail
  with_reducible refine (refAllT_is n c A l m d B s _ hl hs zl zs hn ne ce E es he hne hve (rE, rS) xs HA).mono ?_
  rintro e w4 ⟨gA, gn, gc, gB, gm, gd, gv, rfl, gl, gs, gx, b4⟩
  replace hl := hl.below b4
  replace hs := hs.below b4
  replace he := he.below b4
  replace S0 := hcall S0 b4
  replace fl := fl.below b4
  replace fs := fs.below b4
  replace fx := fx.below b4
  replace F0 := hcall F0 b4
  replace D := below_call D b4
  clear b4 s0 s1 sz
  obtain ⟨gX, gy, rfl⟩ := gx.form8 nx HNX.out
  have G0 := heap_alloc_new w4 (bxT gA gn gc gB gm gd)
  replace hl := hl.below (below_box (bxT gA gn gc gB gm gd))
  replace hs := hs.below (below_box (bxT gA gn gc gB gm gd))
  replace he := he.below (below_box (bxT gA gn gc gB gm gd))
  replace S0 := halloc S0 (bxT gA gn gc gB gm gd)
  replace fl := fl.below (below_box (bxT gA gn gc gB gm gd))
  replace fs := fs.below (below_box (bxT gA gn gc gB gm gd))
  replace fx := fx.below (below_box (bxT gA gn gc gB gm gd))
  replace F0 := halloc F0 (bxT gA gn gc gB gm gd)
  replace gl := gl.below (below_box (bxT gA gn gc gB gm gd))
  replace gs := gs.below (below_box (bxT gA gn gc gB gm gd))
  replace gx := gx.below (below_box (bxT gA gn gc gB gm gd))
  replace D := below_alloc0 D (bxT gA gn gc gB gm gd)
  obtain ⟨f0, f1, fz⟩ := cellsT F0
  obtain ⟨g0, g1, gz⟩ := cellsT G0
  go_wp2_with fail
  with_reducible refine (refSameT_is fn fc fA rE fm fd fB rS gn gc gA rE gm gd gB rS _ fl fs gl gs true (Lib.hid (decide_eq_true rfl))).mono ?_
  rintro e w5 ⟨rfl, b5⟩
  replace hl := hl.below b5
  replace hs := hs.below b5
  replace he := he.below b5
  replace S0 := hcall S0 b5
  replace fl := fl.below b5
  replace fs := fs.below b5
  replace fx := fx.below b5
  replace F0 := hcall F0 b5
  replace gl := gl.below b5
  replace gs := gs.below b5
  replace gx := gx.below b5
  replace G0 := hcall G0 b5
  replace D := below_call D b5
  clear b5 f0 f1 fz g0 g1 gz
  go_wp2
  go_loopw [9] (fun vc wr => ∃ (j : Nat), vc = .int .i64 j ∧ j ≤ nx ∧ Below w5.heap.size w5 wr) (fun vc _ => (nx - intOf vc).toNat)
  case atStart => exact ⟨0, rfl, Nat.zero_le _, Below.refl _ _⟩
  case round =>
    obtain ⟨j, rfl, hj, hB⟩ := hrel
    by_cases hlt : j < nx
    · have hjl : j < xs.length := by rw [HNX.out]; exact hlt
      obtain ⟨er, her⟩ : ∃ e, xs[j] = e := ⟨_, rfl⟩
      obtain ⟨ad, hA1, c0⟩ := (fx.below hB).getI j hjl
      obtain ⟨ad2, hA2, c1⟩ := (gx.below hB).getI j hjl
      rw [her] at c0 c1
      subst hA1 hA2
      clear her
      have x1 : (0 : Int) ≤ (j : Int) := by omega
      have x2 : (j : Int) < (nx : Int) := by omega
      go_wp2_with fail
      go_quiet (fail)
      have hB2 : Below w5.heap.size w5 (wr.drewN nq) := below_drewN hB _
      go_wp2
      exact ⟨⟨j + 1, by go_num, by omega, hB2⟩, by simp [intOf]; omega⟩
    · have hin : j = nx := by omega
      have D5 := below_call D hB
      go_wp2_with fail
      with_reducible refine (live14 _).mono ?_
      rintro e w9 ⟨rfl, b9⟩
      have D6 := below_call D5 b9
      go_wp2
      go_ret
      exact ⟨rfl, D6⟩
end Go.Proofs.YtpmafghknafhaaaGreat
