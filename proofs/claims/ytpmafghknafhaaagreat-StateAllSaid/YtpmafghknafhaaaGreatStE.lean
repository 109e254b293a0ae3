/-
Contract: a state behind many events, by the program.
-/
import Derived.Test.YtpmafghknafhaaaGreatStD
import Derived.Test.YtpmafghknafhaaaGreatEvRk
import Derived.Test.YtpmafghknafhaaaGreatIdentD
set_option linter.unusedVariables false
set_option linter.unusedSimpArgs false
namespace Go.Proofs.YtpmafghknafhaaaGreat
open Go.RowKit
open Sp
namespace Sp
theorem setRo_mem {l : List En} {x y : En} {keep : Bool} (h : y ∈ setRo l x keep) : y = x ∨ y ∈ l := by
  unfold setRo at h
  have hd : ∀ z, z ∈ delK keyRo l (keyRo x) → z ∈ l := fun z hz => (delK_mem.1 hz).1
  split at h
  · rcases List.mem_append.1 h with h | h
    · exact .inr (hd _ (List.takeWhile_subset _ h))
    · rcases List.mem_cons.1 h with h | h
      · exact .inl h
      · exact .inr (hd _ (List.dropWhile_subset _ h))
  · exact .inr (hd _ h)
theorem setRo_len' (l : List En) (x : En) (keep : Bool) : (setRo l x keep).length ≤ l.length + 1 := by
  have h1 : (delK keyRo l (keyRo x)).length ≤ l.length := List.length_filter_le _ _
  unfold setRo
  split
  · have h2 := congrArg List.length (tw_dw (delK keyRo l (keyRo x)) (fun y => !ltRo (keyRo x) (keyRo y)))
    rw [List.length_append] at h2
    rw [List.length_append, List.length_cons]
    omega
  · omega
theorem doRo_sz {l : List En} {k : Int} {u o : ByteArray} {r : List En} {e : Int} (h : doRo l k u o = (r, e)) : r.length ≤ l.length + 2 ∧ ∀ x ∈ r, (x ∈ l ∨ (x.o = u ∧ x.c = o) ∨ (x.o = o ∧ x.c = u)) := by
  by_cases he : e = 0
  · subst he
    obtain ⟨_, a, b, _, rfl⟩ := doRo_ok h
    have h1 := setRo_len' l ⟨u, o, a⟩ (!(emptyI a && emptyI b))
    have h2 := setRo_len' (setRo l ⟨u, o, a⟩ (!(emptyI a && emptyI b))) ⟨o, u, b⟩ (!(emptyI a && emptyI b))
    refine ⟨by omega, fun x hx => ?_⟩
    rcases setRo_mem hx with rfl | hx
    · exact .inr (.inr ⟨rfl, rfl⟩)
    · rcases setRo_mem hx with rfl | hx
      · exact .inr (.inl ⟨rfl, rfl⟩)
      · exact .inl hx
  · rw [doRo_err h he]
    exact ⟨by omega, fun x hx => .inl hx⟩
theorem putSe_mem {l : List Se} {s : Se} {r : List Se} {e : Int} (h : putSe l s = (r, e)) : ∀ x ∈ r, x = s ∨ x ∈ l := by
  by_cases he : e = 0
  · subst he
    obtain ⟨_, _, rfl, _⟩ := putSe_ok h
    intro x hx
    rcases putK_mem.1 hx with rfl | hx
    · exact .inl rfl
    · exact .inr hx.1
  · rw [putSe_err h he]
    exact fun x hx => .inr hx
theorem dropSe_mem {l : List Se} {k : SeK} {r : List Se} {e : Int} (h : dropSe l k = (r, e)) : ∀ x ∈ r, x ∈ l := by
  unfold dropSe at h
  split at h
  · injection h with h1 h2; subst h1; exact fun x hx => hx
  · split at h
    · injection h with h1 h2
      subst h1
      intro x hx
      rcases List.mem_append.1 hx with hx | hx
      · exact List.mem_of_mem_take hx
      · exact List.mem_of_mem_drop hx
    · injection h with h1 h2; subst h1; exact fun x hx => hx
end Sp
def SzEv (l : List Evt) : Prop := ∀ e ∈ l, e.u.size ≤ 140737488351232 ∧ e.o.size ≤ 140737488351232 ∧ e.v.2.2.2.size ≤ 140737488351232
theorem applyT_sz {s r : Sta} {e : Evt} {er : Int} (h : applyT s e = (r, er)) (hz : SzRo s.1) (hy : SzSe s.2) (hu : e.u.size ≤ 140737488351232) (ho : e.o.size ≤ 140737488351232) (ht : e.v.2.2.2.size ≤ 140737488351232) : SzRo r.1 ∧ SzSe r.2 ∧ r.1.length ≤ s.1.length + 2 := by
  obtain ⟨l, m⟩ := s
  unfold applyT at h
  simp only at hz hy
  split at h
  · injection h with h1 h2; subst h1; exact ⟨hz, hy, by simp⟩
  · split at h
    · injection h with h1 h2
      subst h1
      obtain ⟨h3, h4⟩ := doRo_sz (l := l) (k := e.k) (u := e.u) (o := e.o) (r := (doRo l e.k e.u e.o).1) (e := (doRo l e.k e.u e.o).2) rfl
      refine ⟨fun x hx => ?_, hy, h3⟩
      rcases h4 x hx with h5 | ⟨h5, h6⟩ | ⟨h5, h6⟩
      · exact hz x h5
      · rw [h5, h6]; exact ⟨hu, ho⟩
      · rw [h5, h6]; exact ⟨ho, hu⟩
    · split at h
      · injection h with h1 h2
        subst h1
        refine ⟨hz, fun x hx => ?_, by simp⟩
        rcases putSe_mem (l := m) (s := ⟨e.u, e.i, e.v⟩) (r := (putSe m ⟨e.u, e.i, e.v⟩).1) (e := (putSe m ⟨e.u, e.i, e.v⟩).2) rfl x hx with rfl | h5
        · exact ⟨hu, ht⟩
        · exact hy x h5
      · split at h
        · injection h with h1 h2
          subst h1
          exact ⟨hz, fun x hx => hy x (dropSe_mem (l := m) (k := (e.u, e.i)) (r := (dropSe m (e.u, e.i)).1) (e := (dropSe m (e.u, e.i)).2) rfl x hx), by simp⟩
        · injection h with h1 h2; subst h1; exact ⟨hz, hy, by simp⟩
/-- A row that has something in it lies in another block than the one of v. -/
def Apart (v : Value) (A : Option Addr) (n : Nat) : Prop := 0 < n → ∀ ad, A = some ad → v.ownBlock ≠ some ad.block
theorem Row.lt {α : Type} {enc : α → List Value} {k : Nat} {w : World} {A : Option Addr} {n c : Nat} {xs : List α} (h : Row enc k w (.slice A n c) xs) (hk : 0 < k) (hn : 0 < n) (ad : Addr) (e : A = some ad) : ad.block < w.heap.size := by
  obtain ⟨A', c', e1, h1, h2, h3, h4⟩ := h
  injection e1 with e2 e3 e4
  subst e2 e3
  obtain ⟨ad', e5, hc⟩ := h4 hn
  rw [e] at e5
  injection e5 with e5
  subst e5
  have hp : 0 < (xs.flatMap enc).length := by rw [h3]; exact Nat.mul_pos hn hk
  have h5 := hc 0 _ (List.getElem?_eq_getElem hp)
  have h6 := World.block_lt_of_cell? w _ h5
  rwa [add_block] at h6
theorem Row.grownP {α : Type} {enc : α → List Value} {k : Nat} {w w1 : World} {A : Option Addr} {n c : Nat} {xs : List α} {row : Option Nat} (h : Row enc k w (.slice A n c) xs) (hg : w.grownBy w1 row) (hr : 0 < n → ∀ ad, A = some ad → row ≠ some ad.block) : Row enc k w1 (.slice A n c) xs := by
  obtain ⟨A', c', e1, h1, h2, h3, h4⟩ := h
  injection e1 with e2 e3 e4
  subst e2 e3 e4
  refine ⟨A, c, rfl, h1, h2, h3, fun hp => ?_⟩
  obtain ⟨ad, e, hc⟩ := h4 hp
  exact ⟨ad, e, fun j u hu => hg.cell (hc j u hu) (fun he => hr hp ad e (by rw [← he, add_block]))⟩
theorem infoEr : (Tryz.prog.info? 33).map (fun i => (i.zero, i.size, i.bytes)) = some (some (.int .i64 0), 1, 8) := by kernel_rfl
theorem enI_one (x : Int) : ∀ u ∈ enI x, u.oneCell' = true := fun u hu => by rw [enI, List.mem_singleton] at hu; rw [hu]; rfl
theorem nsI : ∀ (y : Int) (u : Value), u ∈ enI y → ∀ A n c, u ≠ .slice A n c := by
  intro y u hu A n c e
  subst e
  simp [enI] at hu
theorem apart_fresh {vo : Value} {W : World} {A A' : Option Addr} {n c n' c' : Nat} (hv : ∀ g, vo.ownBlock = some g → g < W.heap.size) (h : Apart vo A n) (hf : Fresh W (.slice A n c) (.slice A' n' c')) : Apart vo A' n' := by
  intro hp ad e ho
  rcases hf with hf | hf
  · injection hf with e1 e2 e3
    subst e1 e2
    exact h hp ad e ho
  · have h1 := hf ad.block (by rw [e]; rfl)
    have h2 := hv _ ho
    omega
theorem Own.setLow {α : Type} {enc : α → List Value} {k : Nat} {e : TypeId} {w : World} {base g : Nat} {v : Value} {xs : List α} (h : Own enc k e w base v xs) (hg : g < base) (i : Nat) (x : Value) : Own enc k e (w.setCell ⟨g, i, none⟩ x) base v xs := by
  obtain ⟨h1, h2⟩ := h
  refine ⟨h1, h2.imp id ?_⟩
  rintro ⟨b, cap, cur, e1, hb, hh, h3, h4, h5, h6⟩
  exact ⟨b, cap, cur, e1, hb, hset_neT (by omega) hh, h3, h4, h5, h6⟩
set_option maxHeartbeats 16000000 in
set_option maxRecDepth 100000 in
theorem AllT_is (n c : Nat) (A : Option Addr) (l : List En) (m d : Nat) (B : Option Addr) (s : List Se) (w : World) (hl : Row enEn 7 w (.slice A n c) l) (hs : Row enSe 6 w (.slice B m d) s) (hz : SzRo l) (hy : SzSe s) (hn : n ≤ 600) (ne ce : Nat) (E : Option Addr) (es : List Evt) (he : Row enEv 8 w (.slice E ne ce) es) (hne : ne ≤ 100) (hv : SzEv es) (r : Sta) (xs : List Int) (h : Hid (allT (l, s) es = (r, xs))) :
    Calls Tryz.prog 20 #[agT A n c B m d, .slice E ne ce] w fun x w' => ∃ A' n' c' B' m' d' v, x = .returned (.tuple #[agT A' n' c' B' m' d', v]) ∧ Row enEn 7 w' (.slice A' n' c') r.1 ∧ Row enSe 6 w' (.slice B' m' d') r.2 ∧ Row enI 1 w' v xs ∧ Below w.heap.size w w' := by
  have EA := Lib.hid hl.len_eq
  have EE := Lib.hid he.len_eq
  have D := below_alloc0 (below_box (w := w) (bxT A n c B m d)) (bxT none 0 0 none 0 0)
  have S0 := halloc (heap_alloc_new w (bxT A n c B m d)) (bxT none 0 0 none 0 0)
  have Z0 := heap_alloc_new (w.alloc (bxT A n c B m d)) (bxT none 0 0 none 0 0)
  rw [size_alloc] at Z0
  have HW : Hid (((w.alloc (bxT A n c B m d)).alloc (bxT none 0 0 none 0 0)).heap.size = w.heap.size + 1 + 1) := by show _ = _; rw [size_alloc, size_alloc]
  have hl0 := hl.below D
  have hs0 := hs.below D
  clear hl hs
  go_enter Tryz.func20, Tryz.ntmps20
  go_wp2
  go_loopw [6, 12] (fun vo vc wr => ∃ (i : Nat) (A' : Option Addr) (n' c' : Nat) (B' : Option Addr) (m' d' : Nat) (st : Sta) (ys : List Int), vc = .int .i64 i ∧ i ≤ ne ∧ Hid (allT (l, s) (es.take i) = (st, ys)) ∧ wr.heap[w.heap.size]? = some (bxT A' n' c' B' m' d') ∧ wr.heap[w.heap.size + 1]? = some (bxT none 0 0 none 0 0) ∧ Row enEn 7 wr (.slice A' n' c') st.1 ∧ Row enSe 6 wr (.slice B' m' d') st.2 ∧ st.1.length ≤ l.length + 2 * i ∧ SzRo st.1 ∧ SzSe st.2 ∧ Own enI 1 33 wr (w.heap.size + 1 + 1) vo ys ∧ ys.length ≤ i ∧ Apart vo A' n' ∧ Apart vo B' m' ∧ Below w.heap.size w wr ∧ w.heap.size + 1 + 1 ≤ wr.heap.size) (fun _ vc _ => (ne - intOf vc).toNat)
  case atStart => exact ⟨0, A, n, c, B, m, d, (l, s), [], rfl, Nat.zero_le _, rfl, S0, Z0, hl0, hs0, by simp, hz, hy, Own.nil _ _ _ _ _, Nat.le_refl _, (fun _ _ _ h => by cases h), (fun _ _ _ h => by cases h), D, by rw [HW.out]; exact Nat.le_refl _⟩
  case round =>
    obtain ⟨i, A', n', c', B', m', d', st, ys, rfl, hi, HT, S1, Z1, hl1, hs1, hlen, hz1, hy1, hO, hys, hA1, hB1, hB, hW⟩ := hrel
    by_cases hlt : i < ne
    · have hil : i < es.length := by have := EE.out; omega
      obtain ⟨⟨k, u, o, j, a, p, q, t⟩, hev⟩ : ∃ e, es[i] = e := ⟨_, rfl⟩
      obtain ⟨ad, rfl, c0, c1, c2, c3, c4, c5, c6, c7⟩ := rowEv (he.below hB) i hil k u o j a p q t hev
      have hsz := hv _ (List.getElem_mem hil)
      rw [hev] at hsz
      simp only at hsz
      obtain ⟨r2, er, hap⟩ : ∃ r e, applyT st ⟨k, u, o, j, (a, p, q, t)⟩ = (r, e) := ⟨_, _, rfl⟩
      have hst := applyT_sz hap hz1 hy1 hsz.1 hsz.2.1 hsz.2.2
      have HT2 : Hid (allT (l, s) (es.take (i + 1)) = (r2, ys ++ [er])) := by
        show _ = _
        rw [List.take_succ_eq_append_getElem hil, hev, allT_snoc, HT.out, hap]
      have HAP : Hid (applyT (st.1, st.2) ⟨k, u, o, j, (a, p, q, t)⟩ = (r2, er)) := hap
      have hn' : n' ≤ 900 := by have h1 := hl1.len_eq; have h2 := EA.out; omega
      have hEV := heap_alloc_new wr (bxEv k u o j a p q t)
      have S2 := halloc S1 (bxEv k u o j a p q t)
      have Z2 := halloc Z1 (bxEv k u o j a p q t)
      have hl2 := hl1.below (below_box (bxEv k u o j a p q t))
      have hs2 := hs1.below (below_box (bxEv k u o j a p q t))
      have hO2 := hO.alloc (bxEv k u o j a p q t)
      have hB2 := below_alloc0 hB (bxEv k u o j a p q t)
      have x1 : (0 : Int) ≤ (i : Int) := by omega
      have x2 : (i : Int) < (ne : Int) := by omega
      have hlt2 : ∀ g, u6.ownBlock = some g → g < (wr.alloc (bxEv k u o j a p q t)).heap.size := fun g hg => (World.ownsRow.lt hO2 g hg).2
      have hge2 : ∀ g, u6.ownBlock = some g → w.heap.size + 1 + 1 ≤ g := fun g hg => hO2.base_le g hg
      obtain ⟨⟨s0, s1⟩, ⟨sf0, sf1⟩, sz⟩ := openT S2
      obtain ⟨e0, e1, e2, e3, e4, e5, e6, e7, ez⟩ := cellsEv k u o j a p q t hEV
      clear hev hap
      go_wp2_with fail
      with_reducible refine (ApplyT_is n' c' A' st.1 m' d' B' st.2 _ hl2 hs2 hz1 hy1 hn' k u o j a p q t hsz.1 hsz.2.1 hsz.2.2 er r2 HAP).mono ?_
      rintro x w4 ⟨A9, n9, c9, B9, m9, d9, rfl, hl4, hs4, b4, hf1, hf2⟩
      have hA4 : Apart u6 A9 n9 := apart_fresh hlt2 hA1 hf1
      have hB4 : Apart u6 B9 m9 := apart_fresh hlt2 hB1 hf2
      have S4 := hcall S2 b4
      have Z4 := hcall Z2 b4
      have hO4 := hO2.below b4
      have hD4 := below_call hB2 b4
      have hsz4 : w.heap.size + 1 + 1 ≤ w4.heap.size := Nat.le_trans hW (Nat.le_trans (by rw [size_alloc]; omega) b4.size)
      clear s0 s1 sf0 sf1 sz e0 e1 e2 e3 e4 e5 e6 e7 ez c0 c1 c2 c3 c4 c5 c6 c7 S2 Z2 hl2 hs2 hO2 hB2 hl1 hs1 S1 Z1 hO hEV b4 hB hf1 hf2 hA1 hB1
      have S5 := hset0 S4 A9 n9 c9
      have S6 := hset1 S5 B9 m9 d9
      have Z6 : ((w4.setCell ⟨w.heap.size, 0, none⟩ (.slice A9 n9 c9)).setCell ⟨w.heap.size, 1, none⟩ (.slice B9 m9 d9)).heap[w.heap.size + 1]? = some (bxT none 0 0 none 0 0) := hset_neT (by omega) (hset_neT (by omega) Z4)
      have hl6 := Row.setT (Row.setT hl4 nsEn S4 0 (.slice A9 n9 c9)) nsEn S5 1 (.slice B9 m9 d9)
      have hs6 := Row.setT (Row.setT hs4 nsSe S4 0 (.slice A9 n9 c9)) nsSe S5 1 (.slice B9 m9 d9)
      have hD6 := bset (bset hD4 w.heap.size 0 (.slice A9 n9 c9) (Nat.le_refl _)) w.heap.size 1 (.slice B9 m9 d9) (Nat.le_refl _)
      have hO6 : Own enI 1 33 ((w4.setCell ⟨w.heap.size, 0, none⟩ (.slice A9 n9 c9)).setCell ⟨w.heap.size, 1, none⟩ (.slice B9 m9 d9)) (w.heap.size + 1 + 1) u6 ys := Own.setLow (Own.setLow hO4 (by omega) 0 _) (by omega) 1 _
      have hsz6 : w.heap.size + 1 + 1 ≤ ((w4.setCell ⟨w.heap.size, 0, none⟩ (.slice A9 n9 c9)).setCell ⟨w.heap.size, 1, none⟩ (.slice B9 m9 d9)).heap.size := by simpa [World.setCell] using hsz4
      have HZ6 : Hid (((w4.setCell ⟨w.heap.size, 0, none⟩ (.slice A9 n9 c9)).setCell ⟨w.heap.size, 1, none⟩ (.slice B9 m9 d9)).heap.size = w4.heap.size) := by show _ = _; simp [World.setCell]
      obtain ⟨⟨t0, t1⟩, ⟨tf0, tf1⟩, tz⟩ := openT S4
      obtain ⟨⟨t50, t51⟩, ⟨tf50, tf51⟩, t5z⟩ := openT S5
      go_wp2_with (at_builtin; refine Own.append (w0 := ((w4.setCell ⟨w.heap.size, 0, none⟩ (.slice A9 n9 c9)).setCell ⟨w.heap.size, 1, none⟩ (.slice B9 m9 d9))) (w.heap.size + 1 + 1) rfl (.tmp 22) (.tmp 24) 43 33 (.int .i64 0) 1 8 rfl Tryz.underlying43 infoEr rfl (by decide) _ ys er [.int .i64 er] rfl (by rw [HZ6.out]; rfl) rfl rfl (enI_one _) hO6 (Below.refl _ _) hsz6 (by omega) (by omega) ?_; intro v7 w7 hO7 hB7 hG7 hR7)
      have hA7 : Apart v7 A9 n9 := by
        intro hp ad' e ho
        rcases hR7 with hR7 | ⟨b, hb, hbl⟩
        · exact hA4 hp ad' e (hR7.symm.trans ho)
        · rw [hb] at ho
          injection ho with ho
          have := Row.lt hl6 (by decide) hp ad' e
          omega
      have hB7' : Apart v7 B9 m9 := by
        intro hp ad' e ho
        rcases hR7 with hR7 | ⟨b, hb, hbl⟩
        · exact hB4 hp ad' e (hR7.symm.trans ho)
        · rw [hb] at ho
          injection ho with ho
          have := Row.lt hs6 (by decide) hp ad' e
          omega
      have hl7 := Row.grownP hl6 hG7 hA4
      have hs7 := Row.grownP hs6 hG7 hB4
      have S7 := (hB7.block w.heap.size (by omega)).trans S6
      have Z7 := (hB7.block (w.heap.size + 1) (by omega)).trans Z6
      exact ⟨⟨i + 1, A9, n9, c9, B9, m9, d9, r2, ys ++ [er], by go_num, by omega, HT2, S7, Z7, hl7, hs7, by have := hst.2.2; omega, hst.1, hst.2.1, hO7, by rw [List.length_append]; simp only [List.length_cons, List.length_nil]; omega, hA7, hB7', hD6.trans (hB7.mono (by omega)), Nat.le_trans hsz6 hB7.size⟩, by simp [intOf]; omega⟩
    · have hin : i = ne := by omega
      have hfin := HT.out
      rw [List.take_of_length_le (by have := EE.out; omega), h.out] at hfin
      injection hfin with hf1 hf2
      have HF1 := Lib.hid hf1
      have HF2 := Lib.hid hf2
      have hrow := hO.row
      obtain ⟨⟨s0, s1⟩, ⟨sf0, sf1⟩, sz⟩ := openT S1
      obtain ⟨⟨z0, z1⟩, ⟨zf0, zf1⟩, zz⟩ := openT Z1
      have Z6 := hset0 Z1 A' n' c'
      have Z7 := hset1 Z6 B' m' d'
      have hl7 := Row.setT (Row.setT hl1 nsEn Z1 0 (.slice A' n' c')) nsEn Z6 1 (.slice B' m' d')
      have hs7 := Row.setT (Row.setT hs1 nsSe Z1 0 (.slice A' n' c')) nsSe Z6 1 (.slice B' m' d')
      have hr7 := Row.setT (Row.setT hrow nsI Z1 0 (.slice A' n' c')) nsI Z6 1 (.slice B' m' d')
      have hD7 := bset (bset hB (w.heap.size + 1) 0 (.slice A' n' c') (by omega)) (w.heap.size + 1) 1 (.slice B' m' d') (by omega)
      obtain ⟨⟨y0, y1⟩, ⟨yf0, yf1⟩, yz⟩ := openT Z6
      clear hf1 hf2 HT h hin
      go_wp2
      (try simp only [Exit.inBlock, Exit.then])
      (refine bodyPost_ct rfl (w.heap.size + 1) 25 #[.slice A' n' c', .slice B' m' d'] (0, 0) _ rfl ?_ Tryz.underlying25 rfl info_st rfl ?_)
      · exact Z7
      · rw [HF1.out, HF2.out]
        exact ⟨A', n', c', B', m', d', u6, rfl, hl7, hs7, hr7, hD7⟩
end Go.Proofs.YtpmafghknafhaaaGreat
