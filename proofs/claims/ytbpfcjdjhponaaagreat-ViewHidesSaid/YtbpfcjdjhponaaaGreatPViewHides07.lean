import Derived.Test.YtbpfcjdjhponaaaGreatPViewHides06
set_option linter.unusedVariables false
set_option linter.unusedSimpArgs false
namespace Go.Proofs.YtbpfcjdjhponaaaGreat
open Go.RowKit
open Sp
namespace Sp
def aheadRo (l : List En) (x : En) : Option Nat := l.findIdx? fun y => ltRo (keyRo x) (keyRo y)
def insRo (l : List En) (x : En) : List En := match aheadRo l x with | some i => l.take i ++ x :: l.drop i | none => l ++ [x]
def putP (l : List En) (x : En) : List En := match l.findIdx? (fun s => decide (keyRo s = (x.o, x.c))) with | some i => l.set i x | none => insRo l x
theorem insRo_ins {l : List En} (h : OrdRo l) (x : En) (hx : ∀ y ∈ l, keyRo y ≠ keyRo x) : insRo l x = insK keyRo ltRo l x := by
  unfold insRo insK aheadRo
  induction l with
  | nil => rfl
  | cons y l ih =>
    have hy := hx y (List.mem_cons_self ..)
    have ih' := ih (List.pairwise_cons.1 h).2 fun z hz => hx z (List.mem_cons_of_mem _ hz)
    rw [List.findIdx?_cons, List.takeWhile_cons, List.dropWhile_cons]
    rcases ltRo_ord.tri _ _ hy with h1 | h1
    · rw [h1, ltRo_ord.asymm h1]
      cases hf : l.findIdx? (fun y => ltRo (keyRo x) (keyRo y)) with
      | none => rw [hf] at ih'; simp at ih' ⊢; exact ih'
      | some i => rw [hf] at ih'; simp at ih' ⊢; exact ih'
    · rw [h1, ltRo_ord.asymm h1]
      simp
theorem putP_put {l : List En} (h : OrdRo l) (x : En) : putP l x = putK keyRo ltRo l x := by
  unfold putP
  cases hf : l.findIdx? (fun s => decide (keyRo s = (x.o, x.c))) with
  | some i =>
    rw [List.findIdx?_eq_some_iff_getElem] at hf
    obtain ⟨hi, h1, _⟩ := hf
    exact set_putK ltRo_ord h i hi x (of_decide_eq_true h1)
  | none =>
    rw [List.findIdx?_eq_none_iff] at hf
    have hn : getK keyRo l (keyRo x) = none := getK_none.2 fun y hy => by simpa [keyRo] using hf y hy
    unfold putK
    rw [delK_none hn]
    exact insRo_ins h x fun y hy => by simpa [keyRo] using hf y hy
end Sp
theorem cmpRo_lt (a b : EnK) : decide (cmpRo a b < 0) = ltRo a b := by
  unfold cmpRo
  by_cases h : a = b
  · rw [if_pos h, h, ltRo_ord.irr]; rfl
  · rw [if_neg h]
    cases ltRo a b <;> rfl
set_option maxHeartbeats 8000000 in
set_option maxRecDepth 100000 in
theorem putR1_calls (a_ b_ : ByteArray) (c_ d_ e_ f_ g_ : Bool) (g : Nat) (p_ q_ : ByteArray) (r_ s_ t_ v_ x_ : Bool) (w : World) (hg : w.heap[g]? = some (bxEn p_ q_ r_ s_ t_ v_ x_)) :
    Calls Tryz.prog 152 #[.agg #[.string a_, .string b_, .bool c_, .bool d_, .bool e_, .bool f_, .bool g_], .pointer (some ⟨g, 0, none⟩)] w fun e w' => e = .returned (.bool (ltRo (keyRo ⟨p_, q_, r_, s_, t_, v_, x_⟩) (keyRo ⟨a_, b_, c_, d_, e_, f_, g_⟩))) ∧ Below w.heap.size w w' := by
  obtain ⟨y0, y1, y2, y3, y4, y5, y6, yz⟩ := cellsEn p_ q_ r_ s_ t_ v_ x_ hg
  have hB := (below_box (w := w) (bxEn a_ b_ c_ d_ e_ f_ g_)).drew
  have h0 := heap_alloc_new w (bxEn a_ b_ c_ d_ e_ f_ g_)
  obtain ⟨c0, c1, c2, c3, c4, c5, c6, hz⟩ := cellsEn a_ b_ c_ d_ e_ f_ g_ h0
  have j0 := cell_below (below_box (bxEn a_ b_ c_ d_ e_ f_ g_)) y0
  have j1 := cell_below (below_box (bxEn a_ b_ c_ d_ e_ f_ g_)) y1
  have j2 := cell_below (below_box (bxEn a_ b_ c_ d_ e_ f_ g_)) y2
  have j3 := cell_below (below_box (bxEn a_ b_ c_ d_ e_ f_ g_)) y3
  have j4 := cell_below (below_box (bxEn a_ b_ c_ d_ e_ f_ g_)) y4
  have j5 := cell_below (below_box (bxEn a_ b_ c_ d_ e_ f_ g_)) y5
  have j6 := cell_below (below_box (bxEn a_ b_ c_ d_ e_ f_ g_)) y6
  obtain ⟨m, hm⟩ : ∃ m, cmpRo (p_, q_) (a_, b_) = m := ⟨_, rfl⟩
  have hlt := cmpRo_lt (p_, q_) (a_, b_)
  rw [hm] at hlt
  have HM := Lib.hid hm
  have HLT := Lib.hid hlt
  clear hm hlt hg y0 y1 y2 y3 y4 y5 y6
  go_enter Tryz.func152, Tryz.ntmps152
  go_wp2_with fail
  go_region_held3 (fun w' => w'.cell? ⟨w.heap.size, 0, none⟩ = some (.string a_) ∧ w'.cell? ⟨w.heap.size, 1, none⟩ = some (.string b_) ∧ w'.cell? ⟨w.heap.size, 2, none⟩ = some (.bool c_) ∧ w'.cell? ⟨w.heap.size, 3, none⟩ = some (.bool d_) ∧ w'.cell? ⟨w.heap.size, 4, none⟩ = some (.bool e_) ∧ w'.cell? ⟨w.heap.size, 5, none⟩ = some (.bool f_) ∧ w'.cell? ⟨w.heap.size, 6, none⟩ = some (.bool g_) ∧ w'.cell? ⟨g, 0, none⟩ = some (.string p_) ∧ w'.cell? ⟨g, 1, none⟩ = some (.string q_) ∧ w'.cell? ⟨g, 2, none⟩ = some (.bool r_) ∧ w'.cell? ⟨g, 3, none⟩ = some (.bool s_) ∧ w'.cell? ⟨g, 4, none⟩ = some (.bool t_) ∧ w'.cell? ⟨g, 5, none⟩ = some (.bool v_) ∧ w'.cell? ⟨g, 6, none⟩ = some (.bool x_)) (exact ⟨c0, c1, c2, c3, c4, c5, c6, j0, j1, j2, j3, j4, j5, j6⟩) (((first | (go_at_call 103; first | (refine (ofK_calls p_ q_ r_ s_ t_ v_ x_ _).mono ?_) | (refine (ofK_calls a_ b_ c_ d_ e_ f_ g_ _).mono ?_)) | (go_at_call 139; refine (re_ (orderR_calls p_ q_ a_ b_ _) (by rw [HM.out])).mono ?_)); rintro e wx ⟨rfl, hbx⟩; replace hB := below_call hB hbx; replace c0 := cell_below hbx c0; replace c1 := cell_below hbx c1; replace c2 := cell_below hbx c2; replace c3 := cell_below hbx c3; replace c4 := cell_below hbx c4; replace c5 := cell_below hbx c5; replace c6 := cell_below hbx c6; replace j0 := cell_below hbx j0; replace j1 := cell_below hbx j1; replace j2 := cell_below hbx j2; replace j3 := cell_below hbx j3; replace j4 := cell_below hbx j4; replace j5 := cell_below hbx j5; replace j6 := cell_below hbx j6; clear hbx))
  all_goals go_wp2
  all_goals go_ret
  all_goals exact ⟨ret_bool (by first | exact HLT.out | (rw [← HLT.out]; rfl)), hB⟩
set_option maxHeartbeats 8000000 in
set_option maxRecDepth 100000 in
theorem idxPutR_calls (n c : Nat) (A : Option Addr) (l : List En) (g : Nat) (p_ q_ : ByteArray) (r_ s_ t_ v_ x_ : Bool) (w : World) (hl : Row enEn 7 w (.slice A n c) l) (hg : w.heap[g]? = some (bxEn p_ q_ r_ s_ t_ v_ x_)) :
    Calls Tryz.prog 151 #[.slice A n c, .func (.func 152) #[] #[.pointer (some ⟨g, 0, none⟩)]] w fun e w' => e = .returned (.int .i64 (idxI (l.findIdx? (fun y : En => ltRo (keyRo (⟨p_, q_, r_, s_, t_, v_, x_⟩ : En)) (keyRo y))))) ∧ Below w.heap.size w w' := by
  have EA := Lib.hid hl.len_eq
  have hnl : n ≤ 9223372036854775807 := by rw [EA.out]; exact hl.len
  obtain ⟨r, hr⟩ : ∃ r, idxI (l.findIdx? (fun y : En => ltRo (keyRo (⟨p_, q_, r_, s_, t_, v_, x_⟩ : En)) (keyRo y))) = r := ⟨_, rfl⟩
  rw [hr]
  have HR := Lib.hid hr
  clear hr
  have HG := Lib.hid hg
  clear hg
  go_enter Tryz.func151, Tryz.ntmps151
  go_wp2
  go_loopw [8] (fun v8 wr => ∃ i : Nat, v8 = .int .i64 i ∧ i ≤ n ∧ Below w.heap.size w wr ∧ Hid (∀ j (h : j < l.length), j < i → ((fun y : En => ltRo (keyRo (⟨p_, q_, r_, s_, t_, v_, x_⟩ : En)) (keyRo y))) l[j] = false)) (fun v8 _ => (n - intOf v8).toNat)
  case atStart => exact ⟨0, rfl, Nat.zero_le _, Below.refl _ _, fun j _ h => absurd h (by omega)⟩
  case round =>
    obtain ⟨i, rfl, hi, hB, HT⟩ := hrel
    by_cases hlt : i < n
    · have hil : i < l.length := by have := EA.out; omega
      obtain ⟨⟨a_, b_, c_, d_, e_, f_, g_⟩, he⟩ : ∃ e, l[i] = e := ⟨_, rfl⟩
      obtain ⟨ad, rfl, c0, c1, c2, c3, c4, c5, c6⟩ := rowEn (hl.below hB) i hil a_ b_ c_ d_ e_ f_ g_ he
      have HE := Lib.hid he
      clear he
      obtain ⟨b, hb⟩ : ∃ b, ((fun y : En => ltRo (keyRo (⟨p_, q_, r_, s_, t_, v_, x_⟩ : En)) (keyRo y))) ⟨a_, b_, c_, d_, e_, f_, g_⟩ = b := ⟨_, rfl⟩
      have HB := Lib.hid hb
      clear hb
      go_wp2_with fail
      refine (re_ (putR1_calls a_ b_ c_ d_ e_ f_ g_ g p_ q_ r_ s_ t_ v_ x_ _ (hcall HG.out hB)) (ret_bool HB.out)).mono ?_
      rintro e w1 ⟨rfl, b1⟩
      have hB1 := below_call hB b1
      clear c0 c1 c2 c3 c4 c5 c6 b1 hB
      cases b with
      | true =>
        have HF : Hid (r = (i : Int)) := by
          show _ = _
          rw [← HR.out, idx_at _ l i hil HT.out (by rw [HE.out]; exact HB.out)]; rfl
        go_wp2
        go_ret
        rw [HF.out]
        exact ⟨rfl, hB1⟩
      | false =>
        go_wp2
        exact ⟨⟨i + 1, by go_num, by omega, hB1, fun j h hj => by
          rcases Nat.lt_or_ge j i with h' | h'
          · exact HT.out j h h'
          · obtain rfl : j = i := by omega
            rw [HE.out]; exact HB.out⟩, by simp [intOf]; omega⟩
    · have hin : i = n := by omega
      subst hin
      have HF : Hid (r = -1) := by
        show _ = _
        rw [← HR.out, idx_no _ l (fun j hj => HT.out j hj (by rw [EA.out]; exact hj))]; rfl
      go_wp2
      go_ret
      rw [HF.out]
      exact ⟨rfl, hB⟩
set_option maxHeartbeats 8000000 in
set_option maxRecDepth 100000 in
theorem seekP_calls (n c : Nat) (A : Option Addr) (l : List En) (g : Nat) (p_ q_ : ByteArray) (r_ s_ t_ v_ x_ : Bool) (w : World) (hl : Row enEn 7 w (.slice A n c) l) (hg : w.heap[g]? = some (bxEn p_ q_ r_ s_ t_ v_ x_)) :
    Calls Tryz.prog 149 #[.slice A n c, .func (.func 152) #[] #[.pointer (some ⟨g, 0, none⟩)]] w fun e w' => e = .returned (.tuple #[.int .i64 (maxI (idxI (aheadRo l ⟨p_, q_, r_, s_, t_, v_, x_⟩))), .bool (decide (0 ≤ idxI (aheadRo l ⟨p_, q_, r_, s_, t_, v_, x_⟩)))]) ∧ Below w.heap.size w w' := by
  obtain ⟨r, hr⟩ : ∃ r, idxI (aheadRo l ⟨p_, q_, r_, s_, t_, v_, x_⟩) = r := ⟨_, rfl⟩
  have HC := idxPutR_calls n c A l g p_ q_ r_ s_ t_ v_ x_ w hl hg
  rw [show l.findIdx? (fun y : En => ltRo (keyRo (⟨p_, q_, r_, s_, t_, v_, x_⟩ : En)) (keyRo y)) = aheadRo l ⟨p_, q_, r_, s_, t_, v_, x_⟩ from rfl] at HC
  rw [hr] at HC ⊢
  clear hr
  unfold maxI
  go_enter Tryz.func149, Tryz.ntmps149
  go_wp2_with fail
  refine HC.mono ?_
  rintro e w1 ⟨rfl, b1⟩
  go_wp2
  all_goals go_ret2
  all_goals refine ⟨?_, b1⟩
  all_goals (by_cases h0 : 0 ≤ r <;> simp_all)
  all_goals (try omega)
theorem Own.at8 {α : Type} {enc : α → List Value} {k : Nat} {e : TypeId} {w : World} {base : Nat} {A : Option Addr} {n c : Nat} {xs : List α} (h : Own enc k e w base (.slice A n c) xs) (hp : 0 < xs.length) : ∃ b, A = some ⟨b, 0, none⟩ ∧ base ≤ b ∧ b < w.heap.size := by
  rcases h.2 with ⟨_, h0⟩ | ⟨b, c', cur, he, hb, hc, _⟩
  · omega
  · injection he with e1
    exact ⟨b, e1, hb, (Array.getElem?_eq_some_iff.1 hc).1⟩
theorem Own.lt8 {α : Type} {enc : α → List Value} {k : Nat} {e : TypeId} {w : World} {base : Nat} {v : Value} {xs : List α} (h : Own enc k e w base v xs) (g : Nat) (hg : w.heap.size ≤ g) : v.ownBlock ≠ some g := fun e => by
  have := (World.ownsRow.lt h g e).2
  omega
set_option maxHeartbeats 16000000 in
set_option maxRecDepth 100000 in
theorem putRo_calls (base n c : Nat) (A : Option Addr) (l : List En) (p_ q_ : ByteArray) (r_ s_ t_ v_ x_ : Bool) (w0 w : World) (hO : Own enEn 7 105 w base (.slice A n c) l) (hB : Below base w0 w) (hbw : base ≤ w0.heap.size) (hn : l.length ≤ 1000) :
    Calls Tryz.prog 104 #[.slice A n c, .agg #[.string p_, .string q_, .bool r_, .bool s_, .bool t_, .bool v_, .bool x_]] w fun e w' => ∃ v', e = .returned v' ∧ Own enEn 7 105 w' base v' (putP l ⟨p_, q_, r_, s_, t_, v_, x_⟩) ∧ Below base w0 w' := by
  have EA := Lib.hid hO.row.len_eq
  have hbase := Nat.le_trans hbw hB.size
  have hb := heap_alloc_new w (bxEn p_ q_ r_ s_ t_ v_ x_)
  have hO1 := hO.alloc (bxEn p_ q_ r_ s_ t_ v_ x_)
  have hB1 := hB.alloc hbase (bxEn p_ q_ r_ s_ t_ v_ x_)
  have hs1 : base ≤ (w.alloc (bxEn p_ q_ r_ s_ t_ v_ x_)).heap.size := Nat.le_trans hbw hB1.size
  obtain ⟨k0, k1, k2, k3, k4, k5, k6, kz⟩ := cellsEn p_ q_ r_ s_ t_ v_ x_ hb
  have hpp : putP l ⟨p_, q_, r_, s_, t_, v_, x_⟩ = match placeRo l p_ q_ with | some i => l.set i ⟨p_, q_, r_, s_, t_, v_, x_⟩ | none => insRo l ⟨p_, q_, r_, s_, t_, v_, x_⟩ := rfl
  cases hp : placeRo l p_ q_ with
  | some i =>
    obtain ⟨hil, _, _⟩ := place_some hp
    have HF : Hid (putP l ⟨p_, q_, r_, s_, t_, v_, x_⟩ = l.set i ⟨p_, q_, r_, s_, t_, v_, x_⟩) := by show _ = _; rw [hpp, hp]
    obtain ⟨b, rfl, hbb, _⟩ := hO.at8 (by omega)
    have HFD := Lib.hid (show ∀ (W : World), Row enEn 7 W (.slice (some ⟨b, 0, none⟩) n c) l → Calls Tryz.prog 97 #[.slice (some ⟨b, 0, none⟩) n c, agKr p_ q_] W fun e w' => e = .returned (.tuple #[.int .i64 i, .bool true]) ∧ Below W.heap.size W w' from fun W h => by
      have := findRo_calls n c _ l p_ q_ W h
      rwa [hp, show maxI (idxI (some i)) = (i : Int) from by unfold maxI idxI; simp, show decide (0 ≤ idxI (some i)) = true from by unfold idxI; simp] at this)
    have x1 : (0 : Int) ≤ (i : Int) := by omega
    have x2 : (i : Int) < (n : Int) := by have := EA.out; omega
    clear hpp hp
    go_enter Tryz.func104, Tryz.ntmps104
    go_wp2_with fail
    with_reducible refine (ofK_calls p_ q_ r_ s_ t_ v_ x_ _).mono ?_
    rintro e w1 ⟨rfl, b1⟩
    have hO2 := hO1.below b1
    have hB2 := below_then hB1 hs1 b1
    replace hb := hcall hb b1
    clear b1 k0 k1 k2 k3 k4 k5 k6 kz
    go_wp2_with fail
    with_reducible refine (HFD.out _ hO2.row).mono ?_
    rintro e w2 ⟨rfl, b2⟩
    have hO3 := hO2.below b2
    have hB3 := below_then hB2 (Nat.le_trans hbw hB2.size) b2
    replace hb := hcall hb b2
    clear b2
    obtain ⟨k0, k1, k2, k3, k4, k5, k6, kz⟩ := cellsEn p_ q_ r_ s_ t_ v_ x_ hb
    go_wp2_with (with_reducible refine Own.store rfl 105 (.tmp 20) (.tmp 19) rfl szEn b n c i l ⟨p_, q_, r_, s_, t_, v_, x_⟩ hO3 enEn_len (enEn_one _) hil rfl (enEn ⟨p_, q_, r_, s_, t_, v_, x_⟩) rfl rfl hB3 ?_; intro w6 hO6 hB6 hz6 ho6)
    go_ret
    rw [HF.out]
    exact ⟨_, rfl, hO6, hB6⟩
  | none =>
    have HFD := Lib.hid (show ∀ (W : World), Row enEn 7 W (.slice A n c) l → Calls Tryz.prog 97 #[.slice A n c, agKr p_ q_] W fun e w' => e = .returned (.tuple #[.int .i64 0, .bool false]) ∧ Below W.heap.size W w' from fun W h => by
      have := findRo_calls n c A l p_ q_ W h
      rwa [hp] at this)
    rw [hp] at hpp
    obtain ⟨j, hj, hjl, hins⟩ : ∃ j : Nat, j ≤ l.length ∧ ((aheadRo l ⟨p_, q_, r_, s_, t_, v_, x_⟩ = some j) ∨ (aheadRo l ⟨p_, q_, r_, s_, t_, v_, x_⟩ = none ∧ j = l.length)) ∧ insRo l ⟨p_, q_, r_, s_, t_, v_, x_⟩ = l.take j ++ ⟨p_, q_, r_, s_, t_, v_, x_⟩ :: l.drop j := by
      unfold insRo
      cases ha : aheadRo l ⟨p_, q_, r_, s_, t_, v_, x_⟩ with
      | some j =>
        unfold aheadRo at ha
        rw [List.findIdx?_eq_some_iff_getElem] at ha
        obtain ⟨h1, _⟩ := ha
        exact ⟨j, by omega, .inl rfl, rfl⟩
      | none => exact ⟨l.length, Nat.le_refl _, .inr ⟨rfl, rfl⟩, by simp⟩
    have HF : Hid (putP l ⟨p_, q_, r_, s_, t_, v_, x_⟩ = l.take j ++ ⟨p_, q_, r_, s_, t_, v_, x_⟩ :: l.drop j) := hpp.trans hins
    clear hpp hp hins
    have hmf : ∀ W : World, (Instr.makeFunc (.func 152) #[] #[.pointer (some ⟨w.heap.size, 0, none⟩)]).run Tryz.prog W = .ok (.func (.func 152) #[] #[.pointer (some ⟨w.heap.size, 0, none⟩)]) W := fun W => by kernel_rfl
    have HSK := Lib.hid (show ∀ (W : World), Row enEn 7 W (.slice A n c) l → W.heap[w.heap.size]? = some (bxEn p_ q_ r_ s_ t_ v_ x_) → Calls Tryz.prog 149 #[.slice A n c, .func (.func 152) #[] #[.pointer (some ⟨w.heap.size, 0, none⟩)]] W fun e w' => e = .returned (.tuple #[.int .i64 (maxI (idxI (aheadRo l ⟨p_, q_, r_, s_, t_, v_, x_⟩))), .bool (decide (0 ≤ idxI (aheadRo l ⟨p_, q_, r_, s_, t_, v_, x_⟩)))]) ∧ Below W.heap.size W w' from fun W h h2 => seekP_calls n c A l w.heap.size p_ q_ r_ s_ t_ v_ x_ W h h2)
    go_enter Tryz.func104, Tryz.ntmps104
    go_wp2_with fail
    with_reducible refine (ofK_calls p_ q_ r_ s_ t_ v_ x_ _).mono ?_
    rintro e w1 ⟨rfl, b1⟩
    have hO2 := hO1.below b1
    have hB2 := below_then hB1 hs1 b1
    replace hb := hcall hb b1
    clear b1 k0 k1 k2 k3 k4 k5 k6 kz
    go_wp2_with fail
    with_reducible refine (HFD.out _ hO2.row).mono ?_
    rintro e w2 ⟨rfl, b2⟩
    have hO3 := hO2.below b2
    have hB3 := below_then hB2 (Nat.le_trans hbw hB2.size) b2
    replace hb := hcall hb b2
    clear b2
    go_wp2_with fail
    with_reducible refine (HSK.out _ hO3.row hb).mono ?_
    rintro e w3 ⟨rfl, b3⟩
    have hO4 := hO3.below b3
    have hB4 := below_then hB3 (Nat.le_trans hbw hB3.size) b3
    replace hb := hcall hb b3
    clear b3 hO1 hO2 hO3 hB1 hB2 hB3 hO
    obtain ⟨k0, k1, k2, k3, k4, k5, k6, kz⟩ := cellsEn p_ q_ r_ s_ t_ v_ x_ hb
    have hO5 := hO4.alloc (.cells #[.string p_, .string q_, .bool r_, .bool s_, .bool t_, .bool v_, .bool x_] 105)
    have hB5 := hB4.alloc (Nat.le_trans hbw hB4.size) (.cells #[.string p_, .string q_, .bool r_, .bool s_, .bool t_, .bool v_, .bool x_] 105)
    have hg5 : (w3.alloc (.cells #[.string p_, .string q_, .bool r_, .bool s_, .bool t_, .bool v_, .bool x_] 105)).heap[w3.heap.size]? = some (.cells (enEn (⟨p_, q_, r_, s_, t_, v_, x_⟩ : En)).toArray 105 (0, 0)) := heap_alloc_new _ _
    have hne := hO4.lt8 w3.heap.size (Nat.le_refl _)
    have HI := Lib.hid (insertEn_calls base j w3.heap.size (.slice A n c) l ⟨p_, q_, r_, s_, t_, v_, x_⟩ w0 _ hO5 hg5 hne (by omega) hj hB5 (Nat.le_trans hbw hB5.size))
    rcases hjl with ha | ⟨ha, hjn⟩
    · have e1 : maxI (idxI (aheadRo l ⟨p_, q_, r_, s_, t_, v_, x_⟩)) = (j : Int) := by rw [ha]; unfold maxI idxI; simp
      have e2 : decide (0 ≤ idxI (aheadRo l ⟨p_, q_, r_, s_, t_, v_, x_⟩)) = true := by rw [ha]; unfold idxI; simp
      rw [e1, e2]
      clear ha e1 e2 hg5 hO5 hB5 hne
      go_wp2_with fail
      with_reducible refine HI.out.mono ?_
      rintro e w4 ⟨v4, rfl, hO6, hB6⟩
      go_wp2
      go_ret
      rw [HF.out]
      exact ⟨_, rfl, hO6, hB6⟩
    · have e1 : maxI (idxI (aheadRo l ⟨p_, q_, r_, s_, t_, v_, x_⟩)) = 0 := by rw [ha]; rfl
      have e2 : decide (0 ≤ idxI (aheadRo l ⟨p_, q_, r_, s_, t_, v_, x_⟩)) = false := by rw [ha]; rfl
      have hjn2 : j = n := by have := EA.out; omega
      subst hjn2
      rw [e1, e2]
      clear ha e1 e2 hg5 hO5 hB5 hne hjn
      go_wp2_with fail
      with_reducible refine HI.out.mono ?_
      rintro e w4 ⟨v4, rfl, hO6, hB6⟩
      go_wp2
      go_ret
      rw [HF.out]
      exact ⟨_, rfl, hO6, hB6⟩
end Go.Proofs.YtbpfcjdjhponaaaGreat
namespace Go.Proofs.YtbpfcjdjhponaaaGreat
open Go.RowKit
noncomputable def opsla : Array Oper := Held.inBody 1 Tryz.f102.body
def ordla : List Nat := [0, 2, 3, 4, 1, 5, 6, 7, 8, 9, 10, 11, 12, 13, 14, 15, 16]
set_option maxRecDepth 100000 in
theorem sizla : opsla.size = 17 := by kernel_rfl
set_option maxRecDepth 100000 in
theorem nosla : Region.noSelect opsla = true := by kernel_rfl
set_option maxRecDepth 100000 in
theorem okkla_0 : Held.okAt opsla ordla 0 = true := by kernel_rfl
set_option maxRecDepth 100000 in
theorem okkla_1 : Held.okAt opsla ordla 1 = true := by kernel_rfl
set_option maxRecDepth 100000 in
theorem okkla_2 : Held.okAt opsla ordla 2 = true := by kernel_rfl
set_option maxRecDepth 100000 in
theorem okkla_3 : Held.okAt opsla ordla 3 = true := by kernel_rfl
set_option maxRecDepth 100000 in
theorem okkla_6 : Held.okAt opsla ordla 6 = true := by kernel_rfl
set_option maxRecDepth 100000 in
theorem okkla_7 : Held.okAt opsla ordla 7 = true := by kernel_rfl
set_option maxRecDepth 100000 in
theorem okkla_8 : Held.okAt opsla ordla 8 = true := by kernel_rfl
set_option maxRecDepth 100000 in
theorem okkla_9 : Held.okAt opsla ordla 9 = true := by kernel_rfl
set_option maxRecDepth 100000 in
theorem okkla_10 : Held.okAt opsla ordla 10 = true := by kernel_rfl
set_option maxRecDepth 100000 in
theorem okkla_11 : Held.okAt opsla ordla 11 = true := by kernel_rfl
set_option maxRecDepth 100000 in
theorem okkla_12 : Held.okAt opsla ordla 12 = true := by kernel_rfl
set_option maxRecDepth 100000 in
theorem okkla_13 : Held.okAt opsla ordla 13 = true := by kernel_rfl
set_option maxRecDepth 100000 in
theorem okkla_14 : Held.okAt opsla ordla 14 = true := by kernel_rfl
set_option maxRecDepth 100000 in
theorem okkla_15 : Held.okAt opsla ordla 15 = true := by kernel_rfl
set_option maxRecDepth 100000 in
theorem okkla_16 : Held.okAt opsla ordla 16 = true := by kernel_rfl
set_option maxRecDepth 100000 in
theorem rdyla_4 : Region.ready .any opsla (Held.lst 17 ordla 4) = [1] := by kernel_rfl
set_option maxRecDepth 100000 in
theorem rdyla_5 : Region.ready .any opsla (Held.lst 17 ordla 5) = [5] := by kernel_rfl
noncomputable def opslb : Array Oper := Held.inBody 1 Tryz.f102.body
def ordlb : List Nat := [0, 2, 3, 4, 1, 5, 6, 7, 8, 10, 11, 12, 9, 13, 14, 15, 16]
set_option maxRecDepth 100000 in
theorem sizlb : opslb.size = 17 := by kernel_rfl
set_option maxRecDepth 100000 in
theorem noslb : Region.noSelect opslb = true := by kernel_rfl
set_option maxRecDepth 100000 in
theorem okklb_0 : Held.okAt opslb ordlb 0 = true := by kernel_rfl
set_option maxRecDepth 100000 in
theorem okklb_1 : Held.okAt opslb ordlb 1 = true := by kernel_rfl
set_option maxRecDepth 100000 in
theorem okklb_2 : Held.okAt opslb ordlb 2 = true := by kernel_rfl
set_option maxRecDepth 100000 in
theorem okklb_3 : Held.okAt opslb ordlb 3 = true := by kernel_rfl
set_option maxRecDepth 100000 in
theorem okklb_6 : Held.okAt opslb ordlb 6 = true := by kernel_rfl
set_option maxRecDepth 100000 in
theorem okklb_7 : Held.okAt opslb ordlb 7 = true := by kernel_rfl
set_option maxRecDepth 100000 in
theorem okklb_8 : Held.okAt opslb ordlb 8 = true := by kernel_rfl
set_option maxRecDepth 100000 in
theorem okklb_9 : Held.okAt opslb ordlb 9 = true := by kernel_rfl
set_option maxRecDepth 100000 in
theorem okklb_10 : Held.okAt opslb ordlb 10 = true := by kernel_rfl
set_option maxRecDepth 100000 in
theorem okklb_11 : Held.okAt opslb ordlb 11 = true := by kernel_rfl
set_option maxRecDepth 100000 in
theorem okklb_14 : Held.okAt opslb ordlb 14 = true := by kernel_rfl
set_option maxRecDepth 100000 in
theorem okklb_15 : Held.okAt opslb ordlb 15 = true := by kernel_rfl
set_option maxRecDepth 100000 in
theorem okklb_16 : Held.okAt opslb ordlb 16 = true := by kernel_rfl
set_option maxRecDepth 100000 in
theorem rdylb_4 : Region.ready .any opslb (Held.lst 17 ordlb 4) = [1] := by kernel_rfl
set_option maxRecDepth 100000 in
theorem rdylb_5 : Region.ready .any opslb (Held.lst 17 ordlb 5) = [5] := by kernel_rfl
set_option maxRecDepth 100000 in
theorem rdylb_12 : Region.ready .any opslb (Held.lst 17 ordlb 12) = [9] := by kernel_rfl
set_option maxRecDepth 100000 in
theorem rdylb_13 : Region.ready .any opslb (Held.lst 17 ordlb 13) = [13] := by kernel_rfl
end Go.Proofs.YtbpfcjdjhponaaaGreat
namespace Go.Proofs.YtbpfcjdjhponaaaGreat
open Go.RowKit
open Sp
def TwoAt (w : World) (g h : Nat) (u v : ByteArray) (m1 m2 m3 m4 m5 o1 o2 o3 o4 o5 : Bool) : Prop :=
  w.heap[g]? = some (.cells #[.slice (some ⟨h, 0, none⟩) 2 2] 22) ∧ w.heap[h]? = some (.cells #[.string u, .string v, .bool m1, .bool m2, .bool m3, .bool m4, .bool m5, .string v, .string u, .bool o1, .bool o2, .bool o3, .bool o4, .bool o5] 105)
theorem TwoAt.call {w w1 : World} {g h : Nat} {u v : ByteArray} {m1 m2 m3 m4 m5 o1 o2 o3 o4 o5 : Bool} (E : TwoAt w g h u v m1 m2 m3 m4 m5 o1 o2 o3 o4 o5) (b : Below w.heap.size w w1) : TwoAt w1 g h u v m1 m2 m3 m4 m5 o1 o2 o3 o4 o5 := ⟨hcall E.1 b, hcall E.2 b⟩
theorem TwoAt.alloc {w : World} {g h : Nat} {u v : ByteArray} {m1 m2 m3 m4 m5 o1 o2 o3 o4 o5 : Bool} (E : TwoAt w g h u v m1 m2 m3 m4 m5 o1 o2 o3 o4 o5) (o : Obj) : TwoAt (w.alloc o) g h u v m1 m2 m3 m4 m5 o1 o2 o3 o4 o5 := ⟨halloc E.1 o, halloc E.2 o⟩
theorem zoEn (w : World) : (zeroValue 105).run Tryz.prog w = .ok zvEn w := by kernel_rfl
theorem zcEn : ∀ v ∈ (zvEn).cells.toList, v.oneCell' = true := by decide
def isTwo (u v : ByteArray) (s : En) : Bool := decide (keyRo s = (u, v)) || decide (keyRo s = (v, u))
abbrev noTwo (u v : ByteArray) (s : En) : Bool := !isTwo u v s
set_option maxHeartbeats 8000000 in
set_option maxRecDepth 100000 in
theorem do1_calls (a_ b_ : ByteArray) (c_ d_ e_ f_ g_ : Bool) (g h : Nat) (u v : ByteArray) (m1 m2 m3 m4 m5 o1 o2 o3 o4 o5 : Bool) (w : World) (E : TwoAt w g h u v m1 m2 m3 m4 m5 o1 o2 o3 o4 o5) :
    Calls Tryz.prog 102 #[.agg #[.string a_, .string b_, .bool c_, .bool d_, .bool e_, .bool f_, .bool g_], .pointer (some ⟨g, 0, none⟩)] w fun e w' => e = .returned (.bool (isTwo u v ⟨a_, b_, c_, d_, e_, f_, g_⟩)) ∧ Below w.heap.size w w' := by
  obtain ⟨E1, E2⟩ := E.alloc (bxEn a_ b_ c_ d_ e_ f_ g_)
  have D := below_box (w := w) (bxEn a_ b_ c_ d_ e_ f_ g_)
  have h0 := heap_alloc_new w (bxEn a_ b_ c_ d_ e_ f_ g_)
  obtain ⟨c0, c1, c2, c3, c4, c5, c6, hz⟩ := cellsEn a_ b_ c_ d_ e_ f_ g_ h0
  have gz : (w.alloc (bxEn a_ b_ c_ d_ e_ f_ g_)).cell? ⟨g, 0, none⟩ = some (.slice (some ⟨h, 0, none⟩) 2 2) := by simp [World.cell?, E1]
  have y0 : (w.alloc (bxEn a_ b_ c_ d_ e_ f_ g_)).cell? ⟨h, 0, none⟩ = some (.string u) := by simp [World.cell?, E2]
  have y1 : (w.alloc (bxEn a_ b_ c_ d_ e_ f_ g_)).cell? ⟨h, 1, none⟩ = some (.string v) := by simp [World.cell?, E2]
  have y2 : (w.alloc (bxEn a_ b_ c_ d_ e_ f_ g_)).cell? ⟨h, 2, none⟩ = some (.bool m1) := by simp [World.cell?, E2]
  have y3 : (w.alloc (bxEn a_ b_ c_ d_ e_ f_ g_)).cell? ⟨h, 3, none⟩ = some (.bool m2) := by simp [World.cell?, E2]
  have y4 : (w.alloc (bxEn a_ b_ c_ d_ e_ f_ g_)).cell? ⟨h, 4, none⟩ = some (.bool m3) := by simp [World.cell?, E2]
  have y5 : (w.alloc (bxEn a_ b_ c_ d_ e_ f_ g_)).cell? ⟨h, 5, none⟩ = some (.bool m4) := by simp [World.cell?, E2]
  have y6 : (w.alloc (bxEn a_ b_ c_ d_ e_ f_ g_)).cell? ⟨h, 6, none⟩ = some (.bool m5) := by simp [World.cell?, E2]
  have y7 : (w.alloc (bxEn a_ b_ c_ d_ e_ f_ g_)).cell? ⟨h, 7, none⟩ = some (.string v) := by simp [World.cell?, E2]
  have y8 : (w.alloc (bxEn a_ b_ c_ d_ e_ f_ g_)).cell? ⟨h, 8, none⟩ = some (.string u) := by simp [World.cell?, E2]
  have y9 : (w.alloc (bxEn a_ b_ c_ d_ e_ f_ g_)).cell? ⟨h, 9, none⟩ = some (.bool o1) := by simp [World.cell?, E2]
  have y10 : (w.alloc (bxEn a_ b_ c_ d_ e_ f_ g_)).cell? ⟨h, 10, none⟩ = some (.bool o2) := by simp [World.cell?, E2]
  have y11 : (w.alloc (bxEn a_ b_ c_ d_ e_ f_ g_)).cell? ⟨h, 11, none⟩ = some (.bool o3) := by simp [World.cell?, E2]
  have y12 : (w.alloc (bxEn a_ b_ c_ d_ e_ f_ g_)).cell? ⟨h, 12, none⟩ = some (.bool o4) := by simp [World.cell?, E2]
  have y13 : (w.alloc (bxEn a_ b_ c_ d_ e_ f_ g_)).cell? ⟨h, 13, none⟩ = some (.bool o5) := by simp [World.cell?, E2]
  have q1 := eqlKr a_ b_ u v
  have q2 := eqlKr a_ b_ v u
  clear E E1 E2
  unfold isTwo
  have hk : keyRo ⟨a_, b_, c_, d_, e_, f_, g_⟩ = (a_, b_) := rfl
  rw [hk]
  clear hk
  by_cases h1 : ((a_, b_) : EnK) = (u, v)
  · rw [decide_eq_true h1] at q1 ⊢
    clear h1 h0
    go_enter Tryz.func102, Tryz.ntmps102
    clear hz
    replace D : Below _ _ (w.alloc (bxEn a_ b_ c_ d_ e_ f_ g_)).drew := D.drew
    go_wp2_with fail
    refine Held.start (ops := opsla) (S := fun w' => w'.cell? ⟨w.heap.size, 0, none⟩ = some (.string a_) ∧ w'.cell? ⟨w.heap.size, 1, none⟩ = some (.string b_) ∧ w'.cell? ⟨w.heap.size, 2, none⟩ = some (.bool c_) ∧ w'.cell? ⟨w.heap.size, 3, none⟩ = some (.bool d_) ∧ w'.cell? ⟨w.heap.size, 4, none⟩ = some (.bool e_) ∧ w'.cell? ⟨w.heap.size, 5, none⟩ = some (.bool f_) ∧ w'.cell? ⟨w.heap.size, 6, none⟩ = some (.bool g_) ∧ w'.cell? ⟨g, 0, none⟩ = some (.slice (some ⟨h, 0, none⟩) 2 2) ∧ w'.cell? ⟨h, 0, none⟩ = some (.string u) ∧ w'.cell? ⟨h, 1, none⟩ = some (.string v) ∧ w'.cell? ⟨h, 2, none⟩ = some (.bool m1) ∧ w'.cell? ⟨h, 3, none⟩ = some (.bool m2) ∧ w'.cell? ⟨h, 4, none⟩ = some (.bool m3) ∧ w'.cell? ⟨h, 5, none⟩ = some (.bool m4) ∧ w'.cell? ⟨h, 6, none⟩ = some (.bool m5) ∧ w'.cell? ⟨h, 7, none⟩ = some (.string v) ∧ w'.cell? ⟨h, 8, none⟩ = some (.string u) ∧ w'.cell? ⟨h, 9, none⟩ = some (.bool o1) ∧ w'.cell? ⟨h, 10, none⟩ = some (.bool o2) ∧ w'.cell? ⟨h, 11, none⟩ = some (.bool o3) ∧ w'.cell? ⟨h, 12, none⟩ = some (.bool o4) ∧ w'.cell? ⟨h, 13, none⟩ = some (.bool o5)) ordla 17 (by kernel_rfl) sizla (by kernel_rfl) ⟨c0, c1, c2, c3, c4, c5, c6, gz, y0, y1, y2, y3, y4, y5, y6, y7, y8, y9, y10, y11, y12, y13⟩ (fun hHeld => ?_)
    refine Held.take (k := 0) (i := 0) (v := ?vla0) nosla okkla_0 sizla (by kernel_rfl) rfl (fun _ _ _ h => h) (Or.inl ⟨by kernel_rfl, ?hyla0⟩) (by assumption) ?restla0
    case hyla0 => (intro w hSw; (try dsimp only at hSw); go_simp; (try (first | with_reducible rfl | rw [if_neg (by omega)])))
    try simp only [Act.put, zA, zB, zC, zD, zE, zF]
    refine Held.take (k := 1) (i := 2) (v := ?vla1) nosla okkla_1 sizla (by kernel_rfl) rfl (fun _ _ _ h => h) (Or.inl ⟨by kernel_rfl, ?hyla1⟩) (by assumption) ?restla1
    case hyla1 => (intro w hSw; (try dsimp only at hSw); go_simp; (try (first | with_reducible rfl | rw [if_neg (by omega)])))
    try simp only [Act.put, zA, zB, zC, zD, zE, zF]
    refine Held.take (k := 2) (i := 3) (v := ?vla2) nosla okkla_2 sizla (by kernel_rfl) rfl (fun _ _ _ h => h) (Or.inl ⟨by kernel_rfl, ?hyla2⟩) (by assumption) ?restla2
    case hyla2 => (intro w hSw; (try dsimp only at hSw); go_simp; (try (first | with_reducible rfl | rw [if_neg (by omega)])))
    try simp only [Act.put, zA, zB, zC, zD, zE, zF]
    refine Held.take (k := 3) (i := 4) (v := ?vla3) nosla okkla_3 sizla (by kernel_rfl) rfl (fun _ _ _ h => h) (Or.inl ⟨by kernel_rfl, ?hyla3⟩) (by assumption) ?restla3
    case hyla3 => (intro w hSw; (try dsimp only at hSw); go_simp; (try (first | with_reducible rfl | rw [if_neg (by omega)])))
    try simp only [Act.put, zA, zB, zC, zD, zE, zF]
    refine Held.only (k := 4) (i := 1) rdyla_4 (by kernel_rfl) rfl (by kernel_rfl) (fun K hK => ?_)
    go_simp
    go_at_call 103
    with_reducible refine (ofK_calls a_ b_ c_ d_ e_ f_ g_ _).mono ?_
    rintro e w1 ⟨rfl, hbx⟩
    replace c0 := cell_below hbx c0
    replace c1 := cell_below hbx c1
    replace c2 := cell_below hbx c2
    replace c3 := cell_below hbx c3
    replace c4 := cell_below hbx c4
    replace c5 := cell_below hbx c5
    replace c6 := cell_below hbx c6
    replace gz := cell_below hbx gz
    replace y0 := cell_below hbx y0
    replace y1 := cell_below hbx y1
    replace y2 := cell_below hbx y2
    replace y3 := cell_below hbx y3
    replace y4 := cell_below hbx y4
    replace y5 := cell_below hbx y5
    replace y6 := cell_below hbx y6
    replace y7 := cell_below hbx y7
    replace y8 := cell_below hbx y8
    replace y9 := cell_below hbx y9
    replace y10 := cell_below hbx y10
    replace y11 := cell_below hbx y11
    replace y12 := cell_below hbx y12
    replace y13 := cell_below hbx y13
    replace D := below_call D hbx
    refine hK.out _ _ (by (try dsimp only); (exact ⟨c0, c1, c2, c3, c4, c5, c6, gz, y0, y1, y2, y3, y4, y5, y6, y7, y8, y9, y10, y11, y12, y13⟩)) (fun hHeld => ?_)
    clear hK K
    try simp only [Act.put, zA, zB, zC, zD, zE, zF]
    refine Held.only (k := 5) (i := 5) rdyla_5 (by kernel_rfl) rfl (by kernel_rfl) (fun K hK => ?_)
    go_simp
    go_at_call 103
    with_reducible refine (ofK_calls u v m1 m2 m3 m4 m5 _).mono ?_
    rintro e w2 ⟨rfl, hbx⟩
    replace c0 := cell_below hbx c0
    replace c1 := cell_below hbx c1
    replace c2 := cell_below hbx c2
    replace c3 := cell_below hbx c3
    replace c4 := cell_below hbx c4
    replace c5 := cell_below hbx c5
    replace c6 := cell_below hbx c6
    replace gz := cell_below hbx gz
    replace y0 := cell_below hbx y0
    replace y1 := cell_below hbx y1
    replace y2 := cell_below hbx y2
    replace y3 := cell_below hbx y3
    replace y4 := cell_below hbx y4
    replace y5 := cell_below hbx y5
    replace y6 := cell_below hbx y6
    replace y7 := cell_below hbx y7
    replace y8 := cell_below hbx y8
    replace y9 := cell_below hbx y9
    replace y10 := cell_below hbx y10
    replace y11 := cell_below hbx y11
    replace y12 := cell_below hbx y12
    replace y13 := cell_below hbx y13
    replace D := below_call D hbx
    refine hK.out _ _ (by (try dsimp only); (exact ⟨c0, c1, c2, c3, c4, c5, c6, gz, y0, y1, y2, y3, y4, y5, y6, y7, y8, y9, y10, y11, y12, y13⟩)) (fun hHeld => ?_)
    clear hK K
    try simp only [Act.put, zA, zB, zC, zD, zE, zF]
    refine Held.take (k := 6) (i := 6) (v := ?vla6) nosla okkla_6 sizla (by kernel_rfl) rfl (fun _ _ _ h => h) (Or.inl ⟨by kernel_rfl, ?hyla6⟩) (by assumption) ?restla6
    case hyla6 => (intro w hSw; (try dsimp only at hSw); go_simp; (try (first | with_reducible rfl | rw [if_neg (by omega)])))
    try simp only [Act.put, zA, zB, zC, zD, zE, zF]
    refine Held.take (k := 7) (i := 7) (v := ?vla7) nosla okkla_7 sizla (by kernel_rfl) rfl (fun _ _ _ h => h) (Or.inl ⟨by kernel_rfl, ?hyla7⟩) (by assumption) ?restla7
    case hyla7 => (intro w hSw; (try dsimp only at hSw); go_simp; (try (first | with_reducible rfl | rw [if_neg (by omega)])))
    try simp only [Act.put, zA, zB, zC, zD, zE, zF]
    refine Held.take (k := 8) (i := 8) (v := undef) nosla okkla_8 sizla (by kernel_rfl) rfl (fun _ _ _ h => h) (Or.inr ⟨by kernel_rfl, rfl⟩) (by assumption) ?_
    try simp only [Act.put, zA, zB, zC, zD, zE, zF]
    refine Held.take (k := 9) (i := 9) (v := undef) nosla okkla_9 sizla (by kernel_rfl) rfl (fun _ _ _ h => h) (Or.inr ⟨by kernel_rfl, rfl⟩) (by assumption) ?_
    try simp only [Act.put, zA, zB, zC, zD, zE, zF]
    refine Held.take (k := 10) (i := 10) (v := undef) nosla okkla_10 sizla (by kernel_rfl) rfl (fun _ _ _ h => h) (Or.inr ⟨by kernel_rfl, rfl⟩) (by assumption) ?_
    try simp only [Act.put, zA, zB, zC, zD, zE, zF]
    refine Held.take (k := 11) (i := 11) (v := undef) nosla okkla_11 sizla (by kernel_rfl) rfl (fun _ _ _ h => h) (Or.inr ⟨by kernel_rfl, rfl⟩) (by assumption) ?_
    try simp only [Act.put, zA, zB, zC, zD, zE, zF]
    refine Held.take (k := 12) (i := 12) (v := undef) nosla okkla_12 sizla (by kernel_rfl) rfl (fun _ _ _ h => h) (Or.inr ⟨by kernel_rfl, rfl⟩) (by assumption) ?_
    try simp only [Act.put, zA, zB, zC, zD, zE, zF]
    refine Held.take (k := 13) (i := 13) (v := undef) nosla okkla_13 sizla (by kernel_rfl) rfl (fun _ _ _ h => h) (Or.inr ⟨by kernel_rfl, rfl⟩) (by assumption) ?_
    try simp only [Act.put, zA, zB, zC, zD, zE, zF]
    refine Held.take (k := 14) (i := 14) (v := undef) nosla okkla_14 sizla (by kernel_rfl) rfl (fun _ _ _ h => h) (Or.inr ⟨by kernel_rfl, rfl⟩) (by assumption) ?_
    try simp only [Act.put, zA, zB, zC, zD, zE, zF]
    refine Held.take (k := 15) (i := 15) (v := ?vla15) nosla okkla_15 sizla (by kernel_rfl) rfl (fun _ _ _ h => h) (Or.inl ⟨by kernel_rfl, ?hyla15⟩) (by assumption) ?restla15
    case hyla15 => (intro w hSw; (try dsimp only at hSw); go_simp; (try (first | with_reducible rfl | rw [if_neg (by omega)])))
    try simp only [Act.put, zA, zB, zC, zD, zE, zF]
    refine Held.take (k := 16) (i := 16) (v := ?vla16) nosla okkla_16 sizla (by kernel_rfl) rfl (fun _ _ _ h => h) (Or.inl ⟨by kernel_rfl, ?hyla16⟩) (by assumption) ?restla16
    case hyla16 => (intro w hSw; (try dsimp only at hSw); go_simp; (try (first | with_reducible rfl | rw [if_neg (by omega)])))
    try simp only [Act.put, zA, zB, zC, zD, zE, zF]
    refine wpAnyH_done (by kernel_rfl) ?_ _
    clear c0 c1 c2 c3 c4 c5 c6 gz y0 y1 y2 y3 y4 y5 y6 y7 y8 y9 y10 y11 y12 y13
    go_wp2
    go_ret
    exact ⟨rfl, D⟩
  · rw [decide_eq_false h1] at q1 ⊢
    rw [Bool.false_or]
    obtain ⟨r, hr⟩ : ∃ r, decide (((a_, b_) : EnK) = (v, u)) = r := ⟨_, rfl⟩
    rw [hr] at q2 ⊢
    clear h1 h0 hr
    go_enter Tryz.func102, Tryz.ntmps102
    clear hz
    replace D : Below _ _ (w.alloc (bxEn a_ b_ c_ d_ e_ f_ g_)).drew := D.drew
    go_wp2_with fail
    refine Held.start (ops := opslb) (S := fun w' => w'.cell? ⟨w.heap.size, 0, none⟩ = some (.string a_) ∧ w'.cell? ⟨w.heap.size, 1, none⟩ = some (.string b_) ∧ w'.cell? ⟨w.heap.size, 2, none⟩ = some (.bool c_) ∧ w'.cell? ⟨w.heap.size, 3, none⟩ = some (.bool d_) ∧ w'.cell? ⟨w.heap.size, 4, none⟩ = some (.bool e_) ∧ w'.cell? ⟨w.heap.size, 5, none⟩ = some (.bool f_) ∧ w'.cell? ⟨w.heap.size, 6, none⟩ = some (.bool g_) ∧ w'.cell? ⟨g, 0, none⟩ = some (.slice (some ⟨h, 0, none⟩) 2 2) ∧ w'.cell? ⟨h, 0, none⟩ = some (.string u) ∧ w'.cell? ⟨h, 1, none⟩ = some (.string v) ∧ w'.cell? ⟨h, 2, none⟩ = some (.bool m1) ∧ w'.cell? ⟨h, 3, none⟩ = some (.bool m2) ∧ w'.cell? ⟨h, 4, none⟩ = some (.bool m3) ∧ w'.cell? ⟨h, 5, none⟩ = some (.bool m4) ∧ w'.cell? ⟨h, 6, none⟩ = some (.bool m5) ∧ w'.cell? ⟨h, 7, none⟩ = some (.string v) ∧ w'.cell? ⟨h, 8, none⟩ = some (.string u) ∧ w'.cell? ⟨h, 9, none⟩ = some (.bool o1) ∧ w'.cell? ⟨h, 10, none⟩ = some (.bool o2) ∧ w'.cell? ⟨h, 11, none⟩ = some (.bool o3) ∧ w'.cell? ⟨h, 12, none⟩ = some (.bool o4) ∧ w'.cell? ⟨h, 13, none⟩ = some (.bool o5)) ordlb 17 (by kernel_rfl) sizlb (by kernel_rfl) ⟨c0, c1, c2, c3, c4, c5, c6, gz, y0, y1, y2, y3, y4, y5, y6, y7, y8, y9, y10, y11, y12, y13⟩ (fun hHeld => ?_)
    refine Held.take (k := 0) (i := 0) (v := ?vlb0) noslb okklb_0 sizlb (by kernel_rfl) rfl (fun _ _ _ h => h) (Or.inl ⟨by kernel_rfl, ?hylb0⟩) (by assumption) ?restlb0
    case hylb0 => (intro w hSw; (try dsimp only at hSw); go_simp; (try (first | with_reducible rfl | rw [if_neg (by omega)])))
    try simp only [Act.put, zA, zB, zC, zD, zE, zF]
    refine Held.take (k := 1) (i := 2) (v := ?vlb1) noslb okklb_1 sizlb (by kernel_rfl) rfl (fun _ _ _ h => h) (Or.inl ⟨by kernel_rfl, ?hylb1⟩) (by assumption) ?restlb1
    case hylb1 => (intro w hSw; (try dsimp only at hSw); go_simp; (try (first | with_reducible rfl | rw [if_neg (by omega)])))
    try simp only [Act.put, zA, zB, zC, zD, zE, zF]
    refine Held.take (k := 2) (i := 3) (v := ?vlb2) noslb okklb_2 sizlb (by kernel_rfl) rfl (fun _ _ _ h => h) (Or.inl ⟨by kernel_rfl, ?hylb2⟩) (by assumption) ?restlb2
    case hylb2 => (intro w hSw; (try dsimp only at hSw); go_simp; (try (first | with_reducible rfl | rw [if_neg (by omega)])))
    try simp only [Act.put, zA, zB, zC, zD, zE, zF]
    refine Held.take (k := 3) (i := 4) (v := ?vlb3) noslb okklb_3 sizlb (by kernel_rfl) rfl (fun _ _ _ h => h) (Or.inl ⟨by kernel_rfl, ?hylb3⟩) (by assumption) ?restlb3
    case hylb3 => (intro w hSw; (try dsimp only at hSw); go_simp; (try (first | with_reducible rfl | rw [if_neg (by omega)])))
    try simp only [Act.put, zA, zB, zC, zD, zE, zF]
    refine Held.only (k := 4) (i := 1) rdylb_4 (by kernel_rfl) rfl (by kernel_rfl) (fun K hK => ?_)
    go_simp
    go_at_call 103
    with_reducible refine (ofK_calls a_ b_ c_ d_ e_ f_ g_ _).mono ?_
    rintro e w1 ⟨rfl, hbx⟩
    replace c0 := cell_below hbx c0
    replace c1 := cell_below hbx c1
    replace c2 := cell_below hbx c2
    replace c3 := cell_below hbx c3
    replace c4 := cell_below hbx c4
    replace c5 := cell_below hbx c5
    replace c6 := cell_below hbx c6
    replace gz := cell_below hbx gz
    replace y0 := cell_below hbx y0
    replace y1 := cell_below hbx y1
    replace y2 := cell_below hbx y2
    replace y3 := cell_below hbx y3
    replace y4 := cell_below hbx y4
    replace y5 := cell_below hbx y5
    replace y6 := cell_below hbx y6
    replace y7 := cell_below hbx y7
    replace y8 := cell_below hbx y8
    replace y9 := cell_below hbx y9
    replace y10 := cell_below hbx y10
    replace y11 := cell_below hbx y11
    replace y12 := cell_below hbx y12
    replace y13 := cell_below hbx y13
    replace D := below_call D hbx
    refine hK.out _ _ (by (try dsimp only); (exact ⟨c0, c1, c2, c3, c4, c5, c6, gz, y0, y1, y2, y3, y4, y5, y6, y7, y8, y9, y10, y11, y12, y13⟩)) (fun hHeld => ?_)
    clear hK K
    try simp only [Act.put, zA, zB, zC, zD, zE, zF]
    refine Held.only (k := 5) (i := 5) rdylb_5 (by kernel_rfl) rfl (by kernel_rfl) (fun K hK => ?_)
    go_simp
    go_at_call 103
    with_reducible refine (ofK_calls u v m1 m2 m3 m4 m5 _).mono ?_
    rintro e w2 ⟨rfl, hbx⟩
    replace c0 := cell_below hbx c0
    replace c1 := cell_below hbx c1
    replace c2 := cell_below hbx c2
    replace c3 := cell_below hbx c3
    replace c4 := cell_below hbx c4
    replace c5 := cell_below hbx c5
    replace c6 := cell_below hbx c6
    replace gz := cell_below hbx gz
    replace y0 := cell_below hbx y0
    replace y1 := cell_below hbx y1
    replace y2 := cell_below hbx y2
    replace y3 := cell_below hbx y3
    replace y4 := cell_below hbx y4
    replace y5 := cell_below hbx y5
    replace y6 := cell_below hbx y6
    replace y7 := cell_below hbx y7
    replace y8 := cell_below hbx y8
    replace y9 := cell_below hbx y9
    replace y10 := cell_below hbx y10
    replace y11 := cell_below hbx y11
    replace y12 := cell_below hbx y12
    replace y13 := cell_below hbx y13
    replace D := below_call D hbx
    refine hK.out _ _ (by (try dsimp only); (exact ⟨c0, c1, c2, c3, c4, c5, c6, gz, y0, y1, y2, y3, y4, y5, y6, y7, y8, y9, y10, y11, y12, y13⟩)) (fun hHeld => ?_)
    clear hK K
    try simp only [Act.put, zA, zB, zC, zD, zE, zF]
    refine Held.take (k := 6) (i := 6) (v := ?vlb6) noslb okklb_6 sizlb (by kernel_rfl) rfl (fun _ _ _ h => h) (Or.inl ⟨by kernel_rfl, ?hylb6⟩) (by assumption) ?restlb6
    case hylb6 => (intro w hSw; (try dsimp only at hSw); go_simp; (try (first | with_reducible rfl | rw [if_neg (by omega)])))
    try simp only [Act.put, zA, zB, zC, zD, zE, zF]
    refine Held.take (k := 7) (i := 7) (v := ?vlb7) noslb okklb_7 sizlb (by kernel_rfl) rfl (fun _ _ _ h => h) (Or.inl ⟨by kernel_rfl, ?hylb7⟩) (by assumption) ?restlb7
    case hylb7 => (intro w hSw; (try dsimp only at hSw); go_simp; (try (first | with_reducible rfl | rw [if_neg (by omega)])))
    try simp only [Act.put, zA, zB, zC, zD, zE, zF]
    refine Held.take (k := 8) (i := 8) (v := ?vlb8) noslb okklb_8 sizlb (by kernel_rfl) rfl (fun _ _ _ h => h) (Or.inl ⟨by kernel_rfl, ?hylb8⟩) (by assumption) ?restlb8
    case hylb8 => (intro w hSw; (try dsimp only at hSw); go_simp; (try (first | with_reducible rfl | rw [if_neg (by omega)])))
    try simp only [Act.put, zA, zB, zC, zD, zE, zF]
    refine Held.take (k := 9) (i := 10) (v := ?vlb9) noslb okklb_9 sizlb (by kernel_rfl) rfl (fun _ _ _ h => h) (Or.inl ⟨by kernel_rfl, ?hylb9⟩) (by assumption) ?restlb9
    case hylb9 => (intro w hSw; (try dsimp only at hSw); go_simp; (try (first | with_reducible rfl | rw [if_neg (by omega)])))
    try simp only [Act.put, zA, zB, zC, zD, zE, zF]
    refine Held.take (k := 10) (i := 11) (v := ?vlb10) noslb okklb_10 sizlb (by kernel_rfl) rfl (fun _ _ _ h => h) (Or.inl ⟨by kernel_rfl, ?hylb10⟩) (by assumption) ?restlb10
    case hylb10 => (intro w hSw; (try dsimp only at hSw); go_simp; (try (first | with_reducible rfl | rw [if_neg (by omega)])))
    try simp only [Act.put, zA, zB, zC, zD, zE, zF]
    refine Held.take (k := 11) (i := 12) (v := ?vlb11) noslb okklb_11 sizlb (by kernel_rfl) rfl (fun _ _ _ h => h) (Or.inl ⟨by kernel_rfl, ?hylb11⟩) (by assumption) ?restlb11
    case hylb11 => (intro w hSw; (try dsimp only at hSw); go_simp; (try (first | with_reducible rfl | rw [if_neg (by omega)])))
    try simp only [Act.put, zA, zB, zC, zD, zE, zF]
    refine Held.only (k := 12) (i := 9) rdylb_12 (by kernel_rfl) rfl (by kernel_rfl) (fun K hK => ?_)
    go_simp
    go_at_call 103
    with_reducible refine (ofK_calls a_ b_ c_ d_ e_ f_ g_ _).mono ?_
    rintro e w3 ⟨rfl, hbx⟩
    replace c0 := cell_below hbx c0
    replace c1 := cell_below hbx c1
    replace c2 := cell_below hbx c2
    replace c3 := cell_below hbx c3
    replace c4 := cell_below hbx c4
    replace c5 := cell_below hbx c5
    replace c6 := cell_below hbx c6
    replace gz := cell_below hbx gz
    replace y0 := cell_below hbx y0
    replace y1 := cell_below hbx y1
    replace y2 := cell_below hbx y2
    replace y3 := cell_below hbx y3
    replace y4 := cell_below hbx y4
    replace y5 := cell_below hbx y5
    replace y6 := cell_below hbx y6
    replace y7 := cell_below hbx y7
    replace y8 := cell_below hbx y8
    replace y9 := cell_below hbx y9
    replace y10 := cell_below hbx y10
    replace y11 := cell_below hbx y11
    replace y12 := cell_below hbx y12
    replace y13 := cell_below hbx y13
    replace D := below_call D hbx
    refine hK.out _ _ (by (try dsimp only); (exact ⟨c0, c1, c2, c3, c4, c5, c6, gz, y0, y1, y2, y3, y4, y5, y6, y7, y8, y9, y10, y11, y12, y13⟩)) (fun hHeld => ?_)
    clear hK K
    try simp only [Act.put, zA, zB, zC, zD, zE, zF]
    refine Held.only (k := 13) (i := 13) rdylb_13 (by kernel_rfl) rfl (by kernel_rfl) (fun K hK => ?_)
    go_simp
    go_at_call 103
    with_reducible refine (ofK_calls v u o1 o2 o3 o4 o5 _).mono ?_
    rintro e w4 ⟨rfl, hbx⟩
    replace c0 := cell_below hbx c0
    replace c1 := cell_below hbx c1
    replace c2 := cell_below hbx c2
    replace c3 := cell_below hbx c3
    replace c4 := cell_below hbx c4
    replace c5 := cell_below hbx c5
    replace c6 := cell_below hbx c6
    replace gz := cell_below hbx gz
    replace y0 := cell_below hbx y0
    replace y1 := cell_below hbx y1
    replace y2 := cell_below hbx y2
    replace y3 := cell_below hbx y3
    replace y4 := cell_below hbx y4
    replace y5 := cell_below hbx y5
    replace y6 := cell_below hbx y6
    replace y7 := cell_below hbx y7
    replace y8 := cell_below hbx y8
    replace y9 := cell_below hbx y9
    replace y10 := cell_below hbx y10
    replace y11 := cell_below hbx y11
    replace y12 := cell_below hbx y12
    replace y13 := cell_below hbx y13
    replace D := below_call D hbx
    refine hK.out _ _ (by (try dsimp only); (exact ⟨c0, c1, c2, c3, c4, c5, c6, gz, y0, y1, y2, y3, y4, y5, y6, y7, y8, y9, y10, y11, y12, y13⟩)) (fun hHeld => ?_)
    clear hK K
    try simp only [Act.put, zA, zB, zC, zD, zE, zF]
    refine Held.take (k := 14) (i := 14) (v := ?vlb14) noslb okklb_14 sizlb (by kernel_rfl) rfl (fun _ _ _ h => h) (Or.inl ⟨by kernel_rfl, ?hylb14⟩) (by assumption) ?restlb14
    case hylb14 => (intro w hSw; (try dsimp only at hSw); go_simp; (try (first | with_reducible rfl | rw [if_neg (by omega)])))
    try simp only [Act.put, zA, zB, zC, zD, zE, zF]
    refine Held.take (k := 15) (i := 15) (v := ?vlb15) noslb okklb_15 sizlb (by kernel_rfl) rfl (fun _ _ _ h => h) (Or.inl ⟨by kernel_rfl, ?hylb15⟩) (by assumption) ?restlb15
    case hylb15 => (intro w hSw; (try dsimp only at hSw); go_simp; (try (first | with_reducible rfl | rw [if_neg (by omega)])))
    try simp only [Act.put, zA, zB, zC, zD, zE, zF]
    refine Held.take (k := 16) (i := 16) (v := ?vlb16) noslb okklb_16 sizlb (by kernel_rfl) rfl (fun _ _ _ h => h) (Or.inl ⟨by kernel_rfl, ?hylb16⟩) (by assumption) ?restlb16
    case hylb16 => (intro w hSw; (try dsimp only at hSw); go_simp; (try (first | with_reducible rfl | rw [if_neg (by omega)])))
    try simp only [Act.put, zA, zB, zC, zD, zE, zF]
    refine wpAnyH_done (by kernel_rfl) ?_ _
    clear c0 c1 c2 c3 c4 c5 c6 gz y0 y1 y2 y3 y4 y5 y6 y7 y8 y9 y10 y11 y12 y13
    go_wp2
    go_ret
    exact ⟨rfl, D⟩
set_option maxHeartbeats 8000000 in
set_option maxRecDepth 100000 in
theorem idxDo_calls (n c : Nat) (A : Option Addr) (l : List En) (g h : Nat) (u v : ByteArray) (m1 m2 m3 m4 m5 o1 o2 o3 o4 o5 : Bool) (w : World) (hl : Row enEn 7 w (.slice A n c) l) (E : TwoAt w g h u v m1 m2 m3 m4 m5 o1 o2 o3 o4 o5) :
    Calls Tryz.prog 151 #[.slice A n c, .func (.func 102) #[] #[.pointer (some ⟨g, 0, none⟩)]] w fun e w' => e = .returned (.int .i64 (idxI (l.findIdx? (isTwo u v)))) ∧ Below w.heap.size w w' := by
  have EA := Lib.hid hl.len_eq
  have hnl : n ≤ 9223372036854775807 := by rw [EA.out]; exact hl.len
  obtain ⟨r, hr⟩ : ∃ r, idxI (l.findIdx? (isTwo u v)) = r := ⟨_, rfl⟩
  rw [hr]
  have HR := Lib.hid hr
  clear hr
  have HG := Lib.hid E
  clear E
  go_enter Tryz.func151, Tryz.ntmps151
  go_wp2
  go_loopw [8] (fun v8 wr => ∃ i : Nat, v8 = .int .i64 i ∧ i ≤ n ∧ Below w.heap.size w wr ∧ Hid (∀ j (h : j < l.length), j < i → ((isTwo u v)) l[j] = false)) (fun v8 _ => (n - intOf v8).toNat)
  case atStart => exact ⟨0, rfl, Nat.zero_le _, Below.refl _ _, fun j _ h => absurd h (by omega)⟩
  case round =>
    obtain ⟨i, rfl, hi, hB, HT⟩ := hrel
    by_cases hlt : i < n
    · have hil : i < l.length := by have := EA.out; omega
      obtain ⟨⟨a_, b_, c_, d_, e_, f_, g_⟩, he⟩ : ∃ e, l[i] = e := ⟨_, rfl⟩
      obtain ⟨ad, rfl, c0, c1, c2, c3, c4, c5, c6⟩ := rowEn (hl.below hB) i hil a_ b_ c_ d_ e_ f_ g_ he
      have HE := Lib.hid he
      clear he
      obtain ⟨b, hb⟩ : ∃ b, ((isTwo u v)) ⟨a_, b_, c_, d_, e_, f_, g_⟩ = b := ⟨_, rfl⟩
      have HB := Lib.hid hb
      clear hb
      go_wp2_with fail
      refine (re_ (do1_calls a_ b_ c_ d_ e_ f_ g_ g h u v m1 m2 m3 m4 m5 o1 o2 o3 o4 o5 _ (HG.out.call hB)) (ret_bool HB.out)).mono ?_
      rintro e w1 ⟨rfl, b1⟩
      have hB1 := below_call hB b1
      clear c0 c1 c2 c3 c4 c5 c6 b1 hB
      cases b with
      | true =>
        have HF : Hid (r = (i : Int)) := by
          show _ = _
          rw [← HR.out, idx_at _ l i hil HT.out (by rw [HE.out]; exact HB.out)]; rfl
        go_wp2
        go_ret
        rw [HF.out]
        exact ⟨rfl, hB1⟩
      | false =>
        go_wp2
        exact ⟨⟨i + 1, by go_num, by omega, hB1, fun j h hj => by
          rcases Nat.lt_or_ge j i with h' | h'
          · exact HT.out j h h'
          · obtain rfl : j = i := by omega
            rw [HE.out]; exact HB.out⟩, by simp [intOf]; omega⟩
    · have hin : i = n := by omega
      subst hin
      have HF : Hid (r = -1) := by
        show _ = _
        rw [← HR.out, idx_no _ l (fun j hj => HT.out j hj (by rw [EA.out]; exact hj))]; rfl
      go_wp2
      go_ret
      rw [HF.out]
      exact ⟨rfl, hB⟩
set_option maxHeartbeats 16000000 in
set_option maxRecDepth 100000 in
theorem delFuncR_calls (base n c : Nat) (A : Option Addr) (l : List En) (g h : Nat) (u v : ByteArray) (m1 m2 m3 m4 m5 o1 o2 o3 o4 o5 : Bool) (w0 w : World) (hO : Own enEn 7 105 w base (.slice A n c) l) (hln : l.length ≤ 100000)
    (hg : TwoAt w g h u v m1 m2 m3 m4 m5 o1 o2 o3 o4 o5) (hgb : g < base) (hhb : h < base) (HB : Below base w0 w) (hbase : base ≤ w.heap.size) :
    Calls Tryz.prog 101 #[.slice A n c, .func (.func 102) #[] #[.pointer (some ⟨g, 0, none⟩)]] w fun e w' => ∃ v', e = .returned v' ∧ Own enEn 7 105 w' base v' (l.filter (noTwo u v)) ∧ Below base w0 w' := by
  have hrow := hO.row
  have EA := Lib.hid hrow.len_eq
  have hn5 : n ≤ 100000 := by have := EA.out; omega
  cases hf : l.findIdx? (isTwo u v) with
  | none =>
    have HF : Hid (l.filter (noTwo u v) = l) := by
      show _ = _
      rw [List.filter_eq_self]
      intro s hs
      have := (List.findIdx?_eq_none_iff.1 hf) s hs
      unfold noTwo
      rw [this]; rfl
    have HI : Hid (idxI (l.findIdx? (isTwo u v)) = -1) := by show _ = _; rw [hf]; rfl
    clear hf
    go_enter Tryz.func101, Tryz.ntmps101
    go_wp2_with fail
    with_reducible refine (re_ (idxDo_calls n c A l g h u v m1 m2 m3 m4 m5 o1 o2 o3 o4 o5 _ hrow hg) (ret_int HI.out)).mono ?_
    rintro e w1 ⟨rfl, b1⟩
    have hO2 := hO.below b1
    have hB2 := below_then HB hbase b1
    clear hO hrow HB b1 hg
    go_wp2
    go_ret
    rw [HF.out]
    exact ⟨_, rfl, hO2, hB2⟩
  | some i0 =>
    obtain ⟨hi0, hp0, hlt0⟩ := List.findIdx?_eq_some_iff_getElem.1 hf
    have hi0n : i0 < n := by have := EA.out; omega
    obtain ⟨b, rfl, hbb⟩ : ∃ b, A = some ⟨b, 0, none⟩ ∧ base ≤ b := by
      rcases hO.2 with ⟨h, _⟩ | ⟨g', cap', cur, he, hb, _⟩
      · injection h with h1 h2 h3
        omega
      · injection he with h1 h2 h3
        exact ⟨g', h1, hb⟩
    have HI : Hid (idxI (l.findIdx? (isTwo u v)) = (i0 : Int)) := by show _ = _; rw [hf]; rfl
    have hst : (l.take (i0 + 1)).filter (noTwo u v) = l.take i0 := by
      rw [List.take_succ_eq_append_getElem hi0, List.filter_append, List.filter_cons, if_neg (by unfold noTwo; rw [hp0]; decide), List.filter_nil, List.append_nil, List.filter_eq_self]
      intro s hs
      obtain ⟨j, hj, rfl⟩ := List.getElem_of_mem hs
      rw [List.length_take] at hj
      rw [List.getElem_take]
      have := hlt0 j (by omega)
      unfold noTwo
      simpa using this
    have HST : Hid (l.take i0 = (l.take (i0 + 1)).filter (noTwo u v)) := hst.symm
    clear hf hp0 hlt0 hst hi0
    have hne : ((i0 : Int) == -1) = false := by simp
    go_enter Tryz.func101, Tryz.ntmps101
    go_wp2_with fail
    with_reducible refine (re_ (idxDo_calls n c _ l g h u v m1 m2 m3 m4 m5 o1 o2 o3 o4 o5 _ hrow hg) (ret_int HI.out)).mono ?_
    rintro e w1 ⟨rfl, b1⟩
    have hO2 := hO.below b1
    have hB2 := below_then HB hbase b1
    have hg2 := hg.call b1
    have hbs1 : base ≤ w1.heap.size := Nat.le_trans hbase b1.size
    clear hO hrow HB b1 hg
    go_wp2
    go_loopw [5, 6] (fun vi vj wr => ∃ (i j : Nat) (m : List En), vi = .int .i64 i ∧ vj = .int .i64 j ∧ i < j ∧ j ≤ n ∧ m.length = l.length ∧ Hid (m.take i = (l.take j).filter (noTwo u v) ∧ m.drop j = l.drop j) ∧ Own enEn 7 105 wr base (.slice (some ⟨b, 0, none⟩) n c) m ∧ Below base w0 wr ∧ base ≤ wr.heap.size ∧ TwoAt wr g h u v m1 m2 m3 m4 m5 o1 o2 o3 o4 o5) (fun _ vj _ => (n - intOf vj).toNat)
    case atStart => exact ⟨i0, i0 + 1, l, rfl, by go_num, by omega, by omega, rfl, ⟨HST.out, rfl⟩, hO2, hB2, hbs1, hg2⟩
    case round =>
      obtain ⟨i, j, m, rfl, rfl, hij, hj, hml, HM, hO, hB, hbs, hg⟩ := hrel
      clear hO2 hB2 hg2
      by_cases hlt : j < n
      · have hjl : j < l.length := by have := EA.out; omega
        have hjm : j < m.length := by omega
        obtain ⟨⟨a_, b_, c_, d_, e_, f_, g_⟩, he⟩ : ∃ e, l[j] = e := ⟨_, rfl⟩
        have hmj : m[j] = l[j] := by
          have h1 : m[j]? = l[j]? := by
            have := congrArg (fun r : List En => r[0]?) HM.out.2
            simpa [List.getElem?_drop] using this
          rw [List.getElem?_eq_getElem hjm, List.getElem?_eq_getElem hjl] at h1
          exact Option.some.inj h1
        obtain ⟨k0, k1, k2, k3, k4, k5, k6⟩ := rowsEn hO.row j hjm a_ b_ c_ d_ e_ f_ g_ (hmj.trans he)
        simp only [add_plain] at k0 k1 k2 k3 k4 k5 k6
        have hdr : m.drop (j + 1) = l.drop (j + 1) := by
          have := congrArg (List.drop 1) HM.out.2
          rwa [List.drop_drop, List.drop_drop] at this
        have hfl : (l.take (j + 1)).filter (noTwo u v) = (l.take j).filter (noTwo u v) ++ (if isTwo u v ⟨a_, b_, c_, d_, e_, f_, g_⟩ then [] else [⟨a_, b_, c_, d_, e_, f_, g_⟩]) := by
          rw [List.take_succ_eq_append_getElem hjl, List.filter_append, he, List.filter_cons]
          unfold noTwo
          cases isTwo u v ⟨a_, b_, c_, d_, e_, f_, g_⟩ <;> simp
        have hbx := heap_alloc_new wr (bxEn a_ b_ c_ d_ e_ f_ g_)
        have hO1 := hO.alloc (bxEn a_ b_ c_ d_ e_ f_ g_)
        have hB1 : Below base w0 (wr.alloc (bxEn a_ b_ c_ d_ e_ f_ g_)) := hB.alloc hbs _
        have hs1 : base ≤ (wr.alloc (bxEn a_ b_ c_ d_ e_ f_ g_)).heap.size := by rw [size_alloc]; omega
        have hg1 := hg.alloc (bxEn a_ b_ c_ d_ e_ f_ g_)
        obtain ⟨u0, u1, u2, u3, u4, u5, u6, uz⟩ := cellsEn a_ b_ c_ d_ e_ f_ g_ hbx
        obtain ⟨bq, hbq⟩ : ∃ r, isTwo u v ⟨a_, b_, c_, d_, e_, f_, g_⟩ = r := ⟨_, rfl⟩
        rw [hbq] at hfl
        have HQ := Lib.hid hbq
        have HFL := Lib.hid hfl
        have HDR := Lib.hid hdr
        have HIM : Hid (i < m.length) := by show _ < _; omega
        have x1 : (0 : Int) ≤ (i : Int) := by omega
        have x2 : (i : Int) < (n : Int) := by omega
        have x3 : (0 : Int) ≤ (j : Int) := by omega
        have x4 : (j : Int) < (n : Int) := by omega
        clear hbq hfl hdr he hmj hjl hjm hO hB hg
        go_wp2_with fail
        with_reducible refine (re_ (do1_calls a_ b_ c_ d_ e_ f_ g_ g h u v m1 m2 m3 m4 m5 o1 o2 o3 o4 o5 _ hg1) (ret_bool HQ.out)).mono ?_
        rintro e w2 ⟨rfl, b2⟩
        have hO2 := hO1.below b2
        have hB2 := below_then hB1 hs1 b2
        have hg2 := hg1.call b2
        have hbx2 := hcall hbx b2
        have hs2 : base ≤ w2.heap.size := Nat.le_trans hs1 b2.size
        clear hO1 hB1 hg1 hbx hs1 b2 u0 u1 u2 u3 u4 u5 u6 uz k0 k1 k2 k3 k4 k5 k6
        cases bq with
        | true =>
          have HM2 : Hid (m.take i = (l.take (j + 1)).filter (noTwo u v) ∧ m.drop (j + 1) = l.drop (j + 1)) := ⟨by rw [HFL.out, HM.out.1]; simp, HDR.out⟩
          go_wp2
          exact ⟨⟨i, j + 1, m, rfl, by go_num, by omega, by omega, hml, HM2, hO2, hB2, hs2, hg2⟩, by simp [intOf]; omega⟩
        | false =>
          have HM2 : Hid ((m.set i ⟨a_, b_, c_, d_, e_, f_, g_⟩).take (i + 1) = (l.take (j + 1)).filter (noTwo u v) ∧ (m.set i ⟨a_, b_, c_, d_, e_, f_, g_⟩).drop (j + 1) = l.drop (j + 1)) := by
            have him := HIM.out
            refine ⟨?_, ?_⟩
            · rw [HFL.out, ← HM.out.1, List.take_succ_eq_append_getElem (by rw [List.length_set]; exact him), List.getElem_set_self, List.take_set, List.set_eq_of_length_le (by rw [List.length_take]; omega)]
              simp
            · rw [List.drop_set_of_lt (by omega)]; exact HDR.out
          obtain ⟨u0, u1, u2, u3, u4, u5, u6, uz⟩ := cellsEn a_ b_ c_ d_ e_ f_ g_ hbx2
          go_wp2_with (with_reducible refine Own.store rfl 105 (.tmp 33) (.tmp 32) rfl szEn b n c i m ⟨a_, b_, c_, d_, e_, f_, g_⟩ hO2 enEn_len (enEn_one _) HIM.out rfl (enEn ⟨a_, b_, c_, d_, e_, f_, g_⟩) rfl rfl hB2 ?_; intro w3 hO3 hB3 hz3 ho3)
          have hg3 : TwoAt w3 g h u v m1 m2 m3 m4 m5 o1 o2 o3 o4 o5 := ⟨(ho3 g (by omega)).trans hg2.1, (ho3 h (by omega)).trans hg2.2⟩
          exact ⟨⟨i + 1, j + 1, m.set i ⟨a_, b_, c_, d_, e_, f_, g_⟩, by go_num, by go_num, by omega, by omega, by rw [List.length_set]; exact hml, HM2, hO3, hB3, by rw [hz3]; exact hs2, hg3⟩, by simp [intOf]; omega⟩
      · have hjn : j = n := by omega
        subst hjn
        have hres : m.take i = l.filter (noTwo u v) := by
          have := HM.out.1
          rwa [List.take_of_length_le (l := l) (by have := EA.out; omega)] at this
        have HRES := Lib.hid hres
        obtain ⟨hlen, h2⟩ := hO
        rcases h2 with ⟨h2, _⟩ | ⟨b', c', cur, he, hbb', hcur, hnc, hcm, hcs, htake⟩
        · cases h2
        simp only [Value.slice.injEq, Option.some.injEq, Addr.mk.injEq] at he
        obtain ⟨⟨rfl, -, -⟩, hn, rfl⟩ := he
        obtain ⟨L, rfl⟩ : ∃ L : List Value, cur = L.toArray := ⟨cur.toList, by simp⟩
        have hLl : L.length = c * 7 := by simpa using hcs
        have hLt : L.take (m.length * 7) = m.flatMap enEn := by simpa using htake
        obtain ⟨d, hd⟩ : ∃ d, j - i = d := ⟨_, rfl⟩
        have hmi : L.take (i * 7) = (m.take i).flatMap enEn := by
          obtain ⟨f1, f2, _⟩ := flat_takeEn m i (by omega)
          have e : L.take (i * 7) = (L.take (m.length * 7)).take (i * 7) := by rw [List.take_take]; congr 1; simp only [Nat.min_def]; split <;> omega
          rw [e, hLt, f1, ← f2, List.take_left]
        obtain ⟨s1, _⟩ := splice_take L (i * 7) (zerosK (zvEn).cells.toList d) (by omega)
        have s3 := length_splice L (i * 7) (zerosK (zvEn).cells.toList d) (by rw [zerosK_len, show (zvEn).cells.toList.length = 7 from rfl]; omega)
        have HMK : Hid (∀ w' : World, w'.heap[b]? = some (.cells (splice L (i * 7) (zerosK (zvEn).cells.toList d)).toArray 105 (0, 0)) → Own enEn 7 105 w' base (.slice (some ⟨b, 0, none⟩) i c) (m.take i)) := by
          intro w' hw'
          have hl2 : (m.take i).length = i := by rw [List.length_take]; omega
          refine ⟨by rw [flat_length enEn_len], .inr ⟨b, c, _, by rw [hl2], hbb', hw', by omega, hcm, by simpa [s3] using hLl, ?_⟩⟩
          rw [hl2]
          show (splice _ _ _).take _ = _
          rw [s1, hmi]
        have HFIT : Hid (i * 7 + d * 7 ≤ L.length) := by show _ ≤ _; omega
        have HCUR := Lib.hid hcur
        have x1 : (0 : Int) ≤ (i : Int) := by omega
        have x2 : (i : Int) ≤ (j : Int) := by omega
        have x4 : (j : Int) ≤ (c : Int) := by omega
        have x5 : i ≤ j := by omega
        have x6 : i ≤ c := by omega
        have x7 : (i : Int) ≤ (c : Int) := by omega
        have x8 : ¬ (c = i) := by omega
        have hd0 : 0 < d := by omega
        clear hlen hcs htake hLl hLt hmi s1 s3 hres HM hml hn hnc hcm hcur hg
        go_wp2_with (with_reducible refine wpList_clearK rfl (.tmp 38) 22 rfl 105 zvEn 7 Tryz.underlying22 zoEn rfl zcEn b (i * 7) d (c - i) rfl L 105 HCUR.out HFIT.out hd0 base w0 hB hbb' ?_; intro w2 HC2 hB2 hz2 ho2)
        go_ret
        rw [← HRES.out]
        exact ⟨_, rfl, HMK.out _ HC2.out, hB2⟩
end Go.Proofs.YtbpfcjdjhponaaaGreat
