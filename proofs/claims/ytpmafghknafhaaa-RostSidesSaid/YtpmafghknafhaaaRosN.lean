/-
Contracts: an entry put among others, by the program.
-/
import Derived.Test.YtpmafghknafhaaaRosI
import Derived.Test.YtpmafghknafhaaaSlEn
set_option linter.unusedVariables false
set_option linter.unusedSimpArgs false
namespace Go.Proofs.Ytpmafghknafhaaa
open Go.RowKit
open Sp
namespace Sp
/-- The place ahead of the first entry that x stands ahead of. -/
def aheadRo (l : List En) (x : En) : Option Nat := l.findIdx? fun y => ltRo (keyRo x) (keyRo y)
def insRo (l : List En) (x : En) : List En := match aheadRo l x with | some i => l.take i ++ x :: l.drop i | none => l ++ [x]
def putP (l : List En) (x : En) : List En := match l.findIdx? (fun s => decide (keyRo s = (x.o, x.c))) with | some i => l.set i x | none => insRo l x
theorem insRo_ins {l : List En} (h : OrdRo l) (x : En) (hx : ∀ y ∈ l, keyRo y ≠ keyRo x) : insRo l x = insK keyRo ltRo l x := by
  unfold insRo insK aheadRo
  induction l with
  | nil => rfl
  | cons y l ih =>
    have hy := hx y (List.mem_cons_self ..)
    have ih' := ih (List.pairwise_cons.1 h).2 fun z hz => hx z (List.mem_cons_of_mem _ hz)
    rw [List.findIdx?_cons, List.takeWhile_cons, List.dropWhile_cons]
    rcases ltRo_ord.tri _ _ hy with h1 | h1
    · rw [h1, ltRo_ord.asymm h1]
      cases hf : l.findIdx? (fun y => ltRo (keyRo x) (keyRo y)) with
      | none => rw [hf] at ih'; simp at ih' ⊢; exact ih'
      | some i => rw [hf] at ih'; simp at ih' ⊢; exact ih'
    · rw [h1, ltRo_ord.asymm h1]
      simp
theorem putP_put {l : List En} (h : OrdRo l) (x : En) : putP l x = putK keyRo ltRo l x := by
  unfold putP
  cases hf : l.findIdx? (fun s => decide (keyRo s = (x.o, x.c))) with
  | some i =>
    rw [List.findIdx?_eq_some_iff_getElem] at hf
    obtain ⟨hi, h1, _⟩ := hf
    exact set_putK ltRo_ord h i hi x (of_decide_eq_true h1)
  | none =>
    rw [List.findIdx?_eq_none_iff] at hf
    have hn : getK keyRo l (keyRo x) = none := getK_none.2 fun y hy => by simpa [keyRo] using hf y hy
    unfold putK
    rw [delK_none hn]
    exact insRo_ins h x fun y hy => by simpa [keyRo] using hf y hy
end Sp
theorem cmpRo_lt (a b : EnK) : decide (cmpRo a b < 0) = ltRo a b := by
  unfold cmpRo
  by_cases h : a = b
  · rw [if_pos h, h, ltRo_ord.irr]; rfl
  · rw [if_neg h]
    cases ltRo a b <;> rfl
set_option maxHeartbeats 8000000 in
set_option maxRecDepth 100000 in
theorem putR1_calls (a_ b_ : ByteArray) (c_ d_ e_ f_ g_ : Bool) (g : Nat) (p_ q_ : ByteArray) (r_ s_ t_ v_ x_ : Bool) (w : World) (hg : w.heap[g]? = some (bxEn p_ q_ r_ s_ t_ v_ x_)) :
    Calls Try.prog 77 #[.agg #[.string a_, .string b_, .bool c_, .bool d_, .bool e_, .bool f_, .bool g_], .pointer (some ⟨g, 0, none⟩)] w fun e w' => e = .returned (.bool (ltRo (keyRo ⟨p_, q_, r_, s_, t_, v_, x_⟩) (keyRo ⟨a_, b_, c_, d_, e_, f_, g_⟩))) ∧ Below w.heap.size w w' := by
  obtain ⟨y0, y1, y2, y3, y4, y5, y6, yz⟩ := cellsEn p_ q_ r_ s_ t_ v_ x_ hg
  have hB := (below_box (w := w) (bxEn a_ b_ c_ d_ e_ f_ g_)).drew
  have h0 := heap_alloc_new w (bxEn a_ b_ c_ d_ e_ f_ g_)
  obtain ⟨c0, c1, c2, c3, c4, c5, c6, hz⟩ := cellsEn a_ b_ c_ d_ e_ f_ g_ h0
  have j0 := cell_below (below_box (bxEn a_ b_ c_ d_ e_ f_ g_)) y0
  have j1 := cell_below (below_box (bxEn a_ b_ c_ d_ e_ f_ g_)) y1
  have j2 := cell_below (below_box (bxEn a_ b_ c_ d_ e_ f_ g_)) y2
  have j3 := cell_below (below_box (bxEn a_ b_ c_ d_ e_ f_ g_)) y3
  have j4 := cell_below (below_box (bxEn a_ b_ c_ d_ e_ f_ g_)) y4
  have j5 := cell_below (below_box (bxEn a_ b_ c_ d_ e_ f_ g_)) y5
  have j6 := cell_below (below_box (bxEn a_ b_ c_ d_ e_ f_ g_)) y6
  obtain ⟨m, hm⟩ : ∃ m, cmpRo (p_, q_) (a_, b_) = m := ⟨_, rfl⟩
  have hlt := cmpRo_lt (p_, q_) (a_, b_)
  rw [hm] at hlt
  have HM := Lib.hid hm
  have HLT := Lib.hid hlt
  clear hm hlt hg y0 y1 y2 y3 y4 y5 y6
  go_enter Try.func77, Try.ntmps77
  go_wp2_with fail
  go_region_held3 (fun w' => w'.cell? ⟨w.heap.size, 0, none⟩ = some (.string a_) ∧ w'.cell? ⟨w.heap.size, 1, none⟩ = some (.string b_) ∧ w'.cell? ⟨w.heap.size, 2, none⟩ = some (.bool c_) ∧ w'.cell? ⟨w.heap.size, 3, none⟩ = some (.bool d_) ∧ w'.cell? ⟨w.heap.size, 4, none⟩ = some (.bool e_) ∧ w'.cell? ⟨w.heap.size, 5, none⟩ = some (.bool f_) ∧ w'.cell? ⟨w.heap.size, 6, none⟩ = some (.bool g_) ∧ w'.cell? ⟨g, 0, none⟩ = some (.string p_) ∧ w'.cell? ⟨g, 1, none⟩ = some (.string q_) ∧ w'.cell? ⟨g, 2, none⟩ = some (.bool r_) ∧ w'.cell? ⟨g, 3, none⟩ = some (.bool s_) ∧ w'.cell? ⟨g, 4, none⟩ = some (.bool t_) ∧ w'.cell? ⟨g, 5, none⟩ = some (.bool v_) ∧ w'.cell? ⟨g, 6, none⟩ = some (.bool x_)) (exact ⟨c0, c1, c2, c3, c4, c5, c6, j0, j1, j2, j3, j4, j5, j6⟩) (((first | (go_at_call 37; first | (refine (ofK_calls p_ q_ r_ s_ t_ v_ x_ _).mono ?_) | (refine (ofK_calls a_ b_ c_ d_ e_ f_ g_ _).mono ?_)) | (go_at_call 36; refine (re_ (orderR_calls p_ q_ a_ b_ _) (by rw [HM.out])).mono ?_)); rintro e wx ⟨rfl, hbx⟩; replace hB := below_call hB hbx; replace c0 := cell_below hbx c0; replace c1 := cell_below hbx c1; replace c2 := cell_below hbx c2; replace c3 := cell_below hbx c3; replace c4 := cell_below hbx c4; replace c5 := cell_below hbx c5; replace c6 := cell_below hbx c6; replace j0 := cell_below hbx j0; replace j1 := cell_below hbx j1; replace j2 := cell_below hbx j2; replace j3 := cell_below hbx j3; replace j4 := cell_below hbx j4; replace j5 := cell_below hbx j5; replace j6 := cell_below hbx j6; clear hbx))
  all_goals go_wp2
  all_goals go_ret
  all_goals exact ⟨ret_bool (by first | exact HLT.out | (rw [← HLT.out]; rfl)), hB⟩
set_option maxHeartbeats 8000000 in
set_option maxRecDepth 100000 in
theorem idxPutR_calls (n c : Nat) (A : Option Addr) (l : List En) (g : Nat) (p_ q_ : ByteArray) (r_ s_ t_ v_ x_ : Bool) (w : World) (hl : Row enEn 7 w (.slice A n c) l) (hg : w.heap[g]? = some (bxEn p_ q_ r_ s_ t_ v_ x_)) :
    Calls Try.prog 76 #[.slice A n c, .func (.func 77) #[] #[.pointer (some ⟨g, 0, none⟩)]] w fun e w' => e = .returned (.int .i64 (idxI (l.findIdx? (fun y : En => ltRo (keyRo (⟨p_, q_, r_, s_, t_, v_, x_⟩ : En)) (keyRo y))))) ∧ Below w.heap.size w w' := by
  have EA := Lib.hid hl.len_eq
  have hnl : n ≤ 9223372036854775807 := by rw [EA.out]; exact hl.len
  obtain ⟨r, hr⟩ : ∃ r, idxI (l.findIdx? (fun y : En => ltRo (keyRo (⟨p_, q_, r_, s_, t_, v_, x_⟩ : En)) (keyRo y))) = r := ⟨_, rfl⟩
  rw [hr]
  have HR := Lib.hid hr
  clear hr
  have HG := Lib.hid hg
  clear hg
  go_enter Try.func76, Try.ntmps76
  go_wp2
  go_loopw [8] (fun v8 wr => ∃ i : Nat, v8 = .int .i64 i ∧ i ≤ n ∧ Below w.heap.size w wr ∧ Hid (∀ j (h : j < l.length), j < i → ((fun y : En => ltRo (keyRo (⟨p_, q_, r_, s_, t_, v_, x_⟩ : En)) (keyRo y))) l[j] = false)) (fun v8 _ => (n - intOf v8).toNat)
  case atStart => exact ⟨0, rfl, Nat.zero_le _, Below.refl _ _, fun j _ h => absurd h (by omega)⟩
  case round =>
    obtain ⟨i, rfl, hi, hB, HT⟩ := hrel
    by_cases hlt : i < n
    · have hil : i < l.length := by have := EA.out; omega
      obtain ⟨⟨a_, b_, c_, d_, e_, f_, g_⟩, he⟩ : ∃ e, l[i] = e := ⟨_, rfl⟩
      obtain ⟨ad, rfl, c0, c1, c2, c3, c4, c5, c6⟩ := rowEn (hl.below hB) i hil a_ b_ c_ d_ e_ f_ g_ he
      have HE := Lib.hid he
      clear he
      obtain ⟨b, hb⟩ : ∃ b, ((fun y : En => ltRo (keyRo (⟨p_, q_, r_, s_, t_, v_, x_⟩ : En)) (keyRo y))) ⟨a_, b_, c_, d_, e_, f_, g_⟩ = b := ⟨_, rfl⟩
      have HB := Lib.hid hb
      clear hb
      go_wp2_with fail
      refine (re_ (putR1_calls a_ b_ c_ d_ e_ f_ g_ g p_ q_ r_ s_ t_ v_ x_ _ (hcall HG.out hB)) (ret_bool HB.out)).mono ?_
      rintro e w1 ⟨rfl, b1⟩
      have hB1 := below_call hB b1
      clear c0 c1 c2 c3 c4 c5 c6 b1 hB
      cases b with
      | true =>
        have HF : Hid (r = (i : Int)) := by
          show _ = _
          rw [← HR.out, idx_at _ l i hil HT.out (by rw [HE.out]; exact HB.out)]; rfl
        go_wp2
        go_ret
        rw [HF.out]
        exact ⟨rfl, hB1⟩
      | false =>
        go_wp2
        exact ⟨⟨i + 1, by go_num, by omega, hB1, fun j h hj => by
          rcases Nat.lt_or_ge j i with h' | h'
          · exact HT.out j h h'
          · obtain rfl : j = i := by omega
            rw [HE.out]; exact HB.out⟩, by simp [intOf]; omega⟩
    · have hin : i = n := by omega
      subst hin
      have HF : Hid (r = -1) := by
        show _ = _
        rw [← HR.out, idx_no _ l (fun j hj => HT.out j hj (by rw [EA.out]; exact hj))]; rfl
      go_wp2
      go_ret
      rw [HF.out]
      exact ⟨rfl, hB⟩
set_option maxHeartbeats 8000000 in
set_option maxRecDepth 100000 in
theorem seekP_calls (n c : Nat) (A : Option Addr) (l : List En) (g : Nat) (p_ q_ : ByteArray) (r_ s_ t_ v_ x_ : Bool) (w : World) (hl : Row enEn 7 w (.slice A n c) l) (hg : w.heap[g]? = some (bxEn p_ q_ r_ s_ t_ v_ x_)) :
    Calls Try.prog 70 #[.slice A n c, .func (.func 77) #[] #[.pointer (some ⟨g, 0, none⟩)]] w fun e w' => e = .returned (.tuple #[.int .i64 (maxI (idxI (aheadRo l ⟨p_, q_, r_, s_, t_, v_, x_⟩))), .bool (decide (0 ≤ idxI (aheadRo l ⟨p_, q_, r_, s_, t_, v_, x_⟩)))]) ∧ Below w.heap.size w w' := by
  obtain ⟨r, hr⟩ : ∃ r, idxI (aheadRo l ⟨p_, q_, r_, s_, t_, v_, x_⟩) = r := ⟨_, rfl⟩
  have HC := idxPutR_calls n c A l g p_ q_ r_ s_ t_ v_ x_ w hl hg
  rw [show l.findIdx? (fun y : En => ltRo (keyRo (⟨p_, q_, r_, s_, t_, v_, x_⟩ : En)) (keyRo y)) = aheadRo l ⟨p_, q_, r_, s_, t_, v_, x_⟩ from rfl] at HC
  rw [hr] at HC ⊢
  clear hr
  unfold maxI
  go_enter Try.func70, Try.ntmps70
  go_wp2_with fail
  refine HC.mono ?_
  rintro e w1 ⟨rfl, b1⟩
  go_wp2
  all_goals go_ret2
  all_goals refine ⟨?_, b1⟩
  all_goals (by_cases h0 : 0 ≤ r <;> simp_all)
  all_goals (try omega)
theorem Own.at8 {α : Type} {enc : α → List Value} {k : Nat} {e : TypeId} {w : World} {base : Nat} {A : Option Addr} {n c : Nat} {xs : List α} (h : Own enc k e w base (.slice A n c) xs) (hp : 0 < xs.length) : ∃ b, A = some ⟨b, 0, none⟩ ∧ base ≤ b ∧ b < w.heap.size := by
  rcases h.2 with ⟨_, h0⟩ | ⟨b, c', cur, he, hb, hc, _⟩
  · omega
  · injection he with e1
    exact ⟨b, e1, hb, (Array.getElem?_eq_some_iff.1 hc).1⟩
theorem Own.lt8 {α : Type} {enc : α → List Value} {k : Nat} {e : TypeId} {w : World} {base : Nat} {v : Value} {xs : List α} (h : Own enc k e w base v xs) (g : Nat) (hg : w.heap.size ≤ g) : v.ownBlock ≠ some g := fun e => by
  have := (World.ownsRow.lt h g e).2
  omega
set_option maxHeartbeats 16000000 in
set_option maxRecDepth 100000 in
theorem putRo_calls (base n c : Nat) (A : Option Addr) (l : List En) (p_ q_ : ByteArray) (r_ s_ t_ v_ x_ : Bool) (w0 w : World) (hO : Own enEn 7 49 w base (.slice A n c) l) (hB : Below base w0 w) (hbw : base ≤ w0.heap.size) (hn : l.length ≤ 1000) :
    Calls Try.prog 50 #[.slice A n c, .agg #[.string p_, .string q_, .bool r_, .bool s_, .bool t_, .bool v_, .bool x_]] w fun e w' => ∃ v', e = .returned v' ∧ Own enEn 7 49 w' base v' (putP l ⟨p_, q_, r_, s_, t_, v_, x_⟩) ∧ Below base w0 w' := by
  have EA := Lib.hid hO.row.len_eq
  have hbase := Nat.le_trans hbw hB.size
  have hb := heap_alloc_new w (bxEn p_ q_ r_ s_ t_ v_ x_)
  have hO1 := hO.alloc (bxEn p_ q_ r_ s_ t_ v_ x_)
  have hB1 := hB.alloc hbase (bxEn p_ q_ r_ s_ t_ v_ x_)
  have hs1 : base ≤ (w.alloc (bxEn p_ q_ r_ s_ t_ v_ x_)).heap.size := Nat.le_trans hbw hB1.size
  obtain ⟨k0, k1, k2, k3, k4, k5, k6, kz⟩ := cellsEn p_ q_ r_ s_ t_ v_ x_ hb
  have hpp : putP l ⟨p_, q_, r_, s_, t_, v_, x_⟩ = match placeRo l p_ q_ with | some i => l.set i ⟨p_, q_, r_, s_, t_, v_, x_⟩ | none => insRo l ⟨p_, q_, r_, s_, t_, v_, x_⟩ := rfl
  cases hp : placeRo l p_ q_ with
  | some i =>
    obtain ⟨hil, _, _⟩ := place_some hp
    have HF : Hid (putP l ⟨p_, q_, r_, s_, t_, v_, x_⟩ = l.set i ⟨p_, q_, r_, s_, t_, v_, x_⟩) := by show _ = _; rw [hpp, hp]
    obtain ⟨b, rfl, hbb, _⟩ := hO.at8 (by omega)
    have HFD := Lib.hid (show ∀ (W : World), Row enEn 7 W (.slice (some ⟨b, 0, none⟩) n c) l → Calls Try.prog 38 #[.slice (some ⟨b, 0, none⟩) n c, agKr p_ q_] W fun e w' => e = .returned (.tuple #[.int .i64 i, .bool true]) ∧ Below W.heap.size W w' from fun W h => by
      have := findRo_calls n c _ l p_ q_ W h
      rwa [hp, show maxI (idxI (some i)) = (i : Int) from by unfold maxI idxI; simp, show decide (0 ≤ idxI (some i)) = true from by unfold idxI; simp] at this)
    have x1 : (0 : Int) ≤ (i : Int) := by omega
    have x2 : (i : Int) < (n : Int) := by have := EA.out; omega
    clear hpp hp
    go_enter Try.func50, Try.ntmps50
    go_wp2_with fail
    with_reducible refine (ofK_calls p_ q_ r_ s_ t_ v_ x_ _).mono ?_
    rintro e w1 ⟨rfl, b1⟩
    have hO2 := hO1.below b1
    have hB2 := below_then hB1 hs1 b1
    replace hb := hcall hb b1
    clear b1 k0 k1 k2 k3 k4 k5 k6 kz
    go_wp2_with fail
    with_reducible refine (HFD.out _ hO2.row).mono ?_
    rintro e w2 ⟨rfl, b2⟩
    have hO3 := hO2.below b2
    have hB3 := below_then hB2 (Nat.le_trans hbw hB2.size) b2
    replace hb := hcall hb b2
    clear b2
    obtain ⟨k0, k1, k2, k3, k4, k5, k6, kz⟩ := cellsEn p_ q_ r_ s_ t_ v_ x_ hb
    go_wp2_with (with_reducible refine Own.store rfl 49 (.tmp 20) (.tmp 19) rfl szEn b n c i l ⟨p_, q_, r_, s_, t_, v_, x_⟩ hO3 enEn_len (enEn_one _) hil rfl (enEn ⟨p_, q_, r_, s_, t_, v_, x_⟩) rfl rfl hB3 ?_; intro w6 hO6 hB6 hz6 ho6)
    go_ret
    rw [HF.out]
    exact ⟨_, rfl, hO6, hB6⟩
  | none =>
    have HFD := Lib.hid (show ∀ (W : World), Row enEn 7 W (.slice A n c) l → Calls Try.prog 38 #[.slice A n c, agKr p_ q_] W fun e w' => e = .returned (.tuple #[.int .i64 0, .bool false]) ∧ Below W.heap.size W w' from fun W h => by
      have := findRo_calls n c A l p_ q_ W h
      rwa [hp] at this)
    rw [hp] at hpp
    obtain ⟨j, hj, hjl, hins⟩ : ∃ j : Nat, j ≤ l.length ∧ ((aheadRo l ⟨p_, q_, r_, s_, t_, v_, x_⟩ = some j) ∨ (aheadRo l ⟨p_, q_, r_, s_, t_, v_, x_⟩ = none ∧ j = l.length)) ∧ insRo l ⟨p_, q_, r_, s_, t_, v_, x_⟩ = l.take j ++ ⟨p_, q_, r_, s_, t_, v_, x_⟩ :: l.drop j := by
      unfold insRo
      cases ha : aheadRo l ⟨p_, q_, r_, s_, t_, v_, x_⟩ with
      | some j =>
        unfold aheadRo at ha
        rw [List.findIdx?_eq_some_iff_getElem] at ha
        obtain ⟨h1, _⟩ := ha
        exact ⟨j, by omega, .inl rfl, rfl⟩
      | none => exact ⟨l.length, Nat.le_refl _, .inr ⟨rfl, rfl⟩, by simp⟩
    have HF : Hid (putP l ⟨p_, q_, r_, s_, t_, v_, x_⟩ = l.take j ++ ⟨p_, q_, r_, s_, t_, v_, x_⟩ :: l.drop j) := hpp.trans hins
    clear hpp hp hins
    have hmf : ∀ W : World, (Instr.makeFunc (.func 77) #[] #[.pointer (some ⟨w.heap.size, 0, none⟩)]).run Try.prog W = .ok (.func (.func 77) #[] #[.pointer (some ⟨w.heap.size, 0, none⟩)]) W := fun W => by kernel_rfl
    have HSK := Lib.hid (show ∀ (W : World), Row enEn 7 W (.slice A n c) l → W.heap[w.heap.size]? = some (bxEn p_ q_ r_ s_ t_ v_ x_) → Calls Try.prog 70 #[.slice A n c, .func (.func 77) #[] #[.pointer (some ⟨w.heap.size, 0, none⟩)]] W fun e w' => e = .returned (.tuple #[.int .i64 (maxI (idxI (aheadRo l ⟨p_, q_, r_, s_, t_, v_, x_⟩))), .bool (decide (0 ≤ idxI (aheadRo l ⟨p_, q_, r_, s_, t_, v_, x_⟩)))]) ∧ Below W.heap.size W w' from fun W h h2 => seekP_calls n c A l w.heap.size p_ q_ r_ s_ t_ v_ x_ W h h2)
    go_enter Try.func50, Try.ntmps50
    go_wp2_with fail
    with_reducible refine (ofK_calls p_ q_ r_ s_ t_ v_ x_ _).mono ?_
    rintro e w1 ⟨rfl, b1⟩
    have hO2 := hO1.below b1
    have hB2 := below_then hB1 hs1 b1
    replace hb := hcall hb b1
    clear b1 k0 k1 k2 k3 k4 k5 k6 kz
    go_wp2_with fail
    with_reducible refine (HFD.out _ hO2.row).mono ?_
    rintro e w2 ⟨rfl, b2⟩
    have hO3 := hO2.below b2
    have hB3 := below_then hB2 (Nat.le_trans hbw hB2.size) b2
    replace hb := hcall hb b2
    clear b2
    go_wp2_with fail
    with_reducible refine (HSK.out _ hO3.row hb).mono ?_
    rintro e w3 ⟨rfl, b3⟩
    have hO4 := hO3.below b3
    have hB4 := below_then hB3 (Nat.le_trans hbw hB3.size) b3
    replace hb := hcall hb b3
    clear b3 hO1 hO2 hO3 hB1 hB2 hB3 hO
    obtain ⟨k0, k1, k2, k3, k4, k5, k6, kz⟩ := cellsEn p_ q_ r_ s_ t_ v_ x_ hb
    have hO5 := hO4.alloc (.cells #[.string p_, .string q_, .bool r_, .bool s_, .bool t_, .bool v_, .bool x_] 49)
    have hB5 := hB4.alloc (Nat.le_trans hbw hB4.size) (.cells #[.string p_, .string q_, .bool r_, .bool s_, .bool t_, .bool v_, .bool x_] 49)
    have hg5 : (w3.alloc (.cells #[.string p_, .string q_, .bool r_, .bool s_, .bool t_, .bool v_, .bool x_] 49)).heap[w3.heap.size]? = some (.cells (enEn (⟨p_, q_, r_, s_, t_, v_, x_⟩ : En)).toArray 49 (0, 0)) := heap_alloc_new _ _
    have hne := hO4.lt8 w3.heap.size (Nat.le_refl _)
    have HI := Lib.hid (insertEn_calls base j w3.heap.size (.slice A n c) l ⟨p_, q_, r_, s_, t_, v_, x_⟩ w0 _ hO5 hg5 hne (by omega) hj hB5 (Nat.le_trans hbw hB5.size))
    rcases hjl with ha | ⟨ha, hjn⟩
    · have e1 : maxI (idxI (aheadRo l ⟨p_, q_, r_, s_, t_, v_, x_⟩)) = (j : Int) := by rw [ha]; unfold maxI idxI; simp
      have e2 : decide (0 ≤ idxI (aheadRo l ⟨p_, q_, r_, s_, t_, v_, x_⟩)) = true := by rw [ha]; unfold idxI; simp
      rw [e1, e2]
      clear ha e1 e2 hg5 hO5 hB5 hne
      go_wp2_with fail
      with_reducible refine HI.out.mono ?_
      rintro e w4 ⟨v4, rfl, hO6, hB6⟩
      go_wp2
      go_ret
      rw [HF.out]
      exact ⟨_, rfl, hO6, hB6⟩
    · have e1 : maxI (idxI (aheadRo l ⟨p_, q_, r_, s_, t_, v_, x_⟩)) = 0 := by rw [ha]; rfl
      have e2 : decide (0 ≤ idxI (aheadRo l ⟨p_, q_, r_, s_, t_, v_, x_⟩)) = false := by rw [ha]; rfl
      have hjn2 : j = n := by have := EA.out; omega
      subst hjn2
      rw [e1, e2]
      clear ha e1 e2 hg5 hO5 hB5 hne hjn
      go_wp2_with fail
      with_reducible refine HI.out.mono ?_
      rintro e w4 ⟨v4, rfl, hO6, hB6⟩
      go_wp2
      go_ret
      rw [HF.out]
      exact ⟨_, rfl, hO6, hB6⟩
end Go.Proofs.Ytpmafghknafhaaa
