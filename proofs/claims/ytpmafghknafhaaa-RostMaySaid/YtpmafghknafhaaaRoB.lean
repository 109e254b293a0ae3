/-
Layer 8: the walk of RostMay.
-/
import Derived.Test.YtpmafghknafhaaaRosQ
import Derived.Test.YtpmafghknafhaaaRosV
import Derived.Test.YtpmafghknafhaaaMvSt
import Derived.Test.YtpmafghknafhaaaMvRk
import Derived.Test.YtpmafghknafhaaaMapIt
set_option linter.unusedVariables false
set_option linter.unusedSimpArgs false
namespace Go.Proofs.Ytpmafghknafhaaa
open Go.RowKit Go.WideMaps Go.Maps
open Sp
namespace Held
variable {P : Program} {ops : Array Oper} {Q : Exit → Act → World → Prop} {S : World → Prop}
theorem two {o o1 o2 : List Nat} {n k i j : Nat} {oi oj : Oper} {fuel : Nat} {a : Act} {w : World} (hr : Region.ready .any ops (lst n o k) = [i, j]) (e1 : (lst n o k).setIfInBounds i true = lst n o1 (k + 1)) (e2 : (lst n o k).setIfInBounds j true = lst n o2 (k + 1))
    (hi : ops.toList[i]? = some oi) (hj : ops.toList[j]? = some oj) (hwi : Region.wanted oi (yielded ops a.tmps) = true) (hwj : Region.wanted oj (yielded ops a.tmps) = true)
    (h1 : ∀ K' : Act → World → Prop, Shut (∀ a w, S w → (S w → wpAnyH P .any ops Q S fuel (lst n o1 (k + 1)) a w) → K' a w) → Oper.wp P oi a w K' Q)
    (h2 : ∀ K' : Act → World → Prop, Shut (∀ a w, S w → (S w → wpAnyH P .any ops Q S fuel (lst n o2 (k + 1)) a w) → K' a w) → Oper.wp P oj a w K' Q) : wpAnyH P .any ops Q S (fuel + 1) (lst n o k) a w := by
  refine wpAnyH_ready hr (by simp) (AllReadyH.cons (by simpa using hi) (fun K hK => ?_) (AllReadyH.cons (by simpa using hj) (fun K hK => ?_) AllReadyH.nil))
  · rw [if_pos hwi]
    rw [e1] at hK
    exact h1 K hK
  · rw [if_pos hwj]
    rw [e2] at hK
    exact h2 K hK
theorem three {o o1 o2 o3 : List Nat} {n k i j l : Nat} {oi oj ol : Oper} {fuel : Nat} {a : Act} {w : World} (hr : Region.ready .any ops (lst n o k) = [i, j, l]) (e1 : (lst n o k).setIfInBounds i true = lst n o1 (k + 1)) (e2 : (lst n o k).setIfInBounds j true = lst n o2 (k + 1)) (e3 : (lst n o k).setIfInBounds l true = lst n o3 (k + 1))
    (hi : ops.toList[i]? = some oi) (hj : ops.toList[j]? = some oj) (hl : ops.toList[l]? = some ol) (hwi : Region.wanted oi (yielded ops a.tmps) = true) (hwj : Region.wanted oj (yielded ops a.tmps) = true) (hwl : Region.wanted ol (yielded ops a.tmps) = true)
    (h1 : ∀ K' : Act → World → Prop, Shut (∀ a w, S w → (S w → wpAnyH P .any ops Q S fuel (lst n o1 (k + 1)) a w) → K' a w) → Oper.wp P oi a w K' Q)
    (h2 : ∀ K' : Act → World → Prop, Shut (∀ a w, S w → (S w → wpAnyH P .any ops Q S fuel (lst n o2 (k + 1)) a w) → K' a w) → Oper.wp P oj a w K' Q)
    (h3 : ∀ K' : Act → World → Prop, Shut (∀ a w, S w → (S w → wpAnyH P .any ops Q S fuel (lst n o3 (k + 1)) a w) → K' a w) → Oper.wp P ol a w K' Q) : wpAnyH P .any ops Q S (fuel + 1) (lst n o k) a w := by
  refine wpAnyH_ready hr (by simp) (AllReadyH.cons (by simpa using hi) (fun K hK => ?_) (AllReadyH.cons (by simpa using hj) (fun K hK => ?_) (AllReadyH.cons (by simpa using hl) (fun K hK => ?_) AllReadyH.nil)))
  · rw [if_pos hwi]
    rw [e1] at hK
    exact h1 K hK
  · rw [if_pos hwj]
    rw [e2] at hK
    exact h2 K hK
  · rw [if_pos hwl]
    rw [e3] at hK
    exact h3 K hK
theorem hideW {o : List Nat} {n k : Nat} {fuel : Nat} {a : Act} {W : World} (C : World → Prop) (hc : C W) (hs : S W) (h : ∀ v, C v → S v → wpAnyH P .any ops Q S fuel (lst n o k) a v) : wpAnyH P .any ops Q S fuel (lst n o k) a W := h W hc hs
end Held
theorem hgrow {w w1 : World} {b k : Nat} {o : Obj} (hg : w.grownBy w1 (some b)) (hk : k ≠ b) (h : w.heap[k]? = some o) : w1.heap[k]? = some o :=
  (hg.block k (Array.getElem?_eq_some_iff.1 h).1 (fun e => hk (by injection e))).trans h
theorem ItMap.lt {w : World} {b n : Nat} {f : ByteArray → ByteArray → It} (h : ItMap w b n f) : b < w.heap.size := by
  obtain ⟨D, ⟨es, clock, hb, _⟩, _⟩ := h
  exact (Array.getElem?_eq_some_iff.1 hb).1
abbrev bxK2 (x y : ByteArray) : Obj := .cells #[.string x, .string y] 43
theorem cellsK2 {W : World} {g : Nat} {x y : ByteArray} (h : W.heap[g]? = some (bxK2 x y)) : W.cell? ⟨g, 0, none⟩ = some (.string x) ∧ W.cell? ⟨g, 1, none⟩ = some (.string y) ∧ g < W.heap.size :=
  ⟨by simp [World.cell?, h], by simp [World.cell?, h], (Array.getElem?_eq_some_iff.1 h).1⟩
theorem below_map {w W w1 : World} (D : Below w.heap.size w W) (hg : W.grownBy w1 (some w.heap.size)) : Below w.heap.size w w1 :=
  D.grown hg D.size (fun k hk => by injection hk with hk; omega)
namespace Sp
theorem setRo_memR {l : List En} {x y : En} {keep : Bool} (h : y ∈ setRo l x keep) : y = x ∨ y ∈ l := by
  unfold setRo at h
  have hd : ∀ z, z ∈ delK keyRo l (keyRo x) → z ∈ l := fun z hz => (delK_mem.1 hz).1
  split at h
  · rcases List.mem_append.1 h with h | h
    · exact .inr (hd _ (List.takeWhile_subset _ h))
    · rcases List.mem_cons.1 h with h | h
      · exact .inl h
      · exact .inr (hd _ (List.dropWhile_subset _ h))
  · exact .inr (hd _ h)
theorem setRo_lenR (l : List En) (x : En) (keep : Bool) : (setRo l x keep).length ≤ l.length + 1 := by
  have h1 : (delK keyRo l (keyRo x)).length ≤ l.length := List.length_filter_le _ _
  unfold setRo
  split
  · have h2 := congrArg List.length (tw_dw (delK keyRo l (keyRo x)) (fun y => !ltRo (keyRo x) (keyRo y)))
    rw [List.length_append] at h2
    rw [List.length_append, List.length_cons]
    omega
  · omega
theorem doRo_szR {l : List En} {k : Int} {u o : ByteArray} {r : List En} {e : Int} (h : doRo l k u o = (r, e)) : r.length ≤ l.length + 2 ∧ ∀ x ∈ r, (x ∈ l ∨ (x.o = u ∧ x.c = o) ∨ (x.o = o ∧ x.c = u)) := by
  by_cases he : e = 0
  · subst he
    obtain ⟨_, a, b, _, rfl⟩ := doRo_ok h
    have h1 := setRo_lenR l ⟨u, o, a⟩ (!(emptyI a && emptyI b))
    have h2 := setRo_lenR (setRo l ⟨u, o, a⟩ (!(emptyI a && emptyI b))) ⟨o, u, b⟩ (!(emptyI a && emptyI b))
    refine ⟨by omega, fun x hx => ?_⟩
    rcases setRo_memR hx with rfl | hx
    · exact .inr (.inr ⟨rfl, rfl⟩)
    · rcases setRo_memR hx with rfl | hx
      · exact .inr (.inl ⟨rfl, rfl⟩)
      · exact .inl hx
  · rw [doRo_err h he]
    exact ⟨by omega, fun x hx => .inl hx⟩
end Sp
theorem Sp.mayRo_nil : mayRo [] = true := by decide
theorem Sp.upd_two {l r : List En} {k : Int} {u o : ByteArray} (hm : mayRo l = true) (h : doRo l k u o = (r, 0)) : updI (updI (getRo l) u o (getRo r u o)) o u (getRo r o u) = getRo r := by
  funext p q
  unfold updI
  by_cases h1 : p = o ∧ q = u
  · rw [if_pos h1, h1.1, h1.2]
  · rw [if_neg h1]
    by_cases h2 : p = u ∧ q = o
    · rw [if_pos h2, h2.1, h2.2]
    · rw [if_neg h2]
      exact (others_get hm h h2 (fun e => h1 ⟨e.2, e.1⟩)).symm
noncomputable def opsrm : Array Oper := Held.inBody 17 Try.f5.body
set_option maxRecDepth 100000 in
theorem sizrm : opsrm.size = 26 := by kernel_rfl
set_option maxRecDepth 100000 in
theorem nosrm : Region.noSelect opsrm = true := by kernel_rfl
def ordrm0 : List Nat := [0, 1, 2, 3, 4, 5, 6, 7, 8, 9, 10, 11, 12, 13, 14, 15, 16, 17, 18, 19, 20, 21, 22, 23, 24, 25]
set_option maxRecDepth 100000 in
theorem okrm_0 : Held.okAt opsrm ordrm0 0 = true := by kernel_rfl
set_option maxRecDepth 100000 in
theorem okrm_1 : Held.okAt opsrm ordrm0 1 = true := by kernel_rfl
set_option maxRecDepth 100000 in
theorem okrm_2 : Held.okAt opsrm ordrm0 2 = true := by kernel_rfl
set_option maxRecDepth 100000 in
theorem okrm_3 : Held.okAt opsrm ordrm0 3 = true := by kernel_rfl
set_option maxRecDepth 100000 in
theorem okrm_4 : Held.okAt opsrm ordrm0 4 = true := by kernel_rfl
set_option maxRecDepth 100000 in
theorem okrm_5 : Held.okAt opsrm ordrm0 5 = true := by kernel_rfl
set_option maxRecDepth 100000 in
theorem okrm_6 : Held.okAt opsrm ordrm0 6 = true := by kernel_rfl
set_option maxRecDepth 100000 in
theorem okrm_7 : Held.okAt opsrm ordrm0 7 = true := by kernel_rfl
set_option maxRecDepth 100000 in
theorem okrm_8 : Held.okAt opsrm ordrm0 8 = true := by kernel_rfl
set_option maxRecDepth 100000 in
theorem okrm_9 : Held.okAt opsrm ordrm0 9 = true := by kernel_rfl
set_option maxRecDepth 100000 in
theorem okrm_10 : Held.okAt opsrm ordrm0 10 = true := by kernel_rfl
set_option maxRecDepth 100000 in
theorem okrm_11 : Held.okAt opsrm ordrm0 11 = true := by kernel_rfl
set_option maxRecDepth 100000 in
theorem okrm_12 : Held.okAt opsrm ordrm0 12 = true := by kernel_rfl
set_option maxRecDepth 100000 in
theorem okrm_13 : Held.okAt opsrm ordrm0 13 = true := by kernel_rfl
set_option maxRecDepth 100000 in
theorem okrm_14 : Held.okAt opsrm ordrm0 14 = true := by kernel_rfl
set_option maxRecDepth 100000 in
theorem okrm_15 : Held.okAt opsrm ordrm0 15 = true := by kernel_rfl
def ordrm1 : List Nat := [0, 1, 2, 3, 4, 5, 6, 7, 8, 9, 10, 11, 12, 13, 14, 15, 21, 16, 17, 18, 19, 20, 22, 23, 24, 25]
def ordrm2 : List Nat := [0, 1, 2, 3, 4, 5, 6, 7, 8, 9, 10, 11, 12, 13, 14, 15, 22, 16, 17, 18, 19, 20, 21, 23, 24, 25]
set_option maxRecDepth 100000 in
theorem okrm_16 : Held.okAt opsrm ordrm0 17 = true := by kernel_rfl
set_option maxRecDepth 100000 in
theorem okrm_17 : Held.okAt opsrm ordrm0 18 = true := by kernel_rfl
set_option maxRecDepth 100000 in
theorem okrm_18 : Held.okAt opsrm ordrm0 19 = true := by kernel_rfl
set_option maxRecDepth 100000 in
theorem okrm_19 : Held.okAt opsrm ordrm0 20 = true := by kernel_rfl
def ordrm3 : List Nat := [0, 1, 2, 3, 4, 5, 6, 7, 8, 9, 10, 11, 12, 13, 14, 15, 16, 17, 18, 19, 20, 22, 21, 23, 24, 25]
set_option maxRecDepth 100000 in
theorem okrm_20 : Held.okAt opsrm ordrm0 25 = true := by kernel_rfl
def ordrm4 : List Nat := [0, 1, 2, 3, 4, 5, 6, 7, 8, 9, 10, 11, 12, 13, 14, 15, 21, 22, 16, 17, 18, 19, 20, 23, 24, 25]
set_option maxRecDepth 100000 in
theorem okrm_21 : Held.okAt opsrm ordrm1 18 = true := by kernel_rfl
set_option maxRecDepth 100000 in
theorem okrm_22 : Held.okAt opsrm ordrm1 19 = true := by kernel_rfl
set_option maxRecDepth 100000 in
theorem okrm_23 : Held.okAt opsrm ordrm1 20 = true := by kernel_rfl
set_option maxRecDepth 100000 in
theorem okrm_24 : Held.okAt opsrm ordrm1 21 = true := by kernel_rfl
set_option maxRecDepth 100000 in
theorem okrm_25 : Held.okAt opsrm ordrm4 19 = true := by kernel_rfl
set_option maxRecDepth 100000 in
theorem okrm_26 : Held.okAt opsrm ordrm4 20 = true := by kernel_rfl
set_option maxRecDepth 100000 in
theorem okrm_27 : Held.okAt opsrm ordrm4 21 = true := by kernel_rfl
set_option maxRecDepth 100000 in
theorem okrm_28 : Held.okAt opsrm ordrm4 22 = true := by kernel_rfl
def ordrm5 : List Nat := [0, 1, 2, 3, 4, 5, 6, 7, 8, 9, 10, 11, 12, 13, 14, 15, 22, 21, 16, 17, 18, 19, 20, 23, 24, 25]
set_option maxRecDepth 100000 in
theorem okrm_29 : Held.okAt opsrm ordrm2 18 = true := by kernel_rfl
set_option maxRecDepth 100000 in
theorem okrm_30 : Held.okAt opsrm ordrm2 19 = true := by kernel_rfl
set_option maxRecDepth 100000 in
theorem okrm_31 : Held.okAt opsrm ordrm2 20 = true := by kernel_rfl
set_option maxRecDepth 100000 in
theorem okrm_32 : Held.okAt opsrm ordrm2 21 = true := by kernel_rfl
noncomputable def opsrp : Array Oper := Held.inBody 28 Try.f5.body
def ordrp : List Nat := [0, 1, 2, 3, 4, 5, 6, 7, 8, 9, 10, 11, 12]
set_option maxRecDepth 100000 in
theorem rgrp : Held.Reg opsrp ordrp 13 [0, 1, 2, 3, 4, 5, 6, 7, 8, 9, 10] := ⟨by kernel_rfl, by kernel_rfl, by kernel_rfl⟩
noncomputable def opsrq : Array Oper := Held.inBody 29 Try.f5.body
def ordrq : List Nat := [0, 1, 2, 3, 4, 6, 7, 8, 5, 9]
set_option maxRecDepth 100000 in
theorem rgrq : Held.Reg opsrq ordrq 10 [0, 1, 2, 3, 4, 5, 6, 7, 9] := ⟨by kernel_rfl, by kernel_rfl, by kernel_rfl⟩
noncomputable def opsrna : Array Oper := Held.inBody 22 Try.f5.body
def ordrna : List Nat := [0, 1, 2, 3, 4, 6, 5, 7, 8, 9, 10, 11, 12, 13, 15, 14, 16, 17, 18, 19, 20, 21, 22, 23, 25, 26, 24, 27, 28, 29]
set_option maxRecDepth 100000 in
theorem rgrna : Held.Reg opsrna ordrna 30 [0, 1, 2, 3, 4, 5, 7, 8, 9, 10, 11, 12, 13, 14, 16, 17, 18, 19, 20, 21, 22, 23, 24, 25, 28, 29] := ⟨by kernel_rfl, by kernel_rfl, by kernel_rfl⟩
noncomputable def opsrnb : Array Oper := Held.inBody 22 Try.f5.body
def ordrnb : List Nat := [0, 1, 2, 3, 4, 6, 5, 7, 8, 9, 10, 11, 12, 13, 15, 14, 16, 17, 18, 19, 20, 21, 22, 23, 25, 26, 24, 27, 28, 29]
set_option maxRecDepth 100000 in
theorem rgrnb : Held.Reg opsrnb ordrnb 30 [0, 1, 2, 3, 4, 5, 7, 8, 9, 10, 11, 12, 13, 14, 16, 17, 18, 19, 20, 21, 22, 23, 24, 25, 28, 29] := ⟨by kernel_rfl, by kernel_rfl, by kernel_rfl⟩
noncomputable def opsrnc : Array Oper := Held.inBody 22 Try.f5.body
def ordrnc : List Nat := [0, 1, 2, 3, 4, 6, 5, 7, 8, 9, 10, 11, 12, 13, 15, 14, 16, 17, 18, 19, 20, 21, 22, 23, 25, 26, 24, 27, 28, 29]
set_option maxRecDepth 100000 in
theorem rgrnc : Held.Reg opsrnc ordrnc 30 [0, 1, 2, 3, 4, 5, 7, 8, 9, 10, 11, 12, 13, 14, 16, 17, 18, 19, 20, 21, 22, 23, 24, 25, 28, 29] := ⟨by kernel_rfl, by kernel_rfl, by kernel_rfl⟩
noncomputable def opsrnd : Array Oper := Held.inBody 22 Try.f5.body
def ordrnd : List Nat := [0, 1, 2, 3, 4, 6, 5, 7, 8, 9, 10, 11, 12, 13, 15, 14, 16, 17, 18, 19, 20, 21, 22, 23, 25, 26, 24, 27, 28, 29]
set_option maxRecDepth 100000 in
theorem rgrnd : Held.Reg opsrnd ordrnd 30 [0, 1, 2, 3, 4, 5, 7, 8, 9, 10, 11, 12, 13, 14, 16, 17, 18, 19, 20, 21, 22, 23, 24, 25, 28, 29] := ⟨by kernel_rfl, by kernel_rfl, by kernel_rfl⟩
noncomputable def opsrne : Array Oper := Held.inBody 22 Try.f5.body
def ordrne : List Nat := [0, 1, 2, 3, 4, 6, 5, 7, 8, 9, 10, 11, 12, 13, 15, 14, 16, 17, 18, 19, 20, 21, 22, 23, 25, 26, 24, 27, 28, 29]
set_option maxRecDepth 100000 in
theorem rgrne : Held.Reg opsrne ordrne 30 [0, 1, 2, 3, 4, 5, 7, 8, 9, 10, 11, 12, 13, 14, 16, 17, 18, 19, 20, 21, 22, 23, 24, 25, 28, 29] := ⟨by kernel_rfl, by kernel_rfl, by kernel_rfl⟩
noncomputable def opsrnf : Array Oper := Held.inBody 22 Try.f5.body
def ordrnf : List Nat := [0, 1, 2, 3, 4, 6, 5, 7, 8, 9, 10, 11, 12, 13, 15, 14, 16, 17, 18, 19, 20, 21, 22, 23, 25, 26, 24, 27, 28, 29]
set_option maxRecDepth 100000 in
theorem rgrnf : Held.Reg opsrnf ordrnf 30 [0, 1, 2, 3, 4, 5, 7, 8, 9, 10, 11, 12, 13, 14, 16, 17, 18, 19, 20, 21, 22, 23, 24, 25, 28, 29] := ⟨by kernel_rfl, by kernel_rfl, by kernel_rfl⟩
set_option maxHeartbeats 64000000 in
set_option maxRecDepth 100000 in
theorem may8_walk (n c : Nat) (A : Option Addr) (l : List Mv) (w : World) (hl : Row enMv 3 w (.slice A n c) l) (hz : ∀ e ∈ l, OkMv e) :
    Calls Try.prog 5 #[.slice A n c] w fun e w' => e = .returned (.bool true) ∧ Below w.heap.size w w' := by
  have EA := Lib.hid hl.len_eq
  have HZ := Lib.hid hz
  clear hz
  have D0 := Below.refl w.heap.size w
  by_cases h40 : (40 : Int) < (n : Int)
  · go_enter Try.func5, Try.ntmps5
    go_wp2_with fail
    with_reducible refine (live08 _).mono ?_
    rintro e w1 ⟨rfl, b1⟩
    go_wp2
    go_ret
    exact ⟨rfl, b1⟩
  have h40' : (n : Int) ≤ 40 := by omega
  have hn40 : n ≤ 40 := by omega
  clear h40
  have hmm := @run_makeMap Try.prog
  go_enter Try.func5, Try.ntmps5
  go_wp2
  go_loopw [3, 5] (fun vl vi wr => ∃ (i : Nat) (ys : List En) (A' : Option Addr) (n' c' cnt : Nat), vl = .slice A' n' c' ∧ vi = .int .i64 i ∧ i ≤ n ∧ Hid (mayRo ys = true) ∧ SzRo ys ∧ ys.length ≤ 2 * i ∧ Row enEn 7 wr (.slice A' n' c') ys ∧ ItMap wr w.heap.size cnt (getRo ys) ∧ cnt ≤ 2 * i ∧ Below w.heap.size w wr) (fun _ vi _ => (n - intOf vi).toNat)
  case atStart => exact ⟨0, [], none, 0, 0, 0, rfl, rfl, Nat.zero_le _, mayRo_nil, (fun s hs => by cases hs), Nat.le_refl _, Row.nil _ _ _, (show ItMap _ _ _ (getRo []) from ItMap.new _), Nat.le_refl _, below_alloc (Below.refl _ _) _⟩
  case round =>
    clear hmm
    obtain ⟨i, ys, A', n', c', cnt, rfl, rfl, hi, HM, hzr, hyl, hr, IM, hcnt, D⟩ := hrel
    by_cases hlt : i < n
    · have hil : i < l.length := by have := EA.out; omega
      obtain ⟨⟨k, u, o⟩, he⟩ : ∃ e, l[i] = e := ⟨_, rfl⟩
      obtain ⟨ad, rfl, c0, c1, c2⟩ := rowMv (hl.below D) i hil k u o he
      have hok := HZ.out _ (List.getElem_mem hil)
      rw [he] at hok
      simp only [OkMv, maxLen] at hok
      have x1 : (0 : Int) ≤ (i : Int) := by omega
      have x2 : (i : Int) < (n : Int) := by omega
      have hn9 : n' ≤ 900 := by have := hr.len_eq; omega
      have HBW : Hid (w.heap.size < wr.heap.size) := IM.lt
      have MM := heap_alloc_new wr (bxMv k u o)
      replace hr := hr.below (below_box (bxMv k u o))
      replace IM := IM.below (below_box (bxMv k u o))
      replace D := below_alloc0 D (bxMv k u o)
      obtain ⟨e0, e1, e2, ez⟩ := cellsMv k u o MM
      clear he
      by_cases hus : (40 : Int) < (u.size : Int)
      · go_wp2_with fail
        with_reducible refine (live08 _).mono ?_
        rintro e w1 ⟨rfl, b1⟩
        go_wp2
        go_ret
        exact ⟨rfl, below_call D b1⟩
      by_cases hos : (40 : Int) < (o.size : Int)
      · have hus' : (u.size : Int) ≤ 40 := by omega
        go_wp2_with fail
        with_reducible refine (live08 _).mono ?_
        rintro e w1 ⟨rfl, b1⟩
        go_wp2
        go_ret
        exact ⟨rfl, below_call D b1⟩
      have hus' : (u.size : Int) ≤ 40 := by omega
      have hos' : (o.size : Int) ≤ 40 := by omega
      have hu : u.size ≤ 140737488351232 := by omega
      have ho : o.size ≤ 140737488351232 := by omega
      have hum : u.size ≤ maxLen := by unfold maxLen; omega
      have hom : o.size ≤ maxLen := by unfold maxLen; omega
      clear hus hos
      obtain ⟨r, er, hdo⟩ : ∃ r e, doRo ys k u o = (r, e) := ⟨_, _, rfl⟩
      have HDO := Lib.hid hdo
      by_cases her : er = 0
      case neg =>
        have he2 : (er == 0) = false := by simpa using her
        obtain rfl : r = ys := doRo_err hdo her
        clear her hdo
        go_wp2_with fail
        with_reducible refine (Do8_is n' c' A' r _ hr k u o r er hzr hn9 hu ho HDO).mono ?_
        rintro e w4 ⟨v4, rfl, r1, b4⟩
        obtain ⟨A1, c1', rfl⟩ := Row.form8 r1 _ rfl
        replace hr := hr.below b4
        replace IM := IM.below b4
        replace D := below_call D b4
        clear b4 c0 c1 c2 e0 e1 e2 ez
        go_wp2_with fail
        with_reducible refine (re_ (refSame8_calls _ _ _ _ _ _ r r _ r1 hr) (ret_bool (decide_eq_true rfl))).mono ?_
        rintro e w5 ⟨rfl, b5⟩
        replace hr := hr.below b5
        replace IM := IM.below b5
        replace D := below_call D b5
        clear b5 r1
        go_wp2
        exact ⟨⟨i + 1, r, A', n', c', cnt, rfl, by go_num, by omega, HM, hzr, by omega, hr, IM, by omega, D⟩, by simp [intOf]; omega⟩
      subst her
      obtain ⟨hokd, _⟩ := doRo_ok hdo
      obtain ⟨_, _, _, huo, hk1, hk6⟩ := okDo_all hokd
      have htwo := doRo_two hdo
      have hrm := doRo_may hdo
      have hup := upd_two HM.out hdo
      have hds := doRo_szR hdo
      obtain ⟨⟨c1_, c2_, c3_, c4_, c5_⟩, hg1⟩ : ∃ x, getRo ys u o = x := ⟨_, rfl⟩
      obtain ⟨⟨d1_, d2_, d3_, d4_, d5_⟩, hg2⟩ : ∃ x, getRo ys o u = x := ⟨_, rfl⟩
      obtain ⟨⟨m1, m2, m3, m4, m5⟩, hg3⟩ : ∃ x, getRo r u o = x := ⟨_, rfl⟩
      obtain ⟨⟨o1, o2, o3, o4, o5⟩, hg4⟩ : ∃ x, getRo r o u = x := ⟨_, rfl⟩
      rw [hg1, hg2, hg3, hg4] at htwo
      rw [hg3, hg4] at hup
      have HACT := Lib.hid (show ∀ W : World, Calls Try.prog 26 #[agI c1_ c2_ c3_ c4_ c5_, agI d1_ d2_ d3_ d4_ d5_, .int .i64 k] W fun e w' => e = .returned (.tuple #[agI m1 m2 m3 m4 m5, agI o1 o2 o3 o4 o5, .int .i64 0]) ∧ Below W.heap.size W w' from fun W => by
        have := ActI_calls c1_ c2_ c3_ c4_ c5_ d1_ d2_ d3_ d4_ d5_ k hk1 hk6 W
        rwa [htwo] at this)
      have hss : seesRo r u o = seesI ⟨m1, m2, m3, m4, m5⟩ ⟨o1, o2, o3, o4, o5⟩ := by unfold seesRo; rw [hg3, hg4]
      obtain ⟨sb, hsb⟩ : ∃ b, seesRo r u o = b := ⟨_, rfl⟩
      have HSB := Lib.hid hsb
      have HSI := Lib.hid (hss.symm.trans hsb)
      have g1 : (u.toList == o.toList) = false := by simpa [toList_inj'] using huo
      have HRM := Lib.hid hrm
      have HUP := Lib.hid hup
      have HG1 := Lib.hid hg1
      have HG2 := Lib.hid hg2
      have HG3 := Lib.hid hg3
      have HG4 := Lib.hid hg4
      have hrl : r.length ≤ 2 * (i + 1) := by have := hds.1; omega
      have hzr2 : SzRo r := fun s hs => by
        rcases hds.2 s hs with h5 | ⟨h5, h6⟩ | ⟨h5, h6⟩
        · exact hzr s h5
        · rw [h5, h6]; exact ⟨hu, ho⟩
        · rw [h5, h6]; exact ⟨ho, hu⟩
      obtain ⟨nr, hnr⟩ : ∃ j, r.length = j := ⟨_, rfl⟩
      have HNR := Lib.hid hnr
      have hnr1 : nr ≤ 100000 := by omega
      have hci1 := neqIt m1 m2 m3 m4 m5 m1 m2 m3 m4 m5
      rw [eqvIt, decide_eq_true rfl, Bool.not_true] at hci1
      have hci2 := neqIt o1 o2 o3 o4 o5 o1 o2 o3 o4 o5
      rw [eqvIt, decide_eq_true rfl, Bool.not_true] at hci2
      have hcb : (sb != sb) = false := by simp
      clear hdo hokd htwo hrm hup hds hg1 hg2 hg3 hg4 hss hsb huo hnr
      go_wp2_with fail
      with_reducible refine (Do8_is n' c' A' ys _ hr k u o r 0 hzr hn9 hu ho HDO).mono ?_
      rintro e w4 ⟨v4, rfl, r1, b4⟩
      obtain ⟨A1, c1', rfl⟩ := Row.form8 r1 nr HNR.out
      replace IM := IM.below b4
      replace MM := hcall MM b4
      replace D := below_call D b4
      have hw4 : wr.heap.size < w4.heap.size := (Array.getElem?_eq_some_iff.1 MM).1
      have hb4 : w.heap.size < wr.heap.size := HBW.out
      clear b4 c0 c1 c2 e0 e1 e2 ez hr
      obtain ⟨e0, e1, e2, ez⟩ := cellsMv k u o MM
      have D4 : Below w4.heap.size w4 w4.drew := (Below.refl _ _).drew
      have M9 := hcall MM D4
      obtain ⟨q0, q1, q2, qz⟩ := cellsMv k u o M9
      have I9 := IM.below D4
      go_wp2_with fail
      refine Held.start (ops := opsrm) (S := fun w' => w'.cell? ⟨wr.heap.size, 0, none⟩ = some (.int .i64 k) ∧ w'.cell? ⟨wr.heap.size, 1, none⟩ = some (.string u) ∧ w'.cell? ⟨wr.heap.size, 2, none⟩ = some (.string o) ∧ ItMap w' w.heap.size cnt (getRo ys)) ordrm0 26 (by kernel_rfl) sizrm (by kernel_rfl) ⟨q0, q1, q2, I9⟩ (fun hHeld => ?_)
      refine Held.take (k := 0) (i := 0) (v := ?vrm1) nosrm okrm_0 sizrm (by kernel_rfl) rfl (fun _ _ _ h => h) (Or.inl ⟨by kernel_rfl, ?hyrm1⟩) (by assumption) ?restrm1
      case hyrm1 => (intro w hSw; (try dsimp only at hSw); go_simp; (try (first | with_reducible rfl | rw [if_neg (by omega)])))
      try simp only [Act.put, List.getElem_toArray, List.getElem_cons_succ, List.getElem_cons_zero, List.setIfInBounds_toArray, List.set_cons_zero, List.set_cons_succ]
      refine Held.take (k := 1) (i := 1) (v := ?vrm2) nosrm okrm_1 sizrm (by kernel_rfl) rfl (fun _ _ _ h => h) (Or.inl ⟨by kernel_rfl, ?hyrm2⟩) (by assumption) ?restrm2
      case hyrm2 => (intro w hSw; (try dsimp only at hSw); go_simp; (try (first | with_reducible rfl | rw [if_neg (by omega)])))
      try simp only [Act.put, List.getElem_toArray, List.getElem_cons_succ, List.getElem_cons_zero, List.setIfInBounds_toArray, List.set_cons_zero, List.set_cons_succ]
      refine Held.take (k := 2) (i := 2) (v := ?vrm3) nosrm okrm_2 sizrm (by kernel_rfl) rfl (fun _ _ _ h => h) (Or.inl ⟨by kernel_rfl, ?hyrm3⟩) (by assumption) ?restrm3
      case hyrm3 => (intro w hSw; (try dsimp only at hSw); go_simp; (try (first | with_reducible rfl | rw [if_neg (by omega)])))
      try simp only [Act.put, List.getElem_toArray, List.getElem_cons_succ, List.getElem_cons_zero, List.setIfInBounds_toArray, List.set_cons_zero, List.set_cons_succ]
      refine Held.take (k := 3) (i := 3) (v := ?vrm4) nosrm okrm_3 sizrm (by kernel_rfl) rfl (fun _ _ _ h => h) (Or.inl ⟨by kernel_rfl, ?hyrm4⟩) (by assumption) ?restrm4
      case hyrm4 => (intro w hSw; (try dsimp only at hSw); go_simp; (try (first | with_reducible rfl | rw [if_neg (by omega)])))
      try simp only [Act.put, List.getElem_toArray, List.getElem_cons_succ, List.getElem_cons_zero, List.setIfInBounds_toArray, List.set_cons_zero, List.set_cons_succ]
      refine Held.take (k := 4) (i := 4) (v := ?vrm5) nosrm okrm_4 sizrm (by kernel_rfl) rfl (fun _ _ _ h => h) (Or.inl ⟨by kernel_rfl, ?hyrm5⟩) (by assumption) ?restrm5
      case hyrm5 => (intro w hSw; (try dsimp only at hSw); go_simp; (try (first | with_reducible rfl | rw [if_neg (by omega)])))
      try simp only [Act.put, List.getElem_toArray, List.getElem_cons_succ, List.getElem_cons_zero, List.setIfInBounds_toArray, List.set_cons_zero, List.set_cons_succ]
      refine Held.take (k := 5) (i := 5) (v := ?vrm6) nosrm okrm_5 sizrm (by kernel_rfl) rfl (fun _ _ _ h => h) (Or.inl ⟨by kernel_rfl, ?hyrm6⟩) (by assumption) ?restrm6
      case hyrm6 => (intro w hSw; (try dsimp only at hSw); go_simp; (try (first | with_reducible rfl | rw [if_neg (by omega)])))
      try simp only [Act.put, List.getElem_toArray, List.getElem_cons_succ, List.getElem_cons_zero, List.setIfInBounds_toArray, List.set_cons_zero, List.set_cons_succ]
      refine Held.take (k := 6) (i := 6) (v := ?vrm7) nosrm okrm_6 sizrm (by kernel_rfl) rfl (fun _ _ _ h => h) (Or.inl ⟨by kernel_rfl, ?hyrm7⟩) (by assumption) ?restrm7
      case hyrm7 => (intro w hSw; (try dsimp only at hSw); have hl1 := hSw.2.2.2.look u o hum hom; rw [HG1.out] at hl1; have hl2 := hSw.2.2.2.look o u hom hum; rw [HG2.out] at hl2; go_simp; (try (first | with_reducible rfl | rw [if_neg (by omega)])))
      try simp only [Act.put, List.getElem_toArray, List.getElem_cons_succ, List.getElem_cons_zero, List.setIfInBounds_toArray, List.set_cons_zero, List.set_cons_succ]
      refine Held.take (k := 7) (i := 7) (v := ?vrm8) nosrm okrm_7 sizrm (by kernel_rfl) rfl (fun _ _ _ h => h) (Or.inl ⟨by kernel_rfl, ?hyrm8⟩) (by assumption) ?restrm8
      case hyrm8 => (intro w hSw; (try dsimp only at hSw); go_simp; (try (first | with_reducible rfl | rw [if_neg (by omega)])))
      try simp only [Act.put, List.getElem_toArray, List.getElem_cons_succ, List.getElem_cons_zero, List.setIfInBounds_toArray, List.set_cons_zero, List.set_cons_succ]
      refine Held.take (k := 8) (i := 8) (v := ?vrm9) nosrm okrm_8 sizrm (by kernel_rfl) rfl (fun _ _ _ h => h) (Or.inl ⟨by kernel_rfl, ?hyrm9⟩) (by assumption) ?restrm9
      case hyrm9 => (intro w hSw; (try dsimp only at hSw); go_simp; (try (first | with_reducible rfl | rw [if_neg (by omega)])))
      try simp only [Act.put, List.getElem_toArray, List.getElem_cons_succ, List.getElem_cons_zero, List.setIfInBounds_toArray, List.set_cons_zero, List.set_cons_succ]
      refine Held.take (k := 9) (i := 9) (v := ?vrm10) nosrm okrm_9 sizrm (by kernel_rfl) rfl (fun _ _ _ h => h) (Or.inl ⟨by kernel_rfl, ?hyrm10⟩) (by assumption) ?restrm10
      case hyrm10 => (intro w hSw; (try dsimp only at hSw); go_simp; (try (first | with_reducible rfl | rw [if_neg (by omega)])))
      try simp only [Act.put, List.getElem_toArray, List.getElem_cons_succ, List.getElem_cons_zero, List.setIfInBounds_toArray, List.set_cons_zero, List.set_cons_succ]
      refine Held.take (k := 10) (i := 10) (v := ?vrm11) nosrm okrm_10 sizrm (by kernel_rfl) rfl (fun _ _ _ h => h) (Or.inl ⟨by kernel_rfl, ?hyrm11⟩) (by assumption) ?restrm11
      case hyrm11 => (intro w hSw; (try dsimp only at hSw); go_simp; (try (first | with_reducible rfl | rw [if_neg (by omega)])))
      try simp only [Act.put, List.getElem_toArray, List.getElem_cons_succ, List.getElem_cons_zero, List.setIfInBounds_toArray, List.set_cons_zero, List.set_cons_succ]
      refine Held.take (k := 11) (i := 11) (v := ?vrm12) nosrm okrm_11 sizrm (by kernel_rfl) rfl (fun _ _ _ h => h) (Or.inl ⟨by kernel_rfl, ?hyrm12⟩) (by assumption) ?restrm12
      case hyrm12 => (intro w hSw; (try dsimp only at hSw); go_simp; (try (first | with_reducible rfl | rw [if_neg (by omega)])))
      try simp only [Act.put, List.getElem_toArray, List.getElem_cons_succ, List.getElem_cons_zero, List.setIfInBounds_toArray, List.set_cons_zero, List.set_cons_succ]
      refine Held.take (k := 12) (i := 12) (v := ?vrm13) nosrm okrm_12 sizrm (by kernel_rfl) rfl (fun _ _ _ h => h) (Or.inl ⟨by kernel_rfl, ?hyrm13⟩) (by assumption) ?restrm13
      case hyrm13 => (intro w hSw; (try dsimp only at hSw); go_simp; (try (first | with_reducible rfl | rw [if_neg (by omega)])))
      try simp only [Act.put, List.getElem_toArray, List.getElem_cons_succ, List.getElem_cons_zero, List.setIfInBounds_toArray, List.set_cons_zero, List.set_cons_succ]
      refine Held.take (k := 13) (i := 13) (v := ?vrm14) nosrm okrm_13 sizrm (by kernel_rfl) rfl (fun _ _ _ h => h) (Or.inl ⟨by kernel_rfl, ?hyrm14⟩) (by assumption) ?restrm14
      case hyrm14 => (intro w hSw; (try dsimp only at hSw); have hl1 := hSw.2.2.2.look u o hum hom; rw [HG1.out] at hl1; have hl2 := hSw.2.2.2.look o u hom hum; rw [HG2.out] at hl2; go_simp; (try (first | with_reducible rfl | rw [if_neg (by omega)])))
      try simp only [Act.put, List.getElem_toArray, List.getElem_cons_succ, List.getElem_cons_zero, List.setIfInBounds_toArray, List.set_cons_zero, List.set_cons_succ]
      refine Held.take (k := 14) (i := 14) (v := ?vrm15) nosrm okrm_14 sizrm (by kernel_rfl) rfl (fun _ _ _ h => h) (Or.inl ⟨by kernel_rfl, ?hyrm15⟩) (by assumption) ?restrm15
      case hyrm15 => (intro w hSw; (try dsimp only at hSw); go_simp; (try (first | with_reducible rfl | rw [if_neg (by omega)])))
      try simp only [Act.put, List.getElem_toArray, List.getElem_cons_succ, List.getElem_cons_zero, List.setIfInBounds_toArray, List.set_cons_zero, List.set_cons_succ]
      refine Held.take (k := 15) (i := 15) (v := ?vrm16) nosrm okrm_15 sizrm (by kernel_rfl) rfl (fun _ _ _ h => h) (Or.inl ⟨by kernel_rfl, ?hyrm16⟩) (by assumption) ?restrm16
      case hyrm16 => (intro w hSw; (try dsimp only at hSw); go_simp; (try (first | with_reducible rfl | rw [if_neg (by omega)])))
      try simp only [Act.put, List.getElem_toArray, List.getElem_cons_succ, List.getElem_cons_zero, List.setIfInBounds_toArray, List.set_cons_zero, List.set_cons_succ]
      refine Held.three (o := ordrm0) (o1 := ordrm0) (o2 := ordrm1) (o3 := ordrm2) (k := 16) (i := 16) (j := 21) (l := 22) (by kernel_rfl) (by kernel_rfl) (by kernel_rfl) (by kernel_rfl) rfl rfl rfl (by kernel_rfl) (by kernel_rfl) (by kernel_rfl) (fun K hK => ?_) (fun K hK => ?_) (fun K hK => ?_)
      · go_simp
        go_at_call 26
        with_reducible refine (HACT.out _).mono ?_
        rintro e w5 ⟨rfl, b5⟩
        clear q0 q1 q2 qz M9 I9
        replace D4 := below_call D4 b5
        clear b5
        have M9 := hcall MM D4
        obtain ⟨q0, q1, q2, qz⟩ := cellsMv k u o M9
        have I9 := IM.below D4
        refine hK.out _ _ (by (try dsimp only); (exact ⟨q0, q1, q2, I9⟩)) (fun hHeld => ?_)
        clear hK K
        try simp only [Act.put, List.getElem_toArray, List.getElem_cons_succ, List.getElem_cons_zero, List.setIfInBounds_toArray, List.set_cons_zero, List.set_cons_succ]
        refine Held.take (k := 17) (i := 17) (v := ?vrm17) nosrm okrm_16 sizrm (by kernel_rfl) rfl (fun _ _ _ h => h) (Or.inl ⟨by kernel_rfl, ?hyrm17⟩) (by assumption) ?restrm17
        case hyrm17 => (intro w hSw; (try dsimp only at hSw); go_simp; (try (first | with_reducible rfl | rw [if_neg (by omega)])))
        try simp only [Act.put, List.getElem_toArray, List.getElem_cons_succ, List.getElem_cons_zero, List.setIfInBounds_toArray, List.set_cons_zero, List.set_cons_succ]
        refine Held.take (k := 18) (i := 18) (v := ?vrm18) nosrm okrm_17 sizrm (by kernel_rfl) rfl (fun _ _ _ h => h) (Or.inl ⟨by kernel_rfl, ?hyrm18⟩) (by assumption) ?restrm18
        case hyrm18 => (intro w hSw; (try dsimp only at hSw); go_simp; (try (first | with_reducible rfl | rw [if_neg (by omega)])))
        try simp only [Act.put, List.getElem_toArray, List.getElem_cons_succ, List.getElem_cons_zero, List.setIfInBounds_toArray, List.set_cons_zero, List.set_cons_succ]
        refine Held.take (k := 19) (i := 19) (v := ?vrm19) nosrm okrm_18 sizrm (by kernel_rfl) rfl (fun _ _ _ h => h) (Or.inl ⟨by kernel_rfl, ?hyrm19⟩) (by assumption) ?restrm19
        case hyrm19 => (intro w hSw; (try dsimp only at hSw); go_simp; (try (first | with_reducible rfl | rw [if_neg (by omega)])))
        try simp only [Act.put, List.getElem_toArray, List.getElem_cons_succ, List.getElem_cons_zero, List.setIfInBounds_toArray, List.set_cons_zero, List.set_cons_succ]
        refine Held.take (k := 20) (i := 20) (v := ?vrm20) nosrm okrm_19 sizrm (by kernel_rfl) rfl (fun _ _ _ h => h) (Or.inl ⟨by kernel_rfl, ?hyrm20⟩) (by assumption) ?restrm20
        case hyrm20 => (intro w hSw; (try dsimp only at hSw); go_simp; (try (first | with_reducible rfl | rw [if_neg (by omega)])))
        try simp only [Act.put, List.getElem_toArray, List.getElem_cons_succ, List.getElem_cons_zero, List.setIfInBounds_toArray, List.set_cons_zero, List.set_cons_succ]
        refine Held.two (o := ordrm0) (o1 := ordrm0) (o2 := ordrm3) (k := 21) (i := 21) (j := 22) (by kernel_rfl) (by kernel_rfl) (by kernel_rfl) rfl rfl (by kernel_rfl) (by kernel_rfl) (fun K hK => ?_) (fun K hK => ?_)
        · go_simp
          clear q0 q1 q2 qz M9 I9
          have hg9 : w4.heap.size ≤ w5.heap.size := D4.size
          replace D4 : Below w4.heap.size w4 (w5.alloc (bxIt false false false false false)) := below_alloc0 D4 (bxIt false false false false false)
          have Y9 : (w5.alloc (bxIt false false false false false)).heap[w5.heap.size]? = some (bxIt false false false false false) := heap_alloc_new _ _
          have M9 := hcall MM D4
          obtain ⟨q0, q1, q2, qz⟩ := cellsMv k u o M9
          have I9 := IM.below D4
          refine hK.out _ _ (by (try dsimp only); (exact ⟨q0, q1, q2, I9⟩)) (fun hHeld => ?_)
          clear hK K
          try simp only [Act.put, List.getElem_toArray, List.getElem_cons_succ, List.getElem_cons_zero, List.setIfInBounds_toArray, List.set_cons_zero, List.set_cons_succ]
          refine Held.hideW (fun v => Below w4.heap.size w4 v ∧ v.heap[w5.heap.size]? = some (bxIt false false false false false)) ⟨D4, Y9⟩ hHeld ?_
          clear hHeld q0 q1 q2 qz M9 I9 D4 Y9
          rintro v1_ ⟨D4, Y9⟩ hHeld
          have M9 := hcall MM D4
          obtain ⟨q0, q1, q2, qz⟩ := cellsMv k u o M9
          have I9 := IM.below D4
          refine Held.only (k := 22) (i := 22) (show Region.ready .any opsrm (Held.lst 26 ordrm0 22) = [22] by kernel_rfl) (by kernel_rfl) rfl (by kernel_rfl) (fun K hK => ?_)
          go_simp
          clear q0 q1 q2 qz M9 I9
          have hg10 : w4.heap.size ≤ v1_.heap.size := D4.size
          have hlt9 : w5.heap.size < v1_.heap.size := (Array.getElem?_eq_some_iff.1 Y9).1
          replace D4 : Below w4.heap.size w4 (v1_.alloc (bxIt false false false false false)) := below_alloc0 D4 (bxIt false false false false false)
          replace Y9 : (v1_.alloc (bxIt false false false false false)).heap[w5.heap.size]? = some (bxIt false false false false false) := halloc Y9 (bxIt false false false false false)
          have Y10 : (v1_.alloc (bxIt false false false false false)).heap[v1_.heap.size]? = some (bxIt false false false false false) := heap_alloc_new _ _
          have M9 := hcall MM D4
          obtain ⟨q0, q1, q2, qz⟩ := cellsMv k u o M9
          have I9 := IM.below D4
          refine hK.out _ _ (by (try dsimp only); (exact ⟨q0, q1, q2, I9⟩)) (fun hHeld => ?_)
          clear hK K
          try simp only [Act.put, List.getElem_toArray, List.getElem_cons_succ, List.getElem_cons_zero, List.setIfInBounds_toArray, List.set_cons_zero, List.set_cons_succ]
          refine Held.hideW (fun v => Below w4.heap.size w4 v ∧ v.heap[w5.heap.size]? = some (bxIt false false false false false) ∧ v.heap[v1_.heap.size]? = some (bxIt false false false false false)) ⟨D4, Y9, Y10⟩ hHeld ?_
          clear hHeld q0 q1 q2 qz M9 I9 D4 Y9 Y10
          rintro v2_ ⟨D4, Y9, Y10⟩ hHeld
          have M9 := hcall MM D4
          obtain ⟨q0, q1, q2, qz⟩ := cellsMv k u o M9
          have I9 := IM.below D4
          refine Held.only (k := 23) (i := 23) (show Region.ready .any opsrm (Held.lst 26 ordrm0 23) = [23] by kernel_rfl) (by kernel_rfl) rfl (by kernel_rfl) (fun K hK => ?_)
          obtain ⟨⟨_, _, _, _, _⟩, ⟨_, _, _, _, _⟩, _⟩ := iopen5 Y9
          go_simp
          clear q0 q1 q2 qz M9 I9
          replace D4 : Below w4.heap.size w4 (put5 v2_ (w5.heap.size) m1 m2 m3 m4 m5) := put5_below D4 (w5.heap.size) hg9 m1 m2 m3 m4 m5
          replace Y10 : (put5 v2_ (w5.heap.size) m1 m2 m3 m4 m5).heap[v1_.heap.size]? = some (bxIt false false false false false) := (put5_ne (w := v2_) (g := w5.heap.size) (k := v1_.heap.size) m1 m2 m3 m4 m5 (Nat.ne_of_gt hlt9)).trans Y10
          replace Y9 : (put5 v2_ (w5.heap.size) m1 m2 m3 m4 m5).heap[w5.heap.size]? = some (bxIt m1 m2 m3 m4 m5) := put5_at m1 m2 m3 m4 m5 Y9
          have M9 := hcall MM D4
          obtain ⟨q0, q1, q2, qz⟩ := cellsMv k u o M9
          have I9 := IM.below D4
          refine hK.out _ _ (by (try dsimp only); (exact ⟨q0, q1, q2, I9⟩)) (fun hHeld => ?_)
          clear hK K
          try simp only [Act.put, List.getElem_toArray, List.getElem_cons_succ, List.getElem_cons_zero, List.setIfInBounds_toArray, List.set_cons_zero, List.set_cons_succ]
          refine Held.hideW (fun v => Below w4.heap.size w4 v ∧ v.heap[w5.heap.size]? = some (bxIt m1 m2 m3 m4 m5) ∧ v.heap[v1_.heap.size]? = some (bxIt false false false false false)) ⟨D4, Y9, Y10⟩ hHeld ?_
          clear hHeld q0 q1 q2 qz M9 I9 D4 Y9 Y10
          rintro v3_ ⟨D4, Y9, Y10⟩ hHeld
          have M9 := hcall MM D4
          obtain ⟨q0, q1, q2, qz⟩ := cellsMv k u o M9
          have I9 := IM.below D4
          refine Held.only (k := 24) (i := 24) (show Region.ready .any opsrm (Held.lst 26 ordrm0 24) = [24] by kernel_rfl) (by kernel_rfl) rfl (by kernel_rfl) (fun K hK => ?_)
          obtain ⟨⟨_, _, _, _, _⟩, ⟨_, _, _, _, _⟩, _⟩ := iopen5 Y10
          go_simp
          clear q0 q1 q2 qz M9 I9
          replace D4 : Below w4.heap.size w4 (put5 v3_ (v1_.heap.size) o1 o2 o3 o4 o5) := put5_below D4 (v1_.heap.size) hg10 o1 o2 o3 o4 o5
          replace Y9 : (put5 v3_ (v1_.heap.size) o1 o2 o3 o4 o5).heap[w5.heap.size]? = some (bxIt m1 m2 m3 m4 m5) := (put5_ne (w := v3_) (g := v1_.heap.size) (k := w5.heap.size) o1 o2 o3 o4 o5 (Nat.ne_of_lt hlt9)).trans Y9
          replace Y10 : (put5 v3_ (v1_.heap.size) o1 o2 o3 o4 o5).heap[v1_.heap.size]? = some (bxIt o1 o2 o3 o4 o5) := put5_at o1 o2 o3 o4 o5 Y10
          have M9 := hcall MM D4
          obtain ⟨q0, q1, q2, qz⟩ := cellsMv k u o M9
          have I9 := IM.below D4
          refine hK.out _ _ (by (try dsimp only); (exact ⟨q0, q1, q2, I9⟩)) (fun hHeld => ?_)
          clear hK K
          try simp only [Act.put, List.getElem_toArray, List.getElem_cons_succ, List.getElem_cons_zero, List.setIfInBounds_toArray, List.set_cons_zero, List.set_cons_succ]
          refine Held.hideW (fun v => Below w4.heap.size w4 v ∧ v.heap[w5.heap.size]? = some (bxIt m1 m2 m3 m4 m5) ∧ v.heap[v1_.heap.size]? = some (bxIt o1 o2 o3 o4 o5)) ⟨D4, Y9, Y10⟩ hHeld ?_
          clear hHeld q0 q1 q2 qz M9 I9 D4 Y9 Y10
          rintro v4_ ⟨D4, Y9, Y10⟩ hHeld
          have M9 := hcall MM D4
          obtain ⟨q0, q1, q2, qz⟩ := cellsMv k u o M9
          have I9 := IM.below D4
          refine Held.take (k := 25) (i := 25) (v := ?vrm21) nosrm okrm_20 sizrm (by kernel_rfl) rfl (fun _ _ _ h => h) (Or.inl ⟨by kernel_rfl, ?hyrm21⟩) (by assumption) ?restrm21
          case hyrm21 => (intro w hSw; (try dsimp only at hSw); go_simp; (try (first | with_reducible rfl | rw [if_neg (by omega)])))
          try simp only [Act.put, List.getElem_toArray, List.getElem_cons_succ, List.getElem_cons_zero, List.setIfInBounds_toArray, List.set_cons_zero, List.set_cons_succ]
          refine wpAnyH_done (by kernel_rfl) ?_ _
          have D9 := below_call D D4
          have r9 := r1.below D4
          clear q0 q1 q2 qz
          obtain ⟨⟨y90, y91, y92, y93, y94⟩, -, y9z⟩ := iopen5 Y9
          obtain ⟨⟨y100, y101, y102, y103, y104⟩, -, y10z⟩ := iopen5 Y10
          clear D4
          go_wp2_with fail
          with_reducible refine (May8_is nr c1' A1 r _ r9 true hzr2 hnr1 HRM).mono ?_
          rintro e w6 ⟨rfl, b6⟩
          replace r9 := r9.below b6
          replace M9 := hcall M9 b6
          replace Y9 := hcall Y9 b6
          replace Y10 := hcall Y10 b6
          replace I9 := I9.below b6
          replace D9 := below_call D9 b6
          clear b6 y90 y91 y92 y93 y94 y9z y100 y101 y102 y103 y104 y10z
          obtain ⟨q0, q1, q2, qz⟩ := cellsMv k u o M9
          obtain ⟨⟨y90, y91, y92, y93, y94⟩, -, y9z⟩ := iopen5 Y9
          obtain ⟨⟨y100, y101, y102, y103, y104⟩, -, y10z⟩ := iopen5 Y10
          obtain ⟨wa, hra, Ia, hGa⟩ := I9.put u o ⟨m1, m2, m3, m4, m5⟩ hum hom (by omega)
          have Ya := hgrow hGa (by omega) Y10
          have Ma := hgrow hGa (by omega) M9
          have Y9a := hgrow hGa (by omega) Y9
          obtain ⟨⟨a0, a1, a2, a3, a4⟩, -, az⟩ := iopen5 Ya
          obtain ⟨p0, p1, p2, pz⟩ := cellsMv k u o Ma
          have ra := r9.grownM I9 hGa
          have Da := below_map D9 hGa
          obtain ⟨wb, hrb, Ib, hGb⟩ := Ia.put o u ⟨o1, o2, o3, o4, o5⟩ hom hum (by omega)
          rw [HUP.out] at Ib
          have Yb := hgrow hGb (by omega) Ya
          have Mb := hgrow hGb (by omega) Ma
          have Y9b := hgrow hGb (by omega) Y9a
          have rb := ra.grownM Ia hGb
          have Db := below_map Da hGb
          clear hGa hGb Ia I9 Y9 Y10 M9 r9 D9
          obtain ⟨b0_, b1_, b2_, bz_⟩ := cellsMv k u o Mb
          obtain ⟨⟨f0, f1, f2, f3, f4⟩, -, fz⟩ := iopen5 Y9b
          obtain ⟨⟨h0, h1, h2, h3, h4⟩, -, hz_⟩ := iopen5 Yb
          go_wp2_with fail
          replace Ib : ItMap wb.drew _ _ _ := Ib
          clear bz_ fz hz_ Mb Y9b Yb
          replace rb : Row _ _ wb.drew _ _ := rb
          replace Db : Below _ _ wb.drew := Db.drew
          go_wp2_with fail
          refine Held.start (ops := opsrna) (S := fun w' => w'.cell? ⟨wr.heap.size, 0, none⟩ = some (.int .i64 k) ∧ w'.cell? ⟨wr.heap.size, 1, none⟩ = some (.string u) ∧ w'.cell? ⟨wr.heap.size, 2, none⟩ = some (.string o) ∧ w'.cell? ⟨w5.heap.size, 0, none⟩ = some (.bool m1) ∧ w'.cell? ⟨w5.heap.size, 1, none⟩ = some (.bool m2) ∧ w'.cell? ⟨w5.heap.size, 2, none⟩ = some (.bool m3) ∧ w'.cell? ⟨w5.heap.size, 3, none⟩ = some (.bool m4) ∧ w'.cell? ⟨w5.heap.size, 4, none⟩ = some (.bool m5) ∧ w'.cell? ⟨v1_.heap.size, 0, none⟩ = some (.bool o1) ∧ w'.cell? ⟨v1_.heap.size, 1, none⟩ = some (.bool o2) ∧ w'.cell? ⟨v1_.heap.size, 2, none⟩ = some (.bool o3) ∧ w'.cell? ⟨v1_.heap.size, 3, none⟩ = some (.bool o4) ∧ w'.cell? ⟨v1_.heap.size, 4, none⟩ = some (.bool o5)) ordrna 30 (by kernel_rfl) rgrna.siz (by kernel_rfl) ⟨b0_, b1_, b2_, f0, f1, f2, f3, f4, h0, h1, h2, h3, h4⟩ (fun hHeld => ?_)
          iterate 6
            refine Held.tk (v := ?_) rgrna rfl rfl rfl (fun _ _ _ h => h) (by assumption) (Or.inl ⟨by kernel_rfl, ?_⟩) ?_
            rotate_left
            · (intro w hSw; (try dsimp only at hSw); go_simp; (try (first | with_reducible rfl | rw [if_neg (by omega)])))
            try simp only [Act.put, List.getElem_toArray, List.getElem_cons_succ, List.getElem_cons_zero, List.setIfInBounds_toArray, List.set_cons_zero, List.set_cons_succ]
          refine Held.only (k := 6) (i := 5) (by kernel_rfl) (by kernel_rfl) rfl (by kernel_rfl) (fun K hK => ?_)
          go_simp
          go_at_call 14
          with_reducible refine (Get8_is nr c1' A1 r _ rb u o m1 m2 m3 m4 m5 HG3).mono ?_
          rintro e w7 ⟨rfl, hbx⟩
          replace Ib := Ib.below hbx
          replace b0_ := cell_below hbx b0_
          replace b1_ := cell_below hbx b1_
          replace b2_ := cell_below hbx b2_
          replace f0 := cell_below hbx f0
          replace f1 := cell_below hbx f1
          replace f2 := cell_below hbx f2
          replace f3 := cell_below hbx f3
          replace f4 := cell_below hbx f4
          replace h0 := cell_below hbx h0
          replace h1 := cell_below hbx h1
          replace h2 := cell_below hbx h2
          replace h3 := cell_below hbx h3
          replace h4 := cell_below hbx h4
          replace rb := rb.below hbx
          replace Db := below_call Db hbx
          refine hK.out _ _ (by (try dsimp only); (exact ⟨b0_, b1_, b2_, f0, f1, f2, f3, f4, h0, h1, h2, h3, h4⟩)) (fun hHeld => ?_)
          clear hK K
          try simp only [Act.put, List.getElem_toArray, List.getElem_cons_succ, List.getElem_cons_zero, List.setIfInBounds_toArray, List.set_cons_zero, List.set_cons_succ]
          iterate 8
            refine Held.tk (v := ?_) rgrna rfl rfl rfl (fun _ _ _ h => h) (by assumption) (Or.inl ⟨by kernel_rfl, ?_⟩) ?_
            rotate_left
            · (intro w hSw; (try dsimp only at hSw); go_simp; (try (first | with_reducible rfl | rw [if_neg (by omega)])))
            try simp only [Act.put, List.getElem_toArray, List.getElem_cons_succ, List.getElem_cons_zero, List.setIfInBounds_toArray, List.set_cons_zero, List.set_cons_succ]
          refine Held.only (k := 15) (i := 14) (by kernel_rfl) (by kernel_rfl) rfl (by kernel_rfl) (fun K hK => ?_)
          go_simp
          go_at_call 14
          with_reducible refine (Get8_is nr c1' A1 r _ rb o u o1 o2 o3 o4 o5 HG4).mono ?_
          rintro e w8 ⟨rfl, hbx⟩
          replace Ib := Ib.below hbx
          replace b0_ := cell_below hbx b0_
          replace b1_ := cell_below hbx b1_
          replace b2_ := cell_below hbx b2_
          replace f0 := cell_below hbx f0
          replace f1 := cell_below hbx f1
          replace f2 := cell_below hbx f2
          replace f3 := cell_below hbx f3
          replace f4 := cell_below hbx f4
          replace h0 := cell_below hbx h0
          replace h1 := cell_below hbx h1
          replace h2 := cell_below hbx h2
          replace h3 := cell_below hbx h3
          replace h4 := cell_below hbx h4
          replace rb := rb.below hbx
          replace Db := below_call Db hbx
          refine hK.out _ _ (by (try dsimp only); (exact ⟨b0_, b1_, b2_, f0, f1, f2, f3, f4, h0, h1, h2, h3, h4⟩)) (fun hHeld => ?_)
          clear hK K
          try simp only [Act.put, List.getElem_toArray, List.getElem_cons_succ, List.getElem_cons_zero, List.setIfInBounds_toArray, List.set_cons_zero, List.set_cons_succ]
          iterate 10
            refine Held.tk (v := ?_) rgrna rfl rfl rfl (fun _ _ _ h => h) (by assumption) (Or.inl ⟨by kernel_rfl, ?_⟩) ?_
            rotate_left
            · (intro w hSw; (try dsimp only at hSw); go_simp; (try (first | with_reducible rfl | rw [if_neg (by omega)])))
            try simp only [Act.put, List.getElem_toArray, List.getElem_cons_succ, List.getElem_cons_zero, List.setIfInBounds_toArray, List.set_cons_zero, List.set_cons_succ]
          refine Held.only (k := 26) (i := 24) (by kernel_rfl) (by kernel_rfl) rfl (by kernel_rfl) (fun K hK => ?_)
          go_simp
          go_at_call 19
          with_reducible refine (Sees8_is nr c1' A1 r _ rb u o sb HSB).mono ?_
          rintro e w9 ⟨rfl, hbx⟩
          replace Ib := Ib.below hbx
          replace b0_ := cell_below hbx b0_
          replace b1_ := cell_below hbx b1_
          replace b2_ := cell_below hbx b2_
          replace f0 := cell_below hbx f0
          replace f1 := cell_below hbx f1
          replace f2 := cell_below hbx f2
          replace f3 := cell_below hbx f3
          replace f4 := cell_below hbx f4
          replace h0 := cell_below hbx h0
          replace h1 := cell_below hbx h1
          replace h2 := cell_below hbx h2
          replace h3 := cell_below hbx h3
          replace h4 := cell_below hbx h4
          replace rb := rb.below hbx
          replace Db := below_call Db hbx
          refine hK.out _ _ (by (try dsimp only); (exact ⟨b0_, b1_, b2_, f0, f1, f2, f3, f4, h0, h1, h2, h3, h4⟩)) (fun hHeld => ?_)
          clear hK K
          try simp only [Act.put, List.getElem_toArray, List.getElem_cons_succ, List.getElem_cons_zero, List.setIfInBounds_toArray, List.set_cons_zero, List.set_cons_succ]
          refine Held.only (k := 27) (i := 27) (by kernel_rfl) (by kernel_rfl) rfl (by kernel_rfl) (fun K hK => ?_)
          go_simp
          go_at_call 27
          with_reducible refine (re_ (SeesI_calls m1 m2 m3 m4 m5 o1 o2 o3 o4 o5 _) (ret_bool HSI.out)).mono ?_
          rintro e w10 ⟨rfl, hbx⟩
          replace Ib := Ib.below hbx
          replace b0_ := cell_below hbx b0_
          replace b1_ := cell_below hbx b1_
          replace b2_ := cell_below hbx b2_
          replace f0 := cell_below hbx f0
          replace f1 := cell_below hbx f1
          replace f2 := cell_below hbx f2
          replace f3 := cell_below hbx f3
          replace f4 := cell_below hbx f4
          replace h0 := cell_below hbx h0
          replace h1 := cell_below hbx h1
          replace h2 := cell_below hbx h2
          replace h3 := cell_below hbx h3
          replace h4 := cell_below hbx h4
          replace rb := rb.below hbx
          replace Db := below_call Db hbx
          refine hK.out _ _ (by (try dsimp only); (exact ⟨b0_, b1_, b2_, f0, f1, f2, f3, f4, h0, h1, h2, h3, h4⟩)) (fun hHeld => ?_)
          clear hK K
          try simp only [Act.put, List.getElem_toArray, List.getElem_cons_succ, List.getElem_cons_zero, List.setIfInBounds_toArray, List.set_cons_zero, List.set_cons_succ]
          iterate 2
            refine Held.tk (v := ?_) rgrna rfl rfl rfl (fun _ _ _ h => h) (by assumption) (Or.inl ⟨by kernel_rfl, ?_⟩) ?_
            rotate_left
            · (intro w hSw; (try dsimp only at hSw); go_simp; (try (first | with_reducible rfl | rw [if_neg (by omega)])))
            try simp only [Act.put, List.getElem_toArray, List.getElem_cons_succ, List.getElem_cons_zero, List.setIfInBounds_toArray, List.set_cons_zero, List.set_cons_succ]
          refine wpAnyH_done (by kernel_rfl) ?_ _
          clear b0_ b1_ b2_ f0 f1 f2 f3 f4 h0 h1 h2 h3 h4
          go_wp2
          exact ⟨⟨i + 1, r, A1, nr, c1', cnt + 1 + 1, rfl, by go_num, by omega, HRM, hzr2, hrl, rb, Ib, by omega, Db⟩, by simp [intOf]; omega⟩
        · go_simp
          clear q0 q1 q2 qz M9 I9
          have hg10 : w4.heap.size ≤ w5.heap.size := D4.size
          replace D4 : Below w4.heap.size w4 (w5.alloc (bxIt false false false false false)) := below_alloc0 D4 (bxIt false false false false false)
          have Y10 : (w5.alloc (bxIt false false false false false)).heap[w5.heap.size]? = some (bxIt false false false false false) := heap_alloc_new _ _
          have M9 := hcall MM D4
          obtain ⟨q0, q1, q2, qz⟩ := cellsMv k u o M9
          have I9 := IM.below D4
          refine hK.out _ _ (by (try dsimp only); (exact ⟨q0, q1, q2, I9⟩)) (fun hHeld => ?_)
          clear hK K
          try simp only [Act.put, List.getElem_toArray, List.getElem_cons_succ, List.getElem_cons_zero, List.setIfInBounds_toArray, List.set_cons_zero, List.set_cons_succ]
          refine Held.hideW (fun v => Below w4.heap.size w4 v ∧ v.heap[w5.heap.size]? = some (bxIt false false false false false)) ⟨D4, Y10⟩ hHeld ?_
          clear hHeld q0 q1 q2 qz M9 I9 D4 Y10
          rintro v5_ ⟨D4, Y10⟩ hHeld
          have M9 := hcall MM D4
          obtain ⟨q0, q1, q2, qz⟩ := cellsMv k u o M9
          have I9 := IM.below D4
          refine Held.only (k := 22) (i := 21) (show Region.ready .any opsrm (Held.lst 26 ordrm3 22) = [21] by kernel_rfl) (by kernel_rfl) rfl (by kernel_rfl) (fun K hK => ?_)
          go_simp
          clear q0 q1 q2 qz M9 I9
          have hg9 : w4.heap.size ≤ v5_.heap.size := D4.size
          have hlt10 : w5.heap.size < v5_.heap.size := (Array.getElem?_eq_some_iff.1 Y10).1
          replace D4 : Below w4.heap.size w4 (v5_.alloc (bxIt false false false false false)) := below_alloc0 D4 (bxIt false false false false false)
          replace Y10 : (v5_.alloc (bxIt false false false false false)).heap[w5.heap.size]? = some (bxIt false false false false false) := halloc Y10 (bxIt false false false false false)
          have Y9 : (v5_.alloc (bxIt false false false false false)).heap[v5_.heap.size]? = some (bxIt false false false false false) := heap_alloc_new _ _
          have M9 := hcall MM D4
          obtain ⟨q0, q1, q2, qz⟩ := cellsMv k u o M9
          have I9 := IM.below D4
          refine hK.out _ _ (by (try dsimp only); (exact ⟨q0, q1, q2, I9⟩)) (fun hHeld => ?_)
          clear hK K
          try simp only [Act.put, List.getElem_toArray, List.getElem_cons_succ, List.getElem_cons_zero, List.setIfInBounds_toArray, List.set_cons_zero, List.set_cons_succ]
          refine Held.hideW (fun v => Below w4.heap.size w4 v ∧ v.heap[w5.heap.size]? = some (bxIt false false false false false) ∧ v.heap[v5_.heap.size]? = some (bxIt false false false false false)) ⟨D4, Y10, Y9⟩ hHeld ?_
          clear hHeld q0 q1 q2 qz M9 I9 D4 Y10 Y9
          rintro v6_ ⟨D4, Y10, Y9⟩ hHeld
          have M9 := hcall MM D4
          obtain ⟨q0, q1, q2, qz⟩ := cellsMv k u o M9
          have I9 := IM.below D4
          refine Held.only (k := 23) (i := 23) (show Region.ready .any opsrm (Held.lst 26 ordrm3 23) = [23] by kernel_rfl) (by kernel_rfl) rfl (by kernel_rfl) (fun K hK => ?_)
          obtain ⟨⟨_, _, _, _, _⟩, ⟨_, _, _, _, _⟩, _⟩ := iopen5 Y9
          go_simp
          clear q0 q1 q2 qz M9 I9
          replace D4 : Below w4.heap.size w4 (put5 v6_ (v5_.heap.size) m1 m2 m3 m4 m5) := put5_below D4 (v5_.heap.size) hg9 m1 m2 m3 m4 m5
          replace Y10 : (put5 v6_ (v5_.heap.size) m1 m2 m3 m4 m5).heap[w5.heap.size]? = some (bxIt false false false false false) := (put5_ne (w := v6_) (g := v5_.heap.size) (k := w5.heap.size) m1 m2 m3 m4 m5 (Nat.ne_of_lt hlt10)).trans Y10
          replace Y9 : (put5 v6_ (v5_.heap.size) m1 m2 m3 m4 m5).heap[v5_.heap.size]? = some (bxIt m1 m2 m3 m4 m5) := put5_at m1 m2 m3 m4 m5 Y9
          have M9 := hcall MM D4
          obtain ⟨q0, q1, q2, qz⟩ := cellsMv k u o M9
          have I9 := IM.below D4
          refine hK.out _ _ (by (try dsimp only); (exact ⟨q0, q1, q2, I9⟩)) (fun hHeld => ?_)
          clear hK K
          try simp only [Act.put, List.getElem_toArray, List.getElem_cons_succ, List.getElem_cons_zero, List.setIfInBounds_toArray, List.set_cons_zero, List.set_cons_succ]
          refine Held.hideW (fun v => Below w4.heap.size w4 v ∧ v.heap[w5.heap.size]? = some (bxIt false false false false false) ∧ v.heap[v5_.heap.size]? = some (bxIt m1 m2 m3 m4 m5)) ⟨D4, Y10, Y9⟩ hHeld ?_
          clear hHeld q0 q1 q2 qz M9 I9 D4 Y10 Y9
          rintro v7_ ⟨D4, Y10, Y9⟩ hHeld
          have M9 := hcall MM D4
          obtain ⟨q0, q1, q2, qz⟩ := cellsMv k u o M9
          have I9 := IM.below D4
          refine Held.only (k := 24) (i := 24) (show Region.ready .any opsrm (Held.lst 26 ordrm3 24) = [24] by kernel_rfl) (by kernel_rfl) rfl (by kernel_rfl) (fun K hK => ?_)
          obtain ⟨⟨_, _, _, _, _⟩, ⟨_, _, _, _, _⟩, _⟩ := iopen5 Y10
          go_simp
          clear q0 q1 q2 qz M9 I9
          replace D4 : Below w4.heap.size w4 (put5 v7_ (w5.heap.size) o1 o2 o3 o4 o5) := put5_below D4 (w5.heap.size) hg10 o1 o2 o3 o4 o5
          replace Y9 : (put5 v7_ (w5.heap.size) o1 o2 o3 o4 o5).heap[v5_.heap.size]? = some (bxIt m1 m2 m3 m4 m5) := (put5_ne (w := v7_) (g := w5.heap.size) (k := v5_.heap.size) o1 o2 o3 o4 o5 (Nat.ne_of_gt hlt10)).trans Y9
          replace Y10 : (put5 v7_ (w5.heap.size) o1 o2 o3 o4 o5).heap[w5.heap.size]? = some (bxIt o1 o2 o3 o4 o5) := put5_at o1 o2 o3 o4 o5 Y10
          have M9 := hcall MM D4
          obtain ⟨q0, q1, q2, qz⟩ := cellsMv k u o M9
          have I9 := IM.below D4
          refine hK.out _ _ (by (try dsimp only); (exact ⟨q0, q1, q2, I9⟩)) (fun hHeld => ?_)
          clear hK K
          try simp only [Act.put, List.getElem_toArray, List.getElem_cons_succ, List.getElem_cons_zero, List.setIfInBounds_toArray, List.set_cons_zero, List.set_cons_succ]
          refine Held.hideW (fun v => Below w4.heap.size w4 v ∧ v.heap[w5.heap.size]? = some (bxIt o1 o2 o3 o4 o5) ∧ v.heap[v5_.heap.size]? = some (bxIt m1 m2 m3 m4 m5)) ⟨D4, Y10, Y9⟩ hHeld ?_
          clear hHeld q0 q1 q2 qz M9 I9 D4 Y10 Y9
          rintro v8_ ⟨D4, Y10, Y9⟩ hHeld
          have M9 := hcall MM D4
          obtain ⟨q0, q1, q2, qz⟩ := cellsMv k u o M9
          have I9 := IM.below D4
          refine Held.take (k := 25) (i := 25) (v := ?vrm22) nosrm (show Held.okAt opsrm ordrm3 25 = true by kernel_rfl) sizrm (by kernel_rfl) rfl (fun _ _ _ h => h) (Or.inl ⟨by kernel_rfl, ?hyrm22⟩) (by assumption) ?restrm22
          case hyrm22 => (intro w hSw; (try dsimp only at hSw); go_simp; (try (first | with_reducible rfl | rw [if_neg (by omega)])))
          try simp only [Act.put, List.getElem_toArray, List.getElem_cons_succ, List.getElem_cons_zero, List.setIfInBounds_toArray, List.set_cons_zero, List.set_cons_succ]
          refine wpAnyH_done (by kernel_rfl) ?_ _
          have D9 := below_call D D4
          have r9 := r1.below D4
          clear q0 q1 q2 qz
          obtain ⟨⟨y90, y91, y92, y93, y94⟩, -, y9z⟩ := iopen5 Y9
          obtain ⟨⟨y100, y101, y102, y103, y104⟩, -, y10z⟩ := iopen5 Y10
          clear D4
          go_wp2_with fail
          with_reducible refine (May8_is nr c1' A1 r _ r9 true hzr2 hnr1 HRM).mono ?_
          rintro e w6 ⟨rfl, b6⟩
          replace r9 := r9.below b6
          replace M9 := hcall M9 b6
          replace Y9 := hcall Y9 b6
          replace Y10 := hcall Y10 b6
          replace I9 := I9.below b6
          replace D9 := below_call D9 b6
          clear b6 y90 y91 y92 y93 y94 y9z y100 y101 y102 y103 y104 y10z
          obtain ⟨q0, q1, q2, qz⟩ := cellsMv k u o M9
          obtain ⟨⟨y90, y91, y92, y93, y94⟩, -, y9z⟩ := iopen5 Y9
          obtain ⟨⟨y100, y101, y102, y103, y104⟩, -, y10z⟩ := iopen5 Y10
          obtain ⟨wa, hra, Ia, hGa⟩ := I9.put u o ⟨m1, m2, m3, m4, m5⟩ hum hom (by omega)
          have Ya := hgrow hGa (by omega) Y10
          have Ma := hgrow hGa (by omega) M9
          have Y9a := hgrow hGa (by omega) Y9
          obtain ⟨⟨a0, a1, a2, a3, a4⟩, -, az⟩ := iopen5 Ya
          obtain ⟨p0, p1, p2, pz⟩ := cellsMv k u o Ma
          have ra := r9.grownM I9 hGa
          have Da := below_map D9 hGa
          obtain ⟨wb, hrb, Ib, hGb⟩ := Ia.put o u ⟨o1, o2, o3, o4, o5⟩ hom hum (by omega)
          rw [HUP.out] at Ib
          have Yb := hgrow hGb (by omega) Ya
          have Mb := hgrow hGb (by omega) Ma
          have Y9b := hgrow hGb (by omega) Y9a
          have rb := ra.grownM Ia hGb
          have Db := below_map Da hGb
          clear hGa hGb Ia I9 Y9 Y10 M9 r9 D9
          obtain ⟨b0_, b1_, b2_, bz_⟩ := cellsMv k u o Mb
          obtain ⟨⟨f0, f1, f2, f3, f4⟩, -, fz⟩ := iopen5 Y9b
          obtain ⟨⟨h0, h1, h2, h3, h4⟩, -, hz_⟩ := iopen5 Yb
          go_wp2_with fail
          replace Ib : ItMap wb.drew _ _ _ := Ib
          clear bz_ fz hz_ Mb Y9b Yb
          replace rb : Row _ _ wb.drew _ _ := rb
          replace Db : Below _ _ wb.drew := Db.drew
          go_wp2_with fail
          refine Held.start (ops := opsrnb) (S := fun w' => w'.cell? ⟨wr.heap.size, 0, none⟩ = some (.int .i64 k) ∧ w'.cell? ⟨wr.heap.size, 1, none⟩ = some (.string u) ∧ w'.cell? ⟨wr.heap.size, 2, none⟩ = some (.string o) ∧ w'.cell? ⟨v5_.heap.size, 0, none⟩ = some (.bool m1) ∧ w'.cell? ⟨v5_.heap.size, 1, none⟩ = some (.bool m2) ∧ w'.cell? ⟨v5_.heap.size, 2, none⟩ = some (.bool m3) ∧ w'.cell? ⟨v5_.heap.size, 3, none⟩ = some (.bool m4) ∧ w'.cell? ⟨v5_.heap.size, 4, none⟩ = some (.bool m5) ∧ w'.cell? ⟨w5.heap.size, 0, none⟩ = some (.bool o1) ∧ w'.cell? ⟨w5.heap.size, 1, none⟩ = some (.bool o2) ∧ w'.cell? ⟨w5.heap.size, 2, none⟩ = some (.bool o3) ∧ w'.cell? ⟨w5.heap.size, 3, none⟩ = some (.bool o4) ∧ w'.cell? ⟨w5.heap.size, 4, none⟩ = some (.bool o5)) ordrnb 30 (by kernel_rfl) rgrnb.siz (by kernel_rfl) ⟨b0_, b1_, b2_, f0, f1, f2, f3, f4, h0, h1, h2, h3, h4⟩ (fun hHeld => ?_)
          iterate 6
            refine Held.tk (v := ?_) rgrnb rfl rfl rfl (fun _ _ _ h => h) (by assumption) (Or.inl ⟨by kernel_rfl, ?_⟩) ?_
            rotate_left
            · (intro w hSw; (try dsimp only at hSw); go_simp; (try (first | with_reducible rfl | rw [if_neg (by omega)])))
            try simp only [Act.put, List.getElem_toArray, List.getElem_cons_succ, List.getElem_cons_zero, List.setIfInBounds_toArray, List.set_cons_zero, List.set_cons_succ]
          refine Held.only (k := 6) (i := 5) (by kernel_rfl) (by kernel_rfl) rfl (by kernel_rfl) (fun K hK => ?_)
          go_simp
          go_at_call 14
          with_reducible refine (Get8_is nr c1' A1 r _ rb u o m1 m2 m3 m4 m5 HG3).mono ?_
          rintro e w7 ⟨rfl, hbx⟩
          replace Ib := Ib.below hbx
          replace b0_ := cell_below hbx b0_
          replace b1_ := cell_below hbx b1_
          replace b2_ := cell_below hbx b2_
          replace f0 := cell_below hbx f0
          replace f1 := cell_below hbx f1
          replace f2 := cell_below hbx f2
          replace f3 := cell_below hbx f3
          replace f4 := cell_below hbx f4
          replace h0 := cell_below hbx h0
          replace h1 := cell_below hbx h1
          replace h2 := cell_below hbx h2
          replace h3 := cell_below hbx h3
          replace h4 := cell_below hbx h4
          replace rb := rb.below hbx
          replace Db := below_call Db hbx
          refine hK.out _ _ (by (try dsimp only); (exact ⟨b0_, b1_, b2_, f0, f1, f2, f3, f4, h0, h1, h2, h3, h4⟩)) (fun hHeld => ?_)
          clear hK K
          try simp only [Act.put, List.getElem_toArray, List.getElem_cons_succ, List.getElem_cons_zero, List.setIfInBounds_toArray, List.set_cons_zero, List.set_cons_succ]
          iterate 8
            refine Held.tk (v := ?_) rgrnb rfl rfl rfl (fun _ _ _ h => h) (by assumption) (Or.inl ⟨by kernel_rfl, ?_⟩) ?_
            rotate_left
            · (intro w hSw; (try dsimp only at hSw); go_simp; (try (first | with_reducible rfl | rw [if_neg (by omega)])))
            try simp only [Act.put, List.getElem_toArray, List.getElem_cons_succ, List.getElem_cons_zero, List.setIfInBounds_toArray, List.set_cons_zero, List.set_cons_succ]
          refine Held.only (k := 15) (i := 14) (by kernel_rfl) (by kernel_rfl) rfl (by kernel_rfl) (fun K hK => ?_)
          go_simp
          go_at_call 14
          with_reducible refine (Get8_is nr c1' A1 r _ rb o u o1 o2 o3 o4 o5 HG4).mono ?_
          rintro e w8 ⟨rfl, hbx⟩
          replace Ib := Ib.below hbx
          replace b0_ := cell_below hbx b0_
          replace b1_ := cell_below hbx b1_
          replace b2_ := cell_below hbx b2_
          replace f0 := cell_below hbx f0
          replace f1 := cell_below hbx f1
          replace f2 := cell_below hbx f2
          replace f3 := cell_below hbx f3
          replace f4 := cell_below hbx f4
          replace h0 := cell_below hbx h0
          replace h1 := cell_below hbx h1
          replace h2 := cell_below hbx h2
          replace h3 := cell_below hbx h3
          replace h4 := cell_below hbx h4
          replace rb := rb.below hbx
          replace Db := below_call Db hbx
          refine hK.out _ _ (by (try dsimp only); (exact ⟨b0_, b1_, b2_, f0, f1, f2, f3, f4, h0, h1, h2, h3, h4⟩)) (fun hHeld => ?_)
          clear hK K
          try simp only [Act.put, List.getElem_toArray, List.getElem_cons_succ, List.getElem_cons_zero, List.setIfInBounds_toArray, List.set_cons_zero, List.set_cons_succ]
          iterate 10
            refine Held.tk (v := ?_) rgrnb rfl rfl rfl (fun _ _ _ h => h) (by assumption) (Or.inl ⟨by kernel_rfl, ?_⟩) ?_
            rotate_left
            · (intro w hSw; (try dsimp only at hSw); go_simp; (try (first | with_reducible rfl | rw [if_neg (by omega)])))
            try simp only [Act.put, List.getElem_toArray, List.getElem_cons_succ, List.getElem_cons_zero, List.setIfInBounds_toArray, List.set_cons_zero, List.set_cons_succ]
          refine Held.only (k := 26) (i := 24) (by kernel_rfl) (by kernel_rfl) rfl (by kernel_rfl) (fun K hK => ?_)
          go_simp
          go_at_call 19
          with_reducible refine (Sees8_is nr c1' A1 r _ rb u o sb HSB).mono ?_
          rintro e w9 ⟨rfl, hbx⟩
          replace Ib := Ib.below hbx
          replace b0_ := cell_below hbx b0_
          replace b1_ := cell_below hbx b1_
          replace b2_ := cell_below hbx b2_
          replace f0 := cell_below hbx f0
          replace f1 := cell_below hbx f1
          replace f2 := cell_below hbx f2
          replace f3 := cell_below hbx f3
          replace f4 := cell_below hbx f4
          replace h0 := cell_below hbx h0
          replace h1 := cell_below hbx h1
          replace h2 := cell_below hbx h2
          replace h3 := cell_below hbx h3
          replace h4 := cell_below hbx h4
          replace rb := rb.below hbx
          replace Db := below_call Db hbx
          refine hK.out _ _ (by (try dsimp only); (exact ⟨b0_, b1_, b2_, f0, f1, f2, f3, f4, h0, h1, h2, h3, h4⟩)) (fun hHeld => ?_)
          clear hK K
          try simp only [Act.put, List.getElem_toArray, List.getElem_cons_succ, List.getElem_cons_zero, List.setIfInBounds_toArray, List.set_cons_zero, List.set_cons_succ]
          refine Held.only (k := 27) (i := 27) (by kernel_rfl) (by kernel_rfl) rfl (by kernel_rfl) (fun K hK => ?_)
          go_simp
          go_at_call 27
          with_reducible refine (re_ (SeesI_calls m1 m2 m3 m4 m5 o1 o2 o3 o4 o5 _) (ret_bool HSI.out)).mono ?_
          rintro e w10 ⟨rfl, hbx⟩
          replace Ib := Ib.below hbx
          replace b0_ := cell_below hbx b0_
          replace b1_ := cell_below hbx b1_
          replace b2_ := cell_below hbx b2_
          replace f0 := cell_below hbx f0
          replace f1 := cell_below hbx f1
          replace f2 := cell_below hbx f2
          replace f3 := cell_below hbx f3
          replace f4 := cell_below hbx f4
          replace h0 := cell_below hbx h0
          replace h1 := cell_below hbx h1
          replace h2 := cell_below hbx h2
          replace h3 := cell_below hbx h3
          replace h4 := cell_below hbx h4
          replace rb := rb.below hbx
          replace Db := below_call Db hbx
          refine hK.out _ _ (by (try dsimp only); (exact ⟨b0_, b1_, b2_, f0, f1, f2, f3, f4, h0, h1, h2, h3, h4⟩)) (fun hHeld => ?_)
          clear hK K
          try simp only [Act.put, List.getElem_toArray, List.getElem_cons_succ, List.getElem_cons_zero, List.setIfInBounds_toArray, List.set_cons_zero, List.set_cons_succ]
          iterate 2
            refine Held.tk (v := ?_) rgrnb rfl rfl rfl (fun _ _ _ h => h) (by assumption) (Or.inl ⟨by kernel_rfl, ?_⟩) ?_
            rotate_left
            · (intro w hSw; (try dsimp only at hSw); go_simp; (try (first | with_reducible rfl | rw [if_neg (by omega)])))
            try simp only [Act.put, List.getElem_toArray, List.getElem_cons_succ, List.getElem_cons_zero, List.setIfInBounds_toArray, List.set_cons_zero, List.set_cons_succ]
          refine wpAnyH_done (by kernel_rfl) ?_ _
          clear b0_ b1_ b2_ f0 f1 f2 f3 f4 h0 h1 h2 h3 h4
          go_wp2
          exact ⟨⟨i + 1, r, A1, nr, c1', cnt + 1 + 1, rfl, by go_num, by omega, HRM, hzr2, hrl, rb, Ib, by omega, Db⟩, by simp [intOf]; omega⟩
      · go_simp
        clear q0 q1 q2 qz M9 I9
        have hg9 : w4.heap.size ≤ w4.heap.size := D4.size
        replace D4 : Below w4.heap.size w4 (w4.alloc (bxIt false false false false false)).drew := below_alloc0 D4 (bxIt false false false false false)
        have Y9 : (w4.alloc (bxIt false false false false false)).drew.heap[w4.heap.size]? = some (bxIt false false false false false) := heap_alloc_new _ _
        have M9 := hcall MM D4
        obtain ⟨q0, q1, q2, qz⟩ := cellsMv k u o M9
        have I9 := IM.below D4
        refine hK.out _ _ (by (try dsimp only); (exact ⟨q0, q1, q2, I9⟩)) (fun hHeld => ?_)
        clear hK K
        try simp only [Act.put, List.getElem_toArray, List.getElem_cons_succ, List.getElem_cons_zero, List.setIfInBounds_toArray, List.set_cons_zero, List.set_cons_succ]
        refine Held.hideW (fun v => Below w4.heap.size w4 v ∧ v.heap[w4.heap.size]? = some (bxIt false false false false false)) ⟨D4, Y9⟩ hHeld ?_
        clear hHeld q0 q1 q2 qz M9 I9 D4 Y9
        rintro v9_ ⟨D4, Y9⟩ hHeld
        have M9 := hcall MM D4
        obtain ⟨q0, q1, q2, qz⟩ := cellsMv k u o M9
        have I9 := IM.below D4
        refine Held.two (o := ordrm1) (o1 := ordrm1) (o2 := ordrm4) (k := 17) (i := 16) (j := 22) (by kernel_rfl) (by kernel_rfl) (by kernel_rfl) rfl rfl (by kernel_rfl) (by kernel_rfl) (fun K hK => ?_) (fun K hK => ?_)
        · go_simp
          go_at_call 26
          with_reducible refine (HACT.out _).mono ?_
          rintro e w5 ⟨rfl, b5⟩
          clear q0 q1 q2 qz M9 I9
          replace D4 := below_call D4 b5
          replace Y9 := hcall Y9 b5
          clear b5
          have M9 := hcall MM D4
          obtain ⟨q0, q1, q2, qz⟩ := cellsMv k u o M9
          have I9 := IM.below D4
          refine hK.out _ _ (by (try dsimp only); (exact ⟨q0, q1, q2, I9⟩)) (fun hHeld => ?_)
          clear hK K
          try simp only [Act.put, List.getElem_toArray, List.getElem_cons_succ, List.getElem_cons_zero, List.setIfInBounds_toArray, List.set_cons_zero, List.set_cons_succ]
          refine Held.take (k := 18) (i := 17) (v := ?vrm23) nosrm okrm_21 sizrm (by kernel_rfl) rfl (fun _ _ _ h => h) (Or.inl ⟨by kernel_rfl, ?hyrm23⟩) (by assumption) ?restrm23
          case hyrm23 => (intro w hSw; (try dsimp only at hSw); go_simp; (try (first | with_reducible rfl | rw [if_neg (by omega)])))
          try simp only [Act.put, List.getElem_toArray, List.getElem_cons_succ, List.getElem_cons_zero, List.setIfInBounds_toArray, List.set_cons_zero, List.set_cons_succ]
          refine Held.take (k := 19) (i := 18) (v := ?vrm24) nosrm okrm_22 sizrm (by kernel_rfl) rfl (fun _ _ _ h => h) (Or.inl ⟨by kernel_rfl, ?hyrm24⟩) (by assumption) ?restrm24
          case hyrm24 => (intro w hSw; (try dsimp only at hSw); go_simp; (try (first | with_reducible rfl | rw [if_neg (by omega)])))
          try simp only [Act.put, List.getElem_toArray, List.getElem_cons_succ, List.getElem_cons_zero, List.setIfInBounds_toArray, List.set_cons_zero, List.set_cons_succ]
          refine Held.take (k := 20) (i := 19) (v := ?vrm25) nosrm okrm_23 sizrm (by kernel_rfl) rfl (fun _ _ _ h => h) (Or.inl ⟨by kernel_rfl, ?hyrm25⟩) (by assumption) ?restrm25
          case hyrm25 => (intro w hSw; (try dsimp only at hSw); go_simp; (try (first | with_reducible rfl | rw [if_neg (by omega)])))
          try simp only [Act.put, List.getElem_toArray, List.getElem_cons_succ, List.getElem_cons_zero, List.setIfInBounds_toArray, List.set_cons_zero, List.set_cons_succ]
          refine Held.take (k := 21) (i := 20) (v := ?vrm26) nosrm okrm_24 sizrm (by kernel_rfl) rfl (fun _ _ _ h => h) (Or.inl ⟨by kernel_rfl, ?hyrm26⟩) (by assumption) ?restrm26
          case hyrm26 => (intro w hSw; (try dsimp only at hSw); go_simp; (try (first | with_reducible rfl | rw [if_neg (by omega)])))
          try simp only [Act.put, List.getElem_toArray, List.getElem_cons_succ, List.getElem_cons_zero, List.setIfInBounds_toArray, List.set_cons_zero, List.set_cons_succ]
          refine Held.only (k := 22) (i := 22) (show Region.ready .any opsrm (Held.lst 26 ordrm1 22) = [22] by kernel_rfl) (by kernel_rfl) rfl (by kernel_rfl) (fun K hK => ?_)
          go_simp
          clear q0 q1 q2 qz M9 I9
          have hg10 : w4.heap.size ≤ w5.heap.size := D4.size
          have hlt9 : w4.heap.size < w5.heap.size := (Array.getElem?_eq_some_iff.1 Y9).1
          replace D4 : Below w4.heap.size w4 (w5.alloc (bxIt false false false false false)) := below_alloc0 D4 (bxIt false false false false false)
          replace Y9 : (w5.alloc (bxIt false false false false false)).heap[w4.heap.size]? = some (bxIt false false false false false) := halloc Y9 (bxIt false false false false false)
          have Y10 : (w5.alloc (bxIt false false false false false)).heap[w5.heap.size]? = some (bxIt false false false false false) := heap_alloc_new _ _
          have M9 := hcall MM D4
          obtain ⟨q0, q1, q2, qz⟩ := cellsMv k u o M9
          have I9 := IM.below D4
          refine hK.out _ _ (by (try dsimp only); (exact ⟨q0, q1, q2, I9⟩)) (fun hHeld => ?_)
          clear hK K
          try simp only [Act.put, List.getElem_toArray, List.getElem_cons_succ, List.getElem_cons_zero, List.setIfInBounds_toArray, List.set_cons_zero, List.set_cons_succ]
          refine Held.hideW (fun v => Below w4.heap.size w4 v ∧ v.heap[w4.heap.size]? = some (bxIt false false false false false) ∧ v.heap[w5.heap.size]? = some (bxIt false false false false false)) ⟨D4, Y9, Y10⟩ hHeld ?_
          clear hHeld q0 q1 q2 qz M9 I9 D4 Y9 Y10
          rintro v10_ ⟨D4, Y9, Y10⟩ hHeld
          have M9 := hcall MM D4
          obtain ⟨q0, q1, q2, qz⟩ := cellsMv k u o M9
          have I9 := IM.below D4
          refine Held.only (k := 23) (i := 23) (show Region.ready .any opsrm (Held.lst 26 ordrm1 23) = [23] by kernel_rfl) (by kernel_rfl) rfl (by kernel_rfl) (fun K hK => ?_)
          obtain ⟨⟨_, _, _, _, _⟩, ⟨_, _, _, _, _⟩, _⟩ := iopen5 Y9
          go_simp
          clear q0 q1 q2 qz M9 I9
          replace D4 : Below w4.heap.size w4 (put5 v10_ (w4.heap.size) m1 m2 m3 m4 m5) := put5_below D4 (w4.heap.size) hg9 m1 m2 m3 m4 m5
          replace Y10 : (put5 v10_ (w4.heap.size) m1 m2 m3 m4 m5).heap[w5.heap.size]? = some (bxIt false false false false false) := (put5_ne (w := v10_) (g := w4.heap.size) (k := w5.heap.size) m1 m2 m3 m4 m5 (Nat.ne_of_gt hlt9)).trans Y10
          replace Y9 : (put5 v10_ (w4.heap.size) m1 m2 m3 m4 m5).heap[w4.heap.size]? = some (bxIt m1 m2 m3 m4 m5) := put5_at m1 m2 m3 m4 m5 Y9
          have M9 := hcall MM D4
          obtain ⟨q0, q1, q2, qz⟩ := cellsMv k u o M9
          have I9 := IM.below D4
          refine hK.out _ _ (by (try dsimp only); (exact ⟨q0, q1, q2, I9⟩)) (fun hHeld => ?_)
          clear hK K
          try simp only [Act.put, List.getElem_toArray, List.getElem_cons_succ, List.getElem_cons_zero, List.setIfInBounds_toArray, List.set_cons_zero, List.set_cons_succ]
          refine Held.hideW (fun v => Below w4.heap.size w4 v ∧ v.heap[w4.heap.size]? = some (bxIt m1 m2 m3 m4 m5) ∧ v.heap[w5.heap.size]? = some (bxIt false false false false false)) ⟨D4, Y9, Y10⟩ hHeld ?_
          clear hHeld q0 q1 q2 qz M9 I9 D4 Y9 Y10
          rintro v11_ ⟨D4, Y9, Y10⟩ hHeld
          have M9 := hcall MM D4
          obtain ⟨q0, q1, q2, qz⟩ := cellsMv k u o M9
          have I9 := IM.below D4
          refine Held.only (k := 24) (i := 24) (show Region.ready .any opsrm (Held.lst 26 ordrm1 24) = [24] by kernel_rfl) (by kernel_rfl) rfl (by kernel_rfl) (fun K hK => ?_)
          obtain ⟨⟨_, _, _, _, _⟩, ⟨_, _, _, _, _⟩, _⟩ := iopen5 Y10
          go_simp
          clear q0 q1 q2 qz M9 I9
          replace D4 : Below w4.heap.size w4 (put5 v11_ (w5.heap.size) o1 o2 o3 o4 o5) := put5_below D4 (w5.heap.size) hg10 o1 o2 o3 o4 o5
          replace Y9 : (put5 v11_ (w5.heap.size) o1 o2 o3 o4 o5).heap[w4.heap.size]? = some (bxIt m1 m2 m3 m4 m5) := (put5_ne (w := v11_) (g := w5.heap.size) (k := w4.heap.size) o1 o2 o3 o4 o5 (Nat.ne_of_lt hlt9)).trans Y9
          replace Y10 : (put5 v11_ (w5.heap.size) o1 o2 o3 o4 o5).heap[w5.heap.size]? = some (bxIt o1 o2 o3 o4 o5) := put5_at o1 o2 o3 o4 o5 Y10
          have M9 := hcall MM D4
          obtain ⟨q0, q1, q2, qz⟩ := cellsMv k u o M9
          have I9 := IM.below D4
          refine hK.out _ _ (by (try dsimp only); (exact ⟨q0, q1, q2, I9⟩)) (fun hHeld => ?_)
          clear hK K
          try simp only [Act.put, List.getElem_toArray, List.getElem_cons_succ, List.getElem_cons_zero, List.setIfInBounds_toArray, List.set_cons_zero, List.set_cons_succ]
          refine Held.hideW (fun v => Below w4.heap.size w4 v ∧ v.heap[w4.heap.size]? = some (bxIt m1 m2 m3 m4 m5) ∧ v.heap[w5.heap.size]? = some (bxIt o1 o2 o3 o4 o5)) ⟨D4, Y9, Y10⟩ hHeld ?_
          clear hHeld q0 q1 q2 qz M9 I9 D4 Y9 Y10
          rintro v12_ ⟨D4, Y9, Y10⟩ hHeld
          have M9 := hcall MM D4
          obtain ⟨q0, q1, q2, qz⟩ := cellsMv k u o M9
          have I9 := IM.below D4
          refine Held.take (k := 25) (i := 25) (v := ?vrm27) nosrm (show Held.okAt opsrm ordrm1 25 = true by kernel_rfl) sizrm (by kernel_rfl) rfl (fun _ _ _ h => h) (Or.inl ⟨by kernel_rfl, ?hyrm27⟩) (by assumption) ?restrm27
          case hyrm27 => (intro w hSw; (try dsimp only at hSw); go_simp; (try (first | with_reducible rfl | rw [if_neg (by omega)])))
          try simp only [Act.put, List.getElem_toArray, List.getElem_cons_succ, List.getElem_cons_zero, List.setIfInBounds_toArray, List.set_cons_zero, List.set_cons_succ]
          refine wpAnyH_done (by kernel_rfl) ?_ _
          have D9 := below_call D D4
          have r9 := r1.below D4
          clear q0 q1 q2 qz
          obtain ⟨⟨y90, y91, y92, y93, y94⟩, -, y9z⟩ := iopen5 Y9
          obtain ⟨⟨y100, y101, y102, y103, y104⟩, -, y10z⟩ := iopen5 Y10
          clear D4
          go_wp2_with fail
          with_reducible refine (May8_is nr c1' A1 r _ r9 true hzr2 hnr1 HRM).mono ?_
          rintro e w6 ⟨rfl, b6⟩
          replace r9 := r9.below b6
          replace M9 := hcall M9 b6
          replace Y9 := hcall Y9 b6
          replace Y10 := hcall Y10 b6
          replace I9 := I9.below b6
          replace D9 := below_call D9 b6
          clear b6 y90 y91 y92 y93 y94 y9z y100 y101 y102 y103 y104 y10z
          obtain ⟨q0, q1, q2, qz⟩ := cellsMv k u o M9
          obtain ⟨⟨y90, y91, y92, y93, y94⟩, -, y9z⟩ := iopen5 Y9
          obtain ⟨⟨y100, y101, y102, y103, y104⟩, -, y10z⟩ := iopen5 Y10
          obtain ⟨wa, hra, Ia, hGa⟩ := I9.put u o ⟨m1, m2, m3, m4, m5⟩ hum hom (by omega)
          have Ya := hgrow hGa (by omega) Y10
          have Ma := hgrow hGa (by omega) M9
          have Y9a := hgrow hGa (by omega) Y9
          obtain ⟨⟨a0, a1, a2, a3, a4⟩, -, az⟩ := iopen5 Ya
          obtain ⟨p0, p1, p2, pz⟩ := cellsMv k u o Ma
          have ra := r9.grownM I9 hGa
          have Da := below_map D9 hGa
          obtain ⟨wb, hrb, Ib, hGb⟩ := Ia.put o u ⟨o1, o2, o3, o4, o5⟩ hom hum (by omega)
          rw [HUP.out] at Ib
          have Yb := hgrow hGb (by omega) Ya
          have Mb := hgrow hGb (by omega) Ma
          have Y9b := hgrow hGb (by omega) Y9a
          have rb := ra.grownM Ia hGb
          have Db := below_map Da hGb
          clear hGa hGb Ia I9 Y9 Y10 M9 r9 D9
          obtain ⟨b0_, b1_, b2_, bz_⟩ := cellsMv k u o Mb
          obtain ⟨⟨f0, f1, f2, f3, f4⟩, -, fz⟩ := iopen5 Y9b
          obtain ⟨⟨h0, h1, h2, h3, h4⟩, -, hz_⟩ := iopen5 Yb
          go_wp2_with fail
          replace Ib : ItMap wb.drew _ _ _ := Ib
          clear bz_ fz hz_ Mb Y9b Yb
          replace rb : Row _ _ wb.drew _ _ := rb
          replace Db : Below _ _ wb.drew := Db.drew
          go_wp2_with fail
          refine Held.start (ops := opsrnc) (S := fun w' => w'.cell? ⟨wr.heap.size, 0, none⟩ = some (.int .i64 k) ∧ w'.cell? ⟨wr.heap.size, 1, none⟩ = some (.string u) ∧ w'.cell? ⟨wr.heap.size, 2, none⟩ = some (.string o) ∧ w'.cell? ⟨w4.heap.size, 0, none⟩ = some (.bool m1) ∧ w'.cell? ⟨w4.heap.size, 1, none⟩ = some (.bool m2) ∧ w'.cell? ⟨w4.heap.size, 2, none⟩ = some (.bool m3) ∧ w'.cell? ⟨w4.heap.size, 3, none⟩ = some (.bool m4) ∧ w'.cell? ⟨w4.heap.size, 4, none⟩ = some (.bool m5) ∧ w'.cell? ⟨w5.heap.size, 0, none⟩ = some (.bool o1) ∧ w'.cell? ⟨w5.heap.size, 1, none⟩ = some (.bool o2) ∧ w'.cell? ⟨w5.heap.size, 2, none⟩ = some (.bool o3) ∧ w'.cell? ⟨w5.heap.size, 3, none⟩ = some (.bool o4) ∧ w'.cell? ⟨w5.heap.size, 4, none⟩ = some (.bool o5)) ordrnc 30 (by kernel_rfl) rgrnc.siz (by kernel_rfl) ⟨b0_, b1_, b2_, f0, f1, f2, f3, f4, h0, h1, h2, h3, h4⟩ (fun hHeld => ?_)
          iterate 6
            refine Held.tk (v := ?_) rgrnc rfl rfl rfl (fun _ _ _ h => h) (by assumption) (Or.inl ⟨by kernel_rfl, ?_⟩) ?_
            rotate_left
            · (intro w hSw; (try dsimp only at hSw); go_simp; (try (first | with_reducible rfl | rw [if_neg (by omega)])))
            try simp only [Act.put, List.getElem_toArray, List.getElem_cons_succ, List.getElem_cons_zero, List.setIfInBounds_toArray, List.set_cons_zero, List.set_cons_succ]
          refine Held.only (k := 6) (i := 5) (by kernel_rfl) (by kernel_rfl) rfl (by kernel_rfl) (fun K hK => ?_)
          go_simp
          go_at_call 14
          with_reducible refine (Get8_is nr c1' A1 r _ rb u o m1 m2 m3 m4 m5 HG3).mono ?_
          rintro e w7 ⟨rfl, hbx⟩
          replace Ib := Ib.below hbx
          replace b0_ := cell_below hbx b0_
          replace b1_ := cell_below hbx b1_
          replace b2_ := cell_below hbx b2_
          replace f0 := cell_below hbx f0
          replace f1 := cell_below hbx f1
          replace f2 := cell_below hbx f2
          replace f3 := cell_below hbx f3
          replace f4 := cell_below hbx f4
          replace h0 := cell_below hbx h0
          replace h1 := cell_below hbx h1
          replace h2 := cell_below hbx h2
          replace h3 := cell_below hbx h3
          replace h4 := cell_below hbx h4
          replace rb := rb.below hbx
          replace Db := below_call Db hbx
          refine hK.out _ _ (by (try dsimp only); (exact ⟨b0_, b1_, b2_, f0, f1, f2, f3, f4, h0, h1, h2, h3, h4⟩)) (fun hHeld => ?_)
          clear hK K
          try simp only [Act.put, List.getElem_toArray, List.getElem_cons_succ, List.getElem_cons_zero, List.setIfInBounds_toArray, List.set_cons_zero, List.set_cons_succ]
          iterate 8
            refine Held.tk (v := ?_) rgrnc rfl rfl rfl (fun _ _ _ h => h) (by assumption) (Or.inl ⟨by kernel_rfl, ?_⟩) ?_
            rotate_left
            · (intro w hSw; (try dsimp only at hSw); go_simp; (try (first | with_reducible rfl | rw [if_neg (by omega)])))
            try simp only [Act.put, List.getElem_toArray, List.getElem_cons_succ, List.getElem_cons_zero, List.setIfInBounds_toArray, List.set_cons_zero, List.set_cons_succ]
          refine Held.only (k := 15) (i := 14) (by kernel_rfl) (by kernel_rfl) rfl (by kernel_rfl) (fun K hK => ?_)
          go_simp
          go_at_call 14
          with_reducible refine (Get8_is nr c1' A1 r _ rb o u o1 o2 o3 o4 o5 HG4).mono ?_
          rintro e w8 ⟨rfl, hbx⟩
          replace Ib := Ib.below hbx
          replace b0_ := cell_below hbx b0_
          replace b1_ := cell_below hbx b1_
          replace b2_ := cell_below hbx b2_
          replace f0 := cell_below hbx f0
          replace f1 := cell_below hbx f1
          replace f2 := cell_below hbx f2
          replace f3 := cell_below hbx f3
          replace f4 := cell_below hbx f4
          replace h0 := cell_below hbx h0
          replace h1 := cell_below hbx h1
          replace h2 := cell_below hbx h2
          replace h3 := cell_below hbx h3
          replace h4 := cell_below hbx h4
          replace rb := rb.below hbx
          replace Db := below_call Db hbx
          refine hK.out _ _ (by (try dsimp only); (exact ⟨b0_, b1_, b2_, f0, f1, f2, f3, f4, h0, h1, h2, h3, h4⟩)) (fun hHeld => ?_)
          clear hK K
          try simp only [Act.put, List.getElem_toArray, List.getElem_cons_succ, List.getElem_cons_zero, List.setIfInBounds_toArray, List.set_cons_zero, List.set_cons_succ]
          iterate 10
            refine Held.tk (v := ?_) rgrnc rfl rfl rfl (fun _ _ _ h => h) (by assumption) (Or.inl ⟨by kernel_rfl, ?_⟩) ?_
            rotate_left
            · (intro w hSw; (try dsimp only at hSw); go_simp; (try (first | with_reducible rfl | rw [if_neg (by omega)])))
            try simp only [Act.put, List.getElem_toArray, List.getElem_cons_succ, List.getElem_cons_zero, List.setIfInBounds_toArray, List.set_cons_zero, List.set_cons_succ]
          refine Held.only (k := 26) (i := 24) (by kernel_rfl) (by kernel_rfl) rfl (by kernel_rfl) (fun K hK => ?_)
          go_simp
          go_at_call 19
          with_reducible refine (Sees8_is nr c1' A1 r _ rb u o sb HSB).mono ?_
          rintro e w9 ⟨rfl, hbx⟩
          replace Ib := Ib.below hbx
          replace b0_ := cell_below hbx b0_
          replace b1_ := cell_below hbx b1_
          replace b2_ := cell_below hbx b2_
          replace f0 := cell_below hbx f0
          replace f1 := cell_below hbx f1
          replace f2 := cell_below hbx f2
          replace f3 := cell_below hbx f3
          replace f4 := cell_below hbx f4
          replace h0 := cell_below hbx h0
          replace h1 := cell_below hbx h1
          replace h2 := cell_below hbx h2
          replace h3 := cell_below hbx h3
          replace h4 := cell_below hbx h4
          replace rb := rb.below hbx
          replace Db := below_call Db hbx
          refine hK.out _ _ (by (try dsimp only); (exact ⟨b0_, b1_, b2_, f0, f1, f2, f3, f4, h0, h1, h2, h3, h4⟩)) (fun hHeld => ?_)
          clear hK K
          try simp only [Act.put, List.getElem_toArray, List.getElem_cons_succ, List.getElem_cons_zero, List.setIfInBounds_toArray, List.set_cons_zero, List.set_cons_succ]
          refine Held.only (k := 27) (i := 27) (by kernel_rfl) (by kernel_rfl) rfl (by kernel_rfl) (fun K hK => ?_)
          go_simp
          go_at_call 27
          with_reducible refine (re_ (SeesI_calls m1 m2 m3 m4 m5 o1 o2 o3 o4 o5 _) (ret_bool HSI.out)).mono ?_
          rintro e w10 ⟨rfl, hbx⟩
          replace Ib := Ib.below hbx
          replace b0_ := cell_below hbx b0_
          replace b1_ := cell_below hbx b1_
          replace b2_ := cell_below hbx b2_
          replace f0 := cell_below hbx f0
          replace f1 := cell_below hbx f1
          replace f2 := cell_below hbx f2
          replace f3 := cell_below hbx f3
          replace f4 := cell_below hbx f4
          replace h0 := cell_below hbx h0
          replace h1 := cell_below hbx h1
          replace h2 := cell_below hbx h2
          replace h3 := cell_below hbx h3
          replace h4 := cell_below hbx h4
          replace rb := rb.below hbx
          replace Db := below_call Db hbx
          refine hK.out _ _ (by (try dsimp only); (exact ⟨b0_, b1_, b2_, f0, f1, f2, f3, f4, h0, h1, h2, h3, h4⟩)) (fun hHeld => ?_)
          clear hK K
          try simp only [Act.put, List.getElem_toArray, List.getElem_cons_succ, List.getElem_cons_zero, List.setIfInBounds_toArray, List.set_cons_zero, List.set_cons_succ]
          iterate 2
            refine Held.tk (v := ?_) rgrnc rfl rfl rfl (fun _ _ _ h => h) (by assumption) (Or.inl ⟨by kernel_rfl, ?_⟩) ?_
            rotate_left
            · (intro w hSw; (try dsimp only at hSw); go_simp; (try (first | with_reducible rfl | rw [if_neg (by omega)])))
            try simp only [Act.put, List.getElem_toArray, List.getElem_cons_succ, List.getElem_cons_zero, List.setIfInBounds_toArray, List.set_cons_zero, List.set_cons_succ]
          refine wpAnyH_done (by kernel_rfl) ?_ _
          clear b0_ b1_ b2_ f0 f1 f2 f3 f4 h0 h1 h2 h3 h4
          go_wp2
          exact ⟨⟨i + 1, r, A1, nr, c1', cnt + 1 + 1, rfl, by go_num, by omega, HRM, hzr2, hrl, rb, Ib, by omega, Db⟩, by simp [intOf]; omega⟩
        · go_simp
          clear q0 q1 q2 qz M9 I9
          have hg10 : w4.heap.size ≤ v9_.heap.size := D4.size
          have hlt9 : w4.heap.size < v9_.heap.size := (Array.getElem?_eq_some_iff.1 Y9).1
          replace D4 : Below w4.heap.size w4 (v9_.alloc (bxIt false false false false false)) := below_alloc0 D4 (bxIt false false false false false)
          replace Y9 : (v9_.alloc (bxIt false false false false false)).heap[w4.heap.size]? = some (bxIt false false false false false) := halloc Y9 (bxIt false false false false false)
          have Y10 : (v9_.alloc (bxIt false false false false false)).heap[v9_.heap.size]? = some (bxIt false false false false false) := heap_alloc_new _ _
          have M9 := hcall MM D4
          obtain ⟨q0, q1, q2, qz⟩ := cellsMv k u o M9
          have I9 := IM.below D4
          refine hK.out _ _ (by (try dsimp only); (exact ⟨q0, q1, q2, I9⟩)) (fun hHeld => ?_)
          clear hK K
          try simp only [Act.put, List.getElem_toArray, List.getElem_cons_succ, List.getElem_cons_zero, List.setIfInBounds_toArray, List.set_cons_zero, List.set_cons_succ]
          refine Held.hideW (fun v => Below w4.heap.size w4 v ∧ v.heap[w4.heap.size]? = some (bxIt false false false false false) ∧ v.heap[v9_.heap.size]? = some (bxIt false false false false false)) ⟨D4, Y9, Y10⟩ hHeld ?_
          clear hHeld q0 q1 q2 qz M9 I9 D4 Y9 Y10
          rintro v13_ ⟨D4, Y9, Y10⟩ hHeld
          have M9 := hcall MM D4
          obtain ⟨q0, q1, q2, qz⟩ := cellsMv k u o M9
          have I9 := IM.below D4
          refine Held.only (k := 18) (i := 16) (show Region.ready .any opsrm (Held.lst 26 ordrm4 18) = [16] by kernel_rfl) (by kernel_rfl) rfl (by kernel_rfl) (fun K hK => ?_)
          go_simp
          go_at_call 26
          with_reducible refine (HACT.out _).mono ?_
          rintro e w5 ⟨rfl, b5⟩
          clear q0 q1 q2 qz M9 I9
          replace D4 := below_call D4 b5
          replace Y9 := hcall Y9 b5
          replace Y10 := hcall Y10 b5
          clear b5
          have M9 := hcall MM D4
          obtain ⟨q0, q1, q2, qz⟩ := cellsMv k u o M9
          have I9 := IM.below D4
          refine hK.out _ _ (by (try dsimp only); (exact ⟨q0, q1, q2, I9⟩)) (fun hHeld => ?_)
          clear hK K
          try simp only [Act.put, List.getElem_toArray, List.getElem_cons_succ, List.getElem_cons_zero, List.setIfInBounds_toArray, List.set_cons_zero, List.set_cons_succ]
          refine Held.take (k := 19) (i := 17) (v := ?vrm28) nosrm okrm_25 sizrm (by kernel_rfl) rfl (fun _ _ _ h => h) (Or.inl ⟨by kernel_rfl, ?hyrm28⟩) (by assumption) ?restrm28
          case hyrm28 => (intro w hSw; (try dsimp only at hSw); go_simp; (try (first | with_reducible rfl | rw [if_neg (by omega)])))
          try simp only [Act.put, List.getElem_toArray, List.getElem_cons_succ, List.getElem_cons_zero, List.setIfInBounds_toArray, List.set_cons_zero, List.set_cons_succ]
          refine Held.take (k := 20) (i := 18) (v := ?vrm29) nosrm okrm_26 sizrm (by kernel_rfl) rfl (fun _ _ _ h => h) (Or.inl ⟨by kernel_rfl, ?hyrm29⟩) (by assumption) ?restrm29
          case hyrm29 => (intro w hSw; (try dsimp only at hSw); go_simp; (try (first | with_reducible rfl | rw [if_neg (by omega)])))
          try simp only [Act.put, List.getElem_toArray, List.getElem_cons_succ, List.getElem_cons_zero, List.setIfInBounds_toArray, List.set_cons_zero, List.set_cons_succ]
          refine Held.take (k := 21) (i := 19) (v := ?vrm30) nosrm okrm_27 sizrm (by kernel_rfl) rfl (fun _ _ _ h => h) (Or.inl ⟨by kernel_rfl, ?hyrm30⟩) (by assumption) ?restrm30
          case hyrm30 => (intro w hSw; (try dsimp only at hSw); go_simp; (try (first | with_reducible rfl | rw [if_neg (by omega)])))
          try simp only [Act.put, List.getElem_toArray, List.getElem_cons_succ, List.getElem_cons_zero, List.setIfInBounds_toArray, List.set_cons_zero, List.set_cons_succ]
          refine Held.take (k := 22) (i := 20) (v := ?vrm31) nosrm okrm_28 sizrm (by kernel_rfl) rfl (fun _ _ _ h => h) (Or.inl ⟨by kernel_rfl, ?hyrm31⟩) (by assumption) ?restrm31
          case hyrm31 => (intro w hSw; (try dsimp only at hSw); go_simp; (try (first | with_reducible rfl | rw [if_neg (by omega)])))
          try simp only [Act.put, List.getElem_toArray, List.getElem_cons_succ, List.getElem_cons_zero, List.setIfInBounds_toArray, List.set_cons_zero, List.set_cons_succ]
          refine Held.only (k := 23) (i := 23) (show Region.ready .any opsrm (Held.lst 26 ordrm4 23) = [23] by kernel_rfl) (by kernel_rfl) rfl (by kernel_rfl) (fun K hK => ?_)
          obtain ⟨⟨_, _, _, _, _⟩, ⟨_, _, _, _, _⟩, _⟩ := iopen5 Y9
          go_simp
          clear q0 q1 q2 qz M9 I9
          replace D4 : Below w4.heap.size w4 (put5 w5 (w4.heap.size) m1 m2 m3 m4 m5) := put5_below D4 (w4.heap.size) hg9 m1 m2 m3 m4 m5
          replace Y10 : (put5 w5 (w4.heap.size) m1 m2 m3 m4 m5).heap[v9_.heap.size]? = some (bxIt false false false false false) := (put5_ne (w := w5) (g := w4.heap.size) (k := v9_.heap.size) m1 m2 m3 m4 m5 (Nat.ne_of_gt hlt9)).trans Y10
          replace Y9 : (put5 w5 (w4.heap.size) m1 m2 m3 m4 m5).heap[w4.heap.size]? = some (bxIt m1 m2 m3 m4 m5) := put5_at m1 m2 m3 m4 m5 Y9
          have M9 := hcall MM D4
          obtain ⟨q0, q1, q2, qz⟩ := cellsMv k u o M9
          have I9 := IM.below D4
          refine hK.out _ _ (by (try dsimp only); (exact ⟨q0, q1, q2, I9⟩)) (fun hHeld => ?_)
          clear hK K
          try simp only [Act.put, List.getElem_toArray, List.getElem_cons_succ, List.getElem_cons_zero, List.setIfInBounds_toArray, List.set_cons_zero, List.set_cons_succ]
          refine Held.hideW (fun v => Below w4.heap.size w4 v ∧ v.heap[w4.heap.size]? = some (bxIt m1 m2 m3 m4 m5) ∧ v.heap[v9_.heap.size]? = some (bxIt false false false false false)) ⟨D4, Y9, Y10⟩ hHeld ?_
          clear hHeld q0 q1 q2 qz M9 I9 D4 Y9 Y10
          rintro v14_ ⟨D4, Y9, Y10⟩ hHeld
          have M9 := hcall MM D4
          obtain ⟨q0, q1, q2, qz⟩ := cellsMv k u o M9
          have I9 := IM.below D4
          refine Held.only (k := 24) (i := 24) (show Region.ready .any opsrm (Held.lst 26 ordrm4 24) = [24] by kernel_rfl) (by kernel_rfl) rfl (by kernel_rfl) (fun K hK => ?_)
          obtain ⟨⟨_, _, _, _, _⟩, ⟨_, _, _, _, _⟩, _⟩ := iopen5 Y10
          go_simp
          clear q0 q1 q2 qz M9 I9
          replace D4 : Below w4.heap.size w4 (put5 v14_ (v9_.heap.size) o1 o2 o3 o4 o5) := put5_below D4 (v9_.heap.size) hg10 o1 o2 o3 o4 o5
          replace Y9 : (put5 v14_ (v9_.heap.size) o1 o2 o3 o4 o5).heap[w4.heap.size]? = some (bxIt m1 m2 m3 m4 m5) := (put5_ne (w := v14_) (g := v9_.heap.size) (k := w4.heap.size) o1 o2 o3 o4 o5 (Nat.ne_of_lt hlt9)).trans Y9
          replace Y10 : (put5 v14_ (v9_.heap.size) o1 o2 o3 o4 o5).heap[v9_.heap.size]? = some (bxIt o1 o2 o3 o4 o5) := put5_at o1 o2 o3 o4 o5 Y10
          have M9 := hcall MM D4
          obtain ⟨q0, q1, q2, qz⟩ := cellsMv k u o M9
          have I9 := IM.below D4
          refine hK.out _ _ (by (try dsimp only); (exact ⟨q0, q1, q2, I9⟩)) (fun hHeld => ?_)
          clear hK K
          try simp only [Act.put, List.getElem_toArray, List.getElem_cons_succ, List.getElem_cons_zero, List.setIfInBounds_toArray, List.set_cons_zero, List.set_cons_succ]
          refine Held.hideW (fun v => Below w4.heap.size w4 v ∧ v.heap[w4.heap.size]? = some (bxIt m1 m2 m3 m4 m5) ∧ v.heap[v9_.heap.size]? = some (bxIt o1 o2 o3 o4 o5)) ⟨D4, Y9, Y10⟩ hHeld ?_
          clear hHeld q0 q1 q2 qz M9 I9 D4 Y9 Y10
          rintro v15_ ⟨D4, Y9, Y10⟩ hHeld
          have M9 := hcall MM D4
          obtain ⟨q0, q1, q2, qz⟩ := cellsMv k u o M9
          have I9 := IM.below D4
          refine Held.take (k := 25) (i := 25) (v := ?vrm32) nosrm (show Held.okAt opsrm ordrm4 25 = true by kernel_rfl) sizrm (by kernel_rfl) rfl (fun _ _ _ h => h) (Or.inl ⟨by kernel_rfl, ?hyrm32⟩) (by assumption) ?restrm32
          case hyrm32 => (intro w hSw; (try dsimp only at hSw); go_simp; (try (first | with_reducible rfl | rw [if_neg (by omega)])))
          try simp only [Act.put, List.getElem_toArray, List.getElem_cons_succ, List.getElem_cons_zero, List.setIfInBounds_toArray, List.set_cons_zero, List.set_cons_succ]
          refine wpAnyH_done (by kernel_rfl) ?_ _
          have D9 := below_call D D4
          have r9 := r1.below D4
          clear q0 q1 q2 qz
          obtain ⟨⟨y90, y91, y92, y93, y94⟩, -, y9z⟩ := iopen5 Y9
          obtain ⟨⟨y100, y101, y102, y103, y104⟩, -, y10z⟩ := iopen5 Y10
          clear D4
          go_wp2_with fail
          with_reducible refine (May8_is nr c1' A1 r _ r9 true hzr2 hnr1 HRM).mono ?_
          rintro e w6 ⟨rfl, b6⟩
          replace r9 := r9.below b6
          replace M9 := hcall M9 b6
          replace Y9 := hcall Y9 b6
          replace Y10 := hcall Y10 b6
          replace I9 := I9.below b6
          replace D9 := below_call D9 b6
          clear b6 y90 y91 y92 y93 y94 y9z y100 y101 y102 y103 y104 y10z
          obtain ⟨q0, q1, q2, qz⟩ := cellsMv k u o M9
          obtain ⟨⟨y90, y91, y92, y93, y94⟩, -, y9z⟩ := iopen5 Y9
          obtain ⟨⟨y100, y101, y102, y103, y104⟩, -, y10z⟩ := iopen5 Y10
          obtain ⟨wa, hra, Ia, hGa⟩ := I9.put u o ⟨m1, m2, m3, m4, m5⟩ hum hom (by omega)
          have Ya := hgrow hGa (by omega) Y10
          have Ma := hgrow hGa (by omega) M9
          have Y9a := hgrow hGa (by omega) Y9
          obtain ⟨⟨a0, a1, a2, a3, a4⟩, -, az⟩ := iopen5 Ya
          obtain ⟨p0, p1, p2, pz⟩ := cellsMv k u o Ma
          have ra := r9.grownM I9 hGa
          have Da := below_map D9 hGa
          obtain ⟨wb, hrb, Ib, hGb⟩ := Ia.put o u ⟨o1, o2, o3, o4, o5⟩ hom hum (by omega)
          rw [HUP.out] at Ib
          have Yb := hgrow hGb (by omega) Ya
          have Mb := hgrow hGb (by omega) Ma
          have Y9b := hgrow hGb (by omega) Y9a
          have rb := ra.grownM Ia hGb
          have Db := below_map Da hGb
          clear hGa hGb Ia I9 Y9 Y10 M9 r9 D9
          obtain ⟨b0_, b1_, b2_, bz_⟩ := cellsMv k u o Mb
          obtain ⟨⟨f0, f1, f2, f3, f4⟩, -, fz⟩ := iopen5 Y9b
          obtain ⟨⟨h0, h1, h2, h3, h4⟩, -, hz_⟩ := iopen5 Yb
          go_wp2_with fail
          replace Ib : ItMap wb.drew _ _ _ := Ib
          clear bz_ fz hz_ Mb Y9b Yb
          replace rb : Row _ _ wb.drew _ _ := rb
          replace Db : Below _ _ wb.drew := Db.drew
          go_wp2_with fail
          refine Held.start (ops := opsrnd) (S := fun w' => w'.cell? ⟨wr.heap.size, 0, none⟩ = some (.int .i64 k) ∧ w'.cell? ⟨wr.heap.size, 1, none⟩ = some (.string u) ∧ w'.cell? ⟨wr.heap.size, 2, none⟩ = some (.string o) ∧ w'.cell? ⟨w4.heap.size, 0, none⟩ = some (.bool m1) ∧ w'.cell? ⟨w4.heap.size, 1, none⟩ = some (.bool m2) ∧ w'.cell? ⟨w4.heap.size, 2, none⟩ = some (.bool m3) ∧ w'.cell? ⟨w4.heap.size, 3, none⟩ = some (.bool m4) ∧ w'.cell? ⟨w4.heap.size, 4, none⟩ = some (.bool m5) ∧ w'.cell? ⟨v9_.heap.size, 0, none⟩ = some (.bool o1) ∧ w'.cell? ⟨v9_.heap.size, 1, none⟩ = some (.bool o2) ∧ w'.cell? ⟨v9_.heap.size, 2, none⟩ = some (.bool o3) ∧ w'.cell? ⟨v9_.heap.size, 3, none⟩ = some (.bool o4) ∧ w'.cell? ⟨v9_.heap.size, 4, none⟩ = some (.bool o5)) ordrnd 30 (by kernel_rfl) rgrnd.siz (by kernel_rfl) ⟨b0_, b1_, b2_, f0, f1, f2, f3, f4, h0, h1, h2, h3, h4⟩ (fun hHeld => ?_)
          iterate 6
            refine Held.tk (v := ?_) rgrnd rfl rfl rfl (fun _ _ _ h => h) (by assumption) (Or.inl ⟨by kernel_rfl, ?_⟩) ?_
            rotate_left
            · (intro w hSw; (try dsimp only at hSw); go_simp; (try (first | with_reducible rfl | rw [if_neg (by omega)])))
            try simp only [Act.put, List.getElem_toArray, List.getElem_cons_succ, List.getElem_cons_zero, List.setIfInBounds_toArray, List.set_cons_zero, List.set_cons_succ]
          refine Held.only (k := 6) (i := 5) (by kernel_rfl) (by kernel_rfl) rfl (by kernel_rfl) (fun K hK => ?_)
          go_simp
          go_at_call 14
          with_reducible refine (Get8_is nr c1' A1 r _ rb u o m1 m2 m3 m4 m5 HG3).mono ?_
          rintro e w7 ⟨rfl, hbx⟩
          replace Ib := Ib.below hbx
          replace b0_ := cell_below hbx b0_
          replace b1_ := cell_below hbx b1_
          replace b2_ := cell_below hbx b2_
          replace f0 := cell_below hbx f0
          replace f1 := cell_below hbx f1
          replace f2 := cell_below hbx f2
          replace f3 := cell_below hbx f3
          replace f4 := cell_below hbx f4
          replace h0 := cell_below hbx h0
          replace h1 := cell_below hbx h1
          replace h2 := cell_below hbx h2
          replace h3 := cell_below hbx h3
          replace h4 := cell_below hbx h4
          replace rb := rb.below hbx
          replace Db := below_call Db hbx
          refine hK.out _ _ (by (try dsimp only); (exact ⟨b0_, b1_, b2_, f0, f1, f2, f3, f4, h0, h1, h2, h3, h4⟩)) (fun hHeld => ?_)
          clear hK K
          try simp only [Act.put, List.getElem_toArray, List.getElem_cons_succ, List.getElem_cons_zero, List.setIfInBounds_toArray, List.set_cons_zero, List.set_cons_succ]
          iterate 8
            refine Held.tk (v := ?_) rgrnd rfl rfl rfl (fun _ _ _ h => h) (by assumption) (Or.inl ⟨by kernel_rfl, ?_⟩) ?_
            rotate_left
            · (intro w hSw; (try dsimp only at hSw); go_simp; (try (first | with_reducible rfl | rw [if_neg (by omega)])))
            try simp only [Act.put, List.getElem_toArray, List.getElem_cons_succ, List.getElem_cons_zero, List.setIfInBounds_toArray, List.set_cons_zero, List.set_cons_succ]
          refine Held.only (k := 15) (i := 14) (by kernel_rfl) (by kernel_rfl) rfl (by kernel_rfl) (fun K hK => ?_)
          go_simp
          go_at_call 14
          with_reducible refine (Get8_is nr c1' A1 r _ rb o u o1 o2 o3 o4 o5 HG4).mono ?_
          rintro e w8 ⟨rfl, hbx⟩
          replace Ib := Ib.below hbx
          replace b0_ := cell_below hbx b0_
          replace b1_ := cell_below hbx b1_
          replace b2_ := cell_below hbx b2_
          replace f0 := cell_below hbx f0
          replace f1 := cell_below hbx f1
          replace f2 := cell_below hbx f2
          replace f3 := cell_below hbx f3
          replace f4 := cell_below hbx f4
          replace h0 := cell_below hbx h0
          replace h1 := cell_below hbx h1
          replace h2 := cell_below hbx h2
          replace h3 := cell_below hbx h3
          replace h4 := cell_below hbx h4
          replace rb := rb.below hbx
          replace Db := below_call Db hbx
          refine hK.out _ _ (by (try dsimp only); (exact ⟨b0_, b1_, b2_, f0, f1, f2, f3, f4, h0, h1, h2, h3, h4⟩)) (fun hHeld => ?_)
          clear hK K
          try simp only [Act.put, List.getElem_toArray, List.getElem_cons_succ, List.getElem_cons_zero, List.setIfInBounds_toArray, List.set_cons_zero, List.set_cons_succ]
          iterate 10
            refine Held.tk (v := ?_) rgrnd rfl rfl rfl (fun _ _ _ h => h) (by assumption) (Or.inl ⟨by kernel_rfl, ?_⟩) ?_
            rotate_left
            · (intro w hSw; (try dsimp only at hSw); go_simp; (try (first | with_reducible rfl | rw [if_neg (by omega)])))
            try simp only [Act.put, List.getElem_toArray, List.getElem_cons_succ, List.getElem_cons_zero, List.setIfInBounds_toArray, List.set_cons_zero, List.set_cons_succ]
          refine Held.only (k := 26) (i := 24) (by kernel_rfl) (by kernel_rfl) rfl (by kernel_rfl) (fun K hK => ?_)
          go_simp
          go_at_call 19
          with_reducible refine (Sees8_is nr c1' A1 r _ rb u o sb HSB).mono ?_
          rintro e w9 ⟨rfl, hbx⟩
          replace Ib := Ib.below hbx
          replace b0_ := cell_below hbx b0_
          replace b1_ := cell_below hbx b1_
          replace b2_ := cell_below hbx b2_
          replace f0 := cell_below hbx f0
          replace f1 := cell_below hbx f1
          replace f2 := cell_below hbx f2
          replace f3 := cell_below hbx f3
          replace f4 := cell_below hbx f4
          replace h0 := cell_below hbx h0
          replace h1 := cell_below hbx h1
          replace h2 := cell_below hbx h2
          replace h3 := cell_below hbx h3
          replace h4 := cell_below hbx h4
          replace rb := rb.below hbx
          replace Db := below_call Db hbx
          refine hK.out _ _ (by (try dsimp only); (exact ⟨b0_, b1_, b2_, f0, f1, f2, f3, f4, h0, h1, h2, h3, h4⟩)) (fun hHeld => ?_)
          clear hK K
          try simp only [Act.put, List.getElem_toArray, List.getElem_cons_succ, List.getElem_cons_zero, List.setIfInBounds_toArray, List.set_cons_zero, List.set_cons_succ]
          refine Held.only (k := 27) (i := 27) (by kernel_rfl) (by kernel_rfl) rfl (by kernel_rfl) (fun K hK => ?_)
          go_simp
          go_at_call 27
          with_reducible refine (re_ (SeesI_calls m1 m2 m3 m4 m5 o1 o2 o3 o4 o5 _) (ret_bool HSI.out)).mono ?_
          rintro e w10 ⟨rfl, hbx⟩
          replace Ib := Ib.below hbx
          replace b0_ := cell_below hbx b0_
          replace b1_ := cell_below hbx b1_
          replace b2_ := cell_below hbx b2_
          replace f0 := cell_below hbx f0
          replace f1 := cell_below hbx f1
          replace f2 := cell_below hbx f2
          replace f3 := cell_below hbx f3
          replace f4 := cell_below hbx f4
          replace h0 := cell_below hbx h0
          replace h1 := cell_below hbx h1
          replace h2 := cell_below hbx h2
          replace h3 := cell_below hbx h3
          replace h4 := cell_below hbx h4
          replace rb := rb.below hbx
          replace Db := below_call Db hbx
          refine hK.out _ _ (by (try dsimp only); (exact ⟨b0_, b1_, b2_, f0, f1, f2, f3, f4, h0, h1, h2, h3, h4⟩)) (fun hHeld => ?_)
          clear hK K
          try simp only [Act.put, List.getElem_toArray, List.getElem_cons_succ, List.getElem_cons_zero, List.setIfInBounds_toArray, List.set_cons_zero, List.set_cons_succ]
          iterate 2
            refine Held.tk (v := ?_) rgrnd rfl rfl rfl (fun _ _ _ h => h) (by assumption) (Or.inl ⟨by kernel_rfl, ?_⟩) ?_
            rotate_left
            · (intro w hSw; (try dsimp only at hSw); go_simp; (try (first | with_reducible rfl | rw [if_neg (by omega)])))
            try simp only [Act.put, List.getElem_toArray, List.getElem_cons_succ, List.getElem_cons_zero, List.setIfInBounds_toArray, List.set_cons_zero, List.set_cons_succ]
          refine wpAnyH_done (by kernel_rfl) ?_ _
          clear b0_ b1_ b2_ f0 f1 f2 f3 f4 h0 h1 h2 h3 h4
          go_wp2
          exact ⟨⟨i + 1, r, A1, nr, c1', cnt + 1 + 1, rfl, by go_num, by omega, HRM, hzr2, hrl, rb, Ib, by omega, Db⟩, by simp [intOf]; omega⟩
      · go_simp
        clear q0 q1 q2 qz M9 I9
        have hg10 : w4.heap.size ≤ w4.heap.size := D4.size
        replace D4 : Below w4.heap.size w4 (w4.alloc (bxIt false false false false false)).drew := below_alloc0 D4 (bxIt false false false false false)
        have Y10 : (w4.alloc (bxIt false false false false false)).drew.heap[w4.heap.size]? = some (bxIt false false false false false) := heap_alloc_new _ _
        have M9 := hcall MM D4
        obtain ⟨q0, q1, q2, qz⟩ := cellsMv k u o M9
        have I9 := IM.below D4
        refine hK.out _ _ (by (try dsimp only); (exact ⟨q0, q1, q2, I9⟩)) (fun hHeld => ?_)
        clear hK K
        try simp only [Act.put, List.getElem_toArray, List.getElem_cons_succ, List.getElem_cons_zero, List.setIfInBounds_toArray, List.set_cons_zero, List.set_cons_succ]
        refine Held.hideW (fun v => Below w4.heap.size w4 v ∧ v.heap[w4.heap.size]? = some (bxIt false false false false false)) ⟨D4, Y10⟩ hHeld ?_
        clear hHeld q0 q1 q2 qz M9 I9 D4 Y10
        rintro v16_ ⟨D4, Y10⟩ hHeld
        have M9 := hcall MM D4
        obtain ⟨q0, q1, q2, qz⟩ := cellsMv k u o M9
        have I9 := IM.below D4
        refine Held.two (o := ordrm2) (o1 := ordrm2) (o2 := ordrm5) (k := 17) (i := 16) (j := 21) (by kernel_rfl) (by kernel_rfl) (by kernel_rfl) rfl rfl (by kernel_rfl) (by kernel_rfl) (fun K hK => ?_) (fun K hK => ?_)
        · go_simp
          go_at_call 26
          with_reducible refine (HACT.out _).mono ?_
          rintro e w5 ⟨rfl, b5⟩
          clear q0 q1 q2 qz M9 I9
          replace D4 := below_call D4 b5
          replace Y10 := hcall Y10 b5
          clear b5
          have M9 := hcall MM D4
          obtain ⟨q0, q1, q2, qz⟩ := cellsMv k u o M9
          have I9 := IM.below D4
          refine hK.out _ _ (by (try dsimp only); (exact ⟨q0, q1, q2, I9⟩)) (fun hHeld => ?_)
          clear hK K
          try simp only [Act.put, List.getElem_toArray, List.getElem_cons_succ, List.getElem_cons_zero, List.setIfInBounds_toArray, List.set_cons_zero, List.set_cons_succ]
          refine Held.take (k := 18) (i := 17) (v := ?vrm33) nosrm okrm_29 sizrm (by kernel_rfl) rfl (fun _ _ _ h => h) (Or.inl ⟨by kernel_rfl, ?hyrm33⟩) (by assumption) ?restrm33
          case hyrm33 => (intro w hSw; (try dsimp only at hSw); go_simp; (try (first | with_reducible rfl | rw [if_neg (by omega)])))
          try simp only [Act.put, List.getElem_toArray, List.getElem_cons_succ, List.getElem_cons_zero, List.setIfInBounds_toArray, List.set_cons_zero, List.set_cons_succ]
          refine Held.take (k := 19) (i := 18) (v := ?vrm34) nosrm okrm_30 sizrm (by kernel_rfl) rfl (fun _ _ _ h => h) (Or.inl ⟨by kernel_rfl, ?hyrm34⟩) (by assumption) ?restrm34
          case hyrm34 => (intro w hSw; (try dsimp only at hSw); go_simp; (try (first | with_reducible rfl | rw [if_neg (by omega)])))
          try simp only [Act.put, List.getElem_toArray, List.getElem_cons_succ, List.getElem_cons_zero, List.setIfInBounds_toArray, List.set_cons_zero, List.set_cons_succ]
          refine Held.take (k := 20) (i := 19) (v := ?vrm35) nosrm okrm_31 sizrm (by kernel_rfl) rfl (fun _ _ _ h => h) (Or.inl ⟨by kernel_rfl, ?hyrm35⟩) (by assumption) ?restrm35
          case hyrm35 => (intro w hSw; (try dsimp only at hSw); go_simp; (try (first | with_reducible rfl | rw [if_neg (by omega)])))
          try simp only [Act.put, List.getElem_toArray, List.getElem_cons_succ, List.getElem_cons_zero, List.setIfInBounds_toArray, List.set_cons_zero, List.set_cons_succ]
          refine Held.take (k := 21) (i := 20) (v := ?vrm36) nosrm okrm_32 sizrm (by kernel_rfl) rfl (fun _ _ _ h => h) (Or.inl ⟨by kernel_rfl, ?hyrm36⟩) (by assumption) ?restrm36
          case hyrm36 => (intro w hSw; (try dsimp only at hSw); go_simp; (try (first | with_reducible rfl | rw [if_neg (by omega)])))
          try simp only [Act.put, List.getElem_toArray, List.getElem_cons_succ, List.getElem_cons_zero, List.setIfInBounds_toArray, List.set_cons_zero, List.set_cons_succ]
          refine Held.only (k := 22) (i := 21) (show Region.ready .any opsrm (Held.lst 26 ordrm2 22) = [21] by kernel_rfl) (by kernel_rfl) rfl (by kernel_rfl) (fun K hK => ?_)
          go_simp
          clear q0 q1 q2 qz M9 I9
          have hg9 : w4.heap.size ≤ w5.heap.size := D4.size
          have hlt10 : w4.heap.size < w5.heap.size := (Array.getElem?_eq_some_iff.1 Y10).1
          replace D4 : Below w4.heap.size w4 (w5.alloc (bxIt false false false false false)) := below_alloc0 D4 (bxIt false false false false false)
          replace Y10 : (w5.alloc (bxIt false false false false false)).heap[w4.heap.size]? = some (bxIt false false false false false) := halloc Y10 (bxIt false false false false false)
          have Y9 : (w5.alloc (bxIt false false false false false)).heap[w5.heap.size]? = some (bxIt false false false false false) := heap_alloc_new _ _
          have M9 := hcall MM D4
          obtain ⟨q0, q1, q2, qz⟩ := cellsMv k u o M9
          have I9 := IM.below D4
          refine hK.out _ _ (by (try dsimp only); (exact ⟨q0, q1, q2, I9⟩)) (fun hHeld => ?_)
          clear hK K
          try simp only [Act.put, List.getElem_toArray, List.getElem_cons_succ, List.getElem_cons_zero, List.setIfInBounds_toArray, List.set_cons_zero, List.set_cons_succ]
          refine Held.hideW (fun v => Below w4.heap.size w4 v ∧ v.heap[w4.heap.size]? = some (bxIt false false false false false) ∧ v.heap[w5.heap.size]? = some (bxIt false false false false false)) ⟨D4, Y10, Y9⟩ hHeld ?_
          clear hHeld q0 q1 q2 qz M9 I9 D4 Y10 Y9
          rintro v17_ ⟨D4, Y10, Y9⟩ hHeld
          have M9 := hcall MM D4
          obtain ⟨q0, q1, q2, qz⟩ := cellsMv k u o M9
          have I9 := IM.below D4
          refine Held.only (k := 23) (i := 23) (show Region.ready .any opsrm (Held.lst 26 ordrm2 23) = [23] by kernel_rfl) (by kernel_rfl) rfl (by kernel_rfl) (fun K hK => ?_)
          obtain ⟨⟨_, _, _, _, _⟩, ⟨_, _, _, _, _⟩, _⟩ := iopen5 Y9
          go_simp
          clear q0 q1 q2 qz M9 I9
          replace D4 : Below w4.heap.size w4 (put5 v17_ (w5.heap.size) m1 m2 m3 m4 m5) := put5_below D4 (w5.heap.size) hg9 m1 m2 m3 m4 m5
          replace Y10 : (put5 v17_ (w5.heap.size) m1 m2 m3 m4 m5).heap[w4.heap.size]? = some (bxIt false false false false false) := (put5_ne (w := v17_) (g := w5.heap.size) (k := w4.heap.size) m1 m2 m3 m4 m5 (Nat.ne_of_lt hlt10)).trans Y10
          replace Y9 : (put5 v17_ (w5.heap.size) m1 m2 m3 m4 m5).heap[w5.heap.size]? = some (bxIt m1 m2 m3 m4 m5) := put5_at m1 m2 m3 m4 m5 Y9
          have M9 := hcall MM D4
          obtain ⟨q0, q1, q2, qz⟩ := cellsMv k u o M9
          have I9 := IM.below D4
          refine hK.out _ _ (by (try dsimp only); (exact ⟨q0, q1, q2, I9⟩)) (fun hHeld => ?_)
          clear hK K
          try simp only [Act.put, List.getElem_toArray, List.getElem_cons_succ, List.getElem_cons_zero, List.setIfInBounds_toArray, List.set_cons_zero, List.set_cons_succ]
          refine Held.hideW (fun v => Below w4.heap.size w4 v ∧ v.heap[w4.heap.size]? = some (bxIt false false false false false) ∧ v.heap[w5.heap.size]? = some (bxIt m1 m2 m3 m4 m5)) ⟨D4, Y10, Y9⟩ hHeld ?_
          clear hHeld q0 q1 q2 qz M9 I9 D4 Y10 Y9
          rintro v18_ ⟨D4, Y10, Y9⟩ hHeld
          have M9 := hcall MM D4
          obtain ⟨q0, q1, q2, qz⟩ := cellsMv k u o M9
          have I9 := IM.below D4
          refine Held.only (k := 24) (i := 24) (show Region.ready .any opsrm (Held.lst 26 ordrm2 24) = [24] by kernel_rfl) (by kernel_rfl) rfl (by kernel_rfl) (fun K hK => ?_)
          obtain ⟨⟨_, _, _, _, _⟩, ⟨_, _, _, _, _⟩, _⟩ := iopen5 Y10
          go_simp
          clear q0 q1 q2 qz M9 I9
          replace D4 : Below w4.heap.size w4 (put5 v18_ (w4.heap.size) o1 o2 o3 o4 o5) := put5_below D4 (w4.heap.size) hg10 o1 o2 o3 o4 o5
          replace Y9 : (put5 v18_ (w4.heap.size) o1 o2 o3 o4 o5).heap[w5.heap.size]? = some (bxIt m1 m2 m3 m4 m5) := (put5_ne (w := v18_) (g := w4.heap.size) (k := w5.heap.size) o1 o2 o3 o4 o5 (Nat.ne_of_gt hlt10)).trans Y9
          replace Y10 : (put5 v18_ (w4.heap.size) o1 o2 o3 o4 o5).heap[w4.heap.size]? = some (bxIt o1 o2 o3 o4 o5) := put5_at o1 o2 o3 o4 o5 Y10
          have M9 := hcall MM D4
          obtain ⟨q0, q1, q2, qz⟩ := cellsMv k u o M9
          have I9 := IM.below D4
          refine hK.out _ _ (by (try dsimp only); (exact ⟨q0, q1, q2, I9⟩)) (fun hHeld => ?_)
          clear hK K
          try simp only [Act.put, List.getElem_toArray, List.getElem_cons_succ, List.getElem_cons_zero, List.setIfInBounds_toArray, List.set_cons_zero, List.set_cons_succ]
          refine Held.hideW (fun v => Below w4.heap.size w4 v ∧ v.heap[w4.heap.size]? = some (bxIt o1 o2 o3 o4 o5) ∧ v.heap[w5.heap.size]? = some (bxIt m1 m2 m3 m4 m5)) ⟨D4, Y10, Y9⟩ hHeld ?_
          clear hHeld q0 q1 q2 qz M9 I9 D4 Y10 Y9
          rintro v19_ ⟨D4, Y10, Y9⟩ hHeld
          have M9 := hcall MM D4
          obtain ⟨q0, q1, q2, qz⟩ := cellsMv k u o M9
          have I9 := IM.below D4
          refine Held.take (k := 25) (i := 25) (v := ?vrm37) nosrm (show Held.okAt opsrm ordrm2 25 = true by kernel_rfl) sizrm (by kernel_rfl) rfl (fun _ _ _ h => h) (Or.inl ⟨by kernel_rfl, ?hyrm37⟩) (by assumption) ?restrm37
          case hyrm37 => (intro w hSw; (try dsimp only at hSw); go_simp; (try (first | with_reducible rfl | rw [if_neg (by omega)])))
          try simp only [Act.put, List.getElem_toArray, List.getElem_cons_succ, List.getElem_cons_zero, List.setIfInBounds_toArray, List.set_cons_zero, List.set_cons_succ]
          refine wpAnyH_done (by kernel_rfl) ?_ _
          have D9 := below_call D D4
          have r9 := r1.below D4
          clear q0 q1 q2 qz
          obtain ⟨⟨y90, y91, y92, y93, y94⟩, -, y9z⟩ := iopen5 Y9
          obtain ⟨⟨y100, y101, y102, y103, y104⟩, -, y10z⟩ := iopen5 Y10
          clear D4
          go_wp2_with fail
          with_reducible refine (May8_is nr c1' A1 r _ r9 true hzr2 hnr1 HRM).mono ?_
          rintro e w6 ⟨rfl, b6⟩
          replace r9 := r9.below b6
          replace M9 := hcall M9 b6
          replace Y9 := hcall Y9 b6
          replace Y10 := hcall Y10 b6
          replace I9 := I9.below b6
          replace D9 := below_call D9 b6
          clear b6 y90 y91 y92 y93 y94 y9z y100 y101 y102 y103 y104 y10z
          obtain ⟨q0, q1, q2, qz⟩ := cellsMv k u o M9
          obtain ⟨⟨y90, y91, y92, y93, y94⟩, -, y9z⟩ := iopen5 Y9
          obtain ⟨⟨y100, y101, y102, y103, y104⟩, -, y10z⟩ := iopen5 Y10
          obtain ⟨wa, hra, Ia, hGa⟩ := I9.put u o ⟨m1, m2, m3, m4, m5⟩ hum hom (by omega)
          have Ya := hgrow hGa (by omega) Y10
          have Ma := hgrow hGa (by omega) M9
          have Y9a := hgrow hGa (by omega) Y9
          obtain ⟨⟨a0, a1, a2, a3, a4⟩, -, az⟩ := iopen5 Ya
          obtain ⟨p0, p1, p2, pz⟩ := cellsMv k u o Ma
          have ra := r9.grownM I9 hGa
          have Da := below_map D9 hGa
          obtain ⟨wb, hrb, Ib, hGb⟩ := Ia.put o u ⟨o1, o2, o3, o4, o5⟩ hom hum (by omega)
          rw [HUP.out] at Ib
          have Yb := hgrow hGb (by omega) Ya
          have Mb := hgrow hGb (by omega) Ma
          have Y9b := hgrow hGb (by omega) Y9a
          have rb := ra.grownM Ia hGb
          have Db := below_map Da hGb
          clear hGa hGb Ia I9 Y9 Y10 M9 r9 D9
          obtain ⟨b0_, b1_, b2_, bz_⟩ := cellsMv k u o Mb
          obtain ⟨⟨f0, f1, f2, f3, f4⟩, -, fz⟩ := iopen5 Y9b
          obtain ⟨⟨h0, h1, h2, h3, h4⟩, -, hz_⟩ := iopen5 Yb
          go_wp2_with fail
          replace Ib : ItMap wb.drew _ _ _ := Ib
          clear bz_ fz hz_ Mb Y9b Yb
          replace rb : Row _ _ wb.drew _ _ := rb
          replace Db : Below _ _ wb.drew := Db.drew
          go_wp2_with fail
          refine Held.start (ops := opsrne) (S := fun w' => w'.cell? ⟨wr.heap.size, 0, none⟩ = some (.int .i64 k) ∧ w'.cell? ⟨wr.heap.size, 1, none⟩ = some (.string u) ∧ w'.cell? ⟨wr.heap.size, 2, none⟩ = some (.string o) ∧ w'.cell? ⟨w5.heap.size, 0, none⟩ = some (.bool m1) ∧ w'.cell? ⟨w5.heap.size, 1, none⟩ = some (.bool m2) ∧ w'.cell? ⟨w5.heap.size, 2, none⟩ = some (.bool m3) ∧ w'.cell? ⟨w5.heap.size, 3, none⟩ = some (.bool m4) ∧ w'.cell? ⟨w5.heap.size, 4, none⟩ = some (.bool m5) ∧ w'.cell? ⟨w4.heap.size, 0, none⟩ = some (.bool o1) ∧ w'.cell? ⟨w4.heap.size, 1, none⟩ = some (.bool o2) ∧ w'.cell? ⟨w4.heap.size, 2, none⟩ = some (.bool o3) ∧ w'.cell? ⟨w4.heap.size, 3, none⟩ = some (.bool o4) ∧ w'.cell? ⟨w4.heap.size, 4, none⟩ = some (.bool o5)) ordrne 30 (by kernel_rfl) rgrne.siz (by kernel_rfl) ⟨b0_, b1_, b2_, f0, f1, f2, f3, f4, h0, h1, h2, h3, h4⟩ (fun hHeld => ?_)
          iterate 6
            refine Held.tk (v := ?_) rgrne rfl rfl rfl (fun _ _ _ h => h) (by assumption) (Or.inl ⟨by kernel_rfl, ?_⟩) ?_
            rotate_left
            · (intro w hSw; (try dsimp only at hSw); go_simp; (try (first | with_reducible rfl | rw [if_neg (by omega)])))
            try simp only [Act.put, List.getElem_toArray, List.getElem_cons_succ, List.getElem_cons_zero, List.setIfInBounds_toArray, List.set_cons_zero, List.set_cons_succ]
          refine Held.only (k := 6) (i := 5) (by kernel_rfl) (by kernel_rfl) rfl (by kernel_rfl) (fun K hK => ?_)
          go_simp
          go_at_call 14
          with_reducible refine (Get8_is nr c1' A1 r _ rb u o m1 m2 m3 m4 m5 HG3).mono ?_
          rintro e w7 ⟨rfl, hbx⟩
          replace Ib := Ib.below hbx
          replace b0_ := cell_below hbx b0_
          replace b1_ := cell_below hbx b1_
          replace b2_ := cell_below hbx b2_
          replace f0 := cell_below hbx f0
          replace f1 := cell_below hbx f1
          replace f2 := cell_below hbx f2
          replace f3 := cell_below hbx f3
          replace f4 := cell_below hbx f4
          replace h0 := cell_below hbx h0
          replace h1 := cell_below hbx h1
          replace h2 := cell_below hbx h2
          replace h3 := cell_below hbx h3
          replace h4 := cell_below hbx h4
          replace rb := rb.below hbx
          replace Db := below_call Db hbx
          refine hK.out _ _ (by (try dsimp only); (exact ⟨b0_, b1_, b2_, f0, f1, f2, f3, f4, h0, h1, h2, h3, h4⟩)) (fun hHeld => ?_)
          clear hK K
          try simp only [Act.put, List.getElem_toArray, List.getElem_cons_succ, List.getElem_cons_zero, List.setIfInBounds_toArray, List.set_cons_zero, List.set_cons_succ]
          iterate 8
            refine Held.tk (v := ?_) rgrne rfl rfl rfl (fun _ _ _ h => h) (by assumption) (Or.inl ⟨by kernel_rfl, ?_⟩) ?_
            rotate_left
            · (intro w hSw; (try dsimp only at hSw); go_simp; (try (first | with_reducible rfl | rw [if_neg (by omega)])))
            try simp only [Act.put, List.getElem_toArray, List.getElem_cons_succ, List.getElem_cons_zero, List.setIfInBounds_toArray, List.set_cons_zero, List.set_cons_succ]
          refine Held.only (k := 15) (i := 14) (by kernel_rfl) (by kernel_rfl) rfl (by kernel_rfl) (fun K hK => ?_)
          go_simp
          go_at_call 14
          with_reducible refine (Get8_is nr c1' A1 r _ rb o u o1 o2 o3 o4 o5 HG4).mono ?_
          rintro e w8 ⟨rfl, hbx⟩
          replace Ib := Ib.below hbx
          replace b0_ := cell_below hbx b0_
          replace b1_ := cell_below hbx b1_
          replace b2_ := cell_below hbx b2_
          replace f0 := cell_below hbx f0
          replace f1 := cell_below hbx f1
          replace f2 := cell_below hbx f2
          replace f3 := cell_below hbx f3
          replace f4 := cell_below hbx f4
          replace h0 := cell_below hbx h0
          replace h1 := cell_below hbx h1
          replace h2 := cell_below hbx h2
          replace h3 := cell_below hbx h3
          replace h4 := cell_below hbx h4
          replace rb := rb.below hbx
          replace Db := below_call Db hbx
          refine hK.out _ _ (by (try dsimp only); (exact ⟨b0_, b1_, b2_, f0, f1, f2, f3, f4, h0, h1, h2, h3, h4⟩)) (fun hHeld => ?_)
          clear hK K
          try simp only [Act.put, List.getElem_toArray, List.getElem_cons_succ, List.getElem_cons_zero, List.setIfInBounds_toArray, List.set_cons_zero, List.set_cons_succ]
          iterate 10
            refine Held.tk (v := ?_) rgrne rfl rfl rfl (fun _ _ _ h => h) (by assumption) (Or.inl ⟨by kernel_rfl, ?_⟩) ?_
            rotate_left
            · (intro w hSw; (try dsimp only at hSw); go_simp; (try (first | with_reducible rfl | rw [if_neg (by omega)])))
            try simp only [Act.put, List.getElem_toArray, List.getElem_cons_succ, List.getElem_cons_zero, List.setIfInBounds_toArray, List.set_cons_zero, List.set_cons_succ]
          refine Held.only (k := 26) (i := 24) (by kernel_rfl) (by kernel_rfl) rfl (by kernel_rfl) (fun K hK => ?_)
          go_simp
          go_at_call 19
          with_reducible refine (Sees8_is nr c1' A1 r _ rb u o sb HSB).mono ?_
          rintro e w9 ⟨rfl, hbx⟩
          replace Ib := Ib.below hbx
          replace b0_ := cell_below hbx b0_
          replace b1_ := cell_below hbx b1_
          replace b2_ := cell_below hbx b2_
          replace f0 := cell_below hbx f0
          replace f1 := cell_below hbx f1
          replace f2 := cell_below hbx f2
          replace f3 := cell_below hbx f3
          replace f4 := cell_below hbx f4
          replace h0 := cell_below hbx h0
          replace h1 := cell_below hbx h1
          replace h2 := cell_below hbx h2
          replace h3 := cell_below hbx h3
          replace h4 := cell_below hbx h4
          replace rb := rb.below hbx
          replace Db := below_call Db hbx
          refine hK.out _ _ (by (try dsimp only); (exact ⟨b0_, b1_, b2_, f0, f1, f2, f3, f4, h0, h1, h2, h3, h4⟩)) (fun hHeld => ?_)
          clear hK K
          try simp only [Act.put, List.getElem_toArray, List.getElem_cons_succ, List.getElem_cons_zero, List.setIfInBounds_toArray, List.set_cons_zero, List.set_cons_succ]
          refine Held.only (k := 27) (i := 27) (by kernel_rfl) (by kernel_rfl) rfl (by kernel_rfl) (fun K hK => ?_)
          go_simp
          go_at_call 27
          with_reducible refine (re_ (SeesI_calls m1 m2 m3 m4 m5 o1 o2 o3 o4 o5 _) (ret_bool HSI.out)).mono ?_
          rintro e w10 ⟨rfl, hbx⟩
          replace Ib := Ib.below hbx
          replace b0_ := cell_below hbx b0_
          replace b1_ := cell_below hbx b1_
          replace b2_ := cell_below hbx b2_
          replace f0 := cell_below hbx f0
          replace f1 := cell_below hbx f1
          replace f2 := cell_below hbx f2
          replace f3 := cell_below hbx f3
          replace f4 := cell_below hbx f4
          replace h0 := cell_below hbx h0
          replace h1 := cell_below hbx h1
          replace h2 := cell_below hbx h2
          replace h3 := cell_below hbx h3
          replace h4 := cell_below hbx h4
          replace rb := rb.below hbx
          replace Db := below_call Db hbx
          refine hK.out _ _ (by (try dsimp only); (exact ⟨b0_, b1_, b2_, f0, f1, f2, f3, f4, h0, h1, h2, h3, h4⟩)) (fun hHeld => ?_)
          clear hK K
          try simp only [Act.put, List.getElem_toArray, List.getElem_cons_succ, List.getElem_cons_zero, List.setIfInBounds_toArray, List.set_cons_zero, List.set_cons_succ]
          iterate 2
            refine Held.tk (v := ?_) rgrne rfl rfl rfl (fun _ _ _ h => h) (by assumption) (Or.inl ⟨by kernel_rfl, ?_⟩) ?_
            rotate_left
            · (intro w hSw; (try dsimp only at hSw); go_simp; (try (first | with_reducible rfl | rw [if_neg (by omega)])))
            try simp only [Act.put, List.getElem_toArray, List.getElem_cons_succ, List.getElem_cons_zero, List.setIfInBounds_toArray, List.set_cons_zero, List.set_cons_succ]
          refine wpAnyH_done (by kernel_rfl) ?_ _
          clear b0_ b1_ b2_ f0 f1 f2 f3 f4 h0 h1 h2 h3 h4
          go_wp2
          exact ⟨⟨i + 1, r, A1, nr, c1', cnt + 1 + 1, rfl, by go_num, by omega, HRM, hzr2, hrl, rb, Ib, by omega, Db⟩, by simp [intOf]; omega⟩
        · go_simp
          clear q0 q1 q2 qz M9 I9
          have hg9 : w4.heap.size ≤ v16_.heap.size := D4.size
          have hlt10 : w4.heap.size < v16_.heap.size := (Array.getElem?_eq_some_iff.1 Y10).1
          replace D4 : Below w4.heap.size w4 (v16_.alloc (bxIt false false false false false)) := below_alloc0 D4 (bxIt false false false false false)
          replace Y10 : (v16_.alloc (bxIt false false false false false)).heap[w4.heap.size]? = some (bxIt false false false false false) := halloc Y10 (bxIt false false false false false)
          have Y9 : (v16_.alloc (bxIt false false false false false)).heap[v16_.heap.size]? = some (bxIt false false false false false) := heap_alloc_new _ _
          have M9 := hcall MM D4
          obtain ⟨q0, q1, q2, qz⟩ := cellsMv k u o M9
          have I9 := IM.below D4
          refine hK.out _ _ (by (try dsimp only); (exact ⟨q0, q1, q2, I9⟩)) (fun hHeld => ?_)
          clear hK K
          try simp only [Act.put, List.getElem_toArray, List.getElem_cons_succ, List.getElem_cons_zero, List.setIfInBounds_toArray, List.set_cons_zero, List.set_cons_succ]
          refine Held.hideW (fun v => Below w4.heap.size w4 v ∧ v.heap[w4.heap.size]? = some (bxIt false false false false false) ∧ v.heap[v16_.heap.size]? = some (bxIt false false false false false)) ⟨D4, Y10, Y9⟩ hHeld ?_
          clear hHeld q0 q1 q2 qz M9 I9 D4 Y10 Y9
          rintro v20_ ⟨D4, Y10, Y9⟩ hHeld
          have M9 := hcall MM D4
          obtain ⟨q0, q1, q2, qz⟩ := cellsMv k u o M9
          have I9 := IM.below D4
          refine Held.only (k := 18) (i := 16) (show Region.ready .any opsrm (Held.lst 26 ordrm5 18) = [16] by kernel_rfl) (by kernel_rfl) rfl (by kernel_rfl) (fun K hK => ?_)
          go_simp
          go_at_call 26
          with_reducible refine (HACT.out _).mono ?_
          rintro e w5 ⟨rfl, b5⟩
          clear q0 q1 q2 qz M9 I9
          replace D4 := below_call D4 b5
          replace Y10 := hcall Y10 b5
          replace Y9 := hcall Y9 b5
          clear b5
          have M9 := hcall MM D4
          obtain ⟨q0, q1, q2, qz⟩ := cellsMv k u o M9
          have I9 := IM.below D4
          refine hK.out _ _ (by (try dsimp only); (exact ⟨q0, q1, q2, I9⟩)) (fun hHeld => ?_)
          clear hK K
          try simp only [Act.put, List.getElem_toArray, List.getElem_cons_succ, List.getElem_cons_zero, List.setIfInBounds_toArray, List.set_cons_zero, List.set_cons_succ]
          refine Held.take (k := 19) (i := 17) (v := ?vrm38) nosrm (show Held.okAt opsrm ordrm5 19 = true by kernel_rfl) sizrm (by kernel_rfl) rfl (fun _ _ _ h => h) (Or.inl ⟨by kernel_rfl, ?hyrm38⟩) (by assumption) ?restrm38
          case hyrm38 => (intro w hSw; (try dsimp only at hSw); go_simp; (try (first | with_reducible rfl | rw [if_neg (by omega)])))
          try simp only [Act.put, List.getElem_toArray, List.getElem_cons_succ, List.getElem_cons_zero, List.setIfInBounds_toArray, List.set_cons_zero, List.set_cons_succ]
          refine Held.take (k := 20) (i := 18) (v := ?vrm39) nosrm (show Held.okAt opsrm ordrm5 20 = true by kernel_rfl) sizrm (by kernel_rfl) rfl (fun _ _ _ h => h) (Or.inl ⟨by kernel_rfl, ?hyrm39⟩) (by assumption) ?restrm39
          case hyrm39 => (intro w hSw; (try dsimp only at hSw); go_simp; (try (first | with_reducible rfl | rw [if_neg (by omega)])))
          try simp only [Act.put, List.getElem_toArray, List.getElem_cons_succ, List.getElem_cons_zero, List.setIfInBounds_toArray, List.set_cons_zero, List.set_cons_succ]
          refine Held.take (k := 21) (i := 19) (v := ?vrm40) nosrm (show Held.okAt opsrm ordrm5 21 = true by kernel_rfl) sizrm (by kernel_rfl) rfl (fun _ _ _ h => h) (Or.inl ⟨by kernel_rfl, ?hyrm40⟩) (by assumption) ?restrm40
          case hyrm40 => (intro w hSw; (try dsimp only at hSw); go_simp; (try (first | with_reducible rfl | rw [if_neg (by omega)])))
          try simp only [Act.put, List.getElem_toArray, List.getElem_cons_succ, List.getElem_cons_zero, List.setIfInBounds_toArray, List.set_cons_zero, List.set_cons_succ]
          refine Held.take (k := 22) (i := 20) (v := ?vrm41) nosrm (show Held.okAt opsrm ordrm5 22 = true by kernel_rfl) sizrm (by kernel_rfl) rfl (fun _ _ _ h => h) (Or.inl ⟨by kernel_rfl, ?hyrm41⟩) (by assumption) ?restrm41
          case hyrm41 => (intro w hSw; (try dsimp only at hSw); go_simp; (try (first | with_reducible rfl | rw [if_neg (by omega)])))
          try simp only [Act.put, List.getElem_toArray, List.getElem_cons_succ, List.getElem_cons_zero, List.setIfInBounds_toArray, List.set_cons_zero, List.set_cons_succ]
          refine Held.only (k := 23) (i := 23) (show Region.ready .any opsrm (Held.lst 26 ordrm5 23) = [23] by kernel_rfl) (by kernel_rfl) rfl (by kernel_rfl) (fun K hK => ?_)
          obtain ⟨⟨_, _, _, _, _⟩, ⟨_, _, _, _, _⟩, _⟩ := iopen5 Y9
          go_simp
          clear q0 q1 q2 qz M9 I9
          replace D4 : Below w4.heap.size w4 (put5 w5 (v16_.heap.size) m1 m2 m3 m4 m5) := put5_below D4 (v16_.heap.size) hg9 m1 m2 m3 m4 m5
          replace Y10 : (put5 w5 (v16_.heap.size) m1 m2 m3 m4 m5).heap[w4.heap.size]? = some (bxIt false false false false false) := (put5_ne (w := w5) (g := v16_.heap.size) (k := w4.heap.size) m1 m2 m3 m4 m5 (Nat.ne_of_lt hlt10)).trans Y10
          replace Y9 : (put5 w5 (v16_.heap.size) m1 m2 m3 m4 m5).heap[v16_.heap.size]? = some (bxIt m1 m2 m3 m4 m5) := put5_at m1 m2 m3 m4 m5 Y9
          have M9 := hcall MM D4
          obtain ⟨q0, q1, q2, qz⟩ := cellsMv k u o M9
          have I9 := IM.below D4
          refine hK.out _ _ (by (try dsimp only); (exact ⟨q0, q1, q2, I9⟩)) (fun hHeld => ?_)
          clear hK K
          try simp only [Act.put, List.getElem_toArray, List.getElem_cons_succ, List.getElem_cons_zero, List.setIfInBounds_toArray, List.set_cons_zero, List.set_cons_succ]
          refine Held.hideW (fun v => Below w4.heap.size w4 v ∧ v.heap[w4.heap.size]? = some (bxIt false false false false false) ∧ v.heap[v16_.heap.size]? = some (bxIt m1 m2 m3 m4 m5)) ⟨D4, Y10, Y9⟩ hHeld ?_
          clear hHeld q0 q1 q2 qz M9 I9 D4 Y10 Y9
          rintro v21_ ⟨D4, Y10, Y9⟩ hHeld
          have M9 := hcall MM D4
          obtain ⟨q0, q1, q2, qz⟩ := cellsMv k u o M9
          have I9 := IM.below D4
          refine Held.only (k := 24) (i := 24) (show Region.ready .any opsrm (Held.lst 26 ordrm5 24) = [24] by kernel_rfl) (by kernel_rfl) rfl (by kernel_rfl) (fun K hK => ?_)
          obtain ⟨⟨_, _, _, _, _⟩, ⟨_, _, _, _, _⟩, _⟩ := iopen5 Y10
          go_simp
          clear q0 q1 q2 qz M9 I9
          replace D4 : Below w4.heap.size w4 (put5 v21_ (w4.heap.size) o1 o2 o3 o4 o5) := put5_below D4 (w4.heap.size) hg10 o1 o2 o3 o4 o5
          replace Y9 : (put5 v21_ (w4.heap.size) o1 o2 o3 o4 o5).heap[v16_.heap.size]? = some (bxIt m1 m2 m3 m4 m5) := (put5_ne (w := v21_) (g := w4.heap.size) (k := v16_.heap.size) o1 o2 o3 o4 o5 (Nat.ne_of_gt hlt10)).trans Y9
          replace Y10 : (put5 v21_ (w4.heap.size) o1 o2 o3 o4 o5).heap[w4.heap.size]? = some (bxIt o1 o2 o3 o4 o5) := put5_at o1 o2 o3 o4 o5 Y10
          have M9 := hcall MM D4
          obtain ⟨q0, q1, q2, qz⟩ := cellsMv k u o M9
          have I9 := IM.below D4
          refine hK.out _ _ (by (try dsimp only); (exact ⟨q0, q1, q2, I9⟩)) (fun hHeld => ?_)
          clear hK K
          try simp only [Act.put, List.getElem_toArray, List.getElem_cons_succ, List.getElem_cons_zero, List.setIfInBounds_toArray, List.set_cons_zero, List.set_cons_succ]
          refine Held.hideW (fun v => Below w4.heap.size w4 v ∧ v.heap[w4.heap.size]? = some (bxIt o1 o2 o3 o4 o5) ∧ v.heap[v16_.heap.size]? = some (bxIt m1 m2 m3 m4 m5)) ⟨D4, Y10, Y9⟩ hHeld ?_
          clear hHeld q0 q1 q2 qz M9 I9 D4 Y10 Y9
          rintro v22_ ⟨D4, Y10, Y9⟩ hHeld
          have M9 := hcall MM D4
          obtain ⟨q0, q1, q2, qz⟩ := cellsMv k u o M9
          have I9 := IM.below D4
          refine Held.take (k := 25) (i := 25) (v := ?vrm42) nosrm (show Held.okAt opsrm ordrm5 25 = true by kernel_rfl) sizrm (by kernel_rfl) rfl (fun _ _ _ h => h) (Or.inl ⟨by kernel_rfl, ?hyrm42⟩) (by assumption) ?restrm42
          case hyrm42 => (intro w hSw; (try dsimp only at hSw); go_simp; (try (first | with_reducible rfl | rw [if_neg (by omega)])))
          try simp only [Act.put, List.getElem_toArray, List.getElem_cons_succ, List.getElem_cons_zero, List.setIfInBounds_toArray, List.set_cons_zero, List.set_cons_succ]
          refine wpAnyH_done (by kernel_rfl) ?_ _
          have D9 := below_call D D4
          have r9 := r1.below D4
          clear q0 q1 q2 qz
          obtain ⟨⟨y90, y91, y92, y93, y94⟩, -, y9z⟩ := iopen5 Y9
          obtain ⟨⟨y100, y101, y102, y103, y104⟩, -, y10z⟩ := iopen5 Y10
          clear D4
          go_wp2_with fail
          with_reducible refine (May8_is nr c1' A1 r _ r9 true hzr2 hnr1 HRM).mono ?_
          rintro e w6 ⟨rfl, b6⟩
          replace r9 := r9.below b6
          replace M9 := hcall M9 b6
          replace Y9 := hcall Y9 b6
          replace Y10 := hcall Y10 b6
          replace I9 := I9.below b6
          replace D9 := below_call D9 b6
          clear b6 y90 y91 y92 y93 y94 y9z y100 y101 y102 y103 y104 y10z
          obtain ⟨q0, q1, q2, qz⟩ := cellsMv k u o M9
          obtain ⟨⟨y90, y91, y92, y93, y94⟩, -, y9z⟩ := iopen5 Y9
          obtain ⟨⟨y100, y101, y102, y103, y104⟩, -, y10z⟩ := iopen5 Y10
          obtain ⟨wa, hra, Ia, hGa⟩ := I9.put u o ⟨m1, m2, m3, m4, m5⟩ hum hom (by omega)
          have Ya := hgrow hGa (by omega) Y10
          have Ma := hgrow hGa (by omega) M9
          have Y9a := hgrow hGa (by omega) Y9
          obtain ⟨⟨a0, a1, a2, a3, a4⟩, -, az⟩ := iopen5 Ya
          obtain ⟨p0, p1, p2, pz⟩ := cellsMv k u o Ma
          have ra := r9.grownM I9 hGa
          have Da := below_map D9 hGa
          obtain ⟨wb, hrb, Ib, hGb⟩ := Ia.put o u ⟨o1, o2, o3, o4, o5⟩ hom hum (by omega)
          rw [HUP.out] at Ib
          have Yb := hgrow hGb (by omega) Ya
          have Mb := hgrow hGb (by omega) Ma
          have Y9b := hgrow hGb (by omega) Y9a
          have rb := ra.grownM Ia hGb
          have Db := below_map Da hGb
          clear hGa hGb Ia I9 Y9 Y10 M9 r9 D9
          obtain ⟨b0_, b1_, b2_, bz_⟩ := cellsMv k u o Mb
          obtain ⟨⟨f0, f1, f2, f3, f4⟩, -, fz⟩ := iopen5 Y9b
          obtain ⟨⟨h0, h1, h2, h3, h4⟩, -, hz_⟩ := iopen5 Yb
          go_wp2_with fail
          replace Ib : ItMap wb.drew _ _ _ := Ib
          clear bz_ fz hz_ Mb Y9b Yb
          replace rb : Row _ _ wb.drew _ _ := rb
          replace Db : Below _ _ wb.drew := Db.drew
          go_wp2_with fail
          refine Held.start (ops := opsrnf) (S := fun w' => w'.cell? ⟨wr.heap.size, 0, none⟩ = some (.int .i64 k) ∧ w'.cell? ⟨wr.heap.size, 1, none⟩ = some (.string u) ∧ w'.cell? ⟨wr.heap.size, 2, none⟩ = some (.string o) ∧ w'.cell? ⟨v16_.heap.size, 0, none⟩ = some (.bool m1) ∧ w'.cell? ⟨v16_.heap.size, 1, none⟩ = some (.bool m2) ∧ w'.cell? ⟨v16_.heap.size, 2, none⟩ = some (.bool m3) ∧ w'.cell? ⟨v16_.heap.size, 3, none⟩ = some (.bool m4) ∧ w'.cell? ⟨v16_.heap.size, 4, none⟩ = some (.bool m5) ∧ w'.cell? ⟨w4.heap.size, 0, none⟩ = some (.bool o1) ∧ w'.cell? ⟨w4.heap.size, 1, none⟩ = some (.bool o2) ∧ w'.cell? ⟨w4.heap.size, 2, none⟩ = some (.bool o3) ∧ w'.cell? ⟨w4.heap.size, 3, none⟩ = some (.bool o4) ∧ w'.cell? ⟨w4.heap.size, 4, none⟩ = some (.bool o5)) ordrnf 30 (by kernel_rfl) rgrnf.siz (by kernel_rfl) ⟨b0_, b1_, b2_, f0, f1, f2, f3, f4, h0, h1, h2, h3, h4⟩ (fun hHeld => ?_)
          iterate 6
            refine Held.tk (v := ?_) rgrnf rfl rfl rfl (fun _ _ _ h => h) (by assumption) (Or.inl ⟨by kernel_rfl, ?_⟩) ?_
            rotate_left
            · (intro w hSw; (try dsimp only at hSw); go_simp; (try (first | with_reducible rfl | rw [if_neg (by omega)])))
            try simp only [Act.put, List.getElem_toArray, List.getElem_cons_succ, List.getElem_cons_zero, List.setIfInBounds_toArray, List.set_cons_zero, List.set_cons_succ]
          refine Held.only (k := 6) (i := 5) (by kernel_rfl) (by kernel_rfl) rfl (by kernel_rfl) (fun K hK => ?_)
          go_simp
          go_at_call 14
          with_reducible refine (Get8_is nr c1' A1 r _ rb u o m1 m2 m3 m4 m5 HG3).mono ?_
          rintro e w7 ⟨rfl, hbx⟩
          replace Ib := Ib.below hbx
          replace b0_ := cell_below hbx b0_
          replace b1_ := cell_below hbx b1_
          replace b2_ := cell_below hbx b2_
          replace f0 := cell_below hbx f0
          replace f1 := cell_below hbx f1
          replace f2 := cell_below hbx f2
          replace f3 := cell_below hbx f3
          replace f4 := cell_below hbx f4
          replace h0 := cell_below hbx h0
          replace h1 := cell_below hbx h1
          replace h2 := cell_below hbx h2
          replace h3 := cell_below hbx h3
          replace h4 := cell_below hbx h4
          replace rb := rb.below hbx
          replace Db := below_call Db hbx
          refine hK.out _ _ (by (try dsimp only); (exact ⟨b0_, b1_, b2_, f0, f1, f2, f3, f4, h0, h1, h2, h3, h4⟩)) (fun hHeld => ?_)
          clear hK K
          try simp only [Act.put, List.getElem_toArray, List.getElem_cons_succ, List.getElem_cons_zero, List.setIfInBounds_toArray, List.set_cons_zero, List.set_cons_succ]
          iterate 8
            refine Held.tk (v := ?_) rgrnf rfl rfl rfl (fun _ _ _ h => h) (by assumption) (Or.inl ⟨by kernel_rfl, ?_⟩) ?_
            rotate_left
            · (intro w hSw; (try dsimp only at hSw); go_simp; (try (first | with_reducible rfl | rw [if_neg (by omega)])))
            try simp only [Act.put, List.getElem_toArray, List.getElem_cons_succ, List.getElem_cons_zero, List.setIfInBounds_toArray, List.set_cons_zero, List.set_cons_succ]
          refine Held.only (k := 15) (i := 14) (by kernel_rfl) (by kernel_rfl) rfl (by kernel_rfl) (fun K hK => ?_)
          go_simp
          go_at_call 14
          with_reducible refine (Get8_is nr c1' A1 r _ rb o u o1 o2 o3 o4 o5 HG4).mono ?_
          rintro e w8 ⟨rfl, hbx⟩
          replace Ib := Ib.below hbx
          replace b0_ := cell_below hbx b0_
          replace b1_ := cell_below hbx b1_
          replace b2_ := cell_below hbx b2_
          replace f0 := cell_below hbx f0
          replace f1 := cell_below hbx f1
          replace f2 := cell_below hbx f2
          replace f3 := cell_below hbx f3
          replace f4 := cell_below hbx f4
          replace h0 := cell_below hbx h0
          replace h1 := cell_below hbx h1
          replace h2 := cell_below hbx h2
          replace h3 := cell_below hbx h3
          replace h4 := cell_below hbx h4
          replace rb := rb.below hbx
          replace Db := below_call Db hbx
          refine hK.out _ _ (by (try dsimp only); (exact ⟨b0_, b1_, b2_, f0, f1, f2, f3, f4, h0, h1, h2, h3, h4⟩)) (fun hHeld => ?_)
          clear hK K
          try simp only [Act.put, List.getElem_toArray, List.getElem_cons_succ, List.getElem_cons_zero, List.setIfInBounds_toArray, List.set_cons_zero, List.set_cons_succ]
          iterate 10
            refine Held.tk (v := ?_) rgrnf rfl rfl rfl (fun _ _ _ h => h) (by assumption) (Or.inl ⟨by kernel_rfl, ?_⟩) ?_
            rotate_left
            · (intro w hSw; (try dsimp only at hSw); go_simp; (try (first | with_reducible rfl | rw [if_neg (by omega)])))
            try simp only [Act.put, List.getElem_toArray, List.getElem_cons_succ, List.getElem_cons_zero, List.setIfInBounds_toArray, List.set_cons_zero, List.set_cons_succ]
          refine Held.only (k := 26) (i := 24) (by kernel_rfl) (by kernel_rfl) rfl (by kernel_rfl) (fun K hK => ?_)
          go_simp
          go_at_call 19
          with_reducible refine (Sees8_is nr c1' A1 r _ rb u o sb HSB).mono ?_
          rintro e w9 ⟨rfl, hbx⟩
          replace Ib := Ib.below hbx
          replace b0_ := cell_below hbx b0_
          replace b1_ := cell_below hbx b1_
          replace b2_ := cell_below hbx b2_
          replace f0 := cell_below hbx f0
          replace f1 := cell_below hbx f1
          replace f2 := cell_below hbx f2
          replace f3 := cell_below hbx f3
          replace f4 := cell_below hbx f4
          replace h0 := cell_below hbx h0
          replace h1 := cell_below hbx h1
          replace h2 := cell_below hbx h2
          replace h3 := cell_below hbx h3
          replace h4 := cell_below hbx h4
          replace rb := rb.below hbx
          replace Db := below_call Db hbx
          refine hK.out _ _ (by (try dsimp only); (exact ⟨b0_, b1_, b2_, f0, f1, f2, f3, f4, h0, h1, h2, h3, h4⟩)) (fun hHeld => ?_)
          clear hK K
          try simp only [Act.put, List.getElem_toArray, List.getElem_cons_succ, List.getElem_cons_zero, List.setIfInBounds_toArray, List.set_cons_zero, List.set_cons_succ]
          refine Held.only (k := 27) (i := 27) (by kernel_rfl) (by kernel_rfl) rfl (by kernel_rfl) (fun K hK => ?_)
          go_simp
          go_at_call 27
          with_reducible refine (re_ (SeesI_calls m1 m2 m3 m4 m5 o1 o2 o3 o4 o5 _) (ret_bool HSI.out)).mono ?_
          rintro e w10 ⟨rfl, hbx⟩
          replace Ib := Ib.below hbx
          replace b0_ := cell_below hbx b0_
          replace b1_ := cell_below hbx b1_
          replace b2_ := cell_below hbx b2_
          replace f0 := cell_below hbx f0
          replace f1 := cell_below hbx f1
          replace f2 := cell_below hbx f2
          replace f3 := cell_below hbx f3
          replace f4 := cell_below hbx f4
          replace h0 := cell_below hbx h0
          replace h1 := cell_below hbx h1
          replace h2 := cell_below hbx h2
          replace h3 := cell_below hbx h3
          replace h4 := cell_below hbx h4
          replace rb := rb.below hbx
          replace Db := below_call Db hbx
          refine hK.out _ _ (by (try dsimp only); (exact ⟨b0_, b1_, b2_, f0, f1, f2, f3, f4, h0, h1, h2, h3, h4⟩)) (fun hHeld => ?_)
          clear hK K
          try simp only [Act.put, List.getElem_toArray, List.getElem_cons_succ, List.getElem_cons_zero, List.setIfInBounds_toArray, List.set_cons_zero, List.set_cons_succ]
          iterate 2
            refine Held.tk (v := ?_) rgrnf rfl rfl rfl (fun _ _ _ h => h) (by assumption) (Or.inl ⟨by kernel_rfl, ?_⟩) ?_
            rotate_left
            · (intro w hSw; (try dsimp only at hSw); go_simp; (try (first | with_reducible rfl | rw [if_neg (by omega)])))
            try simp only [Act.put, List.getElem_toArray, List.getElem_cons_succ, List.getElem_cons_zero, List.setIfInBounds_toArray, List.set_cons_zero, List.set_cons_succ]
          refine wpAnyH_done (by kernel_rfl) ?_ _
          clear b0_ b1_ b2_ f0 f1 f2 f3 f4 h0 h1 h2 h3 h4
          go_wp2
          exact ⟨⟨i + 1, r, A1, nr, c1', cnt + 1 + 1, rfl, by go_num, by omega, HRM, hzr2, hrl, rb, Ib, by omega, Db⟩, by simp [intOf]; omega⟩
    · have hin := Lib.hid (show n ≤ i by omega)
      go_wp2
      go_loopw [12] (fun vi wr2 => ∃ (j : Nat), vi = .int .i64 j ∧ j ≤ n ∧ Below wr.heap.size wr wr2) (fun vi _ => (n - intOf vi).toNat)
      case atStart => exact ⟨0, rfl, Nat.zero_le _, Below.refl _ _⟩
      case round =>
        obtain ⟨j, rfl, hj, hB⟩ := hrel
        by_cases hlt2 : j < n
        · have hjl : j < l.length := by have := EA.out; omega
          obtain ⟨⟨k, u, o⟩, he⟩ : ∃ e, l[j] = e := ⟨_, rfl⟩
          have HE := Lib.hid he
          have hok := HZ.out _ (List.getElem_mem hjl)
          rw [he] at hok
          simp only [OkMv] at hok
          clear he
          have hl2 := hl.below (below_call D hB)
          obtain ⟨ad, rfl, c0, c1, c2⟩ := rowMv hl2 j hjl k u o HE.out
          obtain ⟨⟨g1, g2, g3, g4, g5⟩, hg⟩ : ∃ x, getRo ys u o = x := ⟨_, rfl⟩
          have HG := Lib.hid hg
          have hci := neqIt g1 g2 g3 g4 g5 g1 g2 g3 g4 g5
          rw [eqvIt, decide_eq_true rfl, Bool.not_true] at hci
          clear hg
          have x1 : (0 : Int) ≤ (j : Int) := by omega
          have x2 : (j : Int) < (n : Int) := by omega
          go_wp2_with fail
          refine Held.start (ops := opsrp) (S := fun w' => w'.cell? (ad.add (j * 3)) = some (.int .i64 k) ∧ w'.cell? ⟨(ad.add (j * 3)).block, (ad.add (j * 3)).off + 1, none⟩ = some (.string u) ∧ w'.cell? ⟨(ad.add (j * 3)).block, (ad.add (j * 3)).off + 2, none⟩ = some (.string o)) ordrp 13 (by kernel_rfl) rgrp.siz (by kernel_rfl) ⟨c0, c1, c2⟩ (fun hHeld => ?_)
          iterate 11
            refine Held.tk (v := ?_) rgrp rfl rfl rfl (fun _ _ _ h => h) (by assumption) (Or.inl ⟨by kernel_rfl, ?_⟩) ?_
            rotate_left
            · (intro w hSw; (try dsimp only at hSw); go_simp; (try (first | with_reducible rfl | rw [if_neg (by omega)])))
            try simp only [Act.put, List.getElem_toArray, List.getElem_cons_succ, List.getElem_cons_zero, List.setIfInBounds_toArray, List.set_cons_zero, List.set_cons_succ]
          refine Held.only (k := 11) (i := 11) (by kernel_rfl) (by kernel_rfl) rfl (by kernel_rfl) (fun K hK => ?_)
          go_simp
          clear c0 c1 c2
          have hl9 : Row enMv 3 (wr.alloc (bxK2 ⟨#[]⟩ ⟨#[]⟩)).drew _ _ := hl2.below (below_box (bxK2 ⟨#[]⟩ ⟨#[]⟩)).drew
          obtain ⟨c0, c1, c2⟩ := rowsMv hl9 j hjl k u o HE.out
          refine hK.out _ _ (by (try dsimp only); (exact ⟨c0, c1, c2⟩)) (fun hHeld => ?_)
          clear hK K
          try simp only [Act.put, List.getElem_toArray, List.getElem_cons_succ, List.getElem_cons_zero, List.setIfInBounds_toArray, List.set_cons_zero, List.set_cons_succ]
          refine Held.only (k := 12) (i := 12) (by kernel_rfl) (by kernel_rfl) rfl (by kernel_rfl) (fun K hK => ?_)
          go_simp
          clear c0 c1 c2 hl9
          have hl9 : Row enMv 3 (wr.alloc (bxK2 u o)).drew _ _ := hl2.below (below_box (bxK2 u o)).drew
          obtain ⟨c0, c1, c2⟩ := rowsMv hl9 j hjl k u o HE.out
          refine hK.out _ _ (by (try dsimp only); (exact ⟨c0, c1, c2⟩)) (fun hHeld => ?_)
          clear hK K
          try simp only [Act.put, List.getElem_toArray, List.getElem_cons_succ, List.getElem_cons_zero, List.setIfInBounds_toArray, List.set_cons_zero, List.set_cons_succ]
          refine wpAnyH_done (by kernel_rfl) ?_ _
          have M3 : (wr.alloc (bxK2 u o)).drew.heap[wr.heap.size]? = some (bxK2 u o) := heap_alloc_new wr (bxK2 u o)
          obtain ⟨z0, z1, zz⟩ := cellsK2 M3
          have hr3 : Row enEn 7 (wr.alloc (bxK2 u o)).drew _ _ := (hr.below hB).below (below_box (bxK2 u o)).drew
          have IM3 : ItMap (wr.alloc (bxK2 u o)).drew _ _ _ := (IM.below hB).below (below_box (bxK2 u o)).drew
          have B3 := (below_alloc0 hB (bxK2 u o)).drew
          clear c0 c1 c2 hl9 hl2
          replace z0 : (wr.alloc (bxK2 u o)).drew.drew.cell? _ = _ := z0
          replace z1 : (wr.alloc (bxK2 u o)).drew.drew.cell? _ = _ := z1
          replace hr3 : Row enEn 7 (wr.alloc (bxK2 u o)).drew.drew _ _ := hr3
          replace IM3 : ItMap (wr.alloc (bxK2 u o)).drew.drew _ _ _ := IM3
          replace B3 := B3.drew
          have hlk := IM3.look u o hok.1 hok.2
          rw [HG.out] at hlk
          go_wp2_with fail
          refine Held.start (ops := opsrq) (S := fun w' => w'.cell? ⟨wr.heap.size, 0, none⟩ = some (.string u) ∧ w'.cell? ⟨wr.heap.size, 1, none⟩ = some (.string o) ∧ (Instr.lookup 40 (.map (some w.heap.size)) (agK2 u o) false).run Try.prog w' = .ok (agI g1 g2 g3 g4 g5) w') ordrq 10 (by kernel_rfl) rgrq.siz (by kernel_rfl) ⟨z0, z1, hlk⟩ (fun hHeld => ?_)
          iterate 8
            refine Held.tk (v := ?_) rgrq rfl rfl rfl (fun _ _ _ h => h) (by assumption) (Or.inl ⟨by kernel_rfl, ?_⟩) ?_
            rotate_left
            · (intro w hSw; (try dsimp only at hSw); go_simp; (try (first | with_reducible rfl | rw [if_neg (by omega)])))
            try simp only [Act.put, List.getElem_toArray, List.getElem_cons_succ, List.getElem_cons_zero, List.setIfInBounds_toArray, List.set_cons_zero, List.set_cons_succ]
          refine Held.only (k := 8) (i := 5) (by kernel_rfl) (by kernel_rfl) rfl (by kernel_rfl) (fun K hK => ?_)
          go_simp
          go_at_call 14
          with_reducible refine (Get8_is n' c' A' ys _ hr3 u o g1 g2 g3 g4 g5 HG).mono ?_
          rintro e w7 ⟨rfl, hbx⟩
          replace z0 := cell_below hbx z0
          replace z1 := cell_below hbx z1
          replace IM3 := IM3.below hbx
          replace B3 := below_call B3 hbx
          have hlk := IM3.look u o hok.1 hok.2
          rw [HG.out] at hlk
          refine hK.out _ _ (by (try dsimp only); (exact ⟨z0, z1, hlk⟩)) (fun hHeld => ?_)
          clear hK K
          try simp only [Act.put, List.getElem_toArray, List.getElem_cons_succ, List.getElem_cons_zero, List.setIfInBounds_toArray, List.set_cons_zero, List.set_cons_succ]
          iterate 1
            refine Held.tk (v := ?_) rgrq rfl rfl rfl (fun _ _ _ h => h) (by assumption) (Or.inl ⟨by kernel_rfl, ?_⟩) ?_
            rotate_left
            · (intro w hSw; (try dsimp only at hSw); go_simp; (try (first | with_reducible rfl | rw [if_neg (by omega)])))
            try simp only [Act.put, List.getElem_toArray, List.getElem_cons_succ, List.getElem_cons_zero, List.setIfInBounds_toArray, List.set_cons_zero, List.set_cons_succ]
          refine wpAnyH_done (by kernel_rfl) ?_ _
          go_wp2
          exact ⟨⟨j + 1, by go_num, by omega, B3⟩, by simp [intOf]; omega⟩
        · have hin2 : j = n := by omega
          have D5 := below_call D hB
          go_wp2_with fail
          with_reducible refine (live08 _).mono ?_
          rintro e w9 ⟨rfl, b9⟩
          have D6 := below_call D5 b9
          go_wp2
          go_ret
          exact ⟨rfl, D6⟩
end Go.Proofs.Ytpmafghknafhaaa
