import Derived.Test.YtocdoddmaopdbaaProg
import Derived.Deep.RegionHeld3
import Derived.Test.YtocdoddmaopdbaaPIndexBoth01
set_option linter.unusedVariables false
set_option linter.unusedSimpArgs false
namespace Go.Proofs.Ytocdoddmaopdbaa
open Go.RowKit Go.Maps
open Sp
namespace Sp
def fewI (l : List OpI) : Bool := decide (l.length ≤ 80) && l.all fun x => decide (x.w.size ≤ 40) && decide (x.c.size ≤ 40)
theorem fewI_iff {l : List OpI} : fewI l = true ↔ l.length ≤ 80 ∧ ∀ i (h : i < l.length), l[i].w.size ≤ 40 ∧ l[i].c.size ≤ 40 := by
  unfold fewI
  rw [Bool.and_eq_true, decide_eq_true_eq, List.all_eq_true]
  constructor
  · rintro ⟨h1, h2⟩
    refine ⟨h1, fun i h => ?_⟩
    have := h2 _ (List.getElem_mem h)
    simpa using this
  · rintro ⟨h1, h2⟩
    refine ⟨h1, fun x hx => ?_⟩
    obtain ⟨i, h, rfl⟩ := List.getElem_of_mem hx
    simpa using h2 i h
end Sp
set_option maxHeartbeats 16000000 in
set_option maxRecDepth 100000 in
theorem few_is (n c : Nat) (A : Option Addr) (l : List OpI) (w : World) (hl : Row enOp 3 w (.slice A n c) l) (hz : ∀ x ∈ l, x.w.size ≤ 9223372036854775807 ∧ x.c.size ≤ 9223372036854775807) (b : Bool) (hb : Hid (fewI l = b)) :
    Calls Try.prog 9 #[.slice A n c] w fun e w' => e = .returned (.bool b) ∧ Below w.heap.size w w' := by
  have EA := Lib.hid hl.len_eq
  have hlen := hl.len
  have hn63 : n ≤ 9223372036854775807 := by have := EA.out; omega
  clear hlen
  by_cases hm : 80 < n
  · have HV : Hid (b = false) := by
      show _ = _
      rw [← hb.out]
      cases h : fewI l with
      | false => rfl
      | true => have := (fewI_iff.1 h).1; have := EA.out; omega
    go_enter Try.func9, Try.ntmps9
    go_wp2
    go_ret
    exact ⟨ret_bool HV.out.symm, Below.refl _ _⟩
  · have hn80 : n ≤ 80 := by omega
    go_enter Try.func9, Try.ntmps9
    go_wp2
    go_loopw [3] (fun v3 wr => ∃ i : Nat, v3 = .int .i64 i ∧ i ≤ n ∧ wr = w ∧ Hid (∀ j (h : j < l.length), j < i → l[j].w.size ≤ 40 ∧ l[j].c.size ≤ 40)) (fun v3 _ => (n - intOf v3).toNat)
    case atStart => exact ⟨0, rfl, Nat.zero_le _, rfl, fun j h hj => absurd hj (by omega)⟩
    case round =>
      obtain ⟨i, rfl, hi, rfl, HT⟩ := hrel
      by_cases hlt : i < n
      · have hil : i < l.length := by have := EA.out; omega
        obtain ⟨⟨d, p, q⟩, he⟩ : ∃ e, l[i] = e := ⟨_, rfl⟩
        obtain ⟨ad, rfl, c0, c1, c2⟩ := rowOp hl i hil d p q he
        have hpq := hz l[i] (List.getElem_mem _)
        rw [he] at hpq
        obtain ⟨hp, hq⟩ := hpq
        simp only at hp hq
        have HE := Lib.hid he
        clear he
        by_cases h1 : (40 : Int) < (p.size : Int)
        · have HV : Hid (b = false) := by
            show _ = _
            rw [← hb.out]
            cases h : fewI l with
            | false => rfl
            | true => have := (fewI_iff.1 h).2 i hil; rw [HE.out] at this; simp only at this; omega
          go_wp2
          go_ret
          exact ⟨ret_bool HV.out.symm, Below.refl _ _⟩
        · by_cases h2 : (40 : Int) < (q.size : Int)
          · have HV : Hid (b = false) := by
              show _ = _
              rw [← hb.out]
              cases h : fewI l with
              | false => rfl
              | true => have := (fewI_iff.1 h).2 i hil; rw [HE.out] at this; simp only at this; omega
            go_wp2
            go_ret
            exact ⟨ret_bool HV.out.symm, Below.refl _ _⟩
          · have HT2 : Hid (∀ j (h : j < l.length), j < i + 1 → l[j].w.size ≤ 40 ∧ l[j].c.size ≤ 40) := fun j h hj => by
              rcases Nat.lt_or_ge j i with h' | h'
              · exact HT.out j h h'
              · obtain rfl : j = i := by omega
                rw [HE.out]
                simp only
                omega
            go_wp2
            exact ⟨⟨i + 1, by go_num, by omega, by trivial, HT2⟩, by simp [intOf]; omega⟩
      · have HV : Hid (b = true) := by
          show _ = _
          rw [← hb.out]
          exact fewI_iff.2 ⟨by have := EA.out; omega, fun j h => HT.out j h (by have := EA.out; omega)⟩
        go_wp2
        go_ret
        exact ⟨ret_bool HV.out.symm, Below.refl _ _⟩
theorem l13_0 : Hid (setP [] ⟨#[99]⟩ ⟨#[98]⟩ true = ([(⟨#[99]⟩, ⟨#[98]⟩)], true)) := by show _ = _; decide +kernel
theorem l13_1 : Hid (setP [(⟨#[99]⟩, ⟨#[98]⟩)] ⟨#[97]⟩ ⟨#[98]⟩ true = ([(⟨#[99]⟩, ⟨#[98]⟩), (⟨#[97]⟩, ⟨#[98]⟩)], true)) := by show _ = _; decide +kernel
theorem l13_2 : Hid (setP [(⟨#[99]⟩, ⟨#[98]⟩), (⟨#[97]⟩, ⟨#[98]⟩)] ⟨#[97]⟩ ⟨#[98]⟩ true = ([(⟨#[99]⟩, ⟨#[98]⟩), (⟨#[97]⟩, ⟨#[98]⟩)], false)) := by show _ = _; decide +kernel
theorem l13_3 : Hid (setP [(⟨#[99]⟩, ⟨#[98]⟩), (⟨#[97]⟩, ⟨#[98]⟩)] ⟨#[97]⟩ ⟨#[97]⟩ true = ([(⟨#[99]⟩, ⟨#[98]⟩), (⟨#[97]⟩, ⟨#[98]⟩), (⟨#[97]⟩, ⟨#[97]⟩)], true)) := by show _ = _; decide +kernel
theorem l13_w : Hid (sideP [(⟨#[99]⟩, ⟨#[98]⟩), (⟨#[97]⟩, ⟨#[98]⟩), (⟨#[97]⟩, ⟨#[97]⟩)] ⟨#[98]⟩ true = [⟨#[97]⟩, ⟨#[99]⟩]) := by show _ = _; decide +kernel
theorem l13_k : Hid (sideP [(⟨#[99]⟩, ⟨#[98]⟩), (⟨#[97]⟩, ⟨#[98]⟩), (⟨#[97]⟩, ⟨#[97]⟩)] ⟨#[97]⟩ false = [⟨#[97]⟩, ⟨#[98]⟩]) := by show _ = _; decide +kernel
theorem l13_6 : Hid (setP [(⟨#[99]⟩, ⟨#[98]⟩), (⟨#[97]⟩, ⟨#[98]⟩), (⟨#[97]⟩, ⟨#[97]⟩)] ⟨#[99]⟩ ⟨#[98]⟩ false = ([(⟨#[97]⟩, ⟨#[98]⟩), (⟨#[97]⟩, ⟨#[97]⟩)], true)) := by show _ = _; decide +kernel
theorem l13_7 : Hid (setP [(⟨#[97]⟩, ⟨#[98]⟩), (⟨#[97]⟩, ⟨#[97]⟩)] ⟨#[99]⟩ ⟨#[98]⟩ false = ([(⟨#[97]⟩, ⟨#[98]⟩), (⟨#[97]⟩, ⟨#[97]⟩)], false)) := by show _ = _; decide +kernel
theorem l13_f : Hid (forgetP [(⟨#[97]⟩, ⟨#[98]⟩), (⟨#[97]⟩, ⟨#[97]⟩)] ⟨#[97]⟩ = []) := by show _ = _; decide +kernel
set_option maxHeartbeats 16000000 in
set_option maxRecDepth 100000 in
theorem live13 (w : World) : Calls Try.prog 10 #[] w fun e w' => e = .returned (.bool true) ∧ Below w.heap.size w w' := by
  go_enter Try.func10, Try.ntmps10
  go_wp2_with fail
  with_reducible refine (ix_new w w (Below.refl _ _)).mono ?_
  rintro e w0 ⟨a, rfl, hI, D⟩
  go_wp2_with fail
  with_reducible refine (ix_set hI D ⟨#[99]⟩ ⟨#[98]⟩ true (by decide) (by decide) (by omega)).mono ?_
  rintro e w1 ⟨rfl, hI1, D1, K1⟩
  rw [l13_0.out] at hI1 ⊢
  clear K1 D hI
  have D := D1
  have hI := hI1
  clear D1 hI1
  go_wp2_with fail
  with_reducible refine (ix_set hI D ⟨#[97]⟩ ⟨#[98]⟩ true (by decide) (by decide) (by omega)).mono ?_
  rintro e w1 ⟨rfl, hI1, D1, K1⟩
  rw [l13_1.out] at hI1 ⊢
  clear K1 D hI
  have D := D1
  have hI := hI1
  clear D1 hI1
  go_wp2_with fail
  with_reducible refine (ix_set hI D ⟨#[97]⟩ ⟨#[98]⟩ true (by decide) (by decide) (by omega)).mono ?_
  rintro e w1 ⟨rfl, hI1, D1, K1⟩
  rw [l13_2.out] at hI1 ⊢
  clear K1 D hI
  have D := D1
  have hI := hI1
  clear D1 hI1
  go_wp2_with fail
  with_reducible refine (ix_set hI D ⟨#[97]⟩ ⟨#[97]⟩ true (by decide) (by decide) (by omega)).mono ?_
  rintro e w1 ⟨rfl, hI1, D1, K1⟩
  rw [l13_3.out] at hI1 ⊢
  clear K1 D hI
  have D := D1
  have hI := hI1
  clear D1 hI1
  go_wp2_with fail
  with_reducible refine (ix_watchers hI ⟨#[98]⟩ (by decide) (by omega)).mono ?_
  rintro e w1 ⟨vw, rfl, rw, b1⟩
  rw [l13_w.out] at rw
  obtain ⟨Aw, cw, rfl⟩ := form_S rw
  replace hI := hI.below b1
  replace D := below_call D b1
  clear b1
  go_wp2_with fail
  with_reducible refine (ix_contacts hI ⟨#[97]⟩ (by decide) (by omega)).mono ?_
  rintro e w1 ⟨vk, rfl, rk, b1⟩
  rw [l13_k.out] at rk
  obtain ⟨Ak, ck, rfl⟩ := form_S rk
  replace rw := rw.below b1
  replace hI := hI.below b1
  replace D := below_call D b1
  clear b1
  go_wp2_with fail
  with_reducible refine (ix_len hI).mono ?_
  rintro e w1 ⟨rfl, b1⟩
  replace rw := rw.below b1
  replace rk := rk.below b1
  replace hI := hI.below b1
  replace D := below_call D b1
  clear b1
  go_wp2_with fail
  with_reducible refine (ix_set hI D ⟨#[99]⟩ ⟨#[98]⟩ false (by decide) (by decide) (by omega)).mono ?_
  rintro e w1 ⟨rfl, hI1, D1, K1⟩
  rw [l13_6.out] at hI1 ⊢
  replace rw := K1.row rw
  replace rk := K1.row rk
  clear K1 D hI
  have D := D1
  have hI := hI1
  clear D1 hI1
  go_wp2_with fail
  with_reducible refine (ix_set hI D ⟨#[99]⟩ ⟨#[98]⟩ false (by decide) (by decide) (by omega)).mono ?_
  rintro e w1 ⟨rfl, hI1, D1, K1⟩
  rw [l13_7.out] at hI1 ⊢
  replace rw := K1.row rw
  replace rk := K1.row rk
  clear K1 D hI
  have D := D1
  have hI := hI1
  clear D1 hI1
  go_wp2_with fail
  with_reducible refine (ix_forget hI D ⟨#[97]⟩ (by decide) (by decide) (by decide)).mono ?_
  rintro e w1 ⟨rfl, hI1, D1, K1⟩
  rw [l13_f.out] at hI1 ⊢
  replace rw := K1.row rw
  replace rk := K1.row rk
  clear K1 D hI
  have D := D1
  have hI := hI1
  clear D1 hI1
  have bb := below_box (w := w1) (.cells #[.string ⟨#[97]⟩, .string ⟨#[99]⟩] 9)
  have rr : Row enS 1 (w1.alloc (.cells #[.string ⟨#[97]⟩, .string ⟨#[99]⟩] 9)) (.slice (some ⟨w1.heap.size, 0, none⟩) 2 2) [⟨#[97]⟩, ⟨#[99]⟩] := (Own.lit (base := w1.heap.size) enS_len w1 _ _ 2 rfl rfl (Nat.le_refl _) (by decide)).row
  replace rw := rw.below bb
  replace rk := rk.below bb
  replace hI := hI.below bb
  replace D := below_call D bb
  go_wp2_with fail
  with_reducible refine (refSame_calls 2 cw 2 2 Aw _ _ _ _ rw rr).mono ?_
  rintro e w2 ⟨rfl, b2⟩
  replace hI := hI.below b2
  replace D := below_call D b2
  replace rk := rk.below b2
  clear b2 bb rr rw
  rw [decide_eq_true rfl]
  have bb := below_box (w := w2) (.cells #[.string ⟨#[97]⟩, .string ⟨#[98]⟩] 9)
  have rr : Row enS 1 (w2.alloc (.cells #[.string ⟨#[97]⟩, .string ⟨#[98]⟩] 9)) (.slice (some ⟨w2.heap.size, 0, none⟩) 2 2) [⟨#[97]⟩, ⟨#[98]⟩] := (Own.lit (base := w2.heap.size) enS_len w2 _ _ 2 rfl rfl (Nat.le_refl _) (by decide)).row
  replace rk := rk.below bb
  replace hI := hI.below bb
  replace D := below_call D bb
  go_wp2_with fail
  with_reducible refine (refSame_calls 2 ck 2 2 Ak _ _ _ _ rk rr).mono ?_
  rintro e w3 ⟨rfl, b2⟩
  replace hI := hI.below b2
  replace D := below_call D b2
  clear b2 bb rr rk
  rw [decide_eq_true rfl]
  go_wp2_with fail
  with_reducible refine (ix_len hI).mono ?_
  rintro e w4 ⟨rfl, b2⟩
  replace hI := hI.below b2
  replace D := below_call D b2
  clear b2
  go_wp2_with fail
  with_reducible refine (ix_has hI ⟨#[97]⟩ ⟨#[98]⟩ (by decide) (by decide)).mono ?_
  rintro e w5 ⟨rfl, b2⟩
  replace D := below_call D b2
  rw [show inP [] ⟨#[97]⟩ ⟨#[98]⟩ = false from rfl]
  go_wp2
  go_ret
  exact ⟨rfl, D⟩
end Go.Proofs.Ytocdoddmaopdbaa
namespace Go.Proofs.Ytocdoddmaopdbaa
open Go.RowKit
namespace Sp
def inLX (l : List ByteArray) (s : ByteArray) : Bool := l.any fun x => decide (x = s)
theorem inLX_iff (l : List ByteArray) (s : ByteArray) : inLX l s = true ↔ s ∈ l := by
  unfold inLX
  rw [List.any_eq_true]
  constructor
  · rintro ⟨x, hx, e⟩
    have := of_decide_eq_true e
    rw [← this]; exact hx
  · exact fun h => ⟨s, h, decide_eq_true rfl⟩
theorem insS_len_memX (l : List ByteArray) (s : ByteArray) (h : Sorted l) : (insS l s).length = if inLX l s then l.length else l.length + 1 := by
  split
  · rename_i hs
    rw [inLX_iff] at hs
    have : insS l s = l := sorted_ext _ _ (insS_sorted l s h) h fun x => by
      rw [insS_mem]
      constructor
      · rintro (rfl | hx)
        · exact hs
        · exact hx
      · exact .inr
    rw [this]
  · rename_i hs
    rw [inLX_iff] at hs
    have hl : l.takeWhile (fun x => less x s) ++ l.dropWhile (fun x => less x s) = l := List.takeWhile_append_dropWhile
    unfold insS
    simp only
    split
    · rename_i hq
      refine absurd ?_ hs
      rw [← hl]
      exact List.mem_append_right _ (List.mem_of_mem_head? hq)
    · rw [List.length_append, List.length_cons]
      have := congrArg List.length hl
      rw [List.length_append] at this
      omega
theorem foldIns_len : ∀ (l acc : List ByteArray), Sorted acc → l.Nodup → (∀ x ∈ l, x ∉ acc) → (l.foldl insS acc).length = acc.length + l.length
  | [], acc, _, _, _ => rfl
  | a :: l, acc, hs, hn, hd => by
    obtain ⟨h1, h2⟩ := List.nodup_cons.1 hn
    have ha : inLX acc a = false := by
      cases h : inLX acc a with
      | false => rfl
      | true => exact absurd ((inLX_iff acc a).1 h) (hd a (List.mem_cons_self ..))
    rw [List.foldl_cons, foldIns_len l (insS acc a) (insS_sorted acc a hs) h2 (fun x hx hx2 => ?_), insS_len_memX acc a hs, ha]
    · simp only [Bool.false_eq_true, if_false, List.length_cons]
      omega
    · rw [insS_mem] at hx2
      rcases hx2 with h | h
      · rw [h] at hx
        exact h1 hx
      · exact hd x (List.mem_cons_of_mem _ hx) h
theorem mergeS_nodup_len (l : List ByteArray) (h : l.Nodup) : (mergeS l []).length = l.length := by
  unfold mergeS
  rw [List.append_nil, foldIns_len l [] List.Pairwise.nil h (fun x _ hx => by cases hx)]
  simp
theorem sideP_length {L : List Pr} (h : L.Nodup) (u : ByteArray) (s : Bool) : (sideP L u s).length = (L.filter fun x => decide (sd s x = u)).length := by
  unfold sideP
  rw [mergeS_nodup_len, List.length_map]
  unfold List.Nodup
  rw [List.pairwise_map]
  have h2 : (L.filter fun x => decide (sd s x = u)).Pairwise (fun a b => a ≠ b) := List.Pairwise.filter _ h
  refine List.pairwise_iff_forall_sublist.2 fun {a b} hab e => ?_
  have hne := List.pairwise_iff_forall_sublist.1 h2 hab
  have ha : sd s a = u := by
    have := List.mem_filter.1 (hab.subset (List.mem_cons_self ..))
    simpa using this.2
  have hb : sd s b = u := by
    have := List.mem_filter.1 (hab.subset (List.mem_cons_of_mem _ (List.mem_cons_self ..)))
    simpa using this.2
  apply hne
  cases s
  · exact Prod.ext (ha.trans hb.symm) e
  · exact Prod.ext e (ha.trans hb.symm)
theorem cnt_out (v : ByteArray) : ∀ us : List ByteArray, ¬ v ∈ us → (us.map fun u => if v = u then 1 else 0).sum = 0
  | [], _ => rfl
  | u :: us, h => by
    rw [List.map_cons, List.sum_cons, cnt_out v us (fun h' => h (List.mem_cons_of_mem _ h')), if_neg (fun e => h (by rw [e]; exact List.mem_cons_self ..))]
theorem cnt_in (v : ByteArray) : ∀ us : List ByteArray, us.Nodup → v ∈ us → (us.map fun u => if v = u then 1 else 0).sum = 1
  | [], _, h => by cases h
  | u :: us, hn, h => by
    rw [List.map_cons, List.sum_cons]
    by_cases e : v = u
    · subst e
      rw [if_pos rfl, cnt_out _ us (List.nodup_cons.1 hn).1]
    · rw [if_neg e, cnt_in v us (List.nodup_cons.1 hn).2 ((List.mem_cons.1 h).resolve_left e)]
theorem sum_side (s : Bool) (us : List ByteArray) (hn : us.Nodup) : ∀ L : List Pr, (∀ x ∈ L, sd s x ∈ us) → (us.map fun u => (L.filter fun x => decide (sd s x = u)).length).sum = L.length
  | [], _ => by
    have : ∀ us : List ByteArray, (us.map fun u => (([] : List Pr).filter fun x => decide (sd s x = u)).length).sum = 0 := by
      intro us
      induction us with
      | nil => rfl
      | cons u us ih => rw [List.map_cons, List.sum_cons, ih]; rfl
    exact this us
  | x :: L, h => by
    have ih := sum_side s us hn L fun y hy => h y (List.mem_cons_of_mem _ hy)
    have hx := cnt_in (sd s x) us hn (h x (List.mem_cons_self ..))
    have hsum : ∀ us : List ByteArray, (us.map fun u => ((x :: L).filter fun x => decide (sd s x = u)).length).sum = (us.map fun u => (L.filter fun x => decide (sd s x = u)).length).sum + (us.map fun u => if sd s x = u then 1 else 0).sum := by
      intro us
      induction us with
      | nil => rfl
      | cons u us ih2 =>
        rw [List.map_cons, List.sum_cons, List.map_cons, List.sum_cons, List.map_cons, List.sum_cons, ih2, List.filter_cons]
        by_cases e : sd s x = u
        · rw [if_pos (by simpa using e), if_pos e, List.length_cons]
          omega
        · rw [if_neg (by simpa using e), if_neg e]
          omega
    rw [hsum, ih, hx, List.length_cons]
theorem sorted_nodupX {l : List ByteArray} (h : Sorted l) : l.Nodup := List.Pairwise.imp (fun h e => by rw [e, less_irrefl] at h; cases h) h
theorem sum_all {L : List Pr} (h : L.Nodup) (s : Bool) (N : List ByteArray) (hN : ∀ x ∈ L, sd s x ∈ N) : ((mergeS N []).map fun u => (sideP L u s).length).sum = L.length := by
  rw [← sum_side s (mergeS N []) (sorted_nodupX (mergeS_sorted N [])) L (fun x hx => by rw [mergeS_mem]; exact .inl (hN x hx))]
  congr 1
  exact List.map_congr_left fun u _ => sideP_length h u s
theorem sideP_memX {L : List Pr} {u x : ByteArray} : (x ∈ sideP L u true ↔ inP L x u = true) ∧ (x ∈ sideP L u false ↔ inP L u x = true) := by
  unfold sideP
  rw [mergeS_mem, mergeS_mem, inP_iff, inP_iff]
  simp only [List.mem_map, List.mem_filter, decide_eq_true_eq, List.not_mem_nil, or_false]
  refine ⟨⟨?_, fun h => ⟨(x, u), ⟨h, rfl⟩, rfl⟩⟩, ⟨?_, fun h => ⟨(u, x), ⟨h, rfl⟩, rfl⟩⟩⟩
  · rintro ⟨⟨a, b⟩, ⟨h1, h2⟩, h3⟩
    have h2' : b = u := h2
    have h3' : a = x := h3
    rw [← h2', ← h3']
    exact h1
  · rintro ⟨⟨a, b⟩, ⟨h1, h2⟩, h3⟩
    have h2' : a = u := h2
    have h3' : b = x := h3
    rw [← h2', ← h3']
    exact h1
theorem mem_setPX {L : List Pr} {p q : ByteArray} {on : Bool} {x : Pr} (h : x ∈ (setP L p q on).1) : x ∈ L ∨ x = (p, q) := by
  unfold setP at h
  split at h
  · exact .inl h
  · unfold tuP at h
    cases on
    · exact .inl (List.mem_filter.1 h).1
    · simp only [if_true, List.mem_append, List.mem_singleton] at h
      exact h
end Sp
end Go.Proofs.Ytocdoddmaopdbaa
namespace Go.Proofs.Ytocdoddmaopdbaa
open Go.RowKit Go.Maps
open Sp
namespace Sp
def cntP (L : List Pr) (s : Bool) (M : List ByteArray) (i : Nat) : Nat := ((M.take i).map fun u => (sideP L u s).length).sum
theorem cntP_succ (L : List Pr) (s : Bool) (M : List ByteArray) (i : Nat) (h : i < M.length) (u : ByteArray) (hu : M[i] = u) : cntP L s M (i + 1) = cntP L s M i + (sideP L u s).length := by
  unfold cntP
  rw [List.take_succ_eq_append_getElem h, List.map_append, List.sum_append, hu]
  simp
theorem cntP_le (L : List Pr) (s : Bool) (M : List ByteArray) (i : Nat) : cntP L s M i ≤ (M.map fun u => (sideP L u s).length).sum := by
  unfold cntP
  conv => rhs; rw [← List.take_append_drop i M]
  rw [List.map_append, List.sum_append]
  omega
theorem cntP_all (L : List Pr) (s : Bool) (M : List ByteArray) : cntP L s M M.length = (M.map fun u => (sideP L u s).length).sum := by
  unfold cntP
  rw [List.take_length]
theorem mem_sdX {L : List Pr} {N : List ByteArray} (h : ∀ x ∈ L, x.1 ∈ N ∧ x.2 ∈ N) (s : Bool) : ∀ x ∈ L, sd s x ∈ N := fun x hx => by
  cases s
  · exact (h x hx).1
  · exact (h x hx).2
theorem namesX {L L' : List Pr} {N : List ByteArray} {p q : ByteArray} (h : ∀ x ∈ L, x.1 ∈ N ∧ x.2 ∈ N) (h2 : ∀ x ∈ L', x ∈ L ∨ x = (p, q)) : ∀ x ∈ L', x.1 ∈ N ++ [p, q] ∧ x.2 ∈ N ++ [p, q] := fun x hx => by
  rcases h2 x hx with h3 | rfl
  · exact ⟨List.mem_append_left _ (h x h3).1, List.mem_append_left _ (h x h3).2⟩
  · exact ⟨List.mem_append_right _ (by simp), List.mem_append_right _ (by simp)⟩
theorem szX {N : List ByteArray} {p q : ByteArray} (h : ∀ s ∈ N, s.size ≤ 40) (hp : p.size ≤ 40) (hq : q.size ≤ 40) : ∀ s ∈ N ++ [p, q], s.size ≤ 40 := fun s hs => by
  rcases List.mem_append.1 hs with h1 | h1
  · exact h s h1
  · rcases List.mem_cons.1 h1 with rfl | h1
    · exact hp
    · rcases List.mem_cons.1 h1 with rfl | h1
      · exact hq
      · cases h1
end Sp
theorem sideP_sorted (L : List Pr) (u : ByteArray) (s : Bool) : Sorted (sideP L u s) := mergeS_sorted _ _
theorem CellsKept.own {w w1 : World} (h : CellsKept w w1) {α : Type} {enc : α → List Value} {k base : Nat} {e : TypeId} {v : Value} {xs : List α} (hr : Own enc k e w base v xs) : Own enc k e w1 base v xs := by
  refine ⟨hr.1, ?_⟩
  rcases hr.2 with h2 | ⟨g, cap, cur, e1, e2, e3, e4⟩
  · exact .inl h2
  · exact .inr ⟨g, cap, cur, e1, e2, h _ _ _ _ e3, e4⟩
theorem IdxAt.textsX {w w1 : World} {own : Whose} {a b : Nat} {c : Bool → Nat} {P : List Pr} {L : Bool → List Pr} {n : Nat} (h : IdxAt w own a b c P L n) (t : ∀ i, i < w.heap.size → (∀ cs fr, w.heap[i]? ≠ some (.cells cs 9 fr)) → w1.heap[i]? = w.heap[i]?) : IdxAt w1 own a b c P L n := by
  have hm : ∀ i r, own i = some r → w1.heap[i]? = w.heap[i]? := fun i r e => by
    obtain ⟨es, q, hq⟩ := h.maps i r e
    refine t i (Array.getElem?_eq_some_iff.1 hq).1 (fun cs fr e2 => ?_)
    rw [hq] at e2
    cases e2
  have ha : w1.heap[a]? = w.heap[a]? := by
    refine t a (Array.getElem?_eq_some_iff.1 h.box).1 (fun cs fr e2 => ?_)
    rw [h.box] at e2
    injection e2 with e2
    injection e2 with e3 e4 e5
    exact absurd e4 (by decide)
  have move : ∀ b' n' S m r, own b' = some r → BMap w b' n' S m → BMap w1 b' n' S m := fun b' n' S m r e hB => by
    obtain ⟨D, ⟨es, ck, h1, h2⟩, h3⟩ := hB
    exact ⟨D, ⟨es, ck, (hm b' r e).trans h1, h2⟩, h3⟩
  refine ⟨ha.trans h.box, h.ob, h.oc, move _ _ _ _ _ h.ob h.prs, fun s => ?_, fun i r e => ?_⟩
  · obtain ⟨f, ⟨D, ⟨es, ck, h1, h2⟩, h3⟩, h4⟩ := h.side s
    refine ⟨f, ⟨D, ⟨es, ck, (hm _ _ (h.oc s)).trans h1, h2⟩, h3⟩, fun name => ⟨(h4 name).1, fun g e => ?_⟩⟩
    obtain ⟨q1, m, q2⟩ := (h4 name).2 g e
    exact ⟨q1, m, move _ _ _ _ _ q1 q2⟩
  · obtain ⟨es, q, hq⟩ := h.maps i r e
    exact ⟨es, q, (hm i r e).trans hq⟩
theorem Ix.textsX {w0 w w1 : World} {a n base : Nat} {P : List Pr} {v : Value} {N : List ByteArray} (h : Ix w0 w a P n) (hO : Own enS 1 9 w base v N) (g : w.grownBy w1 v.ownBlock) : Ix w0 w1 a P n :=
  ⟨by
    obtain ⟨own, x, c, h1, h2⟩ := h.at_
    refine ⟨own, x, c, h1.textsX fun i hi hc => g.block i hi fun e => ?_, h2⟩
    rcases hO.2 with ⟨h3, _⟩ | ⟨b, cap, cur, e1, e2, e3, e4⟩
    · rw [h3] at e
      cases e
    · rw [e1] at e
      injection e with e
      exact hc cur (0, 0) (by rw [e]; exact e3), h.nd, h.sz⟩
theorem Own.append2S {P : Program} {ops : Array Oper} {o : Oper} {a : Act} {K : Act → World → Prop} {Q : Exit → Act → World → Prop} {E : Prop} {w0 w : World} (base : Nat) (hgd : o.guard = none) (s x : Operand) (t e : TypeId) (z : Value) (bytes : Nat)
    (ho : o.op = .call { callee := .builtin .append, args := #[s, x], argTypes := #[t, t] })
    (ht : P.underlying t = some (.slice e)) (hinfo : (P.info? e).map (fun i => (i.zero, i.size, i.bytes)) = some (some z, 1, bytes)) (hz : z.cells.size = 1)
    (v : Value) (xs : List ByteArray) (p q : ByteArray) (hs : a.eval s = v) (g : Nat) (hx : a.eval x = .slice (some ⟨g, 0, none⟩) 2 2) (hg : w.heap[g]? = some (.cells #[.string p, .string q] e (0, 0)))
    (HO : Own enS 1 e w base v xs) (HB : Below base w0 w) (hbase : base ≤ w.heap.size) (hl : (xs.length + 2) * bytes ≤ 140737488355328) (hl2 : xs.length + 2 ≤ 140737488355328)
    (h : ∀ v1 w1, Own enS 1 e w1 base v1 (xs ++ [p, q]) → Below base w0 w1 → w.grownBy w1 v.ownBlock → K (a.put o.dst v1) w1) :
    if Region.wanted o (yielded ops a.tmps) = true then Oper.wp P o a w K Q else E := by
  obtain ⟨i0, hi, hzz⟩ := Option.map_eq_some_iff.1 hinfo
  simp only [Prod.mk.injEq] at hzz
  obtain ⟨hz0, hz1, hz2⟩ := hzz
  refine step_append_lies w hgd s x t ho base e i0 z 1 bytes ht hi hz0 hz1 hz2 hz (by omega) v xs.length _ hs HO ⟨g, 0, none⟩ 2 2 [.string p, .string q] hx rfl (by simpa using World.news_of_block hg) (by intro u hu; simp at hu; rcases hu with rfl | rfl <;> rfl) (by omega) (by simp only [maxLen]; omega) hl hbase _ rfl ?_
  intro g' cap w1 hown hgrow _ _
  refine h _ w1 ?_ (HB.grown hgrow hbase HO.base_le) hgrow
  unfold Own
  rw [List.flatMap_append, List.length_append]
  exact hown
end Go.Proofs.Ytocdoddmaopdbaa
namespace Go.Proofs.Ytocdoddmaopdbaa
open Go.RowKit
namespace Held
def lst (n : Nat) (o : List Nat) (k : Nat) : Array Bool := (o.take k).foldl (fun L i => L.setIfInBounds i true) (Array.replicate n false)
theorem lst_succ (n : Nat) (o : List Nat) (k i : Nat) (h : o[k]? = some i) : (lst n o k).setIfInBounds i true = lst n o (k + 1) := by
  unfold lst
  rw [List.take_add_one, h, List.foldl_append]
  rfl
def okAt (ops : Array Oper) (o : List Nat) (k : Nat) : Bool :=
  match o[k]? with
  | some i => Region.free .any ops (lst ops.size o k) i && (Region.ready .any ops (lst ops.size o k)).contains i
  | none => false
section
variable {P : Program} {ops : Array Oper} {Q : Exit → Act → World → Prop} {S : World → Prop}
theorem start {ops0 : Array Oper} {id : Nat} {a : Act} {w : World} (o : List Nat) (n : Nat) (he : ops0 = ops) (hn : ops.size = n) (hm : P.follows .mixedOrders = true) (hS : S w.drew)
    (h : S w.drew → wpAnyH P .any ops Q S n (lst n o 0) a w.drew) : (Code.region id ops0 true).wp P Q a w := by
  subst he
  refine wp_region_held_drew hm hS fun hs => ?_
  rw [hn]
  exact h hs
theorem take {o : List Nat} {n k i : Nat} {oi : Oper} {v : Value} {fuel : Nat} {a : Act} {w : World} (hns : Region.noSelect ops = true) (h2 : okAt ops o k = true) (hn : ops.size = n) (hk : o[k]? = some i) (hi : ops.toList[i]? = some oi)
    (hQ : ∀ c a w, Q (.panic c) (a.put oi.dst v) w → Q (.panic c) a w) (hy : YieldsIf P ops S oi v a) (hS : S w)
    (h : wpAnyH P .any ops Q S fuel (lst n o (k + 1)) (a.put oi.dst v) w) : wpAnyH P .any ops Q S (fuel + 1) (lst n o k) a w := by
  subst hn
  unfold okAt at h2
  rw [hk] at h2
  simp only [Bool.and_eq_true] at h2
  refine wpAnyH_take (by simpa using hi) hns h2.1 h2.2 hQ hy hS ?_
  rw [lst_succ _ _ _ _ hk]
  exact h
theorem only {o : List Nat} {n k i : Nat} {oi : Oper} {fuel : Nat} {a : Act} {w : World} (hr : Region.ready .any ops (lst n o k) = [i]) (hk : o[k]? = some i) (hi : ops.toList[i]? = some oi) (hw : Region.wanted oi (yielded ops a.tmps) = true)
    (h : ∀ K' : Act → World → Prop, Shut (∀ a w, S w → (S w → wpAnyH P .any ops Q S fuel (lst n o (k + 1)) a w) → K' a w) → Oper.wp P oi a w K' Q) : wpAnyH P .any ops Q S (fuel + 1) (lst n o k) a w := by
  refine wpAnyH_ready hr (by simp) (AllReadyH.cons (by simpa using hi) (fun K hK => ?_) AllReadyH.nil)
  rw [if_pos hw]
  refine h K ?_
  rw [lst_succ _ _ _ _ hk] at hK
  exact hK
end
end Held
end Go.Proofs.Ytocdoddmaopdbaa
namespace Go.Proofs.Ytocdoddmaopdbaa
namespace Held
def find (n : Nat) : Code → Option (Array Oper)
  | .region id ops _ => if id == n then some ops else none
  | .seq a b => match find n a with
    | some x => some x
    | none => find n b
  | .cond _ a b => match find n a with
    | some x => some x
    | none => find n b
  | .block _ b => find n b
  | .loop b => find n b
  | .scope b => find n b
  | .rangeFunc _ _ _ b => find n b
  | _ => none
def inBody (n : Nat) : Option Code → Array Oper
  | some c => (find n c).getD #[]
  | none => #[]
end Held
end Go.Proofs.Ytocdoddmaopdbaa
namespace Go.Proofs.Ytocdoddmaopdbaa
namespace Held
structure Reg (ops : Array Oper) (o : List Nat) (n : Nat) (ks : List Nat) : Prop where
  siz : ops.size = n
  nos : Region.noSelect ops = true
  ok : (ks.all fun k => okAt ops o k) = true
theorem tk {P : Program} {ops : Array Oper} {Q : Exit → Act → World → Prop} {S : World → Prop} {o ks : List Nat} {n k i : Nat} {oi : Oper} {v : Value} {fuel : Nat} {a : Act} {w : World} (R : Reg ops o n ks) (h2 : ks.contains k = true) (hk : o[k]? = some i) (hi : ops.toList[i]? = some oi)
    (hQ : ∀ c a w, Q (.panic c) (a.put oi.dst v) w → Q (.panic c) a w) (hS : S w) (hy : YieldsIf P ops S oi v a)
    (h : wpAnyH P .any ops Q S fuel (lst n o (k + 1)) (a.put oi.dst v) w) : wpAnyH P .any ops Q S (fuel + 1) (lst n o k) a w :=
  take R.nos (List.all_eq_true.1 R.ok k (by simpa using h2)) R.siz hk hi hQ hy hS h
end Held
end Go.Proofs.Ytocdoddmaopdbaa
namespace Go.Proofs.Ytocdoddmaopdbaa
open Go.RowKit Go.Maps
open Sp
theorem infoStr13 : (Try.prog.info? 9).map (fun i => (i.zero, i.size, i.bytes)) = some (some (.string ByteArray.empty), 1, 16) := by kernel_rfl
theorem refLess13 (s t : ByteArray) (b : Bool) (h : Hid (less s t = b)) (w : World) : Calls Try.prog 25 #[.string s, .string t] w fun e w' => e = .returned (.bool b) ∧ Below w.heap.size w w' := (refLess_calls s t w).mono fun e w' ⟨he, hw⟩ => by
  subst hw
  rw [he, h.out]
  exact ⟨rfl, Below.refl _ _⟩
noncomputable def opspb : Array Oper := Held.inBody 12 Try.f4.body
def ordpb : List Nat := [0, 1, 2, 3, 4, 5, 6, 7, 8, 9, 10, 11, 12, 13, 14, 15, 16, 17]
set_option maxRecDepth 100000 in
theorem rgpb : Held.Reg opspb ordpb 18 [0, 1, 2, 3, 4, 5, 6, 7, 8, 9, 10, 11, 12, 13, 14, 15, 16] := ⟨by kernel_rfl, by kernel_rfl, by kernel_rfl⟩
noncomputable def opspc : Array Oper := Held.inBody 12 Try.f4.body
def ordpc : List Nat := [0, 1, 2, 3, 4, 5, 6, 7, 8, 9, 10, 11, 12, 13, 14, 15, 16, 17]
set_option maxRecDepth 100000 in
theorem rgpc : Held.Reg opspc ordpc 18 [0, 1, 2, 3, 4, 5, 6, 7, 8, 9, 10, 11, 12, 13, 14, 15, 16] := ⟨by kernel_rfl, by kernel_rfl, by kernel_rfl⟩
noncomputable def opsqaa : Array Oper := Held.inBody 27 Try.f4.body
def ordqaa : List Nat := [0, 1, 2, 3, 4, 5, 6, 7, 8, 9, 10, 11, 12, 13, 14, 15, 16, 17, 18, 19, 20, 21, 22, 23, 24, 25, 26, 27]
set_option maxRecDepth 100000 in
theorem rgqaa : Held.Reg opsqaa ordqaa 28 [0, 1, 2, 3, 4, 5, 6, 7, 8, 10, 11, 12, 13, 14, 15, 16, 17, 18, 19, 20, 21, 22, 23, 24, 25, 26, 27] := ⟨by kernel_rfl, by kernel_rfl, by kernel_rfl⟩
noncomputable def opsqab : Array Oper := Held.inBody 27 Try.f4.body
def ordqab : List Nat := [0, 1, 2, 3, 4, 5, 6, 7, 8, 9, 10, 11, 12, 13, 14, 15, 16, 17, 18, 19, 20, 21, 22, 23, 24, 25, 26, 27]
set_option maxRecDepth 100000 in
theorem rgqab : Held.Reg opsqab ordqab 28 [0, 1, 2, 3, 4, 5, 6, 7, 8, 10, 11, 12, 13, 14, 15, 16, 17, 18, 19, 20, 21, 22, 23, 25, 26, 27] := ⟨by kernel_rfl, by kernel_rfl, by kernel_rfl⟩
noncomputable def opsqba : Array Oper := Held.inBody 32 Try.f4.body
def ordqba : List Nat := [0, 1, 2, 3, 4, 5, 6, 7, 8, 9, 10, 11, 12, 13, 14, 15, 16, 17, 18, 19, 20, 21, 22, 23, 24, 25, 26, 27]
set_option maxRecDepth 100000 in
theorem rgqba : Held.Reg opsqba ordqba 28 [0, 1, 2, 3, 4, 5, 6, 7, 8, 10, 11, 12, 13, 14, 15, 16, 17, 18, 19, 20, 21, 22, 23, 24, 25, 26, 27] := ⟨by kernel_rfl, by kernel_rfl, by kernel_rfl⟩
noncomputable def opsqbb : Array Oper := Held.inBody 32 Try.f4.body
def ordqbb : List Nat := [0, 1, 2, 3, 4, 5, 6, 7, 8, 9, 10, 11, 12, 13, 14, 15, 16, 17, 18, 19, 20, 21, 22, 23, 24, 25, 26, 27]
set_option maxRecDepth 100000 in
theorem rgqbb : Held.Reg opsqbb ordqbb 28 [0, 1, 2, 3, 4, 5, 6, 7, 8, 10, 11, 12, 13, 14, 15, 16, 17, 18, 19, 20, 21, 22, 23, 25, 26, 27] := ⟨by kernel_rfl, by kernel_rfl, by kernel_rfl⟩
theorem sorted_prev {M : List ByteArray} (h : Sorted M) {k : Nat} (hk : k < M.length) (h0 : ¬ k = 0) : less (M[k - 1]'(by omega)) M[k] = true := List.pairwise_iff_getElem.1 h (k - 1) k _ _ (by omega)
theorem setP_leB (P : List Pr) (p q : ByteArray) (on : Bool) : (setP P p q on).1.length ≤ P.length + 1 := by
  unfold setP tuP
  split
  · exact Nat.le_succ _
  · cases on
    · exact Nat.le_trans (List.length_filter_le _ _) (Nat.le_succ _)
    · simp
set_option maxHeartbeats 32000000 in
set_option maxRecDepth 100000 in
theorem both13_walk (n c : Nat) (A : Option Addr) (l : List OpI) (w : World) (hl : Row enOp 3 w (.slice A n c) l) (hz : ∀ x ∈ l, x.w.size ≤ 9223372036854775807 ∧ x.c.size ≤ 9223372036854775807) :
    Calls Try.prog 4 #[.slice A n c] w fun e w' => e = .returned (.bool true) ∧ Below w.heap.size w w' := by
  have EA := Lib.hid hl.len_eq
  cases h : fewI l with
  | false =>
    have H := Lib.hid h
    clear h
    go_enter Try.func4, Try.ntmps4
    go_wp2_with fail
    with_reducible refine (few_is n c A l _ hl hz false H).mono ?_
    rintro e w1 ⟨rfl, D⟩
    go_wp2_with fail
    with_reducible refine (live13 _).mono ?_
    rintro e z9 ⟨rfl, b9⟩
    replace D := below_call D b9
    go_wp2
    go_ret
    exact ⟨rfl, D⟩
  | true =>
  have H := Lib.hid h
  obtain ⟨hn8, hfw⟩ := fewI_iff.1 h
  have HFW := Lib.hid hfw
  have hn80 : n ≤ 80 := by have := EA.out; omega
  clear h hfw hn8
  go_enter Try.func4, Try.ntmps4
  go_wp2_with fail
  with_reducible refine (few_is n c A l _ hl hz true H).mono ?_
  rintro e w1 ⟨rfl, D⟩
  go_wp2_with fail
  with_reducible refine (ix_new w w1 D).mono ?_
  rintro e w2 ⟨a, rfl, hI, b⟩
  replace D := below_call D b
  clear b H
  go_wp2_with fail
  go_loopw [4, 5] (fun v4 v5 wr => ∃ (i m : Nat) (L : List Pr) (N : List ByteArray), v5 = .int .i64 i ∧ i ≤ n ∧ Ix w wr a L m ∧ Own enS 1 9 wr w.heap.size v4 N ∧ N.length = 2 * i ∧ Hid (∀ x ∈ L, x.1 ∈ N ∧ x.2 ∈ N) ∧ Hid (∀ s ∈ N, s.size ≤ 40) ∧ L.length ≤ i ∧ m ≤ 900 * i ∧ Below w.heap.size w wr) (fun _ v5 _ => (n - intOf v5).toNat)
  case atStart => exact ⟨0, 0, [], [], rfl, by omega, hI, Own.nil _ _ _ _ _, rfl, fun x hx => (by cases hx), fun x hx => (by cases hx), Nat.le_refl _, by omega, D⟩
  case round =>
    clear hI D
    obtain ⟨i, m, L, N, rfl, hi, hI, hO, hNl, HN, HZ, hLi, hmi, D⟩ := hrel
    by_cases hlt : i < n
    · have hil : i < l.length := by have := EA.out; omega
      obtain ⟨⟨d, p, q⟩, he⟩ : ∃ e, l[i] = e := ⟨_, rfl⟩
      have hpq := HFW.out i hil
      rw [he] at hpq
      obtain ⟨hp, hq⟩ := hpq
      simp only at hp hq
      have hpm : p.size ≤ maxLen := by unfold maxLen; omega
      have hqm : q.size ≤ maxLen := by unfold maxLen; omega
      obtain ⟨ad, rfl, c0, c1, c2⟩ := rowOp (hl.below D) i hil d p q he
      have HE := Lib.hid he
      clear he
      have x1 : (0 : Int) ≤ (i : Int) := by omega
      have x2 : (i : Int) < (n : Int) := by omega
      have HZ2 := Lib.hid (szX HZ.out hp hq)
      by_cases h3 : d = 3
      · subst h3
        go_wp2_with fail
        with_reducible refine (ix_forget hI D p hpm (by omega) (by omega)).mono ?_
        rintro e z3 ⟨rfl, hI1, D1, K1⟩
        have hL3 : (forgetP L p).length ≤ L.length + 1 := Nat.le_succ_of_le (List.length_filter_le _ _)
        have HN2 := Lib.hid (namesX (p := p) (q := q) HN.out (L' := forgetP L p) (fun x hx => .inl (List.mem_filter.1 hx).1))
        obtain ⟨L2, hL2⟩ : ∃ L2, forgetP L p = L2 := ⟨_, rfl⟩
        rw [hL2] at hI1 hL3 HN2
        clear hL2
        replace hO := K1.own hO
        replace c0 := K1.cell c0
        replace c1 := K1.cell c1
        replace c2 := K1.cell c2
        clear K1 hI D
        have hg3 : Hid (∀ o : Obj, (z3.alloc o).heap[z3.heap.size]? = some o) := fun o => heap_alloc_new z3 o
        have hz3 : Hid (∀ o : Obj, w.heap.size ≤ (z3.alloc o).heap.size) := fun o => by rw [size_alloc]; exact Nat.le_succ_of_le D1.size
        go_wp2_with fail
        go_region_law (refine Own.append2S (w0 := w) w.heap.size rfl (.tmp 57) (.tmp 68) 38 9 (.string ByteArray.empty) 16 rfl Try.underlying38 infoStr13 rfl _ N p q (by simp [Act.eval, Act.put]) z3.heap.size (by simp [Act.eval, Act.put]) (hg3.out _) (hO.alloc _) (below_alloc0 D1 _).drew (hz3.out _) (by omega) (by omega) ?_; intro v6 w6 hO6 hB6 hgr)
        all_goals go_wp2
        all_goals
          exact ⟨⟨i + 1, m + 900, L2, N ++ [p, q], by go_num, by omega, ((hI1.below (below_alloc0 (Below.refl _ _) _).drew).mono (by omega)).textsX (hO.alloc _) hgr, hO6, by rw [List.length_append, hNl]; simp only [List.length_cons, List.length_nil]; omega, HN2, HZ2, by omega, by omega, hB6⟩, by simp [intOf]; omega⟩
      by_cases h1 : d = 1
      · skip
        subst h1
        go_wp2_with fail
        replace hI := hI.below ((Below.refl wr.heap.size wr).drew)
        replace hO : Own enS 1 9 wr.drew _ _ _ := hO
        replace D : Below w.heap.size w wr.drew := D.drew
        replace c0 : wr.drew.cell? _ = _ := c0
        replace c1 : wr.drew.cell? _ = _ := c1
        replace c2 : wr.drew.cell? _ = _ := c2
        refine Held.start (ops := opspb) (S := fun w' => w'.cell? (ad.add (i * 3)) = some (.int .i64 1) ∧ w'.cell? ⟨(ad.add (i * 3)).block, (ad.add (i * 3)).off + 1, none⟩ = some (.string p) ∧ w'.cell? ⟨(ad.add (i * 3)).block, (ad.add (i * 3)).off + 2, none⟩ = some (.string q)) ordpb 18 (by kernel_rfl) rgpb.siz (by kernel_rfl) ⟨c0, c1, c2⟩ (fun hHeld => ?_)
        iterate 17
          refine Held.tk (v := ?_) rgpb rfl rfl rfl (fun _ _ _ h => h) (by assumption) (Or.inl ⟨by kernel_rfl, ?_⟩) ?_
          rotate_left
          · (intro w hSw; (try dsimp only at hSw); go_simp; (try (first | with_reducible rfl | rw [if_neg (by omega)])))
          try simp only [Act.put, List.getElem_toArray, List.getElem_cons_succ, List.getElem_cons_zero, List.setIfInBounds_toArray, List.set_cons_zero, List.set_cons_succ]
        refine Held.only (k := 17) (i := 17) (by kernel_rfl) (by kernel_rfl) rfl (by kernel_rfl) (fun K hK => ?_)
        go_simp
        go_at_call 12
        try rw [hb1]
        with_reducible refine (ix_set hI D p q false hpm hqm (by omega)).mono ?_
        rintro e z3 ⟨rfl, hI1, D1, K1⟩
        have hL3 : ((setP L p q false).1).length ≤ L.length + 1 := setP_leB L p q false
        have HN2 := Lib.hid (namesX (p := p) (q := q) HN.out (L' := (setP L p q false).1) (fun x hx => mem_setPX hx))
        obtain ⟨L2, hL2⟩ : ∃ L2, (setP L p q false).1 = L2 := ⟨_, rfl⟩
        rw [hL2] at hI1 hL3 HN2
        clear hL2
        replace hO := K1.own hO
        replace c0 := K1.cell c0
        replace c1 := K1.cell c1
        replace c2 := K1.cell c2
        clear K1 hI D
        refine hK.out _ _ (by (try dsimp only); (exact ⟨c0, c1, c2⟩)) (fun hHeld => ?_)
        clear hK K
        try simp only [Act.put, List.getElem_toArray, List.getElem_cons_succ, List.getElem_cons_zero, List.setIfInBounds_toArray, List.set_cons_zero, List.set_cons_succ]
        refine wpAnyH_done (by kernel_rfl) ?_ _
        have hg3 : Hid (∀ o : Obj, (z3.alloc o).heap[z3.heap.size]? = some o) := fun o => heap_alloc_new z3 o
        have hz3 : Hid (∀ o : Obj, w.heap.size ≤ (z3.alloc o).heap.size) := fun o => by rw [size_alloc]; exact Nat.le_succ_of_le D1.size
        go_wp2_with fail
        go_region_law (refine Own.append2S (w0 := w) w.heap.size rfl (.tmp 57) (.tmp 68) 38 9 (.string ByteArray.empty) 16 rfl Try.underlying38 infoStr13 rfl _ N p q (by simp [Act.eval, Act.put]) z3.heap.size (by simp [Act.eval, Act.put]) (hg3.out _) (hO.alloc _) (below_alloc0 D1 _).drew (hz3.out _) (by omega) (by omega) ?_; intro v6 w6 hO6 hB6 hgr)
        all_goals go_wp2
        all_goals
          exact ⟨⟨i + 1, m + 900, L2, N ++ [p, q], by go_num, by omega, ((hI1.below (below_alloc0 (Below.refl _ _) _).drew).mono (by omega)).textsX (hO.alloc _) hgr, hO6, by rw [List.length_append, hNl]; simp only [List.length_cons, List.length_nil]; omega, HN2, HZ2, by omega, by omega, hB6⟩, by simp [intOf]; omega⟩
      · skip
        have hb1 : (d != 1) = true := bne_iff_ne.2 h1
        go_wp2_with fail
        replace hI := hI.below ((Below.refl wr.heap.size wr).drew)
        replace hO : Own enS 1 9 wr.drew _ _ _ := hO
        replace D : Below w.heap.size w wr.drew := D.drew
        replace c0 : wr.drew.cell? _ = _ := c0
        replace c1 : wr.drew.cell? _ = _ := c1
        replace c2 : wr.drew.cell? _ = _ := c2
        refine Held.start (ops := opspc) (S := fun w' => w'.cell? (ad.add (i * 3)) = some (.int .i64 d) ∧ w'.cell? ⟨(ad.add (i * 3)).block, (ad.add (i * 3)).off + 1, none⟩ = some (.string p) ∧ w'.cell? ⟨(ad.add (i * 3)).block, (ad.add (i * 3)).off + 2, none⟩ = some (.string q)) ordpc 18 (by kernel_rfl) rgpc.siz (by kernel_rfl) ⟨c0, c1, c2⟩ (fun hHeld => ?_)
        iterate 17
          refine Held.tk (v := ?_) rgpc rfl rfl rfl (fun _ _ _ h => h) (by assumption) (Or.inl ⟨by kernel_rfl, ?_⟩) ?_
          rotate_left
          · (intro w hSw; (try dsimp only at hSw); go_simp; (try (first | with_reducible rfl | rw [if_neg (by omega)])))
          try simp only [Act.put, List.getElem_toArray, List.getElem_cons_succ, List.getElem_cons_zero, List.setIfInBounds_toArray, List.set_cons_zero, List.set_cons_succ]
        refine Held.only (k := 17) (i := 17) (by kernel_rfl) (by kernel_rfl) rfl (by kernel_rfl) (fun K hK => ?_)
        go_simp
        go_at_call 12
        try rw [hb1]
        with_reducible refine (ix_set hI D p q true hpm hqm (by omega)).mono ?_
        rintro e z3 ⟨rfl, hI1, D1, K1⟩
        have hL3 : ((setP L p q true).1).length ≤ L.length + 1 := setP_leB L p q true
        have HN2 := Lib.hid (namesX (p := p) (q := q) HN.out (L' := (setP L p q true).1) (fun x hx => mem_setPX hx))
        obtain ⟨L2, hL2⟩ : ∃ L2, (setP L p q true).1 = L2 := ⟨_, rfl⟩
        rw [hL2] at hI1 hL3 HN2
        clear hL2
        replace hO := K1.own hO
        replace c0 := K1.cell c0
        replace c1 := K1.cell c1
        replace c2 := K1.cell c2
        clear K1 hI D
        refine hK.out _ _ (by (try dsimp only); (exact ⟨c0, c1, c2⟩)) (fun hHeld => ?_)
        clear hK K
        try simp only [Act.put, List.getElem_toArray, List.getElem_cons_succ, List.getElem_cons_zero, List.setIfInBounds_toArray, List.set_cons_zero, List.set_cons_succ]
        refine wpAnyH_done (by kernel_rfl) ?_ _
        have hg3 : Hid (∀ o : Obj, (z3.alloc o).heap[z3.heap.size]? = some o) := fun o => heap_alloc_new z3 o
        have hz3 : Hid (∀ o : Obj, w.heap.size ≤ (z3.alloc o).heap.size) := fun o => by rw [size_alloc]; exact Nat.le_succ_of_le D1.size
        go_wp2_with fail
        go_region_law (refine Own.append2S (w0 := w) w.heap.size rfl (.tmp 57) (.tmp 68) 38 9 (.string ByteArray.empty) 16 rfl Try.underlying38 infoStr13 rfl _ N p q (by simp [Act.eval, Act.put]) z3.heap.size (by simp [Act.eval, Act.put]) (hg3.out _) (hO.alloc _) (below_alloc0 D1 _).drew (hz3.out _) (by omega) (by omega) ?_; intro v6 w6 hO6 hB6 hgr)
        all_goals go_wp2
        all_goals
          exact ⟨⟨i + 1, m + 900, L2, N ++ [p, q], by go_num, by omega, ((hI1.below (below_alloc0 (Below.refl _ _) _).drew).mono (by omega)).textsX (hO.alloc _) hgr, hO6, by rw [List.length_append, hNl]; simp only [List.length_cons, List.length_nil]; omega, HN2, HZ2, by omega, by omega, hB6⟩, by simp [intOf]; omega⟩
    · have hin : i = n := by omega
      subst hin
      obtain ⟨nA, nc, rfl, hnc⟩ := hO.slice
      have hrow := hO.row
      have HMEM := HN
      obtain ⟨M, hM⟩ : ∃ M, mergeS N [] = M := ⟨_, rfl⟩
      have HSU : Hid (∀ s, cntP L s M M.length = L.length) := fun s => by
        rw [cntP_all, ← hM]
        exact sum_all hI.nd s N (mem_sdX HN.out s)
      have HMZ : Hid (∀ u ∈ M, u.size ≤ 40) := fun u hu => by
        rw [← hM, mergeS_mem] at hu
        exact HZ.out u (hu.resolve_right (by simp))
      have hN160 : N.length ≤ 262144 := by omega
      have HLE : Hid (∀ s k, cntP L s M k ≤ L.length) := fun s k => by
        rw [← HSU.out s, cntP_all]
        exact cntP_le L s M k
      have HM := Lib.hid hM
      clear hM hO HN HMEM HZ hNl
      go_wp2_with fail
      with_reducible refine (refMerge_calls _ nc 0 0 nA none N [] _ hrow (Row.nil _ _ _) hN160 (by omega)).mono ?_
      rintro e w3 ⟨v, rfl, hR, b⟩
      rw [HM.out] at hR
      obtain ⟨mA, mc, rfl⟩ := form_S hR
      replace hI := hI.below b
      replace D := below_call D b
      clear b hrow
      have hMl : M.length ≤ 9223372036854775807 := hR.len
      obtain ⟨mn, hmn⟩ : ∃ mn, M.length = mn := ⟨_, rfl⟩
      rw [hmn] at hMl
      have HSU2 : Hid (∀ s, cntP L s M mn = L.length) := fun s => by rw [← hmn]; exact HSU.out s
      have hmh := Lib.hid hmn
      replace hR : Row enS 1 w3 (.slice mA mn mc) M := by rw [← hmn]; exact hR
      go_wp2_with fail
      try rw [hmh.out]
      clear hmn HSU
      go_loopw [6, 7, 8] (fun v6 v7 v8 wr => ∃ (j na nb : Nat), v8 = .int .i64 j ∧ v6 = .int .i64 na ∧ v7 = .int .i64 nb ∧ j ≤ mn ∧ Hid (cntP L true M j = na) ∧ Hid (cntP L false M j = nb) ∧ Ix w wr a L m ∧ Row enS 1 wr (.slice mA mn mc) M ∧ Below w.heap.size w wr) (fun _ _ v8 _ => (mn - intOf v8).toNat)
      case atStart => exact ⟨0, 0, 0, rfl, rfl, rfl, by omega, rfl, rfl, hI, hR, D⟩
      case round =>
        clear hI D hR
        obtain ⟨j, na, nb, rfl, rfl, rfl, hj, HNA, HNB, hI, hR, D⟩ := hrel
        by_cases hlt : j < mn
        · have hjl : j < M.length := by have := hmh.out; omega
          obtain ⟨u, hu⟩ : ∃ u, M[j] = u := ⟨_, rfl⟩
          have hum : u.size ≤ maxLen := by
            have := HMZ.out u (by rw [← hu]; exact List.getElem_mem _)
            unfold maxLen; omega
          have HCA := Lib.hid (cntP_succ L true M j hjl u hu)
          have HCB := Lib.hid (cntP_succ L false M j hjl u hu)
          have hsA := HLE.out true (j + 1)
          have hsB := HLE.out false (j + 1)
          rw [HCA.out, HNA.out] at hsA
          rw [HCB.out, HNB.out] at hsB
          obtain ⟨ad2, rfl, cu⟩ := hR.get1 (f := Value.string) j hjl
          rw [hu] at cu
          have HU := Lib.hid hu
          clear hu
          have x1 : (0 : Int) ≤ (j : Int) := by omega
          have x2 : (j : Int) < (mn : Int) := by omega
          go_wp2_with fail
          with_reducible refine (ix_watchers hI u hum (by omega)).mono ?_
          rintro e z1 ⟨v, rfl, rA, b⟩
          obtain ⟨wA, wc, rfl⟩ := form_S rA
          replace hI := hI.below b
          replace D := below_call D b
          replace hR := hR.below b
          replace cu := cell_below b cu
          clear b
          go_wp2_with fail
          with_reducible refine (ix_contacts hI u hum (by omega)).mono ?_
          rintro e z2 ⟨v, rfl, rB, b⟩
          obtain ⟨kA, kc, rfl⟩ := form_S rB
          replace hI := hI.below b
          replace D := below_call D b
          replace hR := hR.below b
          replace rA := rA.below b
          clear b cu
          obtain ⟨la, hla⟩ : ∃ la, (sideP L u true).length = la := ⟨_, rfl⟩
          obtain ⟨lb, hlb⟩ : ∃ lb, (sideP L u false).length = lb := ⟨_, rfl⟩
          rw [hla] at hsA rA
          rw [hlb] at hsB rB
          try rw [hla]
          try rw [hlb]
          have hLA := Lib.hid hla
          have hLB := Lib.hid hlb
          have HCA2 : Hid (cntP L true M (j + 1) = na + la) := by show _ = _; rw [HCA.out, HNA.out, hla]
          have HCB2 : Hid (cntP L false M (j + 1) = nb + lb) := by show _ = _; rw [HCB.out, HNB.out, hlb]
          clear hla hlb HCA HCB HNA HNB
          go_wp2_with fail
          go_loopw [11] (fun v11 wr => ∃ (k : Nat), v11 = .int .i64 k ∧ k ≤ la ∧ Ix w wr a L m ∧ Row enS 1 wr (.slice (some ad2) mn mc) M ∧ Row enS 1 wr (.slice wA la wc) (sideP L u true) ∧ Row enS 1 wr (.slice kA lb kc) (sideP L u false) ∧ Below w.heap.size w wr) (fun v11 _ => (la - intOf v11).toNat)
          case atStart => exact ⟨0, rfl, Nat.zero_le _, hI, hR, rA, rB, D⟩
          case round =>
            clear hI D hR rA rB
            obtain ⟨k, rfl, hk, hI, hR, rA, rB, D⟩ := hrel
            by_cases hlk : k < la
            · have hkl : k < (sideP L u true).length := by have := hLA.out; omega
              obtain ⟨x, hx⟩ : ∃ x, (sideP L u true)[k] = x := ⟨_, rfl⟩
              have hin : inP L x u = true := (@sideP_memX L u x).1.1 (by rw [← hx]; exact List.getElem_mem _)
              have HIN := Lib.hid hin
              have hxm : x.size ≤ maxLen := by
                have := hI.sz _ (inP_iff.1 hin)
                exact this.1
              obtain ⟨ad3, rfl, cx⟩ := rA.get1 (f := Value.string) k hkl
              rw [hx] at cx
              have cu : wr.cell? (ad2.add j) = some (.string u) := by
                obtain ⟨ad4, e4, c4⟩ := hR.get1 (f := Value.string) j hjl
                injection e4 with e4
                rw [e4, ← HU.out]
                exact c4
              have x3 : (0 : Int) ≤ (k : Int) := by omega
              have x4 : (k : Int) < (la : Int) := by omega
              have HX := Lib.hid hx
              clear hin hx
              replace cx : wr.drew.cell? _ = _ := cx
              replace cu : wr.drew.cell? _ = _ := cu
              have hl63 : la ≤ 9223372036854775807 := by have := rA.len; have := hLA.out; omega
              by_cases hk0 : k = 0
              · subst hk0
                replace cx : wr.drew.cell? ad3 = some (.string x) := by rwa [show ad3.add 0 = ad3 from by unfold Addr.add; split <;> simp_all] at cx
                go_wp2_with fail
                refine Held.start (ops := opsqaa) (S := fun w' => w'.cell? (ad3) = some (.string x) ∧ w'.cell? (ad2.add j) = some (.string u)) ordqaa 28 (by kernel_rfl) rgqaa.siz (by kernel_rfl) ⟨cx, cu⟩ (fun hHeld => ?_)
                iterate 9
                  refine Held.tk (v := ?_) rgqaa rfl rfl rfl (fun _ _ _ h => h) (by assumption) (Or.inl ⟨by kernel_rfl, ?_⟩) ?_
                  rotate_left
                  · (intro w hSw; (try dsimp only at hSw); go_simp; (try (first | with_reducible rfl | rw [if_neg (by omega)])))
                  try simp only [Act.put, List.getElem_toArray, List.getElem_cons_succ, List.getElem_cons_zero, List.setIfInBounds_toArray, List.set_cons_zero, List.set_cons_succ]
                refine Held.only (k := 9) (i := 9) (by kernel_rfl) (by kernel_rfl) rfl (by kernel_rfl) (fun K hK => ?_)
                go_simp
                go_at_call 14
                with_reducible refine (ix_has (hI.below ((Below.refl wr.heap.size wr).drew)) x u hxm hum).mono ?_
                rintro e y1 ⟨rfl, b⟩
                rw [HIN.out]
                have hI2 := (hI.below ((Below.refl wr.heap.size wr).drew)).below b
                have D2 := below_call D.drew b
                have hR2 := (hR.below ((Below.refl wr.heap.size wr).drew)).below b
                have rA2 := (rA.below ((Below.refl wr.heap.size wr).drew)).below b
                have rB2 := (rB.below ((Below.refl wr.heap.size wr).drew)).below b
                replace cx := cell_below b cx
                replace cu := cell_below b cu
                clear b
                refine hK.out _ _ (by (try dsimp only); (exact ⟨cx, cu⟩)) (fun hHeld => ?_)
                clear hK K
                try simp only [Act.put, List.getElem_toArray, List.getElem_cons_succ, List.getElem_cons_zero, List.setIfInBounds_toArray, List.set_cons_zero, List.set_cons_succ]
                iterate 5
                  refine Held.tk (v := ?_) rgqaa rfl rfl rfl (fun _ _ _ h => h) (by assumption) (Or.inl ⟨by kernel_rfl, ?_⟩) ?_
                  rotate_left
                  · (intro w hSw; (try dsimp only at hSw); go_simp; (try (first | with_reducible rfl | rw [if_neg (by omega)])))
                  try simp only [Act.put, List.getElem_toArray, List.getElem_cons_succ, List.getElem_cons_zero, List.setIfInBounds_toArray, List.set_cons_zero, List.set_cons_succ]
                iterate 11
                  refine Held.tk (v := undef) rgqaa rfl rfl rfl (fun _ _ _ h => h) (by assumption) (Or.inr ⟨by kernel_rfl, rfl⟩) ?_
                  try simp only [Act.put, List.getElem_toArray, List.getElem_cons_succ, List.getElem_cons_zero, List.setIfInBounds_toArray, List.set_cons_zero, List.set_cons_succ]
                iterate 2
                  refine Held.tk (v := ?_) rgqaa rfl rfl rfl (fun _ _ _ h => h) (by assumption) (Or.inl ⟨by kernel_rfl, ?_⟩) ?_
                  rotate_left
                  · (intro w hSw; (try dsimp only at hSw); go_simp; (try (first | with_reducible rfl | rw [if_neg (by omega)])))
                  try simp only [Act.put, List.getElem_toArray, List.getElem_cons_succ, List.getElem_cons_zero, List.setIfInBounds_toArray, List.set_cons_zero, List.set_cons_succ]
                refine wpAnyH_done (by kernel_rfl) ?_ _
                go_wp2
                exact ⟨⟨1, by go_num, by omega, hI2, hR2, rA2, rB2, D2⟩, by simp [intOf]; omega⟩
              · have hkl2 : k - 1 < (sideP L u true).length := by omega
                obtain ⟨y, hy⟩ : ∃ y, (sideP L u true)[k - 1] = y := ⟨_, rfl⟩
                have cy : wr.drew.cell? (ad3.add (k - 1)) = some (.string y) := by
                  obtain ⟨ad4, e4, c4⟩ := rA.get1 (f := Value.string) (k - 1) hkl2
                  injection e4 with e4
                  rw [e4, ← hy]
                  exact c4
                have HLS : Hid (less y x = true) := by
                  show _ = _
                  rw [← hy, ← HX.out]
                  exact sorted_prev (sideP_sorted L u true) hkl hk0
                obtain ⟨q, hq⟩ : ∃ q, k - 1 = q := ⟨_, rfl⟩
                rw [hq] at cy
                have hw : IntKind.i64.wrap ((k : Int) - 1) = ((q : Nat) : Int) := by
                  rw [show (k : Int) - 1 = ((q : Nat) : Int) from by omega, IntKind.wrap_i64]; omega
                have x6 : (q : Int) < (la : Int) := by omega
                have x5 : (0 : Int) ≤ (q : Int) := by omega
                have x7 : (0 : Int) < (k : Int) := by omega
                have x8 : 0 < k := by omega
                clear hq
                clear hy hk0
                go_wp2_with fail
                refine Held.start (ops := opsqab) (S := fun w' => w'.cell? (ad3.add k) = some (.string x) ∧ w'.cell? (ad2.add j) = some (.string u) ∧ w'.cell? (ad3.add q) = some (.string y)) ordqab 28 (by kernel_rfl) rgqab.siz (by kernel_rfl) ⟨cx, cu, cy⟩ (fun hHeld => ?_)
                iterate 9
                  refine Held.tk (v := ?_) rgqab rfl rfl rfl (fun _ _ _ h => h) (by assumption) (Or.inl ⟨by kernel_rfl, ?_⟩) ?_
                  rotate_left
                  · (intro w hSw; (try dsimp only at hSw); go_simp; (try (first | with_reducible rfl | rw [if_neg (by omega)])))
                  try simp only [Act.put, List.getElem_toArray, List.getElem_cons_succ, List.getElem_cons_zero, List.setIfInBounds_toArray, List.set_cons_zero, List.set_cons_succ]
                refine Held.only (k := 9) (i := 9) (by kernel_rfl) (by kernel_rfl) rfl (by kernel_rfl) (fun K hK => ?_)
                go_simp
                go_at_call 14
                with_reducible refine (ix_has (hI.below ((Below.refl wr.heap.size wr).drew)) x u hxm hum).mono ?_
                rintro e y1 ⟨rfl, b⟩
                rw [HIN.out]
                have hI2 := (hI.below ((Below.refl wr.heap.size wr).drew)).below b
                have D2 := below_call D.drew b
                replace cx := cell_below b cx
                replace cu := cell_below b cu
                replace cy := cell_below b cy
                have hR2 := (hR.below ((Below.refl wr.heap.size wr).drew)).below b
                have rA2 := (rA.below ((Below.refl wr.heap.size wr).drew)).below b
                have rB2 := (rB.below ((Below.refl wr.heap.size wr).drew)).below b
                clear b
                refine hK.out _ _ (by (try dsimp only); (exact ⟨cx, cu, cy⟩)) (fun hHeld => ?_)
                clear hK K
                try simp only [Act.put, List.getElem_toArray, List.getElem_cons_succ, List.getElem_cons_zero, List.setIfInBounds_toArray, List.set_cons_zero, List.set_cons_succ]
                iterate 14
                  refine Held.tk (v := ?_) rgqab rfl rfl rfl (fun _ _ _ h => h) (by assumption) (Or.inl ⟨by kernel_rfl, ?_⟩) ?_
                  rotate_left
                  · (intro w hSw; (try dsimp only at hSw); go_simp; (try (first | with_reducible rfl | rw [if_neg (by omega)])))
                  try simp only [Act.put, List.getElem_toArray, List.getElem_cons_succ, List.getElem_cons_zero, List.setIfInBounds_toArray, List.set_cons_zero, List.set_cons_succ]
                refine Held.only (k := 24) (i := 24) (by kernel_rfl) (by kernel_rfl) rfl (by kernel_rfl) (fun K hK => ?_)
                go_simp
                go_at_call 25
                with_reducible refine (refLess13 y x true HLS _).mono ?_
                rintro e y2 ⟨rfl, b⟩
                replace cx := cell_below b cx
                replace cu := cell_below b cu
                replace cy := cell_below b cy
                replace hI2 := hI2.below b
                replace D2 := below_call D2 b
                replace hR2 := hR2.below b
                replace rA2 := rA2.below b
                replace rB2 := rB2.below b
                clear b
                refine hK.out _ _ (by (try dsimp only); (exact ⟨cx, cu, cy⟩)) (fun hHeld => ?_)
                clear hK K
                try simp only [Act.put, List.getElem_toArray, List.getElem_cons_succ, List.getElem_cons_zero, List.setIfInBounds_toArray, List.set_cons_zero, List.set_cons_succ]
                iterate 3
                  refine Held.tk (v := ?_) rgqab rfl rfl rfl (fun _ _ _ h => h) (by assumption) (Or.inl ⟨by kernel_rfl, ?_⟩) ?_
                  rotate_left
                  · (intro w hSw; (try dsimp only at hSw); go_simp; (try (first | with_reducible rfl | rw [if_neg (by omega)])))
                  try simp only [Act.put, List.getElem_toArray, List.getElem_cons_succ, List.getElem_cons_zero, List.setIfInBounds_toArray, List.set_cons_zero, List.set_cons_succ]
                refine wpAnyH_done (by kernel_rfl) ?_ _
                go_wp2
                exact ⟨⟨k + 1, by go_num, by omega, hI2, hR2, rA2, rB2, D2⟩, by simp [intOf]; omega⟩
            · have hke : la = k := by omega
              subst hke
              go_wp2_with fail
              go_loopw [12] (fun v12 wr => ∃ (k : Nat), v12 = .int .i64 k ∧ k ≤ lb ∧ Ix w wr a L m ∧ Row enS 1 wr (.slice (some ad2) mn mc) M ∧ Row enS 1 wr (.slice wA la wc) (sideP L u true) ∧ Row enS 1 wr (.slice kA lb kc) (sideP L u false) ∧ Below w.heap.size w wr) (fun v12 _ => (lb - intOf v12).toNat)
              case atStart => exact ⟨0, rfl, Nat.zero_le _, hI, hR, rA, rB, D⟩
              case round =>
                clear hI D hR rA rB
                obtain ⟨k, rfl, hk, hI, hR, rA, rB, D⟩ := hrel
                by_cases hlk : k < lb
                · have hkl : k < (sideP L u false).length := by have := hLB.out; omega
                  obtain ⟨x, hx⟩ : ∃ x, (sideP L u false)[k] = x := ⟨_, rfl⟩
                  have hin : inP L u x = true := (@sideP_memX L u x).2.1 (by rw [← hx]; exact List.getElem_mem _)
                  have HIN := Lib.hid hin
                  have hxm : x.size ≤ maxLen := by
                    have := hI.sz _ (inP_iff.1 hin)
                    exact this.2
                  obtain ⟨ad3, rfl, cx⟩ := rB.get1 (f := Value.string) k hkl
                  rw [hx] at cx
                  have cu : wr.cell? (ad2.add j) = some (.string u) := by
                    obtain ⟨ad4, e4, c4⟩ := hR.get1 (f := Value.string) j hjl
                    injection e4 with e4
                    rw [e4, ← HU.out]
                    exact c4
                  have x3 : (0 : Int) ≤ (k : Int) := by omega
                  have x4 : (k : Int) < (lb : Int) := by omega
                  have HX := Lib.hid hx
                  clear hin hx
                  replace cx : wr.drew.cell? _ = _ := cx
                  replace cu : wr.drew.cell? _ = _ := cu
                  have hl63 : lb ≤ 9223372036854775807 := by have := rB.len; have := hLB.out; omega
                  by_cases hk0 : k = 0
                  · subst hk0
                    replace cx : wr.drew.cell? ad3 = some (.string x) := by rwa [show ad3.add 0 = ad3 from by unfold Addr.add; split <;> simp_all] at cx
                    go_wp2_with fail
                    refine Held.start (ops := opsqba) (S := fun w' => w'.cell? (ad3) = some (.string x) ∧ w'.cell? (ad2.add j) = some (.string u)) ordqba 28 (by kernel_rfl) rgqba.siz (by kernel_rfl) ⟨cx, cu⟩ (fun hHeld => ?_)
                    iterate 9
                      refine Held.tk (v := ?_) rgqba rfl rfl rfl (fun _ _ _ h => h) (by assumption) (Or.inl ⟨by kernel_rfl, ?_⟩) ?_
                      rotate_left
                      · (intro w hSw; (try dsimp only at hSw); go_simp; (try (first | with_reducible rfl | rw [if_neg (by omega)])))
                      try simp only [Act.put, List.getElem_toArray, List.getElem_cons_succ, List.getElem_cons_zero, List.setIfInBounds_toArray, List.set_cons_zero, List.set_cons_succ]
                    refine Held.only (k := 9) (i := 9) (by kernel_rfl) (by kernel_rfl) rfl (by kernel_rfl) (fun K hK => ?_)
                    go_simp
                    go_at_call 14
                    with_reducible refine (ix_has (hI.below ((Below.refl wr.heap.size wr).drew)) u x hum hxm).mono ?_
                    rintro e y1 ⟨rfl, b⟩
                    rw [HIN.out]
                    have hI2 := (hI.below ((Below.refl wr.heap.size wr).drew)).below b
                    have D2 := below_call D.drew b
                    have hR2 := (hR.below ((Below.refl wr.heap.size wr).drew)).below b
                    have rA2 := (rA.below ((Below.refl wr.heap.size wr).drew)).below b
                    have rB2 := (rB.below ((Below.refl wr.heap.size wr).drew)).below b
                    replace cx := cell_below b cx
                    replace cu := cell_below b cu
                    clear b
                    refine hK.out _ _ (by (try dsimp only); (exact ⟨cx, cu⟩)) (fun hHeld => ?_)
                    clear hK K
                    try simp only [Act.put, List.getElem_toArray, List.getElem_cons_succ, List.getElem_cons_zero, List.setIfInBounds_toArray, List.set_cons_zero, List.set_cons_succ]
                    iterate 5
                      refine Held.tk (v := ?_) rgqba rfl rfl rfl (fun _ _ _ h => h) (by assumption) (Or.inl ⟨by kernel_rfl, ?_⟩) ?_
                      rotate_left
                      · (intro w hSw; (try dsimp only at hSw); go_simp; (try (first | with_reducible rfl | rw [if_neg (by omega)])))
                      try simp only [Act.put, List.getElem_toArray, List.getElem_cons_succ, List.getElem_cons_zero, List.setIfInBounds_toArray, List.set_cons_zero, List.set_cons_succ]
                    iterate 11
                      refine Held.tk (v := undef) rgqba rfl rfl rfl (fun _ _ _ h => h) (by assumption) (Or.inr ⟨by kernel_rfl, rfl⟩) ?_
                      try simp only [Act.put, List.getElem_toArray, List.getElem_cons_succ, List.getElem_cons_zero, List.setIfInBounds_toArray, List.set_cons_zero, List.set_cons_succ]
                    iterate 2
                      refine Held.tk (v := ?_) rgqba rfl rfl rfl (fun _ _ _ h => h) (by assumption) (Or.inl ⟨by kernel_rfl, ?_⟩) ?_
                      rotate_left
                      · (intro w hSw; (try dsimp only at hSw); go_simp; (try (first | with_reducible rfl | rw [if_neg (by omega)])))
                      try simp only [Act.put, List.getElem_toArray, List.getElem_cons_succ, List.getElem_cons_zero, List.setIfInBounds_toArray, List.set_cons_zero, List.set_cons_succ]
                    refine wpAnyH_done (by kernel_rfl) ?_ _
                    go_wp2
                    exact ⟨⟨1, by go_num, by omega, hI2, hR2, rA2, rB2, D2⟩, by simp [intOf]; omega⟩
                  · have hkl2 : k - 1 < (sideP L u false).length := by omega
                    obtain ⟨y, hy⟩ : ∃ y, (sideP L u false)[k - 1] = y := ⟨_, rfl⟩
                    have cy : wr.drew.cell? (ad3.add (k - 1)) = some (.string y) := by
                      obtain ⟨ad4, e4, c4⟩ := rB.get1 (f := Value.string) (k - 1) hkl2
                      injection e4 with e4
                      rw [e4, ← hy]
                      exact c4
                    have HLS : Hid (less y x = true) := by
                      show _ = _
                      rw [← hy, ← HX.out]
                      exact sorted_prev (sideP_sorted L u false) hkl hk0
                    obtain ⟨q, hq⟩ : ∃ q, k - 1 = q := ⟨_, rfl⟩
                    rw [hq] at cy
                    have hw : IntKind.i64.wrap ((k : Int) - 1) = ((q : Nat) : Int) := by
                      rw [show (k : Int) - 1 = ((q : Nat) : Int) from by omega, IntKind.wrap_i64]; omega
                    have x6 : (q : Int) < (lb : Int) := by omega
                    have x5 : (0 : Int) ≤ (q : Int) := by omega
                    have x7 : (0 : Int) < (k : Int) := by omega
                    have x8 : 0 < k := by omega
                    clear hq
                    clear hy hk0
                    go_wp2_with fail
                    refine Held.start (ops := opsqbb) (S := fun w' => w'.cell? (ad3.add k) = some (.string x) ∧ w'.cell? (ad2.add j) = some (.string u) ∧ w'.cell? (ad3.add q) = some (.string y)) ordqbb 28 (by kernel_rfl) rgqbb.siz (by kernel_rfl) ⟨cx, cu, cy⟩ (fun hHeld => ?_)
                    iterate 9
                      refine Held.tk (v := ?_) rgqbb rfl rfl rfl (fun _ _ _ h => h) (by assumption) (Or.inl ⟨by kernel_rfl, ?_⟩) ?_
                      rotate_left
                      · (intro w hSw; (try dsimp only at hSw); go_simp; (try (first | with_reducible rfl | rw [if_neg (by omega)])))
                      try simp only [Act.put, List.getElem_toArray, List.getElem_cons_succ, List.getElem_cons_zero, List.setIfInBounds_toArray, List.set_cons_zero, List.set_cons_succ]
                    refine Held.only (k := 9) (i := 9) (by kernel_rfl) (by kernel_rfl) rfl (by kernel_rfl) (fun K hK => ?_)
                    go_simp
                    go_at_call 14
                    with_reducible refine (ix_has (hI.below ((Below.refl wr.heap.size wr).drew)) u x hum hxm).mono ?_
                    rintro e y1 ⟨rfl, b⟩
                    rw [HIN.out]
                    have hI2 := (hI.below ((Below.refl wr.heap.size wr).drew)).below b
                    have D2 := below_call D.drew b
                    replace cx := cell_below b cx
                    replace cu := cell_below b cu
                    replace cy := cell_below b cy
                    have hR2 := (hR.below ((Below.refl wr.heap.size wr).drew)).below b
                    have rA2 := (rA.below ((Below.refl wr.heap.size wr).drew)).below b
                    have rB2 := (rB.below ((Below.refl wr.heap.size wr).drew)).below b
                    clear b
                    refine hK.out _ _ (by (try dsimp only); (exact ⟨cx, cu, cy⟩)) (fun hHeld => ?_)
                    clear hK K
                    try simp only [Act.put, List.getElem_toArray, List.getElem_cons_succ, List.getElem_cons_zero, List.setIfInBounds_toArray, List.set_cons_zero, List.set_cons_succ]
                    iterate 14
                      refine Held.tk (v := ?_) rgqbb rfl rfl rfl (fun _ _ _ h => h) (by assumption) (Or.inl ⟨by kernel_rfl, ?_⟩) ?_
                      rotate_left
                      · (intro w hSw; (try dsimp only at hSw); go_simp; (try (first | with_reducible rfl | rw [if_neg (by omega)])))
                      try simp only [Act.put, List.getElem_toArray, List.getElem_cons_succ, List.getElem_cons_zero, List.setIfInBounds_toArray, List.set_cons_zero, List.set_cons_succ]
                    refine Held.only (k := 24) (i := 24) (by kernel_rfl) (by kernel_rfl) rfl (by kernel_rfl) (fun K hK => ?_)
                    go_simp
                    go_at_call 25
                    with_reducible refine (refLess13 y x true HLS _).mono ?_
                    rintro e y2 ⟨rfl, b⟩
                    replace cx := cell_below b cx
                    replace cu := cell_below b cu
                    replace cy := cell_below b cy
                    replace hI2 := hI2.below b
                    replace D2 := below_call D2 b
                    replace hR2 := hR2.below b
                    replace rA2 := rA2.below b
                    replace rB2 := rB2.below b
                    clear b
                    refine hK.out _ _ (by (try dsimp only); (exact ⟨cx, cu, cy⟩)) (fun hHeld => ?_)
                    clear hK K
                    try simp only [Act.put, List.getElem_toArray, List.getElem_cons_succ, List.getElem_cons_zero, List.setIfInBounds_toArray, List.set_cons_zero, List.set_cons_succ]
                    iterate 3
                      refine Held.tk (v := ?_) rgqbb rfl rfl rfl (fun _ _ _ h => h) (by assumption) (Or.inl ⟨by kernel_rfl, ?_⟩) ?_
                      rotate_left
                      · (intro w hSw; (try dsimp only at hSw); go_simp; (try (first | with_reducible rfl | rw [if_neg (by omega)])))
                      try simp only [Act.put, List.getElem_toArray, List.getElem_cons_succ, List.getElem_cons_zero, List.setIfInBounds_toArray, List.set_cons_zero, List.set_cons_succ]
                    refine wpAnyH_done (by kernel_rfl) ?_ _
                    go_wp2
                    exact ⟨⟨k + 1, by go_num, by omega, hI2, hR2, rA2, rB2, D2⟩, by simp [intOf]; omega⟩
                · have hke2 : lb = k := by omega
                  subst hke2
                  go_wp2
                  exact ⟨⟨j + 1, _, _, by go_num, by go_num, by go_num, by omega, HCA2, HCB2, hI, hR, D⟩, by simp [intOf]; omega⟩
        · have hjm : j = mn := by omega
          subst hjm
          have hna : na = L.length := by rw [← HNA.out]; exact HSU2.out true
          have hnb : nb = L.length := by rw [← HNB.out]; exact HSU2.out false
          subst hna
          obtain rfl := hnb
          clear HNA HNB
          go_wp2_with fail
          with_reducible refine (ix_len hI).mono ?_
          rintro e z1 ⟨rfl, b⟩
          replace hI := hI.below b
          replace D := below_call D b
          clear b
          go_wp2_with fail
          with_reducible refine (ix_len hI).mono ?_
          rintro e z2 ⟨rfl, b⟩
          replace D := below_call D b
          clear b
          go_wp2_with fail
          with_reducible refine (live13 _).mono ?_
          rintro e z9 ⟨rfl, b9⟩
          replace D := below_call D b9
          go_wp2
          go_ret
          exact ⟨rfl, D⟩
end Go.Proofs.Ytocdoddmaopdbaa
