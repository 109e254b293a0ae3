/-
Layer 13: the document's Index: a box that holds a row of pairs; its Has, Set, sides and Forget.
-/
import Derived.Test.YtocdoddmaopdbaaIxC
import Derived.Test.YtocdoddmaopdbaaRefList
set_option linter.unusedVariables false
set_option linter.unusedSimpArgs false
namespace Go.Proofs.Ytocdoddmaopdbaa
open Go.RowKit Go.Maps
open Sp
def enPr (x : Pr) : List Value := [.string x.1, .string x.2]
theorem enPr_len (x : Pr) : (enPr x).length = 2 := rfl
theorem enPr_one (x : Pr) : ∀ u ∈ enPr x, u.oneCell' = true := by intro u hu; simp only [enPr, List.mem_cons, List.mem_nil_iff, or_false] at hu; rcases hu with rfl | rfl <;> rfl
abbrev zvPr : Value := .agg #[.string ⟨#[]⟩, .string ⟨#[]⟩]
theorem infoPr : (Try.prog.info? 44).map (fun i => (i.zero, i.size, i.bytes)) = some (some zvPr, 2, 32) := by kernel_rfl
theorem rowPr {W : World} {A : Option Addr} {n c : Nat} {l : List Pr} (h : Row enPr 2 W (.slice A n c) l) (i : Nat) (hi : i < l.length) (x y : ByteArray) (he : l[i] = (x, y)) :
    ∃ ad, A = some ad ∧ W.cell? (ad.add (i * 2)) = some (.string x) ∧ W.cell? ⟨(ad.add (i * 2)).block, (ad.add (i * 2)).off + 1, none⟩ = some (.string y) := by
  obtain ⟨ad, e, hc⟩ := h.get enPr_len i hi
  rw [he] at hc
  exact ⟨ad, e, hc 0 (by omega), hc 1 (by omega)⟩
theorem rowsPr {W : World} {ad : Addr} {n c : Nat} {l : List Pr} (h : Row enPr 2 W (.slice (some ad) n c) l) (i : Nat) (hi : i < l.length) (x y : ByteArray) (he : l[i] = (x, y)) :
    W.cell? (ad.add (i * 2)) = some (.string x) ∧ W.cell? ⟨(ad.add (i * 2)).block, (ad.add (i * 2)).off + 1, none⟩ = some (.string y) := by
  obtain ⟨ad', e, hc⟩ := rowPr h i hi x y he
  injection e with e
  subst e
  exact hc
/-- The document's Index at k: its pairs lie in a row of its own, behind k. -/
def RefAt (w : World) (k : Nat) (v : Value) (L : List Pr) : Prop := w.heap[k]? = some (.cells #[v] 30) ∧ Own enPr 2 44 w (k + 1) v L
theorem RefAt.below {w w1 : World} {k : Nat} {v : Value} {L : List Pr} (h : RefAt w k v L) (b : Below w.heap.size w w1) : RefAt w1 k v L := ⟨hcall h.1 b, h.2.below b⟩
theorem RefAt.turned {w w1 : World} {k : Nat} {v : Value} {L : List Pr} {own : Whose} (h : RefAt w k v L) (ho : Owned own w) (b : Turned own w w1) : RefAt w1 k v L := ⟨b.cells ho h.1, b.own_ ho h.2⟩
theorem RefAt.cell {w : World} {k : Nat} {v : Value} {L : List Pr} (h : RefAt w k v L) : w.cell? ⟨k, 0, none⟩ = some v ∧ w.frozen? ⟨k, 0, none⟩ = false ∧ k < w.heap.size :=
  ⟨by simp [World.cell?, h.1], by simp [World.frozen?, h.1], (Array.getElem?_eq_some_iff.1 h.1).1⟩
/-- w' is w but for the box at k, rows of pairs behind it, and new blocks. -/
structure RTurn (k : Nat) (w w' : World) : Prop where
  low : Below k w w'
  same : ∀ i, i < w.heap.size → i ≠ k → (∀ cs fr, w.heap[i]? ≠ some (.cells cs 44 fr)) → w'.heap[i]? = w.heap[i]?
theorem RTurn.refl (k : Nat) (w : World) : RTurn k w w := ⟨Below.refl _ _, fun _ _ _ _ => rfl⟩
theorem RTurn.of_below {k : Nat} {w w1 : World} (b : Below w.heap.size w w1) (hk : k ≤ w.heap.size) : RTurn k w w1 := ⟨b.mono hk, fun i hi _ _ => b.block i hi⟩
theorem RTurn.trans {k : Nat} {w w1 w2 : World} (h : RTurn k w w1) (hs : w.heap.size ≤ w1.heap.size) (hk : k ≤ w.heap.size) (h' : RTurn k w1 w2) : RTurn k w w2 :=
  ⟨h.low.trans h'.low, fun i hi hik hc => by
    have e := h.same i hi hik hc
    rw [h'.same i (Nat.lt_of_lt_of_le hi hs) hik (fun cs fr => by rw [e]; exact hc cs fr), e]⟩
theorem IdxAt.rturn {w w1 : World} {own : Whose} {a b : Nat} {c : Bool → Nat} {P : List Pr} {L : Bool → List Pr} {n k : Nat} {v : Value} (h : IdxAt w own a b c P L n) (hk : w.heap[k]? = some (.cells #[v] 30)) (t : RTurn k w w1) : IdxAt w1 own a b c P L n := by
  have hm : ∀ i r, own i = some r → w1.heap[i]? = w.heap[i]? := fun i r e => by
    obtain ⟨es, q, hq⟩ := h.maps i r e
    refine t.same i (Array.getElem?_eq_some_iff.1 hq).1 (fun e2 => ?_) (fun cs fr e2 => ?_)
    · rw [e2, hk] at hq
      cases hq
    · rw [hq] at e2
      cases e2
  have ha : w1.heap[a]? = w.heap[a]? := by
    refine t.same a (Array.getElem?_eq_some_iff.1 h.box).1 (fun e2 => ?_) (fun cs fr e2 => ?_)
    · have h2 := h.box
      rw [e2, hk] at h2
      simp at h2
    · rw [h.box] at e2
      injection e2 with e2
      injection e2 with e3 e4 e5
      exact absurd e4 (by decide)
  have move : ∀ b' n' S m r, own b' = some r → BMap w b' n' S m → BMap w1 b' n' S m := fun b' n' S m r e hB => by
    obtain ⟨D, ⟨es, ck, h1, h2⟩, h3⟩ := hB
    exact ⟨D, ⟨es, ck, (hm b' r e).trans h1, h2⟩, h3⟩
  refine ⟨ha.trans h.box, h.ob, h.oc, move _ _ _ _ _ h.ob h.prs, fun s => ?_, fun i r e => ?_⟩
  · obtain ⟨f, ⟨D, ⟨es, ck, h1, h2⟩, h3⟩, h4⟩ := h.side s
    refine ⟨f, ⟨D, ⟨es, ck, (hm _ _ (h.oc s)).trans h1, h2⟩, h3⟩, fun name => ⟨(h4 name).1, fun g e => ?_⟩⟩
    obtain ⟨q1, m, q2⟩ := (h4 name).2 g e
    exact ⟨q1, m, move _ _ _ _ _ q1 q2⟩
  · obtain ⟨es, q, hq⟩ := h.maps i r e
    exact ⟨es, q, (hm i r e).trans hq⟩
theorem inP_take {L : List Pr} {p q : ByteArray} (i : Nat) (hi : i < L.length) {x y : ByteArray} (he : L[i] = (x, y)) (h0 : inP (L.take i) p q = false) : (x = p ∧ y = q → inP L p q = true) ∧ (¬ (x = p ∧ y = q) → inP (L.take (i + 1)) p q = false) := by
  refine ⟨fun e => inP_iff.2 (by rw [← e.1, ← e.2, ← he]; exact List.getElem_mem _), fun e => ?_⟩
  unfold inP at h0 ⊢
  rw [List.take_succ_eq_append_getElem hi, List.any_append, h0, he]
  simp only [List.any_cons, List.any_nil, Bool.or_false, Bool.false_or, Bool.and_eq_false_iff, decide_eq_false_iff_not]
  by_cases e1 : x = p
  · exact .inr fun e2 => e ⟨e1, e2⟩
  · exact .inl e1
theorem str_eq {a b : ByteArray} (h : a = b) : (a.toList == b.toList) = true := by rw [h]; exact beq_self_eq_true _
theorem str_ne {a b : ByteArray} (h : ¬ a = b) : (a.toList == b.toList) = false := by rw [beq_eq_false_iff_ne]; exact fun e => h (toList_inj'.1 e)
set_option maxHeartbeats 16000000 in
set_option maxRecDepth 100000 in
theorem rhas_calls {w : World} {k n c : Nat} {A : Option Addr} {L : List Pr} (h : RefAt w k (.slice A n c) L) (p q : ByteArray) :
    Calls Try.prog 15 #[ptr k, .string p, .string q] w fun e w' => e = .returned (.bool (inP L p q)) ∧ Below w.heap.size w w' := by
  have hr := h.2.row
  have EA := Lib.hid hr.len_eq
  have HLN : Hid (L.length ≤ 9223372036854775807) := hr.len
  obtain ⟨k0, -, kz⟩ := h.cell
  go_enter Try.func15, Try.ntmps15
  go_wp2
  go_loopw [7] (fun v7 wr => ∃ i : Nat, v7 = .int .i64 i ∧ i ≤ n ∧ Hid (inP (L.take i) p q = false) ∧ wr = w) (fun v7 _ => (n - intOf v7).toNat)
  case atStart => exact ⟨0, rfl, Nat.zero_le _, rfl, rfl⟩
  case round =>
    obtain ⟨i, rfl, hi, HT, rfl⟩ := hrel
    by_cases hlt : i < n
    · have hil : i < L.length := by have := EA.out; omega
      have hi63 : n ≤ 9223372036854775807 := by have := EA.out; have := HLN.out; omega
      obtain ⟨⟨x, y⟩, he⟩ : ∃ e, L[i] = e := ⟨_, rfl⟩
      obtain ⟨ad, rfl, c0, c1⟩ := rowPr hr i hil x y he
      obtain ⟨h1, h2⟩ := inP_take i hil he HT.out
      clear he
      by_cases ex : x = p
      · have hx := str_eq ex
        by_cases ey : y = q
        · have hy := str_eq ey
          have HF := Lib.hid (h1 ⟨ex, ey⟩)
          clear h1 h2 ex ey
          go_wp2
          go_ret
          exact ⟨ret_bool HF.out.symm, Below.refl _ _⟩
        · have hy := str_ne ey
          have HF := Lib.hid (h2 (fun e => ey e.2))
          clear h1 h2 ex ey
          go_wp2
          exact ⟨⟨i + 1, by go_num, by omega, HF, by trivial⟩, by simp [intOf]; omega⟩
      · have hx := str_ne ex
        have HF := Lib.hid (h2 (fun e => ex e.1))
        clear h1 h2 ex
        go_wp2
        exact ⟨⟨i + 1, by go_num, by omega, HF, by trivial⟩, by simp [intOf]; omega⟩
    · have hin : i = n := by omega
      subst hin
      have HF : Hid (inP L p q = false) := by
        show _ = _
        have := HT.out
        rwa [List.take_of_length_le (by have := EA.out; omega)] at this
      go_wp2
      go_ret
      exact ⟨ret_bool HF.out.symm, Below.refl _ _⟩
theorem Own.setLow {α : Type} {enc : α → List Value} {m : Nat} {e : TypeId} {w : World} {base : Nat} {v : Value} {xs : List α} (h : Own enc m e w base v xs) {k : Nat} (hk : k < base) (x : Value) : Own enc m e (w.setCell ⟨k, 0, none⟩ x) base v xs := by
  refine ⟨h.1, ?_⟩
  rcases h.2 with h2 | ⟨g, cap, cur, e1, e2, e3, e4⟩
  · exact .inl h2
  · exact .inr ⟨g, cap, cur, e1, e2, by rw [Below.heap_setCell _ _ _ _ (by show g ≠ k; omega)]; exact e3, e4⟩
theorem ref_store {w w1 : World} {k : Nat} {v v1 : Value} {L L' : List Pr} (h : RefAt w k v L) (hB : Below (k + 1) w w1) (hO : Own enPr 2 44 w1 (k + 1) v1 L')
    (hs : ∀ i, i < w.heap.size → i ≠ k → (∀ cs fr, w.heap[i]? ≠ some (.cells cs 44 fr)) → w1.heap[i]? = w.heap[i]?) : RefAt (w1.setCell ⟨k, 0, none⟩ v1) k v1 L' ∧ RTurn k w (w1.setCell ⟨k, 0, none⟩ v1) := by
  have hk := (Array.getElem?_eq_some_iff.1 h.1).1
  have h1 : w1.heap[k]? = some (.cells #[v] 30) := (hB.block k (by omega)).trans h.1
  refine ⟨⟨?_, hO.setLow (by omega) v1⟩, bset (hB.mono (by omega)) k 0 v1 (Nat.le_refl _), fun i hi hik hc => ?_⟩
  · have : k < w1.heap.size := (Array.getElem?_eq_some_iff.1 h1).1
    simp [World.setCell, Array.getElem?_modify, h1]
  · rw [Below.heap_setCell _ _ _ _ (by show i ≠ k; exact hik)]
    exact hs i hi hik hc
theorem own_other {w w1 : World} {k : Nat} {v : Value} {L : List Pr} (h : RefAt w k v L) (hg : w.grownBy w1 v.ownBlock) : ∀ i, i < w.heap.size → i ≠ k → (∀ cs fr, w.heap[i]? ≠ some (.cells cs 44 fr)) → w1.heap[i]? = w.heap[i]? := fun i hi _ hc => by
  refine hg.block i hi (fun e => ?_)
  rcases h.2.2 with ⟨rfl, _⟩ | ⟨g, cap, cur, rfl, _, hb, _⟩
  · cases e
  · injection e with e
    subst e
    exact hc _ _ hb
theorem filt_take {α : Type} (f : α → Bool) (L : List α) (i : Nat) (hi : i < L.length) : (L.take (i + 1)).filter f = if f L[i] then (L.take i).filter f ++ [L[i]] else (L.take i).filter f := by
  rw [List.take_succ_eq_append_getElem hi, List.filter_append]
  by_cases h : f L[i] = true
  · rw [if_pos h, List.filter_cons, if_pos h, List.filter_nil]
  · rw [if_neg h, List.filter_cons, if_neg h, List.filter_nil, List.append_nil]
set_option maxHeartbeats 16000000 in
set_option maxRecDepth 100000 in
theorem rset_calls {w : World} {k n c : Nat} {A : Option Addr} {L : List Pr} (h : RefAt w k (.slice A n c) L) (p q : ByteArray) (on : Bool) (hlen : L.length ≤ 10000) :
    Calls Try.prog 13 #[ptr k, .string p, .string q, .bool on] w fun e w' => e = .returned (.bool (setP L p q on).2) ∧ ∃ v', RefAt w' k v' (setP L p q on).1 ∧ RTurn k w w' := by
  have hrh := rhas_calls h p q
  obtain ⟨x, hx⟩ : ∃ x, inP L p q = x := ⟨_, rfl⟩
  unfold setP
  rw [hx] at hrh ⊢
  have hkz := h.cell.2.2
  by_cases e : x = on
  · subst e
    rw [if_pos rfl]
    clear hx
    go_enter Try.func13, Try.ntmps13
    go_wp2_with fail
    with_reducible refine hrh.mono ?_
    rintro e w1 ⟨rfl, b1⟩
    have h1 := h.below b1
    have t1 := RTurn.of_below b1 (Nat.le_of_lt hkz)
    clear hrh
    cases x
    · go_wp2
      go_ret
      exact ⟨rfl, _, h1, t1⟩
    · go_wp2
      go_ret
      exact ⟨rfl, _, h1, t1⟩
  · rw [if_neg e]
    go_enter Try.func13, Try.ntmps13
    go_wp2_with fail
    with_reducible refine hrh.mono ?_
    rintro e w1 ⟨rfl, b1⟩
    have h1 := h.below b1
    have t1 := RTurn.of_below b1 (Nat.le_of_lt hkz)
    have hkz1 := h1.cell.2.2
    obtain ⟨k0, kf, -⟩ := h1.cell
    clear hrh hx
    cases x <;> cases on
    · exact absurd rfl e
    · have hO := h1.2
      go_wp2_with (at_builtin; refine Own.append (w0 := w1) (k + 1) rfl (.tmp 22) (.tmp 26) 28 44 zvPr 2 32 rfl Try.underlying28 infoPr rfl (by decide) _ L (p, q) (enPr (p, q)) rfl rfl rfl rfl (enPr_one _) hO (Below.refl _ _) hkz1 (by omega) (by omega) ?_; intro v2 w2 hO2 hB2 hg2 hq2; obtain ⟨A2, cc2, rfl, hcc2⟩ := hO2.slice; have k2 : w2.cell? ⟨k, 0, none⟩ = some (.slice A n c) := ((bcellB hB2).1 k 0 (by omega)).trans k0; have kf2 : w2.frozen? ⟨k, 0, none⟩ = false := ((bcellB hB2).2 k 0 (by omega)).trans kf)
      go_ret
      obtain ⟨r1, r2⟩ := ref_store h1 hB2 hO2 (own_other h1 hg2)
      simp only [List.length_append, List.length_cons, List.length_nil, Nat.zero_add] at r1 r2
      exact ⟨rfl, _, r1, t1.trans b1.size (Nat.le_of_lt hkz) r2⟩
    · have hr := h1.2.row
      have EA := Lib.hid hr.len_eq
      clear e
      go_wp2_with fail
      go_loopw [9, 10] (fun v9 v10 wr => ∃ (i : Nat) (ys : List Pr), v10 = .int .i64 i ∧ i ≤ n ∧ ys.length ≤ i ∧ Hid ((L.take i).filter (fun x : Pr => !(decide (x.1 = p) && decide (x.2 = q))) = ys) ∧ Own enPr 2 44 wr w1.heap.size v9 ys ∧ Below w1.heap.size w1 wr) (fun _ v10 _ => (n - intOf v10).toNat)
      case atStart => exact ⟨0, [], rfl, Nat.zero_le _, Nat.le_refl _, rfl, Own.nil _ _ _ _ _, Below.refl _ _⟩
      case round =>
        obtain ⟨i, ys, rfl, hi, hys, HT, hO, hB⟩ := hrel
        obtain ⟨A9, c9, rfl, hc9⟩ := hO.slice
        have kw : wr.cell? ⟨k, 0, none⟩ = some (.slice A n c) := cell_below hB k0
        have kfw : wr.frozen? ⟨k, 0, none⟩ = false := ((bcell hB).2 k 0 hkz1).trans kf
        have hBS := hB.size
        by_cases hlt : i < n
        · have hil : i < L.length := by have := EA.out; omega
          have hi63 : n ≤ 10000 := by have := EA.out; omega
          obtain ⟨⟨x, y⟩, he⟩ : ∃ e, L[i] = e := ⟨_, rfl⟩
          obtain ⟨ad, rfl, c0, c1⟩ := rowPr (hr.below hB) i hil x y he
          have hft := filt_take (fun x : Pr => !(decide (x.1 = p) && decide (x.2 = q))) L i hil
          rw [HT.out, he] at hft
          have hcr := hr.below hB
          have HE := Lib.hid he
          clear he
          by_cases ex : x = p
          · have hx := str_eq ex
            by_cases ey : y = q
            · have hy := str_eq ey
              have HF : Hid ((L.take (i + 1)).filter (fun x : Pr => !(decide (x.1 = p) && decide (x.2 = q))) = ys) := by show _ = _; rw [hft, if_neg (by simp [ex, ey])]
              clear hft ex ey
              go_wp2
              exact ⟨⟨i + 1, ys, by go_num, by omega, by omega, HF, hO, hB⟩, by simp [intOf]; omega⟩
            · have hy := str_ne ey
              have HF : Hid ((L.take (i + 1)).filter (fun x : Pr => !(decide (x.1 = p) && decide (x.2 = q))) = ys ++ [(x, y)]) := by show _ = _; rw [hft, if_pos (by simp [ey])]
              clear hft ex ey
              go_wp2_with (at_builtin; refine Own.append (w0 := w1) w1.heap.size rfl (.tmp 61) (.tmp 69) 28 44 zvPr 2 32 rfl Try.underlying28 infoPr rfl (by decide) _ ys (x, y) (enPr (x, y)) rfl rfl rfl rfl (enPr_one _) hO hB hBS (by omega) (by omega) ?_; intro v2 w2 hO2 hB2 hg2 hq2)
              exact ⟨⟨i + 1, _, by go_num, by omega, by rw [List.length_append, List.length_singleton]; omega, HF, hO2, hB2⟩, by simp [intOf]; omega⟩
          · have hx := str_ne ex
            have HF : Hid ((L.take (i + 1)).filter (fun x : Pr => !(decide (x.1 = p) && decide (x.2 = q))) = ys ++ [(x, y)]) := by show _ = _; rw [hft, if_pos (by simp [ex])]
            clear hft ex
            go_wp2_with (at_builtin; refine Own.append (w0 := w1) w1.heap.size rfl (.tmp 61) (.tmp 69) 28 44 zvPr 2 32 rfl Try.underlying28 infoPr rfl (by decide) _ ys (x, y) (enPr (x, y)) rfl rfl rfl rfl (enPr_one _) hO hB hBS (by omega) (by omega) ?_; intro v2 w2 hO2 hB2 hg2 hq2)
            exact ⟨⟨i + 1, _, by go_num, by omega, by rw [List.length_append, List.length_singleton]; omega, HF, hO2, hB2⟩, by simp [intOf]; omega⟩
        · have hin : i = n := by omega
          subst hin
          have HF : Hid (ys = tuP L p q false) := by
            show _ = _
            have := HT.out
            rw [List.take_of_length_le (by have := EA.out; omega)] at this
            rw [← this]
            rfl
          go_wp2
          go_ret
          obtain ⟨r1, r2⟩ := ref_store h1 (hB.mono (by omega)) (hO.lower (by omega)) (fun i hi _ _ => hB.block i hi)
          rw [← HF.out]
          exact ⟨rfl, _, r1, t1.trans b1.size (Nat.le_of_lt hkz) r2⟩
    · exact absurd rfl e
set_option maxHeartbeats 16000000 in
set_option maxRecDepth 100000 in
theorem rside_false {w : World} {k n c : Nat} {A : Option Addr} {L : List Pr} (h : RefAt w k (.slice A n c) L) (u : ByteArray) (hlen : L.length ≤ 10000) :
    Calls Try.prog 31 #[ptr k, .string u, .int .i64 0] w fun e w' => ∃ v, e = .returned v ∧ Row enS 1 w' v (sideP L u false) ∧ Below w.heap.size w w' := by
  have hr := h.2.row
  have EA := Lib.hid hr.len_eq
  obtain ⟨k0, -, kz⟩ := h.cell
  go_enter Try.func31, Try.ntmps31
  go_wp2
  go_loopw [7, 8] (fun v7 v8 wr => ∃ (i : Nat) (ys : List ByteArray), v8 = .int .i64 i ∧ i ≤ n ∧ ys.length ≤ i ∧ Hid (((L.take i).filter (fun z : Pr => decide (sd false z = u))).map (sd (!false)) = ys) ∧ Own enS 1 9 wr w.heap.size v7 ys ∧ Below w.heap.size w wr) (fun _ v8 _ => (n - intOf v8).toNat)
  case atStart => exact ⟨0, [], rfl, Nat.zero_le _, Nat.le_refl _, rfl, Own.nil _ _ _ _ _, Below.refl _ _⟩
  case round =>
    obtain ⟨i, ys, rfl, hi, hys, HT, hO, hB⟩ := hrel
    obtain ⟨A7, c7, rfl, hc7⟩ := hO.slice
    have kw : wr.cell? ⟨k, 0, none⟩ = some (.slice A n c) := cell_below hB k0
    have hBS := hB.size
    by_cases hlt : i < n
    · have hil : i < L.length := by have := EA.out; omega
      have hi63 : n ≤ 10000 := by have := EA.out; omega
      obtain ⟨⟨x, y⟩, he⟩ : ∃ e, L[i] = e := ⟨_, rfl⟩
      obtain ⟨ad, rfl, c0, c1⟩ := rowPr (hr.below hB) i hil x y he
      have hft := filt_take (fun z : Pr => decide (sd false z = u)) L i hil
      rw [he] at hft
      have HE := Lib.hid he
      clear he
      by_cases ex : x = u
      · have hx := str_eq ex
        have HF : Hid (((L.take (i + 1)).filter (fun z : Pr => decide (sd false z = u))).map (sd (!false)) = ys ++ [y]) := by
          show _ = _
          rw [hft, if_pos (by simp [sd, ex]), List.map_append, HT.out]
          rfl
        clear hft ex
        go_wp2_with (at_builtin; refine Own.append (w0 := w) w.heap.size rfl (.tmp 29) (.tmp 40) 38 9 (.string ⟨#[]⟩) 1 16 rfl Try.underlying38 info_str rfl (by decide) _ ys y [.string y] rfl rfl rfl rfl (enS_one _) hO hB hBS (by omega) (by omega) ?_; intro v2 w2 hO2 hB2 hg2 hq2)
        exact ⟨⟨i + 1, _, by go_num, by omega, by rw [List.length_append, List.length_singleton]; omega, HF, hO2, hB2⟩, by simp [intOf]; omega⟩
      · have hx := str_ne ex
        have HF : Hid (((L.take (i + 1)).filter (fun z : Pr => decide (sd false z = u))).map (sd (!false)) = ys) := by
          show _ = _
          rw [hft, if_neg (by simp [sd, ex]), HT.out]
        clear hft ex
        go_wp2
        exact ⟨⟨i + 1, ys, by go_num, by omega, by omega, HF, hO, hB⟩, by simp [intOf]; omega⟩
    · have hin : i = n := by omega
      subst hin
      have HF : Hid (mergeS ys [] = sideP L u false) := by
        show _ = _
        have := HT.out
        rw [List.take_of_length_le (by have := EA.out; omega)] at this
        rw [← this]
        rfl
      have hyl : ys.length ≤ 262144 := by have := EA.out; omega
      go_wp2_with fail
      with_reducible refine (refMerge_calls _ _ _ _ _ _ ys [] _ hO.row (Row.nil _ _ _) hyl (by decide)).mono ?_
      rintro e w3 ⟨v, rfl, hv, b3⟩
      go_wp2
      go_ret
      exact ⟨v, rfl, by rw [← HF.out]; exact hv, below_call hB b3⟩
set_option maxHeartbeats 16000000 in
set_option maxRecDepth 100000 in
theorem rside_true {w : World} {k n c : Nat} {A : Option Addr} {L : List Pr} (h : RefAt w k (.slice A n c) L) (u : ByteArray) (hlen : L.length ≤ 10000) :
    Calls Try.prog 31 #[ptr k, .string u, .int .i64 1] w fun e w' => ∃ v, e = .returned v ∧ Row enS 1 w' v (sideP L u true) ∧ Below w.heap.size w w' := by
  have hr := h.2.row
  have EA := Lib.hid hr.len_eq
  obtain ⟨k0, -, kz⟩ := h.cell
  go_enter Try.func31, Try.ntmps31
  go_wp2
  go_loopw [7, 8] (fun v7 v8 wr => ∃ (i : Nat) (ys : List ByteArray), v8 = .int .i64 i ∧ i ≤ n ∧ ys.length ≤ i ∧ Hid (((L.take i).filter (fun z : Pr => decide (sd true z = u))).map (sd (!true)) = ys) ∧ Own enS 1 9 wr w.heap.size v7 ys ∧ Below w.heap.size w wr) (fun _ v8 _ => (n - intOf v8).toNat)
  case atStart => exact ⟨0, [], rfl, Nat.zero_le _, Nat.le_refl _, rfl, Own.nil _ _ _ _ _, Below.refl _ _⟩
  case round =>
    obtain ⟨i, ys, rfl, hi, hys, HT, hO, hB⟩ := hrel
    obtain ⟨A7, c7, rfl, hc7⟩ := hO.slice
    have kw : wr.cell? ⟨k, 0, none⟩ = some (.slice A n c) := cell_below hB k0
    have hBS := hB.size
    by_cases hlt : i < n
    · have hil : i < L.length := by have := EA.out; omega
      have hi63 : n ≤ 10000 := by have := EA.out; omega
      obtain ⟨⟨x, y⟩, he⟩ : ∃ e, L[i] = e := ⟨_, rfl⟩
      obtain ⟨ad, rfl, c0, c1⟩ := rowPr (hr.below hB) i hil x y he
      have hft := filt_take (fun z : Pr => decide (sd true z = u)) L i hil
      rw [he] at hft
      have HE := Lib.hid he
      clear he
      by_cases ex : y = u
      · have hx := str_eq ex
        have HF : Hid (((L.take (i + 1)).filter (fun z : Pr => decide (sd true z = u))).map (sd (!true)) = ys ++ [x]) := by
          show _ = _
          rw [hft, if_pos (by simp [sd, ex]), List.map_append, HT.out]
          rfl
        clear hft ex
        go_wp2_with (at_builtin; refine Own.append (w0 := w) w.heap.size rfl (.tmp 29) (.tmp 40) 38 9 (.string ⟨#[]⟩) 1 16 rfl Try.underlying38 info_str rfl (by decide) _ ys x [.string x] rfl rfl rfl rfl (enS_one _) hO hB hBS (by omega) (by omega) ?_; intro v2 w2 hO2 hB2 hg2 hq2)
        exact ⟨⟨i + 1, _, by go_num, by omega, by rw [List.length_append, List.length_singleton]; omega, HF, hO2, hB2⟩, by simp [intOf]; omega⟩
      · have hx := str_ne ex
        have HF : Hid (((L.take (i + 1)).filter (fun z : Pr => decide (sd true z = u))).map (sd (!true)) = ys) := by
          show _ = _
          rw [hft, if_neg (by simp [sd, ex]), HT.out]
        clear hft ex
        go_wp2
        exact ⟨⟨i + 1, ys, by go_num, by omega, by omega, HF, hO, hB⟩, by simp [intOf]; omega⟩
    · have hin : i = n := by omega
      subst hin
      have HF : Hid (mergeS ys [] = sideP L u true) := by
        show _ = _
        have := HT.out
        rw [List.take_of_length_le (by have := EA.out; omega)] at this
        rw [← this]
        rfl
      have hyl : ys.length ≤ 262144 := by have := EA.out; omega
      go_wp2_with fail
      with_reducible refine (refMerge_calls _ _ _ _ _ _ ys [] _ hO.row (Row.nil _ _ _) hyl (by decide)).mono ?_
      rintro e w3 ⟨v, rfl, hv, b3⟩
      go_wp2
      go_ret
      exact ⟨v, rfl, by rw [← HF.out]; exact hv, below_call hB b3⟩
set_option maxHeartbeats 16000000 in
set_option maxRecDepth 100000 in
theorem rwatchers_calls {w : World} {k n c : Nat} {A : Option Addr} {L : List Pr} (h : RefAt w k (.slice A n c) L) (u : ByteArray) (hlen : L.length ≤ 10000) :
    Calls Try.prog 21 #[ptr k, .string u] w fun e w' => ∃ v, e = .returned v ∧ Row enS 1 w' v (sideP L u true) ∧ Below w.heap.size w w' := by
  go_enter Try.func21, Try.ntmps21
  go_wp2_with fail
  with_reducible refine (rside_true h u hlen).mono ?_
  rintro e w1 ⟨v, rfl, hv, b⟩
  go_wp2
  go_ret
  exact ⟨v, rfl, hv, b⟩
set_option maxHeartbeats 16000000 in
set_option maxRecDepth 100000 in
theorem rcontacts_calls {w : World} {k n c : Nat} {A : Option Addr} {L : List Pr} (h : RefAt w k (.slice A n c) L) (u : ByteArray) (hlen : L.length ≤ 10000) :
    Calls Try.prog 23 #[ptr k, .string u] w fun e w' => ∃ v, e = .returned v ∧ Row enS 1 w' v (sideP L u false) ∧ Below w.heap.size w w' := by
  go_enter Try.func23, Try.ntmps23
  go_wp2_with fail
  with_reducible refine (rside_false h u hlen).mono ?_
  rintro e w1 ⟨v, rfl, hv, b⟩
  go_wp2
  go_ret
  exact ⟨v, rfl, hv, b⟩
set_option maxHeartbeats 16000000 in
set_option maxRecDepth 100000 in
theorem rforget_calls {w : World} {k n c : Nat} {A : Option Addr} {L : List Pr} (h : RefAt w k (.slice A n c) L) (u : ByteArray) (hlen : L.length ≤ 10000) :
    Calls Try.prog 17 #[ptr k, .string u] w fun e w' => e = .returned (.int .i64 ((L.length : Int) - (forgetP L u).length)) ∧ ∃ v', RefAt w' k v' (forgetP L u) ∧ RTurn k w w' := by
  have hr := h.2.row
  have EA := Lib.hid hr.len_eq
  obtain ⟨k0, kf, kz⟩ := h.cell
  go_enter Try.func17, Try.ntmps17
  go_wp2
  go_loopw [5, 6] (fun v5 v6 wr => ∃ (i : Nat) (ys : List Pr), v6 = .int .i64 i ∧ i ≤ n ∧ ys.length ≤ i ∧ Hid ((L.take i).filter (fun x : Pr => !decide (x.1 = u) && !decide (x.2 = u)) = ys) ∧ Own enPr 2 44 wr w.heap.size v5 ys ∧ Below w.heap.size w wr) (fun _ v6 _ => (n - intOf v6).toNat)
  case atStart => exact ⟨0, [], rfl, Nat.zero_le _, Nat.le_refl _, rfl, Own.nil _ _ _ _ _, Below.refl _ _⟩
  case round =>
    obtain ⟨i, ys, rfl, hi, hys, HT, hO, hB⟩ := hrel
    obtain ⟨A5, c5, rfl, hc5⟩ := hO.slice
    have kw : wr.cell? ⟨k, 0, none⟩ = some (.slice A n c) := cell_below hB k0
    have kfw : wr.frozen? ⟨k, 0, none⟩ = false := ((bcell hB).2 k 0 kz).trans kf
    have hBS := hB.size
    have hn4 : n ≤ 10000 := by have := EA.out; omega
    by_cases hlt : i < n
    · have hil : i < L.length := by have := EA.out; omega
      obtain ⟨⟨x, y⟩, he⟩ : ∃ e, L[i] = e := ⟨_, rfl⟩
      obtain ⟨ad, rfl, c0, c1⟩ := rowPr (hr.below hB) i hil x y he
      have hft := filt_take (fun x : Pr => !decide (x.1 = u) && !decide (x.2 = u)) L i hil
      rw [HT.out, he] at hft
      have HE := Lib.hid he
      clear he
      by_cases ex : x = u
      · have hx := str_eq ex
        have HF : Hid ((L.take (i + 1)).filter (fun x : Pr => !decide (x.1 = u) && !decide (x.2 = u)) = ys) := by show _ = _; rw [hft, if_neg (by simp [ex])]
        clear hft ex
        go_wp2
        exact ⟨⟨i + 1, ys, by go_num, by omega, by omega, HF, hO, hB⟩, by simp [intOf]; omega⟩
      · have hx := str_ne ex
        by_cases ey : y = u
        · have hy := str_eq ey
          have HF : Hid ((L.take (i + 1)).filter (fun x : Pr => !decide (x.1 = u) && !decide (x.2 = u)) = ys) := by show _ = _; rw [hft, if_neg (by simp [ey])]
          clear hft ex ey
          go_wp2
          exact ⟨⟨i + 1, ys, by go_num, by omega, by omega, HF, hO, hB⟩, by simp [intOf]; omega⟩
        · have hy := str_ne ey
          have HF : Hid ((L.take (i + 1)).filter (fun x : Pr => !decide (x.1 = u) && !decide (x.2 = u)) = ys ++ [(x, y)]) := by show _ = _; rw [hft, if_pos (by simp [ex, ey])]
          clear hft ex ey
          go_wp2_with (at_builtin; refine Own.append (w0 := w) w.heap.size rfl (.tmp 39) (.tmp 47) 28 44 zvPr 2 32 rfl Try.underlying28 infoPr rfl (by decide) _ ys (x, y) (enPr (x, y)) rfl rfl rfl rfl (enPr_one _) hO hB hBS (by omega) (by omega) ?_; intro v2 w2 hO2 hB2 hg2 hq2)
          exact ⟨⟨i + 1, _, by go_num, by omega, by rw [List.length_append, List.length_singleton]; omega, HF, hO2, hB2⟩, by simp [intOf]; omega⟩
    · have hin : i = n := by omega
      subst hin
      have HF : Hid (ys = forgetP L u) := by
        show _ = _
        have := HT.out
        rw [List.take_of_length_le (by have := EA.out; omega)] at this
        rw [← this]
        rfl
      go_wp2
      go_ret
      obtain ⟨r1, r2⟩ := ref_store h (hB.mono (by omega)) (hO.lower (by omega)) (fun i hi _ _ => hB.block i hi)
      rw [← HF.out]
      exact ⟨ret_int (by have := EA.out; omega), _, r1, r2⟩
end Go.Proofs.Ytocdoddmaopdbaa
