/-
Layer 13: two Indexes at once; the walk of IndexTurned.
-/
import Derived.Test.YtocdoddmaopdbaaIxH
import Derived.Test.YtocdoddmaopdbaaHeldA
set_option linter.unusedVariables false
set_option linter.unusedSimpArgs false
namespace Go.Proofs.Ytocdoddmaopdbaa
open Go.RowKit Go.Maps
open Sp
namespace Sp
def swP (x : Pr) : Pr := (x.2, x.1)
theorem inP_sw (P : List Pr) (p q : ByteArray) : inP (P.map swP) q p = inP P p q := by
  unfold inP
  rw [List.any_map]
  congr 1
  funext x
  exact Bool.and_comm _ _
theorem tuP_sw (P : List Pr) (p q : ByteArray) (on : Bool) : tuP (P.map swP) q p on = (tuP P p q on).map swP := by
  unfold tuP
  cases on
  · simp only [Bool.false_eq_true, if_false]
    rw [List.filter_map]
    congr 1
    exact List.filter_congr fun x _ => congrArg Bool.not (Bool.and_comm _ _)
  · simp [swP]
theorem setP_sw (P : List Pr) (p q : ByteArray) (on : Bool) : setP (P.map swP) q p on = ((setP P p q on).1.map swP, (setP P p q on).2) := by
  unfold setP
  rw [inP_sw, tuP_sw]
  split <;> rfl
theorem forgetP_sw (P : List Pr) (u : ByteArray) : forgetP (P.map swP) u = (forgetP P u).map swP := by
  unfold forgetP
  rw [List.filter_map]
  congr 1
  exact List.filter_congr fun x _ => Bool.and_comm _ _
theorem sideP_sw (P : List Pr) (u : ByteArray) (s : Bool) : sideP (P.map swP) u s = sideP P u (!s) := by
  unfold sideP
  rw [List.filter_map, List.map_map]
  cases s <;> rfl
theorem setP_le2 (P : List Pr) (p q : ByteArray) (on : Bool) : (setP P p q on).1.length ≤ P.length + 1 := by
  unfold setP tuP
  split
  · exact Nat.le_succ _
  · cases on
    · exact Nat.le_trans (List.length_filter_le _ _) (Nat.le_succ _)
    · simp
end Sp
theorem IdxAt.other {w w1 : World} {own ow : Whose} {a b : Nat} {c : Bool → Nat} {P : List Pr} {L : Bool → List Pr} {n : Nat} (h : IdxAt w ow a b c P L n) (t : Turned own w w1) (ho : Owned own w) (dj : ∀ i, own i ≠ none → ow i = none) : IdxAt w1 ow a b c P L n := by
  have hm : ∀ i r, ow i = some r → w1.heap[i]? = w.heap[i]? := fun i r e => by
    obtain ⟨es, q, hq⟩ := h.maps i r e
    refine t.same i (Array.getElem?_eq_some_iff.1 hq).1 ?_
    cases e2 : own i with
    | none => rfl
    | some r2 => rw [dj i (by rw [e2]; simp)] at e; cases e
  have move : ∀ b' n' S m r, ow b' = some r → BMap w b' n' S m → BMap w1 b' n' S m := fun b' n' S m r e hB => by
    obtain ⟨D, ⟨es, ck, h1, h2⟩, h3⟩ := hB
    exact ⟨D, ⟨es, ck, (hm b' r e).trans h1, h2⟩, h3⟩
  refine ⟨t.cells ho h.box, h.ob, h.oc, move _ _ _ _ _ h.ob h.prs, fun s => ?_, fun i r e => ?_⟩
  · obtain ⟨f, ⟨D, ⟨es, ck, h1, h2⟩, h3⟩, h4⟩ := h.side s
    refine ⟨f, ⟨D, ⟨es, ck, (hm _ _ (h.oc s)).trans h1, h2⟩, h3⟩, fun name => ⟨(h4 name).1, fun g e => ?_⟩⟩
    obtain ⟨q1, m, q2⟩ := (h4 name).2 g e
    exact ⟨q1, m, move _ _ _ _ _ q1 q2⟩
  · obtain ⟨es, q, hq⟩ := h.maps i r e
    exact ⟨es, q, (hm i r e).trans hq⟩
/-- Two Indexes that share nothing. -/
def Two (w0 w : World) (ax ay : Nat) (P Q : List Pr) (n : Nat) : Prop :=
  ∃ ox bx cx oy by_ cy, IdxAt w ox ax bx cx P (fun _ => P) n ∧ IdxAt w oy ay by_ cy Q (fun _ => Q) n ∧ (∀ i, ox i ≠ none → w0.heap.size ≤ i) ∧ (∀ i, oy i ≠ none → w0.heap.size ≤ i) ∧ (∀ i, ox i ≠ none → oy i = none) ∧
    (P.Nodup ∧ ∀ x ∈ P, x.1.size ≤ maxLen ∧ x.2.size ≤ maxLen) ∧ (Q.Nodup ∧ ∀ x ∈ Q, x.1.size ≤ maxLen ∧ x.2.size ≤ maxLen)
theorem Two.x {w0 w : World} {ax ay n : Nat} {P Q : List Pr} (h : Two w0 w ax ay P Q n) : Ix w0 w ax P n := by
  obtain ⟨ox, bx, cx, oy, by_, cy, h1, h2, h3, h4, h5, h6, h7⟩ := h
  exact ⟨⟨ox, bx, cx, h1, h3⟩, h6.1, h6.2⟩
theorem Two.symm {w0 w : World} {ax ay n : Nat} {P Q : List Pr} (h : Two w0 w ax ay P Q n) : Two w0 w ay ax Q P n := by
  obtain ⟨ox, bx, cx, oy, by_, cy, h1, h2, h3, h4, h5, h6, h7⟩ := h
  refine ⟨oy, by_, cy, ox, bx, cx, h2, h1, h4, h3, fun i hi => ?_, h7, h6⟩
  cases e : ox i with
  | none => rfl
  | some r => exact absurd (h5 i (by rw [e]; simp)) hi
theorem Two.below {w0 w w1 : World} {ax ay n : Nat} {P Q : List Pr} (h : Two w0 w ax ay P Q n) (b : Below w.heap.size w w1) : Two w0 w1 ax ay P Q n := by
  obtain ⟨ox, bx, cx, oy, by_, cy, h1, h2, h3⟩ := h
  exact ⟨ox, bx, cx, oy, by_, cy, h1.below b, h2.below b, h3⟩
theorem Two.mono {w0 w : World} {ax ay n n' : Nat} {P Q : List Pr} (h : Two w0 w ax ay P Q n) (hn : n ≤ n') : Two w0 w ax ay P Q n' := by
  obtain ⟨ox, bx, cx, oy, by_, cy, h1, h2, h3⟩ := h
  exact ⟨ox, bx, cx, oy, by_, cy, h1.mono hn, h2.mono hn, h3⟩
theorem Two.step {w0 w w1 : World} {ax ay n n' : Nat} {P Q P' : List Pr} {ox oy ox' : Whose} {bx by_ : Nat} {cx cy : Bool → Nat} (h1 : IdxAt w ox ax bx cx P (fun _ => P) n) (h2 : IdxAt w oy ay by_ cy Q (fun _ => Q) n) (h3 : ∀ i, ox i ≠ none → w0.heap.size ≤ i) (h4 : ∀ i, oy i ≠ none → w0.heap.size ≤ i) (h5 : ∀ i, ox i ≠ none → oy i = none)
    (k1 : IdxAt w1 ox' ax bx cx P' (fun _ => P') n') (k2 : OwnUp ox ox' w) (k3 : Turned ox w w1) (hs : w0.heap.size ≤ w.heap.size) (hn : n ≤ n') (h6 : P'.Nodup ∧ ∀ x ∈ P', x.1.size ≤ maxLen ∧ x.2.size ≤ maxLen) (h7 : Q.Nodup ∧ ∀ x ∈ Q, x.1.size ≤ maxLen ∧ x.2.size ≤ maxLen) : Two w0 w1 ax ay P' Q n' := by
  refine ⟨ox', bx, cx, oy, by_, cy, k1, (h2.other k3 h1.owned h5).mono hn, up_low hs k2 h3, h4, fun i hi => ?_, h6, h7⟩
  cases e : ox i with
  | some r => exact h5 i (by rw [e]; simp)
  | none =>
    have h8 := k2.2 i e hi
    cases e2 : oy i with
    | none => rfl
    | some r => obtain ⟨es, q, hq⟩ := h2.maps i r e2; exact absurd (Array.getElem?_eq_some_iff.1 hq).1 (by omega)
theorem two_set {w0 w : World} {ax ay n : Nat} {P Q : List Pr} (h : Two w0 w ax ay P Q n) (D : Below w0.heap.size w0 w) (p q : ByteArray) (on : Bool) (hp : p.size ≤ maxLen) (hq : q.size ≤ maxLen) (hn : n + 5 < 1000000) :
    Calls Try.prog 12 #[ptr ax, .string p, .string q, .bool on] w fun e w' => e = .returned (.bool (setP P p q on).2) ∧ Two w0 w' ax ay (setP P p q on).1 Q (n + 5) ∧ Below w0.heap.size w0 w' ∧ CellsKept w w' := by
  obtain ⟨ox, bx, cx, oy, by_, cy, h1, h2, h3, h4, h5, h6, h7⟩ := h
  refine (set_calls h1 p q on hp hq hn h6.1).mono ?_
  rintro e w1 ⟨rfl, own', k1, k2, k3⟩
  obtain ⟨s1, s2, -⟩ := setP_ok h6.1 h6.2 p q on hp hq
  exact ⟨rfl, Two.step h1 h2 h3 h4 h5 k1 k2 k3 D.size (by omega) ⟨s1, s2⟩ h7, low_turned D k3 h3, k3.kept h1.owned⟩
theorem two_forget {w0 w : World} {ax ay n : Nat} {P Q : List Pr} (h : Two w0 w ax ay P Q n) (D : Below w0.heap.size w0 w) (u : ByteArray) (hu : u.size ≤ maxLen) (hl : P.length ≤ 10000) (hn : n + 10 * P.length + 10 ≤ 500000) :
    Calls Try.prog 16 #[ptr ax, .string u] w fun e w' => e = .returned (.int .i64 ((P.length : Int) - (forgetP P u).length)) ∧ Two w0 w' ax ay (forgetP P u) Q (n + 10 * P.length) ∧ Below w0.heap.size w0 w' ∧ CellsKept w w' := by
  obtain ⟨ox, bx, cx, oy, by_, cy, h1, h2, h3, h4, h5, h6, h7⟩ := h
  refine (forget_calls h1 u hu hl hn h6.1 h6.2).mono ?_
  rintro e w1 ⟨rfl, own', k1, k2, k3⟩
  exact ⟨rfl, Two.step h1 h2 h3 h4 h5 k1 k2 k3 D.size (by omega) ⟨nodup_filter _ _ h6.1, fun x hx => h6.2 x (List.mem_filter.1 hx).1⟩ h7, low_turned D k3 h3, k3.kept h1.owned⟩
theorem two_new {w0 w : World} {ax : Nat} {P : List Pr} {n : Nat} (h : Ix w0 w ax P n) (D : Below w0.heap.size w0 w) : Calls Try.prog 11 #[] w fun e w' => ∃ ay, e = .returned (ptr ay) ∧ Two w0 w' ax ay P [] n ∧ Below w.heap.size w w' := by
  refine (new_calls w).mono ?_
  rintro e w1 ⟨ay, by_, cy, rfl, h2, hb⟩
  obtain ⟨⟨ox, bx, cx, h1, h3⟩, h6, h7⟩ := h
  have hlow : ∀ i, own0 w.heap.size i ≠ none → w.heap.size ≤ i := fun i hi => by
    unfold own0 at hi
    by_cases e0 : i = w.heap.size
    · omega
    · rw [if_neg e0] at hi
      by_cases e1 : i = w.heap.size + 1
      · omega
      · rw [if_neg e1] at hi
        by_cases e2 : i = w.heap.size + 2
        · omega
        · rw [if_neg e2] at hi
          exact absurd rfl hi
  refine ⟨ay, rfl, ⟨ox, bx, cx, _, by_, cy, h1.below hb, h2.mono (Nat.zero_le _), h3, fun i hi => Nat.le_trans D.size (hlow i hi), fun i hi => ?_, ⟨h6, h7⟩, ⟨List.nodup_nil, fun x hx => by cases hx⟩⟩, hb⟩
  cases e : ox i with
  | none => exact absurd e hi
  | some r =>
    obtain ⟨es, q, hq⟩ := h1.maps i r e
    have hlt := (Array.getElem?_eq_some_iff.1 hq).1
    cases e2 : own0 w.heap.size i with
    | none => rfl
    | some r2 => exact absurd (hlow i (by rw [e2]; simp)) (by omega)
noncomputable def opsja : Array Oper := Held.inBody 14 Try.f7.body
def ordja : List Nat := [0, 1, 2, 3, 4, 5, 6, 7, 8, 10, 11, 12, 13, 14, 15, 16, 17, 18, 9, 19, 20]
set_option maxRecDepth 100000 in
theorem rgja : Held.Reg opsja ordja 21 [0, 1, 2, 3, 4, 5, 6, 7, 8, 9, 10, 11, 12, 13, 14, 15, 16, 17, 20] := ⟨by kernel_rfl, by kernel_rfl, by kernel_rfl⟩
noncomputable def opsjb : Array Oper := Held.inBody 14 Try.f7.body
def ordjb : List Nat := [0, 1, 2, 3, 4, 5, 6, 7, 8, 10, 11, 12, 13, 14, 15, 16, 17, 18, 9, 19, 20]
set_option maxRecDepth 100000 in
theorem rgjb : Held.Reg opsjb ordjb 21 [0, 1, 2, 3, 4, 5, 6, 7, 8, 9, 10, 11, 12, 13, 14, 15, 16, 17, 20] := ⟨by kernel_rfl, by kernel_rfl, by kernel_rfl⟩
set_option maxHeartbeats 32000000 in
set_option maxRecDepth 100000 in
theorem turned13_walk (n c : Nat) (A : Option Addr) (l : List OpI) (w : World) (hl : Row enOp 3 w (.slice A n c) l) (hz : ∀ x ∈ l, x.w.size ≤ 9223372036854775807 ∧ x.c.size ≤ 9223372036854775807) :
    Calls Try.prog 7 #[.slice A n c] w fun e w' => e = .returned (.bool true) ∧ Below w.heap.size w w' := by
  have EA := Lib.hid hl.len_eq
  cases h : fewI l with
  | false =>
    have H := Lib.hid h
    clear h
    go_enter Try.func7, Try.ntmps7
    go_wp2_with fail
    with_reducible refine (few_is n c A l _ hl hz false H).mono ?_
    rintro e w1 ⟨rfl, D⟩
    go_wp2_with fail
    with_reducible refine (live13 _).mono ?_
    rintro e w2 ⟨rfl, b⟩
    replace D := below_call D b
    go_wp2
    go_ret
    exact ⟨rfl, D⟩
  | true =>
    have H := Lib.hid h
    obtain ⟨hn8, hfw⟩ := fewI_iff.1 h
    have HFW := Lib.hid hfw
    have hn80 : n ≤ 80 := by have := EA.out; omega
    clear h hfw hn8
    go_enter Try.func7, Try.ntmps7
    go_wp2_with fail
    with_reducible refine (few_is n c A l _ hl hz true H).mono ?_
    rintro e w1 ⟨rfl, D⟩
    go_wp2_with fail
    with_reducible refine (ix_new w w1 D).mono ?_
    rintro e w2 ⟨a, rfl, hI, b⟩
    replace D := below_call D b
    clear b
    go_wp2_with fail
    with_reducible refine (two_new hI D).mono ?_
    rintro e w3 ⟨b_, rfl, hT, b⟩
    replace D := below_call D b
    clear b hI H
    go_wp2_with fail
    go_loopw [5] (fun v5 wr => ∃ (i m : Nat) (L : List Pr), v5 = .int .i64 i ∧ i ≤ n ∧ Two w wr a b_ L (L.map swP) m ∧ L.length ≤ i ∧ m ≤ 2000 * i ∧ Below w.heap.size w wr) (fun v5 _ => (n - intOf v5).toNat)
    case atStart => exact ⟨0, 0, [], rfl, by omega, hT, Nat.le_refl _, by omega, D⟩
    case round =>
      clear hT D
      obtain ⟨i, m, L, rfl, hi, hT, hLi, hmi, D⟩ := hrel
      by_cases hlt : i < n
      · have hil : i < l.length := by have := EA.out; omega
        obtain ⟨⟨d, p, q⟩, he⟩ : ∃ e, l[i] = e := ⟨_, rfl⟩
        have hpq := HFW.out i hil
        rw [he] at hpq
        obtain ⟨hp, hq⟩ := hpq
        simp only at hp hq
        have hpm : p.size ≤ maxLen := by unfold maxLen; omega
        have hqm : q.size ≤ maxLen := by unfold maxLen; omega
        obtain ⟨ad, rfl, c0, c1, c2⟩ := rowOp (hl.below D) i hil d p q he
        have HE := Lib.hid he
        clear he
        have x1 : (0 : Int) ≤ (i : Int) := by omega
        have x2 : (i : Int) < (n : Int) := by omega
        go_wp2_with fail
        go_region
        replace hT := hT.below ((Below.refl wr.heap.size wr).drew)
        replace D : Below w.heap.size w wr.drew := D.drew
        replace c0 : wr.drew.cell? _ = _ := c0
        replace c1 : wr.drew.cell? _ = _ := c1
        replace c2 : wr.drew.cell? _ = _ := c2
        by_cases h3 : d = 3
        · subst h3
          have hml : (L.map swP).length = L.length := List.length_map _
          go_wp2_with fail
          with_reducible refine (two_forget hT D p hpm (by omega) (by omega)).mono ?_
          rintro e z1 ⟨rfl, hT1, D1, K1⟩
          clear hT D K1 c0 c1 c2
          go_wp2_with fail
          with_reducible refine (two_forget hT1.symm D1 p hpm (by omega) (by omega)).mono ?_
          rintro e z2 ⟨rfl, hT2, D2, K2⟩
          rw [forgetP_sw] at hT2 ⊢
          rw [List.length_map, List.length_map] 
          replace hT2 := hT2.symm
          have hL3 : (forgetP L p).length ≤ L.length := List.length_filter_le _ _
          obtain ⟨L2, m2, hT, hm2, hL2n, D⟩ : ∃ (L2 : List Pr) (m2 : Nat), Two w z2 a b_ L2 (L2.map swP) m2 ∧ m2 ≤ 2000 * (i + 1) ∧ L2.length ≤ i + 1 ∧ Below w.heap.size w z2 := ⟨_, _, hT2, by omega, by omega, D2⟩
          clear hT2 D2 hL3 hml
          have hm5 : m2 ≤ 500000 := by omega
          have hml : (L2.map swP).length = L2.length := List.length_map _
          go_wp2_with fail
          with_reducible refine (ix_len hT.x).mono ?_
          rintro e y1 ⟨rfl, hbx⟩
          replace hT := hT.below hbx
          replace D := below_call D hbx
          clear hbx
          go_wp2_with fail
          with_reducible refine (re_ (ix_len hT.symm.x) (ret_int (by rw [hml]))).mono ?_
          rintro e y2 ⟨rfl, hbx⟩
          replace hT := hT.below hbx
          replace D := below_call D hbx
          clear hbx
          go_wp2_with fail
          with_reducible refine (ix_has hT.x p q hpm hqm).mono ?_
          rintro e y3 ⟨rfl, hbx⟩
          replace hT := hT.below hbx
          replace D := below_call D hbx
          clear hbx
          go_wp2_with fail
          with_reducible refine (re_ (ix_has hT.symm.x q p hqm hpm) (ret_bool (inP_sw L2 p q))).mono ?_
          rintro e y4 ⟨rfl, hbx⟩
          replace hT := hT.below hbx
          replace D := below_call D hbx
          clear hbx
          clear hml
          go_wp2_with fail
          with_reducible refine (ix_watchers hT.x q hqm hm5).mono ?_
          rintro e y5 ⟨va, rfl, r1, hbx⟩
          obtain ⟨Aa, ca, rfl⟩ := form_S r1
          replace hT := hT.below hbx
          replace D := below_call D hbx
          clear hbx
          go_wp2_with fail
          with_reducible refine (ix_contacts hT.symm.x q hqm hm5).mono ?_
          rintro e y6 ⟨vb, rfl, r2, hbx⟩
          rw [sideP_sw] at r2
          simp only [Bool.not_false, Bool.not_true] at r2
          obtain ⟨Ab, cb, rfl⟩ := form_S r2
          replace hT := hT.below hbx
          replace D := below_call D hbx
          replace r1 := r1.below hbx
          clear hbx
          go_wp2_with fail
          with_reducible refine (re_ (refSame_calls _ _ _ _ _ _ _ _ _ r1 r2) (ret_bool (decide_eq_true rfl))).mono ?_
          rintro e y7 ⟨rfl, hbx⟩
          replace hT := hT.below hbx
          replace D := below_call D hbx
          clear hbx r1 r2
          go_wp2_with fail
          with_reducible refine (ix_contacts hT.x p hpm hm5).mono ?_
          rintro e y8 ⟨va, rfl, r1, hbx⟩
          obtain ⟨Aa, ca, rfl⟩ := form_S r1
          replace hT := hT.below hbx
          replace D := below_call D hbx
          clear hbx
          go_wp2_with fail
          with_reducible refine (ix_watchers hT.symm.x p hpm hm5).mono ?_
          rintro e y9 ⟨vb, rfl, r2, hbx⟩
          rw [sideP_sw] at r2
          simp only [Bool.not_false, Bool.not_true] at r2
          obtain ⟨Ab, cb, rfl⟩ := form_S r2
          replace hT := hT.below hbx
          replace D := below_call D hbx
          replace r1 := r1.below hbx
          clear hbx
          go_wp2_with fail
          with_reducible refine (re_ (refSame_calls _ _ _ _ _ _ _ _ _ r1 r2) (ret_bool (decide_eq_true rfl))).mono ?_
          rintro e y10 ⟨rfl, hbx⟩
          replace hT := hT.below hbx
          replace D := below_call D hbx
          clear hbx r1 r2
          go_wp2
          exact ⟨⟨i + 1, m2, L2, by go_num, by omega, hT, hL2n, hm2, D⟩, by simp [intOf]; omega⟩
        by_cases h1 : d = 1
        · subst h1
          go_wp2_with fail
          replace hT := hT.below ((Below.refl wr.drew.heap.size wr.drew).drew)
          replace D : Below w.heap.size w wr.drew.drew := D.drew
          replace c0 : wr.drew.drew.cell? _ = _ := c0
          refine Held.start (ops := opsja) (S := fun w' => w'.cell? (ad.add (i * 3)) = some (.int .i64 1)) ordja 21 (by kernel_rfl) rgja.siz (by kernel_rfl) c0 (fun hHeld => ?_)
          iterate 18
            refine Held.tk (v := ?_) rgja rfl rfl rfl (fun _ _ _ h => h) (by assumption) (Or.inl ⟨by kernel_rfl, ?_⟩) ?_
            rotate_left
            · (intro w hSw; (try dsimp only at hSw); go_simp; (try (first | with_reducible rfl | rw [if_neg (by omega)])))
            try simp only [Act.put, List.getElem_toArray, List.getElem_cons_succ, List.getElem_cons_zero, List.setIfInBounds_toArray, List.set_cons_zero, List.set_cons_succ]
          refine Held.only (k := 18) (i := 9) (by kernel_rfl) (by kernel_rfl) rfl (by kernel_rfl) (fun K hK => ?_)
          go_simp
          go_at_call 12
          with_reducible refine (two_set hT D p q false hpm hqm (by omega)).mono ?_
          rintro e z1 ⟨rfl, hT1, D1, K1⟩
          replace c0 := K1.cell c0
          clear hT D K1
          refine hK.out _ _ (by (try dsimp only); (exact c0)) (fun hHeld => ?_)
          clear hK K
          try simp only [Act.put, List.getElem_toArray, List.getElem_cons_succ, List.getElem_cons_zero, List.setIfInBounds_toArray, List.set_cons_zero, List.set_cons_succ]
          refine Held.only (k := 19) (i := 19) (by kernel_rfl) (by kernel_rfl) rfl (by kernel_rfl) (fun K hK => ?_)
          go_simp
          go_at_call 12
          with_reducible refine (two_set hT1.symm D1 q p false hqm hpm (by omega)).mono ?_
          rintro e z2 ⟨rfl, hT2, D2, K2⟩
          rw [setP_sw] at hT2 ⊢
          replace hT2 := hT2.symm
          replace c0 := K2.cell c0
          clear hT1 D1 K2
          refine hK.out _ _ (by (try dsimp only); (exact c0)) (fun hHeld => ?_)
          clear hK K
          try simp only [Act.put, List.getElem_toArray, List.getElem_cons_succ, List.getElem_cons_zero, List.setIfInBounds_toArray, List.set_cons_zero, List.set_cons_succ]
          iterate 1
            refine Held.tk (v := ?_) rgja rfl rfl rfl (fun _ _ _ h => h) (by assumption) (Or.inl ⟨by kernel_rfl, ?_⟩) ?_
            rotate_left
            · (intro w hSw; (try dsimp only at hSw); go_simp; (try (first | with_reducible rfl | rw [if_neg (by omega)])))
            try simp only [Act.put, List.getElem_toArray, List.getElem_cons_succ, List.getElem_cons_zero, List.setIfInBounds_toArray, List.set_cons_zero, List.set_cons_succ]
          refine wpAnyH_done (by kernel_rfl) ?_ _
          clear c0 c1 c2
          have hL3 : (setP L p q false).1.length ≤ L.length + 1 := setP_le2 L p q false
          obtain ⟨L2, m2, hT, hm2, hL2n, D⟩ : ∃ (L2 : List Pr) (m2 : Nat), Two w z2 a b_ L2 (L2.map swP) m2 ∧ m2 ≤ 2000 * (i + 1) ∧ L2.length ≤ i + 1 ∧ Below w.heap.size w z2 := ⟨_, _, hT2, by omega, by omega, D2⟩
          clear hT2 D2 hL3
          have hm5 : m2 ≤ 500000 := by omega
          have hml : (L2.map swP).length = L2.length := List.length_map _
          go_wp2_with fail
          with_reducible refine (ix_len hT.x).mono ?_
          rintro e y1 ⟨rfl, hbx⟩
          replace hT := hT.below hbx
          replace D := below_call D hbx
          clear hbx
          go_wp2_with fail
          with_reducible refine (re_ (ix_len hT.symm.x) (ret_int (by rw [hml]))).mono ?_
          rintro e y2 ⟨rfl, hbx⟩
          replace hT := hT.below hbx
          replace D := below_call D hbx
          clear hbx
          go_wp2_with fail
          with_reducible refine (ix_has hT.x p q hpm hqm).mono ?_
          rintro e y3 ⟨rfl, hbx⟩
          replace hT := hT.below hbx
          replace D := below_call D hbx
          clear hbx
          go_wp2_with fail
          with_reducible refine (re_ (ix_has hT.symm.x q p hqm hpm) (ret_bool (inP_sw L2 p q))).mono ?_
          rintro e y4 ⟨rfl, hbx⟩
          replace hT := hT.below hbx
          replace D := below_call D hbx
          clear hbx
          clear hml
          go_wp2_with fail
          with_reducible refine (ix_watchers hT.x q hqm hm5).mono ?_
          rintro e y5 ⟨va, rfl, r1, hbx⟩
          obtain ⟨Aa, ca, rfl⟩ := form_S r1
          replace hT := hT.below hbx
          replace D := below_call D hbx
          clear hbx
          go_wp2_with fail
          with_reducible refine (ix_contacts hT.symm.x q hqm hm5).mono ?_
          rintro e y6 ⟨vb, rfl, r2, hbx⟩
          rw [sideP_sw] at r2
          simp only [Bool.not_false, Bool.not_true] at r2
          obtain ⟨Ab, cb, rfl⟩ := form_S r2
          replace hT := hT.below hbx
          replace D := below_call D hbx
          replace r1 := r1.below hbx
          clear hbx
          go_wp2_with fail
          with_reducible refine (re_ (refSame_calls _ _ _ _ _ _ _ _ _ r1 r2) (ret_bool (decide_eq_true rfl))).mono ?_
          rintro e y7 ⟨rfl, hbx⟩
          replace hT := hT.below hbx
          replace D := below_call D hbx
          clear hbx r1 r2
          go_wp2_with fail
          with_reducible refine (ix_contacts hT.x p hpm hm5).mono ?_
          rintro e y8 ⟨va, rfl, r1, hbx⟩
          obtain ⟨Aa, ca, rfl⟩ := form_S r1
          replace hT := hT.below hbx
          replace D := below_call D hbx
          clear hbx
          go_wp2_with fail
          with_reducible refine (ix_watchers hT.symm.x p hpm hm5).mono ?_
          rintro e y9 ⟨vb, rfl, r2, hbx⟩
          rw [sideP_sw] at r2
          simp only [Bool.not_false, Bool.not_true] at r2
          obtain ⟨Ab, cb, rfl⟩ := form_S r2
          replace hT := hT.below hbx
          replace D := below_call D hbx
          replace r1 := r1.below hbx
          clear hbx
          go_wp2_with fail
          with_reducible refine (re_ (refSame_calls _ _ _ _ _ _ _ _ _ r1 r2) (ret_bool (decide_eq_true rfl))).mono ?_
          rintro e y10 ⟨rfl, hbx⟩
          replace hT := hT.below hbx
          replace D := below_call D hbx
          clear hbx r1 r2
          go_wp2
          exact ⟨⟨i + 1, m2, L2, by go_num, by omega, hT, hL2n, hm2, D⟩, by simp [intOf]; omega⟩
        go_wp2_with fail
        replace hT := hT.below ((Below.refl wr.drew.heap.size wr.drew).drew)
        replace D : Below w.heap.size w wr.drew.drew := D.drew
        replace c0 : wr.drew.drew.cell? _ = _ := c0
        refine Held.start (ops := opsjb) (S := fun w' => w'.cell? (ad.add (i * 3)) = some (.int .i64 d)) ordjb 21 (by kernel_rfl) rgjb.siz (by kernel_rfl) c0 (fun hHeld => ?_)
        iterate 18
          refine Held.tk (v := ?_) rgjb rfl rfl rfl (fun _ _ _ h => h) (by assumption) (Or.inl ⟨by kernel_rfl, ?_⟩) ?_
          rotate_left
          · (intro w hSw; (try dsimp only at hSw); go_simp; (try (first | with_reducible rfl | rw [if_neg (by omega)])))
          try simp only [Act.put, List.getElem_toArray, List.getElem_cons_succ, List.getElem_cons_zero, List.setIfInBounds_toArray, List.set_cons_zero, List.set_cons_succ]
        refine Held.only (k := 18) (i := 9) (by kernel_rfl) (by kernel_rfl) rfl (by kernel_rfl) (fun K hK => ?_)
        go_simp
        go_at_call 12
        with_reducible refine (two_set hT D p q (d != 1) hpm hqm (by omega)).mono ?_
        rintro e z1 ⟨rfl, hT1, D1, K1⟩
        replace c0 := K1.cell c0
        clear hT D K1
        refine hK.out _ _ (by (try dsimp only); (exact c0)) (fun hHeld => ?_)
        clear hK K
        try simp only [Act.put, List.getElem_toArray, List.getElem_cons_succ, List.getElem_cons_zero, List.setIfInBounds_toArray, List.set_cons_zero, List.set_cons_succ]
        refine Held.only (k := 19) (i := 19) (by kernel_rfl) (by kernel_rfl) rfl (by kernel_rfl) (fun K hK => ?_)
        go_simp
        go_at_call 12
        with_reducible refine (two_set hT1.symm D1 q p (d != 1) hqm hpm (by omega)).mono ?_
        rintro e z2 ⟨rfl, hT2, D2, K2⟩
        rw [setP_sw] at hT2 ⊢
        replace hT2 := hT2.symm
        replace c0 := K2.cell c0
        clear hT1 D1 K2
        refine hK.out _ _ (by (try dsimp only); (exact c0)) (fun hHeld => ?_)
        clear hK K
        try simp only [Act.put, List.getElem_toArray, List.getElem_cons_succ, List.getElem_cons_zero, List.setIfInBounds_toArray, List.set_cons_zero, List.set_cons_succ]
        iterate 1
          refine Held.tk (v := ?_) rgjb rfl rfl rfl (fun _ _ _ h => h) (by assumption) (Or.inl ⟨by kernel_rfl, ?_⟩) ?_
          rotate_left
          · (intro w hSw; (try dsimp only at hSw); go_simp; (try (first | with_reducible rfl | rw [if_neg (by omega)])))
          try simp only [Act.put, List.getElem_toArray, List.getElem_cons_succ, List.getElem_cons_zero, List.setIfInBounds_toArray, List.set_cons_zero, List.set_cons_succ]
        refine wpAnyH_done (by kernel_rfl) ?_ _
        clear c0 c1 c2
        have hL3 : (setP L p q (d != 1)).1.length ≤ L.length + 1 := setP_le2 L p q (d != 1)
        obtain ⟨L2, m2, hT, hm2, hL2n, D⟩ : ∃ (L2 : List Pr) (m2 : Nat), Two w z2 a b_ L2 (L2.map swP) m2 ∧ m2 ≤ 2000 * (i + 1) ∧ L2.length ≤ i + 1 ∧ Below w.heap.size w z2 := ⟨_, _, hT2, by omega, by omega, D2⟩
        clear hT2 D2 hL3
        have hm5 : m2 ≤ 500000 := by omega
        have hml : (L2.map swP).length = L2.length := List.length_map _
        go_wp2_with fail
        with_reducible refine (ix_len hT.x).mono ?_
        rintro e y1 ⟨rfl, hbx⟩
        replace hT := hT.below hbx
        replace D := below_call D hbx
        clear hbx
        go_wp2_with fail
        with_reducible refine (re_ (ix_len hT.symm.x) (ret_int (by rw [hml]))).mono ?_
        rintro e y2 ⟨rfl, hbx⟩
        replace hT := hT.below hbx
        replace D := below_call D hbx
        clear hbx
        go_wp2_with fail
        with_reducible refine (ix_has hT.x p q hpm hqm).mono ?_
        rintro e y3 ⟨rfl, hbx⟩
        replace hT := hT.below hbx
        replace D := below_call D hbx
        clear hbx
        go_wp2_with fail
        with_reducible refine (re_ (ix_has hT.symm.x q p hqm hpm) (ret_bool (inP_sw L2 p q))).mono ?_
        rintro e y4 ⟨rfl, hbx⟩
        replace hT := hT.below hbx
        replace D := below_call D hbx
        clear hbx
        clear hml
        go_wp2_with fail
        with_reducible refine (ix_watchers hT.x q hqm hm5).mono ?_
        rintro e y5 ⟨va, rfl, r1, hbx⟩
        obtain ⟨Aa, ca, rfl⟩ := form_S r1
        replace hT := hT.below hbx
        replace D := below_call D hbx
        clear hbx
        go_wp2_with fail
        with_reducible refine (ix_contacts hT.symm.x q hqm hm5).mono ?_
        rintro e y6 ⟨vb, rfl, r2, hbx⟩
        rw [sideP_sw] at r2
        simp only [Bool.not_false, Bool.not_true] at r2
        obtain ⟨Ab, cb, rfl⟩ := form_S r2
        replace hT := hT.below hbx
        replace D := below_call D hbx
        replace r1 := r1.below hbx
        clear hbx
        go_wp2_with fail
        with_reducible refine (re_ (refSame_calls _ _ _ _ _ _ _ _ _ r1 r2) (ret_bool (decide_eq_true rfl))).mono ?_
        rintro e y7 ⟨rfl, hbx⟩
        replace hT := hT.below hbx
        replace D := below_call D hbx
        clear hbx r1 r2
        go_wp2_with fail
        with_reducible refine (ix_contacts hT.x p hpm hm5).mono ?_
        rintro e y8 ⟨va, rfl, r1, hbx⟩
        obtain ⟨Aa, ca, rfl⟩ := form_S r1
        replace hT := hT.below hbx
        replace D := below_call D hbx
        clear hbx
        go_wp2_with fail
        with_reducible refine (ix_watchers hT.symm.x p hpm hm5).mono ?_
        rintro e y9 ⟨vb, rfl, r2, hbx⟩
        rw [sideP_sw] at r2
        simp only [Bool.not_false, Bool.not_true] at r2
        obtain ⟨Ab, cb, rfl⟩ := form_S r2
        replace hT := hT.below hbx
        replace D := below_call D hbx
        replace r1 := r1.below hbx
        clear hbx
        go_wp2_with fail
        with_reducible refine (re_ (refSame_calls _ _ _ _ _ _ _ _ _ r1 r2) (ret_bool (decide_eq_true rfl))).mono ?_
        rintro e y10 ⟨rfl, hbx⟩
        replace hT := hT.below hbx
        replace D := below_call D hbx
        clear hbx r1 r2
        go_wp2
        exact ⟨⟨i + 1, m2, L2, by go_num, by omega, hT, hL2n, hm2, D⟩, by simp [intOf]; omega⟩
      · have hin : i = n := by omega
        subst hin
        go_wp2_with fail
        with_reducible refine (live13 _).mono ?_
        rintro e z1 ⟨rfl, b1⟩
        replace D := below_call D b1
        go_wp2
        go_ret
        exact ⟨rfl, D⟩
end Go.Proofs.Ytocdoddmaopdbaa
