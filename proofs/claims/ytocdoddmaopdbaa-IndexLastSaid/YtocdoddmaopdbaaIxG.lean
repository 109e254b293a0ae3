/-
Layer 13: an Index with what lies in it hidden; what its methods do to all else.
-/
import Derived.Test.YtocdoddmaopdbaaIxE
import Derived.Test.YtocdoddmaopdbaaIxF
import Derived.Test.YtocdoddmaopdbaaOpSt
set_option linter.unusedVariables false
set_option linter.unusedSimpArgs false
namespace Go.Proofs.Ytocdoddmaopdbaa
open Go.RowKit Go.Maps
open Sp
/-- What is no map is where it was. -/
def CellsKept (w w' : World) : Prop := ∀ (g : Nat) (cs : Array Value) (T : TypeId) (fr : Nat × Nat), w.heap[g]? = some (.cells cs T fr) → w'.heap[g]? = some (.cells cs T fr)
theorem CellsKept.refl (w : World) : CellsKept w w := fun _ _ _ _ h => h
theorem CellsKept.trans {w w1 w2 : World} (h : CellsKept w w1) (k : CellsKept w1 w2) : CellsKept w w2 := fun g cs T fr e => k g cs T fr (h g cs T fr e)
theorem CellsKept.below {w w1 : World} (b : Below w.heap.size w w1) : CellsKept w w1 := fun g cs T fr e => hcall e b
theorem CellsKept.row {w w1 : World} (h : CellsKept w w1) {α : Type} {enc : α → List Value} {k : Nat} {v : Value} {xs : List α} (hr : Row enc k w v xs) : Row enc k w1 v xs := by
  obtain ⟨A, c, rfl, h1, h2, h3, h4⟩ := hr
  refine ⟨A, c, rfl, h1, h2, h3, fun hp => ?_⟩
  obtain ⟨ad, e, hc⟩ := h4 hp
  refine ⟨ad, e, fun j u hu => ?_⟩
  have h5 := hc j u hu
  have hb : (ad.add j).block = ad.block := add_block ad j
  have hcell : ∃ cs T fr, w.heap[ad.block]? = some (.cells cs T fr) := by
    unfold World.cell? at h5
    rw [hb] at h5
    split at h5
    · rename_i cs T fr hh
      exact ⟨_, _, _, hh⟩
    · cases h5
  obtain ⟨cs, T, fr, hh⟩ := hcell
  have h6 := h _ _ _ _ hh
  unfold World.cell? at h5 ⊢
  rw [hb] at h5 ⊢
  rw [h6]
  rw [hh] at h5
  exact h5
theorem CellsKept.cell {w w1 : World} (h : CellsKept w w1) {a : Addr} {v : Value} (hc : w.cell? a = some v) : w1.cell? a = some v := by
  have hcell : ∃ cs T fr, w.heap[a.block]? = some (.cells cs T fr) := by
    unfold World.cell? at hc
    split at hc
    · rename_i cs T fr hh
      exact ⟨_, _, _, hh⟩
    · cases hc
  obtain ⟨cs, T, fr, hh⟩ := hcell
  have h6 := h _ _ _ _ hh
  unfold World.cell? at hc ⊢
  rw [h6]
  rw [hh] at hc
  exact hc
theorem CellsKept.ref {w w1 : World} (h : CellsKept w w1) {k : Nat} {v : Value} {L : List Pr} (hr : RefAt w k v L) : RefAt w1 k v L := by
  refine ⟨h _ _ _ _ hr.1, hr.2.1, ?_⟩
  rcases hr.2.2 with h2 | ⟨g, cap, cur, e1, e2, e3, e4⟩
  · exact .inl h2
  · exact .inr ⟨g, cap, cur, e1, e2, h _ _ _ _ e3, e4⟩
theorem Turned.kept {own : Whose} {w w1 : World} (h : Turned own w w1) (hm : Owned own w) : CellsKept w w1 := fun g cs T fr e => h.cells hm e
/-- An Index at a, all of whose blocks came behind w0. -/
structure Ix (w0 w : World) (a : Nat) (P : List Pr) (n : Nat) : Prop where
  at_ : ∃ own b c, IdxAt w own a b c P (fun _ => P) n ∧ ∀ i, own i ≠ none → w0.heap.size ≤ i
  nd : P.Nodup
  sz : ∀ x ∈ P, x.1.size ≤ maxLen ∧ x.2.size ≤ maxLen
theorem Ix.below {w0 w w1 : World} {a n : Nat} {P : List Pr} (h : Ix w0 w a P n) (b : Below w.heap.size w w1) : Ix w0 w1 a P n :=
  ⟨by obtain ⟨own, x, c, h1, h2⟩ := h.at_; exact ⟨own, x, c, h1.below b, h2⟩, h.nd, h.sz⟩
theorem Ix.rturn {w0 w w1 : World} {a n k : Nat} {P L : List Pr} {v : Value} (h : Ix w0 w a P n) (hr : RefAt w k v L) (t : RTurn k w w1) : Ix w0 w1 a P n :=
  ⟨by obtain ⟨own, x, c, h1, h2⟩ := h.at_; exact ⟨own, x, c, h1.rturn hr.1 t, h2⟩, h.nd, h.sz⟩
theorem Ix.mono {w0 w : World} {a n n' : Nat} {P : List Pr} (h : Ix w0 w a P n) (hn : n ≤ n') : Ix w0 w a P n' :=
  ⟨by obtain ⟨own, x, c, h1, h2⟩ := h.at_; exact ⟨own, x, c, h1.mono hn, h2⟩, h.nd, h.sz⟩
theorem low_turned {w0 w w1 : World} {own : Whose} (D : Below w0.heap.size w0 w) (t : Turned own w w1) (ho : ∀ i, own i ≠ none → w0.heap.size ≤ i) : Below w0.heap.size w0 w1 :=
  ⟨t.low.os.trans D.os, t.low.tape.trans D.tape, t.low.output.trans D.output, Nat.le_trans D.size t.low.size, fun i hi => by
    have e : own i = none := by
      cases e : own i with
      | none => rfl
      | some r => exact absurd (ho i (by rw [e]; simp)) (by omega)
    rw [t.same i (Nat.lt_of_lt_of_le hi D.size) e, D.block i hi]⟩
theorem low_rturn {w0 w w1 : World} {k : Nat} (D : Below w0.heap.size w0 w) (t : RTurn k w w1) (hk : w0.heap.size ≤ k) : Below w0.heap.size w0 w1 := D.trans (t.low.mono hk)
theorem up_low {w0 w : World} {own own' : Whose} (D : w0.heap.size ≤ w.heap.size) (u : OwnUp own own' w) (ho : ∀ i, own i ≠ none → w0.heap.size ≤ i) : ∀ i, own' i ≠ none → w0.heap.size ≤ i := fun i hi => by
  cases e : own i with
  | none => exact Nat.le_trans D (u.2 i e hi)
  | some r => exact ho i (by rw [e]; simp)
theorem ix_new (w0 w : World) (D : Below w0.heap.size w0 w) : Calls Try.prog 11 #[] w fun e w' => ∃ a, e = .returned (ptr a) ∧ Ix w0 w' a [] 0 ∧ Below w.heap.size w w' := by
  refine (new_calls w).mono ?_
  rintro e w1 ⟨a, b, c, rfl, h, hb⟩
  refine ⟨a, rfl, ⟨⟨_, b, c, h, fun i hi => ?_⟩, List.nodup_nil, fun x hx => by cases hx⟩, hb⟩
  unfold own0 at hi
  have := D.size
  by_cases e0 : i = w.heap.size
  · omega
  · rw [if_neg e0] at hi
    by_cases e1 : i = w.heap.size + 1
    · omega
    · rw [if_neg e1] at hi
      by_cases e2 : i = w.heap.size + 2
      · omega
      · rw [if_neg e2] at hi
        exact absurd rfl hi
theorem setP_ok {P : List Pr} (h : P.Nodup) (hs : ∀ x ∈ P, x.1.size ≤ maxLen ∧ x.2.size ≤ maxLen) (p q : ByteArray) (on : Bool) (hp : p.size ≤ maxLen) (hq : q.size ≤ maxLen) :
    (setP P p q on).1.Nodup ∧ (∀ x ∈ (setP P p q on).1, x.1.size ≤ maxLen ∧ x.2.size ≤ maxLen) ∧ (setP P p q on).1.length ≤ P.length + 1 := by
  unfold setP
  split
  · exact ⟨h, hs, Nat.le_succ _⟩
  · rename_i e
    refine ⟨tuP_nodup h p q on fun ho => ?_, fun x hx => ?_, ?_⟩
    · rw [ho] at e
      cases hh : inP P p q with
      | false => rfl
      | true => exact absurd hh e
    · unfold tuP at hx
      cases on
      · exact hs x (List.mem_filter.1 hx).1
      · simp only [if_true, List.mem_append, List.mem_singleton] at hx
        rcases hx with hx | rfl
        · exact hs x hx
        · exact ⟨hp, hq⟩
    · unfold tuP
      cases on
      · exact Nat.le_trans (List.length_filter_le _ _) (Nat.le_succ _)
      · simp
theorem ix_set {w0 w : World} {a n : Nat} {P : List Pr} (h : Ix w0 w a P n) (D : Below w0.heap.size w0 w) (p q : ByteArray) (on : Bool) (hp : p.size ≤ maxLen) (hq : q.size ≤ maxLen) (hn : n + 5 < 1000000) :
    Calls Try.prog 12 #[ptr a, .string p, .string q, .bool on] w fun e w' => e = .returned (.bool (setP P p q on).2) ∧ Ix w0 w' a (setP P p q on).1 (n + 5) ∧ Below w0.heap.size w0 w' ∧ CellsKept w w' := by
  obtain ⟨⟨own, b, c, h1, h2⟩, h3, h4⟩ := h
  refine (set_calls h1 p q on hp hq hn h3).mono ?_
  rintro e w1 ⟨rfl, own', k1, k2, k3⟩
  obtain ⟨s1, s2, -⟩ := setP_ok h3 h4 p q on hp hq
  exact ⟨rfl, ⟨⟨own', b, c, k1, up_low D.size k2 h2⟩, s1, s2⟩, low_turned D k3 h2, k3.kept h1.owned⟩
theorem ix_forget {w0 w : World} {a n : Nat} {P : List Pr} (h : Ix w0 w a P n) (D : Below w0.heap.size w0 w) (u : ByteArray) (hu : u.size ≤ maxLen) (hl : P.length ≤ 10000) (hn : n + 10 * P.length + 10 ≤ 500000) :
    Calls Try.prog 16 #[ptr a, .string u] w fun e w' => e = .returned (.int .i64 ((P.length : Int) - (forgetP P u).length)) ∧ Ix w0 w' a (forgetP P u) (n + 10 * P.length) ∧ Below w0.heap.size w0 w' ∧ CellsKept w w' := by
  obtain ⟨⟨own, b, c, h1, h2⟩, h3, h4⟩ := h
  refine (forget_calls h1 u hu hl hn h3 h4).mono ?_
  rintro e w1 ⟨rfl, own', k1, k2, k3⟩
  exact ⟨rfl, ⟨⟨own', b, c, k1, up_low D.size k2 h2⟩, nodup_filter _ _ h3, fun x hx => h4 x (List.mem_filter.1 hx).1⟩, low_turned D k3 h2, k3.kept h1.owned⟩
theorem ix_has {w0 w : World} {a n : Nat} {P : List Pr} (h : Ix w0 w a P n) (p q : ByteArray) (hp : p.size ≤ maxLen) (hq : q.size ≤ maxLen) :
    Calls Try.prog 14 #[ptr a, .string p, .string q] w fun e w' => e = .returned (.bool (inP P p q)) ∧ Below w.heap.size w w' := by
  obtain ⟨⟨own, b, c, h1, h2⟩, h3, h4⟩ := h
  exact has_calls h1 p q hp hq
theorem ix_len {w0 w : World} {a n : Nat} {P : List Pr} (h : Ix w0 w a P n) : Calls Try.prog 18 #[ptr a] w fun e w' => e = .returned (.int .i64 P.length) ∧ Below w.heap.size w w' := by
  obtain ⟨⟨own, b, c, h1, h2⟩, h3, h4⟩ := h
  exact len_calls h1
theorem ix_watchers {w0 w : World} {a n : Nat} {P : List Pr} (h : Ix w0 w a P n) (u : ByteArray) (hu : u.size ≤ maxLen) (hn : n ≤ 500000) :
    Calls Try.prog 20 #[ptr a, .string u] w fun e w' => ∃ v, e = .returned v ∧ Row enS 1 w' v (sideP P u true) ∧ Below w.heap.size w w' := by
  obtain ⟨⟨own, b, c, h1, h2⟩, h3, h4⟩ := h
  exact watchers_calls h1 u hu hn h4
theorem ix_contacts {w0 w : World} {a n : Nat} {P : List Pr} (h : Ix w0 w a P n) (u : ByteArray) (hu : u.size ≤ maxLen) (hn : n ≤ 500000) :
    Calls Try.prog 22 #[ptr a, .string u] w fun e w' => ∃ v, e = .returned v ∧ Row enS 1 w' v (sideP P u false) ∧ Below w.heap.size w w' := by
  obtain ⟨⟨own, b, c, h1, h2⟩, h3, h4⟩ := h
  exact contacts_calls h1 u hu hn h4
theorem form_S {w : World} {v : Value} {l : List ByteArray} (h : Row enS 1 w v l) : ∃ A c, v = .slice A l.length c := by
  obtain ⟨A, c, rfl, -⟩ := h
  exact ⟨A, c, rfl⟩
end Go.Proofs.Ytocdoddmaopdbaa
