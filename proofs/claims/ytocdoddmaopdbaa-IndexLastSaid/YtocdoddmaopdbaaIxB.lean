/-
Layer 13: what an Index is in memory: pairs, and for each side the pairs of each name; what a turn of one pair does to each part.
-/
import Derived.Test.YtocdoddmaopdbaaIxA
set_option linter.unusedVariables false
set_option linter.unusedSimpArgs false
namespace Go.Proofs.Ytocdoddmaopdbaa
open Go.RowKit Go.Maps
namespace Sp
abbrev Pr := ByteArray × ByteArray
structure OpI where
  d : Int
  w : ByteArray
  c : ByteArray
instance : DecidableEq OpI := fun a b => decidable_of_iff (a.d = b.d ∧ a.w = b.w ∧ a.c = b.c) ⟨fun h => by cases a; cases b; simp only at h; obtain ⟨h1, h2, h3⟩ := h; subst h1 h2 h3; rfl, fun h => by subst h; exact ⟨rfl, rfl, rfl⟩⟩
def inP (L : List Pr) (p q : ByteArray) : Bool := L.any fun x => decide (x.1 = p) && decide (x.2 = q)
theorem inP_iff {L : List Pr} {p q : ByteArray} : inP L p q = true ↔ (p, q) ∈ L := by
  unfold inP
  rw [List.any_eq_true]
  constructor
  · rintro ⟨⟨x, y⟩, hx, e⟩
    simp only [Bool.and_eq_true, decide_eq_true_eq] at e
    rw [← e.1, ← e.2]
    exact hx
  · exact fun h => ⟨(p, q), h, by simp⟩
def sd (s : Bool) (x : Pr) : ByteArray := if s then x.2 else x.1
def tuP (L : List Pr) (p q : ByteArray) (on : Bool) : List Pr := if on then L ++ [(p, q)] else L.filter fun x => !(decide (x.1 = p) && decide (x.2 = q))
def setP (L : List Pr) (p q : ByteArray) (on : Bool) : List Pr × Bool := if inP L p q = on then (L, false) else (tuP L p q on, true)
def sideP (L : List Pr) (u : ByteArray) (s : Bool) : List ByteArray := mergeS ((L.filter fun x => decide (sd s x = u)).map (sd (!s))) []
def forgetP (L : List Pr) (u : ByteArray) : List Pr := L.filter fun x => !decide (x.1 = u) && !decide (x.2 = u)
theorem inP_tuP (L : List Pr) (p q : ByteArray) (on : Bool) (x y : ByteArray) : inP (tuP L p q on) x y = if on then (decide (x = p ∧ y = q) || inP L x y) else (!decide (x = p ∧ y = q) && inP L x y) := by
  rw [Bool.eq_iff_iff, inP_iff]
  unfold tuP
  cases on
  · simp only [Bool.false_eq_true, if_false, List.mem_filter, Bool.and_eq_true, Bool.not_eq_true', Bool.and_eq_false_iff, decide_eq_false_iff_not, inP_iff]
    constructor
    · rintro ⟨h1, h2⟩
      exact ⟨fun e => by rcases h2 with h2 | h2; exact h2 e.1; exact h2 e.2, h1⟩
    · rintro ⟨h1, h2⟩
      refine ⟨h2, ?_⟩
      by_cases e : x = p
      · exact .inr fun e2 => h1 ⟨e, e2⟩
      · exact .inl e
  · simp only [if_true, List.mem_append, List.mem_singleton, Prod.mk.injEq, Bool.or_eq_true, decide_eq_true_eq, inP_iff]
    exact or_comm
theorem nodup_filter {α : Type} (f : α → Bool) : ∀ L : List α, L.Nodup → (L.filter f).Nodup := fun L h => List.Pairwise.filter _ h
theorem tuP_nodup {L : List Pr} (h : L.Nodup) (p q : ByteArray) (on : Bool) (ho : on = true → inP L p q = false) : (tuP L p q on).Nodup := by
  unfold tuP
  cases on
  · exact nodup_filter _ _ h
  · simp only [if_true]
    rw [List.nodup_append]
    refine ⟨h, by simp, fun x hx y hy e => ?_⟩
    rw [List.mem_singleton] at hy
    rw [e, hy, ← inP_iff, ho rfl] at hx
    cases hx
theorem len_off (p q : ByteArray) : ∀ L : List Pr, L.Nodup → (L.filter fun x => !(decide (x.1 = p) && decide (x.2 = q))).length = if inP L p q then L.length - 1 else L.length
  | [], _ => rfl
  | x :: L, h => by
    obtain ⟨h1, h2⟩ := List.nodup_cons.1 h
    have ih := len_off p q L h2
    by_cases e : x.1 = p ∧ x.2 = q
    · have hx : x = (p, q) := Prod.ext e.1 e.2
      have hn : inP L p q = false := by
        cases hh : inP L p q with
        | false => rfl
        | true => rw [inP_iff, ← hx] at hh; exact absurd hh h1
      rw [hn] at ih
      rw [List.filter_cons, if_neg (by simp [e.1, e.2]), ih, show inP (x :: L) p q = true from inP_iff.2 (by rw [hx]; exact List.mem_cons_self ..)]
      simp
    · have hb : (!(decide (x.1 = p) && decide (x.2 = q))) = true := by
        rw [Bool.not_eq_true', Bool.and_eq_false_iff]
        by_cases e1 : x.1 = p
        · exact .inr (decide_eq_false fun e2 => e ⟨e1, e2⟩)
        · exact .inl (decide_eq_false e1)
      have hi : inP (x :: L) p q = inP L p q := by
        unfold inP
        rw [List.any_cons]
        rw [Bool.not_eq_true'] at hb
        rw [hb, Bool.false_or]
      rw [List.filter_cons, if_pos hb, List.length_cons, ih, hi]
      cases hh : inP L p q with
      | false => rfl
      | true =>
        rw [inP_iff] at hh
        have := List.length_pos_of_mem hh
        simp only [if_true, List.length_cons]
        omega
theorem tuP_len {L : List Pr} (h : L.Nodup) (p q : ByteArray) (on : Bool) (ho : on = true → inP L p q = false) : (tuP L p q on).length = if on then L.length + 1 else if inP L p q then L.length - 1 else L.length := by
  unfold tuP
  cases on
  · exact len_off p q L h
  · simp
end Sp
open Sp
/-- Whose a block is: of the pairs, of a side, of a name on a side. -/
abbrev Whose := Nat → Option (Option (Bool × Option ByteArray))
def SideAt (w : World) (own : Whose) (s : Bool) (c : Nat) (L : List Pr) (n : Nat) : Prop :=
  ∃ f, NMap w c n f ∧ ∀ name : ByteArray, (f name = none → ∀ x ∈ L, sd s x ≠ name) ∧ ∀ g, f name = some g → own g = some (some (s, some name)) ∧ ∃ m, BMap w g n (fun p q => inP L p q && decide (sd s (p, q) = name)) m
structure IdxAt (w : World) (own : Whose) (a b : Nat) (c : Bool → Nat) (P : List Pr) (L : Bool → List Pr) (n : Nat) : Prop where
  box : w.heap[a]? = some (.cells #[.map (some b), .map (some (c false)), .map (some (c true))] 55)
  ob : own b = some none
  oc : ∀ s, own (c s) = some (some (s, none))
  prs : BMap w b n (inP P) P.length
  side : ∀ s, SideAt w own s (c s) (L s) n
  maps : ∀ i r, own i = some r → ∃ es k, w.heap[i]? = some (.map es k)
/-- w' is w but for the blocks of 'own', and new blocks. -/
structure Turned (own : Whose) (w w' : World) : Prop where
  low : Below 0 w w'
  same : ∀ i, i < w.heap.size → own i = none → w'.heap[i]? = w.heap[i]?
def OwnUp (own own' : Whose) (w : World) : Prop := (∀ i r, own i = some r → own' i = some r) ∧ ∀ i, own i = none → own' i ≠ none → w.heap.size ≤ i
theorem Turned.refl (own : Whose) (w : World) : Turned own w w := ⟨Below.refl _ _, fun _ _ _ => rfl⟩
theorem OwnUp.refl (own : Whose) (w : World) : OwnUp own own w := ⟨fun _ _ h => h, fun _ h h' => absurd h h'⟩
theorem OwnUp.trans {own own1 own2 : Whose} {w w1 : World} (h : OwnUp own own1 w) (hs : w.heap.size ≤ w1.heap.size) (h' : OwnUp own1 own2 w1) : OwnUp own own2 w :=
  ⟨fun i r e => h'.1 i r (h.1 i r e), fun i e e' => by
    cases e1 : own1 i with
    | none => exact Nat.le_trans hs (h'.2 i e1 e')
    | some r => exact h.2 i e (by rw [e1]; simp)⟩
theorem Turned.trans {own own1 : Whose} {w w1 w2 : World} (h : Turned own w w1) (u : OwnUp own own1 w) (h' : Turned own1 w1 w2) : Turned own w w2 :=
  ⟨h.low.trans h'.low, fun i hi e => by
    have e1 : own1 i = none := by
      cases e1 : own1 i with
      | none => rfl
      | some r => exact absurd (u.2 i e (by rw [e1]; simp)) (by omega)
    rw [h'.same i (Nat.lt_of_lt_of_le hi h.low.size) e1, h.same i hi e]⟩
theorem Turned.below {own : Whose} {w w1 w2 : World} (h : Turned own w w1) (b : Below w1.heap.size w1 w2) : Turned own w w2 :=
  ⟨h.low.trans (b.mono (Nat.zero_le _)), fun i hi e => (b.block i (Nat.lt_of_lt_of_le hi h.low.size)).trans (h.same i hi e)⟩
theorem Turned.of_below {own : Whose} {w w1 : World} (b : Below w.heap.size w w1) : Turned own w w1 := (Turned.refl own w).below b
theorem Turned.of_map {own : Whose} {w w1 : World} {b : Nat} (h : w.mapTurned w1 b) (ho : own b ≠ none) : Turned own w w1 := by
  have g := h.grown
  exact ⟨⟨g.os, g.tape, g.output, g.size, fun i hi => absurd hi (Nat.not_lt_zero _)⟩, fun i hi e => g.block i hi (fun e2 => by injection e2 with e2; rw [← e2, e] at ho; exact ho rfl)⟩
/-- What is no map is where it was. -/
def Owned (own : Whose) (w : World) : Prop := ∀ i r, own i = some r → ∃ es k, w.heap[i]? = some (.map es k)
theorem Turned.cells {own : Whose} {w w1 : World} (h : Turned own w w1) (hm : Owned own w) {g : Nat} {cs : Array Value} {T : TypeId} {fr : Nat × Nat} (hg : w.heap[g]? = some (.cells cs T fr)) : w1.heap[g]? = some (.cells cs T fr) := by
  have ho : own g = none := by
    cases e : own g with
    | none => rfl
    | some r => obtain ⟨es, k, hk⟩ := hm g r e; rw [hg] at hk; cases hk
  rw [h.same g (Array.getElem?_eq_some_iff.1 hg).1 ho, hg]
theorem Turned.row {own : Whose} {w w1 : World} (h : Turned own w w1) (hm : Owned own w) {α : Type} {enc : α → List Value} {k : Nat} {v : Value} {xs : List α} (hr : Row enc k w v xs) : Row enc k w1 v xs := by
  obtain ⟨A, c, rfl, h1, h2, h3, h4⟩ := hr
  refine ⟨A, c, rfl, h1, h2, h3, fun hp => ?_⟩
  obtain ⟨ad, e, hc⟩ := h4 hp
  refine ⟨ad, e, fun j u hu => ?_⟩
  have h5 := hc j u hu
  have hb : (ad.add j).block = ad.block := add_block ad j
  have hcell : ∃ cs T fr, w.heap[ad.block]? = some (.cells cs T fr) := by
    unfold World.cell? at h5
    rw [hb] at h5
    split at h5
    · rename_i cs T fr hh
      exact ⟨_, _, _, hh⟩
    · cases h5
  obtain ⟨cs, T, fr, hh⟩ := hcell
  have h6 := h.cells hm hh
  unfold World.cell? at h5 ⊢
  rw [hb] at h5 ⊢
  rw [h6]
  rw [hh] at h5
  exact h5
theorem Turned.own_ {own : Whose} {w w1 : World} (h : Turned own w w1) (hm : Owned own w) {α : Type} {enc : α → List Value} {k base : Nat} {e : TypeId} {v : Value} {xs : List α} (hr : Own enc k e w base v xs) : Own enc k e w1 base v xs := by
  obtain ⟨h1, h2⟩ := hr
  refine ⟨h1, ?_⟩
  rcases h2 with h2 | ⟨g, cap, cur, e1, e2, e3, e4⟩
  · exact .inl h2
  · exact .inr ⟨g, cap, cur, e1, e2, h.cells hm e3, e4⟩
/-! ### Each part, while others turn -/
theorem SideAt.mono {w : World} {own : Whose} {s : Bool} {c : Nat} {L : List Pr} {n n' : Nat} (h : SideAt w own s c L n) (hn : n ≤ n') : SideAt w own s c L n' := by
  obtain ⟨f, h1, h2⟩ := h
  refine ⟨f, h1.mono hn, fun name => ⟨(h2 name).1, fun g e => ?_⟩⟩
  obtain ⟨q1, m, q2⟩ := (h2 name).2 g e
  exact ⟨q1, m, q2.mono hn⟩
theorem SideAt.up {w : World} {own own' : Whose} {s : Bool} {c : Nat} {L : List Pr} {n : Nat} (h : SideAt w own s c L n) (hu : ∀ i r, own i = some r → own' i = some r) : SideAt w own' s c L n := by
  obtain ⟨f, h1, h2⟩ := h
  exact ⟨f, h1, fun name => ⟨(h2 name).1, fun g e => ⟨hu _ _ ((h2 name).2 g e).1, ((h2 name).2 g e).2⟩⟩⟩
/-- The blocks of a side are where they were. -/
theorem SideAt.move {w w1 : World} {own : Whose} {s : Bool} {c : Nat} {L : List Pr} {n : Nat} (h : SideAt w own s c L n) (hc : own c = some (some (s, none))) {row : Option Nat} (hg : w.grownBy w1 row)
    (hr : ∀ b, row = some b → ∀ nm, own b ≠ some (some (s, nm))) : SideAt w1 own s c L n := by
  obtain ⟨f, h1, h2⟩ := h
  refine ⟨f, h1.kept hg (fun e => hr c e.symm none hc), fun name => ⟨(h2 name).1, fun g e => ?_⟩⟩
  obtain ⟨q1, m, q2⟩ := (h2 name).2 g e
  exact ⟨q1, m, q2.kept hg (fun e => hr g e.symm _ q1)⟩
theorem IdxAt.owned {w : World} {own : Whose} {a b : Nat} {c : Bool → Nat} {P : List Pr} {L : Bool → List Pr} {n : Nat} (h : IdxAt w own a b c P L n) : Owned own w := h.maps
theorem IdxAt.below {w w1 : World} {own : Whose} {a b : Nat} {c : Bool → Nat} {P : List Pr} {L : Bool → List Pr} {n : Nat} (h : IdxAt w own a b c P L n) (hb : Below w.heap.size w w1) : IdxAt w1 own a b c P L n where
  box := hcall h.box hb
  ob := h.ob
  oc := h.oc
  prs := h.prs.below hb
  side := fun s => (h.side s).move (h.oc s) (grown_of_below hb none) (fun b e => by cases e)
  maps := fun i r e => by obtain ⟨es, k, hk⟩ := h.maps i r e; exact ⟨es, k, hcall hk hb⟩
theorem IdxAt.mono {w : World} {own : Whose} {a b : Nat} {c : Bool → Nat} {P : List Pr} {L : Bool → List Pr} {n n' : Nat} (h : IdxAt w own a b c P L n) (hn : n ≤ n') : IdxAt w own a b c P L n' :=
  ⟨h.box, h.ob, h.oc, h.prs.mono hn, fun s => (h.side s).mono hn, h.maps⟩
theorem map_isMap {w w1 : World} {b i : Nat} (h : w.mapTurned w1 b) (hi : ∃ es k, w.heap[i]? = some (.map es k)) : ∃ es k, w1.heap[i]? = some (.map es k) := by
  by_cases e : i = b
  · obtain ⟨es, k, es', k', hb, rfl⟩ := h
    subst e
    exact ⟨es', k', Go.ChangeMaps.heap_setBlock_same hb _⟩
  · obtain ⟨es, k, hk⟩ := hi
    exact ⟨es, k, (h.grown.block i (Array.getElem?_eq_some_iff.1 hk).1 (fun e2 => e (by injection e2))).trans hk⟩
/-- What a name's place on a side holds; and what is done where it holds nothing. -/
theorem IdxAt.look {w : World} {own : Whose} {a b : Nat} {c : Bool → Nat} {P : List Pr} {L : Bool → List Pr} {n : Nat} (h : IdxAt w own a b c P L n) (s : Bool) (name : ByteArray) (hs : name.size ≤ maxLen) (hn : n + 1 < 1000000) :
    (∃ g, (Instr.lookup 52 (.map (some (c s))) (.string name) false).run Try.prog w = .ok (.map (some g)) w ∧ own g = some (some (s, some name)) ∧ ∃ m, BMap w g n (fun p q => inP (L s) p q && decide (sd s (p, q) = name)) m) ∨
    ((Instr.lookup 52 (.map (some (c s))) (.string name) false).run Try.prog w = .ok (.map none) w ∧ (∀ x ∈ L s, sd s x ≠ name) ∧
      ∃ w2 own2, (Instr.mapUpdate 52 (.map (some (c s))) (.string name) (.map (some w.heap.size))).run Try.prog (w.alloc (.map #[] 0)) = .ok () w2 ∧ IdxAt w2 own2 a b c P L (n + 1) ∧ OwnUp own own2 w ∧ Turned own w w2 ∧
        (Instr.lookup 52 (.map (some (c s))) (.string name) false).run Try.prog w2 = .ok (.map (some w.heap.size)) w2 ∧ own2 w.heap.size = some (some (s, some name)) ∧ w2.heap.size = w.heap.size + 1) := by
  obtain ⟨f, h1, h2⟩ := h.side s
  cases hf : f name with
  | some g =>
    left
    obtain ⟨q1, m, q2⟩ := (h2 name).2 g hf
    exact ⟨g, by rw [h1.look name hs, hf], q1, m, q2⟩
  | none =>
    right
    have hno := (h2 name).1 hf
    refine ⟨by rw [h1.look name hs, hf], hno, ?_⟩
    have hB := below_box (w := w) (.map #[] 0)
    have hI := h.below hB
    have hnew : (w.alloc (.map #[] 0)).heap[w.heap.size]? = some (.map #[] 0) := (MapKept.heap_alloc w _).1
    have hfresh : own w.heap.size = none := by
      cases e : own w.heap.size with
      | none => rfl
      | some r => obtain ⟨es, k, hk⟩ := h.maps _ r e; exact absurd (Array.getElem?_eq_some_iff.1 hk).1 (Nat.lt_irrefl _)
    obtain ⟨w2, r1, r2, r3⟩ := (h1.kept (grown_of_below hB none) (by simp)).put name w.heap.size hs (by omega)
    have hg := r3.grown
    have hcs : own (c s) = some (some (s, none)) := h.oc s
    let own2 : Whose := fun i => if i = w.heap.size then some (some (s, some name)) else own i
    have up : ∀ i r, own i = some r → own2 i = some r := fun i r e => by
      show (if i = w.heap.size then some (some (s, some name)) else own i) = _
      rw [if_neg (fun e2 => by rw [e2, hfresh] at e; cases e), e]
    have o2 : own2 w.heap.size = some (some (s, some name)) := if_pos rfl
    have hlt : c s < w.heap.size := by obtain ⟨es, k, hk⟩ := h.maps _ _ hcs; exact (Array.getElem?_eq_some_iff.1 hk).1
    have hsz2 : w2.heap.size = w.heap.size + 1 := by
      obtain ⟨es, k, es', k', hb, rfl⟩ := r3
      simp [Go.ChangeMaps.setBlock, size_alloc]
    have hlk : (Instr.lookup 52 (.map (some (c s))) (.string name) false).run Try.prog w2 = .ok (.map (some w.heap.size)) w2 := by
      rw [r2.look name hs, if_pos rfl]
    have hT : Turned own w w2 := by
      refine (Turned.of_below hB).trans (OwnUp.refl own w) (Turned.of_map r3 (by rw [hcs]; simp))
    refine ⟨w2, own2, r1, ⟨?_, up _ _ h.ob, fun t => up _ _ (h.oc t), ?_, fun t => ?_, ?_⟩, ⟨up, fun i e e' => ?_⟩, hT, hlk, o2, hsz2⟩
    · exact hT.cells h.owned h.box
    · have hb2 : (w.alloc (.map #[] 0)).heap.size = w.heap.size + 1 := size_alloc _ _
      exact ((h.prs.below hB).kept hg (fun e => by injection e with e; have h3 := h.ob; rw [e, hcs] at h3; cases h3)).mono (by omega)
    · by_cases e : t = s
      · subst e
        refine ⟨_, r2, fun nm => ?_⟩
        by_cases en : nm = name
        · subst en
          refine ⟨fun e2 => ?_, fun g e2 => ?_⟩
          · rw [if_pos rfl] at e2
            cases e2
          · rw [if_pos rfl] at e2
            injection e2 with e2
            subst e2
            refine ⟨o2, 0, ?_⟩
            refine ((BMap.new w).mono (Nat.zero_le (n + 1))).kept hg (fun e => ?_) |>.set fun p q _ _ => ?_
            · injection e with e
              omega
            · symm
              rw [Bool.and_eq_false_iff]
              cases hp : inP (L t) p q with
              | false => exact .inl rfl
              | true => exact .inr (decide_eq_false (hno _ (inP_iff.1 hp)))
        · refine ⟨fun e2 => ?_, fun g e2 => ?_⟩
          · rw [if_neg en] at e2
            exact (h2 nm).1 e2
          · rw [if_neg en] at e2
            obtain ⟨q1, m, q2⟩ := (h2 nm).2 g e2
            refine ⟨up _ _ q1, m, ((q2.below hB).kept hg (fun e => ?_)).mono (by omega)⟩
            injection e with e
            rw [e, hcs] at q1
            cases q1
      · refine (SideAt.mono ?_ (Nat.le_succ n)).up up
        refine ((h.side t).move (h.oc t) (grown_of_below hB none) (fun b e => by cases e)).move (h.oc t) hg (fun b2 e2 nm e3 => ?_)
        injection e2 with e2
        rw [← e2, hcs] at e3
        injection e3 with e3
        injection e3 with e3
        injection e3 with e3 e4
        exact e e3.symm
    · intro i r e
      by_cases e2 : i = w.heap.size
      · subst e2
        exact map_isMap r3 ⟨_, _, hnew⟩
      · have e3 : own i = some r := by
          have : own2 i = own i := if_neg e2
          rw [← this]
          exact e
        obtain ⟨es, k, hk⟩ := h.maps i r e3
        exact map_isMap r3 ⟨es, k, hcall hk hB⟩
    · by_cases e2 : i = w.heap.size
      · omega
      · exact absurd (show own2 i = none by rw [← e]; exact if_neg e2) e'
theorem ok_map {w : World} {x y : Option Nat} (h : (Result.ok (.map x) w : Result Value) = .ok (.map y) w) : x = y := by
  injection h with h
  injection h
/-- A pair is laid into its name's map of a side, or struck from it. -/
theorem IdxAt.turn {w w3 : World} {own : Whose} {a b : Nat} {c : Bool → Nat} {P : List Pr} {L : Bool → List Pr} {n : Nat} (h : IdxAt w own a b c P L n) (s : Bool) (p q : ByteArray) (on : Bool) {g m : Nat}
    (hlk : (Instr.lookup 52 (.map (some (c s))) (.string (sd s (p, q))) false).run Try.prog w = .ok (.map (some g)) w) (hs : (sd s (p, q)).size ≤ maxLen) (hog : own g = some (some (s, some (sd s (p, q)))))
    (hr3 : w.mapTurned w3 g) (r2 : BMap w3 g (n + 1) (fun x y => inP (tuP (L s) p q on) x y && decide (sd s (x, y) = sd s (p, q))) m) :
    IdxAt w3 own a b c P (fun t => if t = s then tuP (L s) p q on else L t) (n + 1) ∧ Turned own w w3 := by
  have hT : Turned own w w3 := Turned.of_map hr3 (by rw [hog]; simp)
  have hg := hr3.grown
  refine ⟨⟨hT.cells h.owned h.box, h.ob, h.oc, ?_, fun t => ?_, fun i r e => map_isMap hr3 (h.maps i r e)⟩, hT⟩
  · refine (h.prs.kept hg (fun e => ?_)).mono (by omega)
    injection e with e
    have h3 := h.ob
    rw [e, hog] at h3
    cases h3
  · by_cases e : t = s
    · subst e
      rw [if_pos rfl]
      obtain ⟨f, h1, h2⟩ := h.side t
      have hf : f (sd t (p, q)) = some g := by
        have := h1.look (sd t (p, q)) hs
        exact (ok_map (hlk.symm.trans this)).symm
      refine ⟨f, (h1.kept hg (fun e => ?_)).mono (by omega), fun nm => ⟨fun e2 x hx => ?_, fun g2 e2 => ?_⟩⟩
      · injection e with e
        have h3 := h.oc t
        rw [e, hog] at h3
        cases h3
      · have hxp : ¬ nm = sd t (p, q) := fun e3 => by rw [e3, hf] at e2; cases e2
        have hx2 := inP_iff.2 hx
        have hx3 := inP_tuP (L t) p q on x.1 x.2
        rw [show inP (tuP (L t) p q on) x.1 x.2 = true from hx2] at hx3
        cases on
        · simp only [Bool.false_eq_true, if_false] at hx3
          have := (Bool.and_eq_true _ _ ▸ hx3.symm : _ ∧ _).2
          exact (h2 nm).1 e2 x (inP_iff.1 this)
        · simp only [if_true] at hx3
          have := (Bool.or_eq_true _ _ ▸ hx3.symm : _ ∨ _)
          rcases this with this | this
          · rw [decide_eq_true_eq] at this
            have : x = (p, q) := Prod.ext this.1 this.2
            rw [this]
            exact fun e => hxp e.symm
          · exact (h2 nm).1 e2 x (inP_iff.1 this)
      · by_cases en : nm = sd t (p, q)
        · subst en
          rw [hf] at e2
          injection e2 with e2
          subst e2
          exact ⟨hog, m, r2⟩
        · obtain ⟨q1, m2, q2⟩ := (h2 nm).2 g2 e2
          refine ⟨q1, m2, ((q2.kept hg (fun e => ?_)).mono (by omega)).set fun x y _ _ => ?_⟩
          · injection e with e
            rw [e, hog] at q1
            injection q1 with q1
            injection q1 with q1
            injection q1 with q1 q3
            injection q3 with q3
            exact en q3.symm
          · rw [inP_tuP]
            by_cases e3 : x = p ∧ y = q
            · obtain ⟨rfl, rfl⟩ := e3
              rw [decide_eq_false (fun e4 => en e4.symm), Bool.and_false, Bool.and_false]
            · rw [decide_eq_false e3]
              cases on <;> simp
    · rw [if_neg e]
      refine (SideAt.mono ?_ (Nat.le_succ n))
      refine (h.side t).move (h.oc t) hg (fun b2 e2 nm e3 => ?_)
      injection e2 with e2
      rw [← e2, hog] at e3
      injection e3 with e3
      injection e3 with e3
      injection e3 with e3 e4
      exact e e3.symm
theorem IdxAt.put {w : World} {own : Whose} {a b : Nat} {c : Bool → Nat} {P : List Pr} {L : Bool → List Pr} {n : Nat} (h : IdxAt w own a b c P L n) (s : Bool) (p q : ByteArray) {g m : Nat} (hp : p.size ≤ maxLen) (hq : q.size ≤ maxLen)
    (hlk : (Instr.lookup 52 (.map (some (c s))) (.string (sd s (p, q))) false).run Try.prog w = .ok (.map (some g)) w) (hog : own g = some (some (s, some (sd s (p, q)))))
    (hB : BMap w g n (fun x y => inP (L s) x y && decide (sd s (x, y) = sd s (p, q))) m) (hn : n < 1000000) :
    ∃ w3, (Instr.mapUpdate 51 (.map (some g)) (agP p q) (.bool true)).run Try.prog w = .ok () w3 ∧ IdxAt w3 own a b c P (fun t => if t = s then tuP (L s) p q true else L t) (n + 1) ∧ Turned own w w3 ∧ w3.heap.size = w.heap.size := by
  obtain ⟨w3, r1, r2, r3⟩ := hB.put p q hp hq hn
  have hs : (sd s (p, q)).size ≤ maxLen := by cases s <;> assumption
  obtain ⟨k1, k2⟩ := h.turn s p q true hlk hs hog r3 (r2.set fun x y _ _ => by
    rw [inP_tuP]
    by_cases e : x = p ∧ y = q
    · obtain ⟨rfl, rfl⟩ := e
      simp
    · simp [e])
  exact ⟨w3, r1, k1, k2, by obtain ⟨es, k, es', k', hb, rfl⟩ := r3; simp [Go.ChangeMaps.setBlock]⟩
theorem IdxAt.del {w : World} {own : Whose} {a b : Nat} {c : Bool → Nat} {P : List Pr} {L : Bool → List Pr} {n : Nat} (h : IdxAt w own a b c P L n) (s : Bool) (p q : ByteArray) {g m : Nat} (hp : p.size ≤ maxLen) (hq : q.size ≤ maxLen)
    (hlk : (Instr.lookup 52 (.map (some (c s))) (.string (sd s (p, q))) false).run Try.prog w = .ok (.map (some g)) w) (hog : own g = some (some (s, some (sd s (p, q)))))
    (hB : BMap w g n (fun x y => inP (L s) x y && decide (sd s (x, y) = sd s (p, q))) m) (ty : TypeId) :
    ∃ w3, (Builtin.delete_ #[51, 56] ty #[.map (some g), agP p q]).run Try.prog w = .ok (.tuple #[]) w3 ∧ IdxAt w3 own a b c P (fun t => if t = s then tuP (L s) p q false else L t) (n + 1) ∧ Turned own w w3 ∧ w3.heap.size = w.heap.size := by
  obtain ⟨w3, r1, r2, r3⟩ := hB.del p q hp hq ty
  have hs : (sd s (p, q)).size ≤ maxLen := by cases s <;> assumption
  obtain ⟨k1, k2⟩ := h.turn s p q false hlk hs hog r3 ((r2.mono (Nat.le_succ n)).set fun x y _ _ => by
    rw [inP_tuP]
    by_cases e : x = p ∧ y = q
    · obtain ⟨rfl, rfl⟩ := e
      simp
    · simp [e])
  exact ⟨w3, r1, k1, k2, by obtain ⟨es, k, es', k', hb, rfl⟩ := r3; simp [Go.ChangeMaps.setBlock]⟩
/-- The same of the pairs themselves. -/
theorem IdxAt.pairs {w w3 : World} {own : Whose} {a b : Nat} {c : Bool → Nat} {P P' : List Pr} {L : Bool → List Pr} {n : Nat} (h : IdxAt w own a b c P L n) (hr3 : w.mapTurned w3 b) (r2 : BMap w3 b (n + 1) (inP P') P'.length) :
    IdxAt w3 own a b c P' L (n + 1) ∧ Turned own w w3 := by
  have hT : Turned own w w3 := Turned.of_map hr3 (by rw [h.ob]; simp)
  refine ⟨⟨hT.cells h.owned h.box, h.ob, h.oc, r2, fun t => ?_, fun i r e => map_isMap hr3 (h.maps i r e)⟩, hT⟩
  refine (SideAt.mono ?_ (Nat.le_succ n))
  refine (h.side t).move (h.oc t) hr3.grown (fun b2 e2 nm e3 => ?_)
  injection e2 with e2
  rw [← e2, h.ob] at e3
  cases e3
theorem IdxAt.putAll {w : World} {own : Whose} {a b : Nat} {c : Bool → Nat} {P : List Pr} {L : Bool → List Pr} {n : Nat} (h : IdxAt w own a b c P L n) (p q : ByteArray) (hp : p.size ≤ maxLen) (hq : q.size ≤ maxLen) (hn : n < 1000000) (hnd : P.Nodup) (hno : inP P p q = false) :
    ∃ w3, (Instr.mapUpdate 51 (.map (some b)) (agP p q) (.bool true)).run Try.prog w = .ok () w3 ∧ IdxAt w3 own a b c (tuP P p q true) L (n + 1) ∧ Turned own w w3 := by
  obtain ⟨w3, r1, r2, r3⟩ := h.prs.put p q hp hq hn
  rw [hno, if_neg (by simp), ← show (tuP P p q true).length = P.length + 1 by rw [tuP_len hnd p q true (fun _ => hno)]; rfl] at r2
  obtain ⟨k1, k2⟩ := h.pairs (P' := tuP P p q true) r3 (r2.set fun x y _ _ => by rw [inP_tuP]; rfl)
  exact ⟨w3, r1, k1, k2⟩
theorem IdxAt.delAll {w : World} {own : Whose} {a b : Nat} {c : Bool → Nat} {P : List Pr} {L : Bool → List Pr} {n : Nat} (h : IdxAt w own a b c P L n) (p q : ByteArray) (hp : p.size ≤ maxLen) (hq : q.size ≤ maxLen) (hnd : P.Nodup) (ty : TypeId) :
    ∃ w3, (Builtin.delete_ #[51, 56] ty #[.map (some b), agP p q]).run Try.prog w = .ok (.tuple #[]) w3 ∧ IdxAt w3 own a b c (tuP P p q false) L (n + 1) ∧ Turned own w w3 := by
  obtain ⟨w3, r1, r2, r3⟩ := h.prs.del p q hp hq ty
  rw [show (if inP P p q = true then P.length - 1 else P.length) = (tuP P p q false).length by rw [tuP_len hnd p q false (fun e => by cases e)]; rfl] at r2
  obtain ⟨k1, k2⟩ := h.pairs (P' := tuP P p q false) r3 ((r2.mono (Nat.le_succ n)).set fun x y _ _ => by rw [inP_tuP]; rfl)
  exact ⟨w3, r1, k1, k2⟩
theorem IdxAt.cong {w : World} {own : Whose} {a b : Nat} {c : Bool → Nat} {P : List Pr} {L L' : Bool → List Pr} {n : Nat} (h : IdxAt w own a b c P L n) (e : ∀ s, L s = L' s) : IdxAt w own a b c P L' n := by
  rw [show L' = L from funext fun s => (e s).symm]
  exact h
end Go.Proofs.Ytocdoddmaopdbaa
