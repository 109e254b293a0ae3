import Derived.Lib.SlicesCompact
import Derived.Sort.OwnSorted
import Derived.Shelf.SlSortCmp.NoneTotal
import Derived.Lib.AppendZeros
import Derived.Deep.QuietTactic
import Derived.BigQuiet
import Derived.Deep.Slices
import Derived.Test.YtocdoddmaopdbaaPIndexKept00
set_option linter.unusedVariables false
set_option linter.unusedSimpArgs false
namespace Go.Proofs.Ytocdoddmaopdbaa
open Go.RowKit Go.Maps
namespace Sp
abbrev Pr := ByteArray × ByteArray
structure OpI where
  d : Int
  w : ByteArray
  c : ByteArray
instance : DecidableEq OpI := fun a b => decidable_of_iff (a.d = b.d ∧ a.w = b.w ∧ a.c = b.c) ⟨fun h => by cases a; cases b; simp only at h; obtain ⟨h1, h2, h3⟩ := h; subst h1 h2 h3; rfl, fun h => by subst h; exact ⟨rfl, rfl, rfl⟩⟩
def inP (L : List Pr) (p q : ByteArray) : Bool := L.any fun x => decide (x.1 = p) && decide (x.2 = q)
theorem inP_iff {L : List Pr} {p q : ByteArray} : inP L p q = true ↔ (p, q) ∈ L := by
  unfold inP
  rw [List.any_eq_true]
  constructor
  · rintro ⟨⟨x, y⟩, hx, e⟩
    simp only [Bool.and_eq_true, decide_eq_true_eq] at e
    rw [← e.1, ← e.2]
    exact hx
  · exact fun h => ⟨(p, q), h, by simp⟩
def sd (s : Bool) (x : Pr) : ByteArray := if s then x.2 else x.1
def tuP (L : List Pr) (p q : ByteArray) (on : Bool) : List Pr := if on then L ++ [(p, q)] else L.filter fun x => !(decide (x.1 = p) && decide (x.2 = q))
def setP (L : List Pr) (p q : ByteArray) (on : Bool) : List Pr × Bool := if inP L p q = on then (L, false) else (tuP L p q on, true)
def sideP (L : List Pr) (u : ByteArray) (s : Bool) : List ByteArray := mergeS ((L.filter fun x => decide (sd s x = u)).map (sd (!s))) []
def forgetP (L : List Pr) (u : ByteArray) : List Pr := L.filter fun x => !decide (x.1 = u) && !decide (x.2 = u)
theorem inP_tuP (L : List Pr) (p q : ByteArray) (on : Bool) (x y : ByteArray) : inP (tuP L p q on) x y = if on then (decide (x = p ∧ y = q) || inP L x y) else (!decide (x = p ∧ y = q) && inP L x y) := by
  rw [Bool.eq_iff_iff, inP_iff]
  unfold tuP
  cases on
  · simp only [Bool.false_eq_true, if_false, List.mem_filter, Bool.and_eq_true, Bool.not_eq_true', Bool.and_eq_false_iff, decide_eq_false_iff_not, inP_iff]
    constructor
    · rintro ⟨h1, h2⟩
      exact ⟨fun e => by rcases h2 with h2 | h2; exact h2 e.1; exact h2 e.2, h1⟩
    · rintro ⟨h1, h2⟩
      refine ⟨h2, ?_⟩
      by_cases e : x = p
      · exact .inr fun e2 => h1 ⟨e, e2⟩
      · exact .inl e
  · simp only [if_true, List.mem_append, List.mem_singleton, Prod.mk.injEq, Bool.or_eq_true, decide_eq_true_eq, inP_iff]
    exact or_comm
theorem nodup_filter {α : Type} (f : α → Bool) : ∀ L : List α, L.Nodup → (L.filter f).Nodup := fun L h => List.Pairwise.filter _ h
theorem tuP_nodup {L : List Pr} (h : L.Nodup) (p q : ByteArray) (on : Bool) (ho : on = true → inP L p q = false) : (tuP L p q on).Nodup := by
  unfold tuP
  cases on
  · exact nodup_filter _ _ h
  · simp only [if_true]
    rw [List.nodup_append]
    refine ⟨h, by simp, fun x hx y hy e => ?_⟩
    rw [List.mem_singleton] at hy
    rw [e, hy, ← inP_iff, ho rfl] at hx
    cases hx
theorem len_off (p q : ByteArray) : ∀ L : List Pr, L.Nodup → (L.filter fun x => !(decide (x.1 = p) && decide (x.2 = q))).length = if inP L p q then L.length - 1 else L.length
  | [], _ => rfl
  | x :: L, h => by
    obtain ⟨h1, h2⟩ := List.nodup_cons.1 h
    have ih := len_off p q L h2
    by_cases e : x.1 = p ∧ x.2 = q
    · have hx : x = (p, q) := Prod.ext e.1 e.2
      have hn : inP L p q = false := by
        cases hh : inP L p q with
        | false => rfl
        | true => rw [inP_iff, ← hx] at hh; exact absurd hh h1
      rw [hn] at ih
      rw [List.filter_cons, if_neg (by simp [e.1, e.2]), ih, show inP (x :: L) p q = true from inP_iff.2 (by rw [hx]; exact List.mem_cons_self ..)]
      simp
    · have hb : (!(decide (x.1 = p) && decide (x.2 = q))) = true := by
        rw [Bool.not_eq_true', Bool.and_eq_false_iff]
        by_cases e1 : x.1 = p
        · exact .inr (decide_eq_false fun e2 => e ⟨e1, e2⟩)
        · exact .inl (decide_eq_false e1)
      have hi : inP (x :: L) p q = inP L p q := by
        unfold inP
        rw [List.any_cons]
        rw [Bool.not_eq_true'] at hb
        rw [hb, Bool.false_or]
      rw [List.filter_cons, if_pos hb, List.length_cons, ih, hi]
      cases hh : inP L p q with
      | false => rfl
      | true =>
        rw [inP_iff] at hh
        have := List.length_pos_of_mem hh
        simp only [if_true, List.length_cons]
        omega
theorem tuP_len {L : List Pr} (h : L.Nodup) (p q : ByteArray) (on : Bool) (ho : on = true → inP L p q = false) : (tuP L p q on).length = if on then L.length + 1 else if inP L p q then L.length - 1 else L.length := by
  unfold tuP
  cases on
  · exact len_off p q L h
  · simp
end Sp
open Sp
abbrev Whose := Nat → Option (Option (Bool × Option ByteArray))
def SideAt (w : World) (own : Whose) (s : Bool) (c : Nat) (L : List Pr) (n : Nat) : Prop :=
  ∃ f, NMap w c n f ∧ ∀ name : ByteArray, (f name = none → ∀ x ∈ L, sd s x ≠ name) ∧ ∀ g, f name = some g → own g = some (some (s, some name)) ∧ ∃ m, BMap w g n (fun p q => inP L p q && decide (sd s (p, q) = name)) m
structure IdxAt (w : World) (own : Whose) (a b : Nat) (c : Bool → Nat) (P : List Pr) (L : Bool → List Pr) (n : Nat) : Prop where
  box : w.heap[a]? = some (.cells #[.map (some b), .map (some (c false)), .map (some (c true))] 55)
  ob : own b = some none
  oc : ∀ s, own (c s) = some (some (s, none))
  prs : BMap w b n (inP P) P.length
  side : ∀ s, SideAt w own s (c s) (L s) n
  maps : ∀ i r, own i = some r → ∃ es k, w.heap[i]? = some (.map es k)
structure Turned (own : Whose) (w w' : World) : Prop where
  low : Below 0 w w'
  same : ∀ i, i < w.heap.size → own i = none → w'.heap[i]? = w.heap[i]?
def OwnUp (own own' : Whose) (w : World) : Prop := (∀ i r, own i = some r → own' i = some r) ∧ ∀ i, own i = none → own' i ≠ none → w.heap.size ≤ i
theorem Turned.refl (own : Whose) (w : World) : Turned own w w := ⟨Below.refl _ _, fun _ _ _ => rfl⟩
theorem OwnUp.refl (own : Whose) (w : World) : OwnUp own own w := ⟨fun _ _ h => h, fun _ h h' => absurd h h'⟩
theorem OwnUp.trans {own own1 own2 : Whose} {w w1 : World} (h : OwnUp own own1 w) (hs : w.heap.size ≤ w1.heap.size) (h' : OwnUp own1 own2 w1) : OwnUp own own2 w :=
  ⟨fun i r e => h'.1 i r (h.1 i r e), fun i e e' => by
    cases e1 : own1 i with
    | none => exact Nat.le_trans hs (h'.2 i e1 e')
    | some r => exact h.2 i e (by rw [e1]; simp)⟩
theorem Turned.trans {own own1 : Whose} {w w1 w2 : World} (h : Turned own w w1) (u : OwnUp own own1 w) (h' : Turned own1 w1 w2) : Turned own w w2 :=
  ⟨h.low.trans h'.low, fun i hi e => by
    have e1 : own1 i = none := by
      cases e1 : own1 i with
      | none => rfl
      | some r => exact absurd (u.2 i e (by rw [e1]; simp)) (by omega)
    rw [h'.same i (Nat.lt_of_lt_of_le hi h.low.size) e1, h.same i hi e]⟩
theorem Turned.below {own : Whose} {w w1 w2 : World} (h : Turned own w w1) (b : Below w1.heap.size w1 w2) : Turned own w w2 :=
  ⟨h.low.trans (b.mono (Nat.zero_le _)), fun i hi e => (b.block i (Nat.lt_of_lt_of_le hi h.low.size)).trans (h.same i hi e)⟩
theorem Turned.of_below {own : Whose} {w w1 : World} (b : Below w.heap.size w w1) : Turned own w w1 := (Turned.refl own w).below b
theorem Turned.of_map {own : Whose} {w w1 : World} {b : Nat} (h : w.mapTurned w1 b) (ho : own b ≠ none) : Turned own w w1 := by
  have g := h.grown
  exact ⟨⟨g.os, g.tape, g.output, g.size, fun i hi => absurd hi (Nat.not_lt_zero _)⟩, fun i hi e => g.block i hi (fun e2 => by injection e2 with e2; rw [← e2, e] at ho; exact ho rfl)⟩
def Owned (own : Whose) (w : World) : Prop := ∀ i r, own i = some r → ∃ es k, w.heap[i]? = some (.map es k)
theorem Turned.cells {own : Whose} {w w1 : World} (h : Turned own w w1) (hm : Owned own w) {g : Nat} {cs : Array Value} {T : TypeId} {fr : Nat × Nat} (hg : w.heap[g]? = some (.cells cs T fr)) : w1.heap[g]? = some (.cells cs T fr) := by
  have ho : own g = none := by
    cases e : own g with
    | none => rfl
    | some r => obtain ⟨es, k, hk⟩ := hm g r e; rw [hg] at hk; cases hk
  rw [h.same g (Array.getElem?_eq_some_iff.1 hg).1 ho, hg]
theorem Turned.row {own : Whose} {w w1 : World} (h : Turned own w w1) (hm : Owned own w) {α : Type} {enc : α → List Value} {k : Nat} {v : Value} {xs : List α} (hr : Row enc k w v xs) : Row enc k w1 v xs := by
  obtain ⟨A, c, rfl, h1, h2, h3, h4⟩ := hr
  refine ⟨A, c, rfl, h1, h2, h3, fun hp => ?_⟩
  obtain ⟨ad, e, hc⟩ := h4 hp
  refine ⟨ad, e, fun j u hu => ?_⟩
  have h5 := hc j u hu
  have hb : (ad.add j).block = ad.block := add_block ad j
  have hcell : ∃ cs T fr, w.heap[ad.block]? = some (.cells cs T fr) := by
    unfold World.cell? at h5
    rw [hb] at h5
    split at h5
    · rename_i cs T fr hh
      exact ⟨_, _, _, hh⟩
    · cases h5
  obtain ⟨cs, T, fr, hh⟩ := hcell
  have h6 := h.cells hm hh
  unfold World.cell? at h5 ⊢
  rw [hb] at h5 ⊢
  rw [h6]
  rw [hh] at h5
  exact h5
theorem SideAt.mono {w : World} {own : Whose} {s : Bool} {c : Nat} {L : List Pr} {n n' : Nat} (h : SideAt w own s c L n) (hn : n ≤ n') : SideAt w own s c L n' := by
  obtain ⟨f, h1, h2⟩ := h
  refine ⟨f, h1.mono hn, fun name => ⟨(h2 name).1, fun g e => ?_⟩⟩
  obtain ⟨q1, m, q2⟩ := (h2 name).2 g e
  exact ⟨q1, m, q2.mono hn⟩
theorem SideAt.up {w : World} {own own' : Whose} {s : Bool} {c : Nat} {L : List Pr} {n : Nat} (h : SideAt w own s c L n) (hu : ∀ i r, own i = some r → own' i = some r) : SideAt w own' s c L n := by
  obtain ⟨f, h1, h2⟩ := h
  exact ⟨f, h1, fun name => ⟨(h2 name).1, fun g e => ⟨hu _ _ ((h2 name).2 g e).1, ((h2 name).2 g e).2⟩⟩⟩
theorem SideAt.move {w w1 : World} {own : Whose} {s : Bool} {c : Nat} {L : List Pr} {n : Nat} (h : SideAt w own s c L n) (hc : own c = some (some (s, none))) {row : Option Nat} (hg : w.grownBy w1 row)
    (hr : ∀ b, row = some b → ∀ nm, own b ≠ some (some (s, nm))) : SideAt w1 own s c L n := by
  obtain ⟨f, h1, h2⟩ := h
  refine ⟨f, h1.kept hg (fun e => hr c e.symm none hc), fun name => ⟨(h2 name).1, fun g e => ?_⟩⟩
  obtain ⟨q1, m, q2⟩ := (h2 name).2 g e
  exact ⟨q1, m, q2.kept hg (fun e => hr g e.symm _ q1)⟩
theorem IdxAt.owned {w : World} {own : Whose} {a b : Nat} {c : Bool → Nat} {P : List Pr} {L : Bool → List Pr} {n : Nat} (h : IdxAt w own a b c P L n) : Owned own w := h.maps
theorem IdxAt.below {w w1 : World} {own : Whose} {a b : Nat} {c : Bool → Nat} {P : List Pr} {L : Bool → List Pr} {n : Nat} (h : IdxAt w own a b c P L n) (hb : Below w.heap.size w w1) : IdxAt w1 own a b c P L n where
  box := hcall h.box hb
  ob := h.ob
  oc := h.oc
  prs := h.prs.below hb
  side := fun s => (h.side s).move (h.oc s) (grown_of_below hb none) (fun b e => by cases e)
  maps := fun i r e => by obtain ⟨es, k, hk⟩ := h.maps i r e; exact ⟨es, k, hcall hk hb⟩
theorem IdxAt.mono {w : World} {own : Whose} {a b : Nat} {c : Bool → Nat} {P : List Pr} {L : Bool → List Pr} {n n' : Nat} (h : IdxAt w own a b c P L n) (hn : n ≤ n') : IdxAt w own a b c P L n' :=
  ⟨h.box, h.ob, h.oc, h.prs.mono hn, fun s => (h.side s).mono hn, h.maps⟩
theorem map_isMap {w w1 : World} {b i : Nat} (h : w.mapTurned w1 b) (hi : ∃ es k, w.heap[i]? = some (.map es k)) : ∃ es k, w1.heap[i]? = some (.map es k) := by
  by_cases e : i = b
  · obtain ⟨es, k, es', k', hb, rfl⟩ := h
    subst e
    exact ⟨es', k', Go.ChangeMaps.heap_setBlock_same hb _⟩
  · obtain ⟨es, k, hk⟩ := hi
    exact ⟨es, k, (h.grown.block i (Array.getElem?_eq_some_iff.1 hk).1 (fun e2 => e (by injection e2))).trans hk⟩
theorem IdxAt.look {w : World} {own : Whose} {a b : Nat} {c : Bool → Nat} {P : List Pr} {L : Bool → List Pr} {n : Nat} (h : IdxAt w own a b c P L n) (s : Bool) (name : ByteArray) (hs : name.size ≤ maxLen) (hn : n + 1 < 1000000) :
    (∃ g, (Instr.lookup 52 (.map (some (c s))) (.string name) false).run Try.prog w = .ok (.map (some g)) w ∧ own g = some (some (s, some name)) ∧ ∃ m, BMap w g n (fun p q => inP (L s) p q && decide (sd s (p, q) = name)) m) ∨
    ((Instr.lookup 52 (.map (some (c s))) (.string name) false).run Try.prog w = .ok (.map none) w ∧ (∀ x ∈ L s, sd s x ≠ name) ∧
      ∃ w2 own2, (Instr.mapUpdate 52 (.map (some (c s))) (.string name) (.map (some w.heap.size))).run Try.prog (w.alloc (.map #[] 0)) = .ok () w2 ∧ IdxAt w2 own2 a b c P L (n + 1) ∧ OwnUp own own2 w ∧ Turned own w w2 ∧
        (Instr.lookup 52 (.map (some (c s))) (.string name) false).run Try.prog w2 = .ok (.map (some w.heap.size)) w2 ∧ own2 w.heap.size = some (some (s, some name)) ∧ w2.heap.size = w.heap.size + 1) := by
  obtain ⟨f, h1, h2⟩ := h.side s
  cases hf : f name with
  | some g =>
    left
    obtain ⟨q1, m, q2⟩ := (h2 name).2 g hf
    exact ⟨g, by rw [h1.look name hs, hf], q1, m, q2⟩
  | none =>
    right
    have hno := (h2 name).1 hf
    refine ⟨by rw [h1.look name hs, hf], hno, ?_⟩
    have hB := below_box (w := w) (.map #[] 0)
    have hI := h.below hB
    have hnew : (w.alloc (.map #[] 0)).heap[w.heap.size]? = some (.map #[] 0) := (MapKept.heap_alloc w _).1
    have hfresh : own w.heap.size = none := by
      cases e : own w.heap.size with
      | none => rfl
      | some r => obtain ⟨es, k, hk⟩ := h.maps _ r e; exact absurd (Array.getElem?_eq_some_iff.1 hk).1 (Nat.lt_irrefl _)
    obtain ⟨w2, r1, r2, r3⟩ := (h1.kept (grown_of_below hB none) (by simp)).put name w.heap.size hs (by omega)
    have hg := r3.grown
    have hcs : own (c s) = some (some (s, none)) := h.oc s
    let own2 : Whose := fun i => if i = w.heap.size then some (some (s, some name)) else own i
    have up : ∀ i r, own i = some r → own2 i = some r := fun i r e => by
      show (if i = w.heap.size then some (some (s, some name)) else own i) = _
      rw [if_neg (fun e2 => by rw [e2, hfresh] at e; cases e), e]
    have o2 : own2 w.heap.size = some (some (s, some name)) := if_pos rfl
    have hlt : c s < w.heap.size := by obtain ⟨es, k, hk⟩ := h.maps _ _ hcs; exact (Array.getElem?_eq_some_iff.1 hk).1
    have hsz2 : w2.heap.size = w.heap.size + 1 := by
      obtain ⟨es, k, es', k', hb, rfl⟩ := r3
      simp [Go.ChangeMaps.setBlock, size_alloc]
    have hlk : (Instr.lookup 52 (.map (some (c s))) (.string name) false).run Try.prog w2 = .ok (.map (some w.heap.size)) w2 := by
      rw [r2.look name hs, if_pos rfl]
    have hT : Turned own w w2 := by
      refine (Turned.of_below hB).trans (OwnUp.refl own w) (Turned.of_map r3 (by rw [hcs]; simp))
    refine ⟨w2, own2, r1, ⟨?_, up _ _ h.ob, fun t => up _ _ (h.oc t), ?_, fun t => ?_, ?_⟩, ⟨up, fun i e e' => ?_⟩, hT, hlk, o2, hsz2⟩
    · exact hT.cells h.owned h.box
    · have hb2 : (w.alloc (.map #[] 0)).heap.size = w.heap.size + 1 := size_alloc _ _
      exact ((h.prs.below hB).kept hg (fun e => by injection e with e; have h3 := h.ob; rw [e, hcs] at h3; cases h3)).mono (by omega)
    · by_cases e : t = s
      · subst e
        refine ⟨_, r2, fun nm => ?_⟩
        by_cases en : nm = name
        · subst en
          refine ⟨fun e2 => ?_, fun g e2 => ?_⟩
          · rw [if_pos rfl] at e2
            cases e2
          · rw [if_pos rfl] at e2
            injection e2 with e2
            subst e2
            refine ⟨o2, 0, ?_⟩
            refine ((BMap.new w).mono (Nat.zero_le (n + 1))).kept hg (fun e => ?_) |>.set fun p q _ _ => ?_
            · injection e with e
              omega
            · symm
              rw [Bool.and_eq_false_iff]
              cases hp : inP (L t) p q with
              | false => exact .inl rfl
              | true => exact .inr (decide_eq_false (hno _ (inP_iff.1 hp)))
        · refine ⟨fun e2 => ?_, fun g e2 => ?_⟩
          · rw [if_neg en] at e2
            exact (h2 nm).1 e2
          · rw [if_neg en] at e2
            obtain ⟨q1, m, q2⟩ := (h2 nm).2 g e2
            refine ⟨up _ _ q1, m, ((q2.below hB).kept hg (fun e => ?_)).mono (by omega)⟩
            injection e with e
            rw [e, hcs] at q1
            cases q1
      · refine (SideAt.mono ?_ (Nat.le_succ n)).up up
        refine ((h.side t).move (h.oc t) (grown_of_below hB none) (fun b e => by cases e)).move (h.oc t) hg (fun b2 e2 nm e3 => ?_)
        injection e2 with e2
        rw [← e2, hcs] at e3
        injection e3 with e3
        injection e3 with e3
        injection e3 with e3 e4
        exact e e3.symm
    · intro i r e
      by_cases e2 : i = w.heap.size
      · subst e2
        exact map_isMap r3 ⟨_, _, hnew⟩
      · have e3 : own i = some r := by
          have : own2 i = own i := if_neg e2
          rw [← this]
          exact e
        obtain ⟨es, k, hk⟩ := h.maps i r e3
        exact map_isMap r3 ⟨es, k, hcall hk hB⟩
    · by_cases e2 : i = w.heap.size
      · omega
      · exact absurd (show own2 i = none by rw [← e]; exact if_neg e2) e'
theorem ok_map {w : World} {x y : Option Nat} (h : (Result.ok (.map x) w : Result Value) = .ok (.map y) w) : x = y := by
  injection h with h
  injection h
theorem IdxAt.turn {w w3 : World} {own : Whose} {a b : Nat} {c : Bool → Nat} {P : List Pr} {L : Bool → List Pr} {n : Nat} (h : IdxAt w own a b c P L n) (s : Bool) (p q : ByteArray) (on : Bool) {g m : Nat}
    (hlk : (Instr.lookup 52 (.map (some (c s))) (.string (sd s (p, q))) false).run Try.prog w = .ok (.map (some g)) w) (hs : (sd s (p, q)).size ≤ maxLen) (hog : own g = some (some (s, some (sd s (p, q)))))
    (hr3 : w.mapTurned w3 g) (r2 : BMap w3 g (n + 1) (fun x y => inP (tuP (L s) p q on) x y && decide (sd s (x, y) = sd s (p, q))) m) :
    IdxAt w3 own a b c P (fun t => if t = s then tuP (L s) p q on else L t) (n + 1) ∧ Turned own w w3 := by
  have hT : Turned own w w3 := Turned.of_map hr3 (by rw [hog]; simp)
  have hg := hr3.grown
  refine ⟨⟨hT.cells h.owned h.box, h.ob, h.oc, ?_, fun t => ?_, fun i r e => map_isMap hr3 (h.maps i r e)⟩, hT⟩
  · refine (h.prs.kept hg (fun e => ?_)).mono (by omega)
    injection e with e
    have h3 := h.ob
    rw [e, hog] at h3
    cases h3
  · by_cases e : t = s
    · subst e
      rw [if_pos rfl]
      obtain ⟨f, h1, h2⟩ := h.side t
      have hf : f (sd t (p, q)) = some g := by
        have := h1.look (sd t (p, q)) hs
        exact (ok_map (hlk.symm.trans this)).symm
      refine ⟨f, (h1.kept hg (fun e => ?_)).mono (by omega), fun nm => ⟨fun e2 x hx => ?_, fun g2 e2 => ?_⟩⟩
      · injection e with e
        have h3 := h.oc t
        rw [e, hog] at h3
        cases h3
      · have hxp : ¬ nm = sd t (p, q) := fun e3 => by rw [e3, hf] at e2; cases e2
        have hx2 := inP_iff.2 hx
        have hx3 := inP_tuP (L t) p q on x.1 x.2
        rw [show inP (tuP (L t) p q on) x.1 x.2 = true from hx2] at hx3
        cases on
        · simp only [Bool.false_eq_true, if_false] at hx3
          have := (Bool.and_eq_true _ _ ▸ hx3.symm : _ ∧ _).2
          exact (h2 nm).1 e2 x (inP_iff.1 this)
        · simp only [if_true] at hx3
          have := (Bool.or_eq_true _ _ ▸ hx3.symm : _ ∨ _)
          rcases this with this | this
          · rw [decide_eq_true_eq] at this
            have : x = (p, q) := Prod.ext this.1 this.2
            rw [this]
            exact fun e => hxp e.symm
          · exact (h2 nm).1 e2 x (inP_iff.1 this)
      · by_cases en : nm = sd t (p, q)
        · subst en
          rw [hf] at e2
          injection e2 with e2
          subst e2
          exact ⟨hog, m, r2⟩
        · obtain ⟨q1, m2, q2⟩ := (h2 nm).2 g2 e2
          refine ⟨q1, m2, ((q2.kept hg (fun e => ?_)).mono (by omega)).set fun x y _ _ => ?_⟩
          · injection e with e
            rw [e, hog] at q1
            injection q1 with q1
            injection q1 with q1
            injection q1 with q1 q3
            injection q3 with q3
            exact en q3.symm
          · rw [inP_tuP]
            by_cases e3 : x = p ∧ y = q
            · obtain ⟨rfl, rfl⟩ := e3
              rw [decide_eq_false (fun e4 => en e4.symm), Bool.and_false, Bool.and_false]
            · rw [decide_eq_false e3]
              cases on <;> simp
    · rw [if_neg e]
      refine (SideAt.mono ?_ (Nat.le_succ n))
      refine (h.side t).move (h.oc t) hg (fun b2 e2 nm e3 => ?_)
      injection e2 with e2
      rw [← e2, hog] at e3
      injection e3 with e3
      injection e3 with e3
      injection e3 with e3 e4
      exact e e3.symm
theorem IdxAt.put {w : World} {own : Whose} {a b : Nat} {c : Bool → Nat} {P : List Pr} {L : Bool → List Pr} {n : Nat} (h : IdxAt w own a b c P L n) (s : Bool) (p q : ByteArray) {g m : Nat} (hp : p.size ≤ maxLen) (hq : q.size ≤ maxLen)
    (hlk : (Instr.lookup 52 (.map (some (c s))) (.string (sd s (p, q))) false).run Try.prog w = .ok (.map (some g)) w) (hog : own g = some (some (s, some (sd s (p, q)))))
    (hB : BMap w g n (fun x y => inP (L s) x y && decide (sd s (x, y) = sd s (p, q))) m) (hn : n < 1000000) :
    ∃ w3, (Instr.mapUpdate 51 (.map (some g)) (agPk p q) (.bool true)).run Try.prog w = .ok () w3 ∧ IdxAt w3 own a b c P (fun t => if t = s then tuP (L s) p q true else L t) (n + 1) ∧ Turned own w w3 ∧ w3.heap.size = w.heap.size := by
  obtain ⟨w3, r1, r2, r3⟩ := hB.put p q hp hq hn
  have hs : (sd s (p, q)).size ≤ maxLen := by cases s <;> assumption
  obtain ⟨k1, k2⟩ := h.turn s p q true hlk hs hog r3 (r2.set fun x y _ _ => by
    rw [inP_tuP]
    by_cases e : x = p ∧ y = q
    · obtain ⟨rfl, rfl⟩ := e
      simp
    · simp [e])
  exact ⟨w3, r1, k1, k2, by obtain ⟨es, k, es', k', hb, rfl⟩ := r3; simp [Go.ChangeMaps.setBlock]⟩
theorem IdxAt.del {w : World} {own : Whose} {a b : Nat} {c : Bool → Nat} {P : List Pr} {L : Bool → List Pr} {n : Nat} (h : IdxAt w own a b c P L n) (s : Bool) (p q : ByteArray) {g m : Nat} (hp : p.size ≤ maxLen) (hq : q.size ≤ maxLen)
    (hlk : (Instr.lookup 52 (.map (some (c s))) (.string (sd s (p, q))) false).run Try.prog w = .ok (.map (some g)) w) (hog : own g = some (some (s, some (sd s (p, q)))))
    (hB : BMap w g n (fun x y => inP (L s) x y && decide (sd s (x, y) = sd s (p, q))) m) (ty : TypeId) :
    ∃ w3, (Builtin.delete_ #[51, 56] ty #[.map (some g), agPk p q]).run Try.prog w = .ok (.tuple #[]) w3 ∧ IdxAt w3 own a b c P (fun t => if t = s then tuP (L s) p q false else L t) (n + 1) ∧ Turned own w w3 ∧ w3.heap.size = w.heap.size := by
  obtain ⟨w3, r1, r2, r3⟩ := hB.del p q hp hq ty
  have hs : (sd s (p, q)).size ≤ maxLen := by cases s <;> assumption
  obtain ⟨k1, k2⟩ := h.turn s p q false hlk hs hog r3 ((r2.mono (Nat.le_succ n)).set fun x y _ _ => by
    rw [inP_tuP]
    by_cases e : x = p ∧ y = q
    · obtain ⟨rfl, rfl⟩ := e
      simp
    · simp [e])
  exact ⟨w3, r1, k1, k2, by obtain ⟨es, k, es', k', hb, rfl⟩ := r3; simp [Go.ChangeMaps.setBlock]⟩
theorem IdxAt.pairs {w w3 : World} {own : Whose} {a b : Nat} {c : Bool → Nat} {P P' : List Pr} {L : Bool → List Pr} {n : Nat} (h : IdxAt w own a b c P L n) (hr3 : w.mapTurned w3 b) (r2 : BMap w3 b (n + 1) (inP P') P'.length) :
    IdxAt w3 own a b c P' L (n + 1) ∧ Turned own w w3 := by
  have hT : Turned own w w3 := Turned.of_map hr3 (by rw [h.ob]; simp)
  refine ⟨⟨hT.cells h.owned h.box, h.ob, h.oc, r2, fun t => ?_, fun i r e => map_isMap hr3 (h.maps i r e)⟩, hT⟩
  refine (SideAt.mono ?_ (Nat.le_succ n))
  refine (h.side t).move (h.oc t) hr3.grown (fun b2 e2 nm e3 => ?_)
  injection e2 with e2
  rw [← e2, h.ob] at e3
  cases e3
theorem IdxAt.putAll {w : World} {own : Whose} {a b : Nat} {c : Bool → Nat} {P : List Pr} {L : Bool → List Pr} {n : Nat} (h : IdxAt w own a b c P L n) (p q : ByteArray) (hp : p.size ≤ maxLen) (hq : q.size ≤ maxLen) (hn : n < 1000000) (hnd : P.Nodup) (hno : inP P p q = false) :
    ∃ w3, (Instr.mapUpdate 51 (.map (some b)) (agPk p q) (.bool true)).run Try.prog w = .ok () w3 ∧ IdxAt w3 own a b c (tuP P p q true) L (n + 1) ∧ Turned own w w3 := by
  obtain ⟨w3, r1, r2, r3⟩ := h.prs.put p q hp hq hn
  rw [hno, if_neg (by simp), ← show (tuP P p q true).length = P.length + 1 by rw [tuP_len hnd p q true (fun _ => hno)]; rfl] at r2
  obtain ⟨k1, k2⟩ := h.pairs (P' := tuP P p q true) r3 (r2.set fun x y _ _ => by rw [inP_tuP]; rfl)
  exact ⟨w3, r1, k1, k2⟩
theorem IdxAt.delAll {w : World} {own : Whose} {a b : Nat} {c : Bool → Nat} {P : List Pr} {L : Bool → List Pr} {n : Nat} (h : IdxAt w own a b c P L n) (p q : ByteArray) (hp : p.size ≤ maxLen) (hq : q.size ≤ maxLen) (hnd : P.Nodup) (ty : TypeId) :
    ∃ w3, (Builtin.delete_ #[51, 56] ty #[.map (some b), agPk p q]).run Try.prog w = .ok (.tuple #[]) w3 ∧ IdxAt w3 own a b c (tuP P p q false) L (n + 1) ∧ Turned own w w3 := by
  obtain ⟨w3, r1, r2, r3⟩ := h.prs.del p q hp hq ty
  rw [show (if inP P p q = true then P.length - 1 else P.length) = (tuP P p q false).length by rw [tuP_len hnd p q false (fun e => by cases e)]; rfl] at r2
  obtain ⟨k1, k2⟩ := h.pairs (P' := tuP P p q false) r3 ((r2.mono (Nat.le_succ n)).set fun x y _ _ => by rw [inP_tuP]; rfl)
  exact ⟨w3, r1, k1, k2⟩
theorem IdxAt.cong {w : World} {own : Whose} {a b : Nat} {c : Bool → Nat} {P : List Pr} {L L' : Bool → List Pr} {n : Nat} (h : IdxAt w own a b c P L n) (e : ∀ s, L s = L' s) : IdxAt w own a b c P L' n := by
  rw [show L' = L from funext fun s => (e s).symm]
  exact h
end Go.Proofs.Ytocdoddmaopdbaa
namespace Go.Proofs.Ytocdoddmaopdbaa
open Go.RowKit Go.Maps
open Sp
section
variable {P : Program} (w : World) {ops : Array Oper} {rest : List Oper} {o : Oper} {a : Act} {Q : Exit → Act → World → Prop}
theorem wpList_delete_run (hg : o.guard = none) (m x : Operand) (t k : TypeId) (hop : o.op = Op.call { callee := Callee.builtin Builtin.delete, args := #[m, x], argTypes := #[t, k] }) (vm vx : Value) (hm : a.eval m = vm) (hx : a.eval x = vx) {w' : World}
    (hrun : (Builtin.delete_ #[t, k] o.type #[vm, vx]).run P w = .ok (.tuple #[]) w') (hK : wpList P ops Q rest (a.put o.dst (.tuple #[])) w') : wpList P ops Q (o :: rest) a w := by
  refine wpList_plain hg fun K' hK' => ?_
  unfold Oper.wp
  simp [execOp, hop, resolve, invoke, builtin, hm, hx, hrun, Result.andThen]
  exact hK' _ _ hK
theorem wpList_len_run (hg : o.guard = none) (m : Operand) (t : TypeId) (hop : o.op = Op.call { callee := Callee.builtin Builtin.len, args := #[m], argTypes := #[t] }) (vm : Value) (hm : a.eval m = vm) {v : Value}
    (hrun : (Builtin.len_ #[t] o.type #[vm]).run P w = .ok v w) (hK : wpList P ops Q rest (a.put o.dst v) w) : wpList P ops Q (o :: rest) a w := by
  refine wpList_plain hg fun K' hK' => ?_
  unfold Oper.wp
  simp [execOp, hop, resolve, invoke, builtin, hm, hrun, Result.andThen]
  exact hK' _ _ hK
end
theorem eqMapN (g : Option Nat) (W : World) : (binOp .eql 51 (.map g) (.map none)).run Try.prog W = .ok (.bool g.isNone) W := run_eql_map_nil W _ _ _ g Try.underlying51
theorem IdxAt.at_ {w : World} {own : Whose} {a b : Nat} {c : Bool → Nat} {P : List Pr} {L : Bool → List Pr} {n : Nat} (h : IdxAt w own a b c P L n) (s : Bool) (name : ByteArray) (hs : name.size ≤ maxLen) (hn : n + 1 < 1000000) {g : Nat}
    (hlk : (Instr.lookup 52 (.map (some (c s))) (.string name) false).run Try.prog w = .ok (.map (some g)) w) : own g = some (some (s, some name)) ∧ ∃ m, BMap w g n (fun p q => inP (L s) p q && decide (sd s (p, q) = name)) m := by
  rcases h.look s name hs hn with ⟨g', h1, h2, h3⟩ | ⟨h1, _⟩
  · have := ok_map (hlk.symm.trans h1)
    injection this with this
    rw [this]
    exact ⟨h2, h3⟩
  · have := ok_map (hlk.symm.trans h1)
    cases this
theorem next_P {ops : Array Oper} {rest : List Oper} {o : Oper} {a : Act} {Q : Exit → Act → World → Prop} (w : World) (hg : o.guard = none) (it : Operand) (hop : o.op = Op.next it false) (g r n : Nat) (D : DataW Unit) (left : Lit → Bool) (cnt : Nat)
    (hit : a.eval it = .pointer (some ⟨r, 0, none⟩)) (h : w.ranges Try.prog 56 (plainElem Try.prog 4) g r n D left cnt) (hT : ∀ kl z, Maps.has D kl = true → D.atKey kl z = .lit (.bool true))
    (hDone : cnt = 0 → (∀ kl, left kl = false) → wpList Try.prog ops Q rest (a.put o.dst (.tuple #[.bool false])) w)
    (hMore : ∀ (p q : ByteArray) (w' : World) (cnt' : Nat), p.size ≤ maxLen → q.size ≤ maxLen → left (keyP p q) = true → Maps.has D (keyP p q) = true → w'.ranges Try.prog 56 (plainElem Try.prog 4) g r n D (fun z => left z && !z.sameKey (keyP p q)) cnt' → cnt' < cnt →
      w.grownBy w' (some r) → w'.heap.size = w.heap.size → (Instr.entry (.pointer (some ⟨r, 0, none⟩))).run Try.prog w' = .ok (.tuple #[agPk p q, .bool true]) w' → wpList Try.prog ops Q rest (a.put o.dst (.tuple #[.bool true, agPk p q, .bool true])) w') :
    wpList Try.prog ops Q (o :: rest) a w :=
  wpList_next_ranges w hg it hop 56 mapLawP (plainElem Try.prog 4) (fun x : Pr => agPk x.1 x.2) Value.bool (fun key kl hk => by obtain ⟨x, y, h1, _⟩ := keyOfP_inv hk; exact ⟨(x, y), h1⟩) (fun v y hv => by obtain ⟨x, h1, _⟩ := boolP_inv hv; exact ⟨x, h1⟩) g r n D left cnt hit h hDone
    (fun x bv kl y w' cnt' hkl hl hR hat hrg hlt hg1 hs1 hen => by
      obtain ⟨p, q, e, rfl, hp, hq⟩ := keyOfP_inv hkl
      have e1 : x = (p, q) := by
        simp only [agPk, Value.agg.injEq, Array.mk.injEq, List.cons.injEq, Value.string.injEq, and_true] at e
        exact Prod.ext e.1 e.2
      subst e1
      have hh := has_true_of_atKey hat
      have h2 := hT _ (.lit (.bool true)) hh
      rw [hat] at h2
      obtain ⟨bv', e3, e4⟩ := boolP_inv hR
      cases e3
      rw [e4] at h2
      simp only [DataW.lit.injEq, Lit.bool.injEq] at h2
      subst h2
      exact hMore p q w' cnt' hp hq hl hh hrg hlt hg1 hs1 hen)
abbrev ptr (a : Nat) : Value := .pointer (some ⟨a, 0, none⟩)
theorem IdxAt.cellsA {w : World} {own : Whose} {a b : Nat} {c : Bool → Nat} {P : List Pr} {L : Bool → List Pr} {n : Nat} (h : IdxAt w own a b c P L n) :
    w.cell? ⟨a, 0, none⟩ = some (.map (some b)) ∧ w.cell? ⟨a, 1, none⟩ = some (.map (some (c false))) ∧ w.cell? ⟨a, 2, none⟩ = some (.map (some (c true))) ∧ a < w.heap.size :=
  ⟨by simp [World.cell?, h.box], by simp [World.cell?, h.box], by simp [World.cell?, h.box], (Array.getElem?_eq_some_iff.1 h.box).1⟩
def own0 (k : Nat) : Whose := fun i => if i = k then some none else if i = k + 1 then some (some (false, none)) else if i = k + 2 then some (some (true, none)) else none
theorem idx_new (w : World) : IdxAt ((((w.alloc (.map #[] 0)).alloc (.map #[] 0)).alloc (.map #[] 0)).alloc (.cells #[.map (some w.heap.size), .map (some (w.heap.size + 1)), .map (some (w.heap.size + 1 + 1))] 55)) (own0 w.heap.size)
    (w.heap.size + 1 + 1 + 1) w.heap.size (fun s => if s then w.heap.size + 1 + 1 else w.heap.size + 1) [] (fun _ => []) 0 := by
  have e1 : (w.alloc (.map #[] 0)).heap.size = w.heap.size + 1 := size_alloc _ _
  have e2 : ((w.alloc (.map #[] 0)).alloc (.map #[] 0)).heap.size = w.heap.size + 1 + 1 := by rw [size_alloc, e1]
  have e3 : (((w.alloc (.map #[] 0)).alloc (.map #[] 0)).alloc (.map #[] 0)).heap.size = w.heap.size + 1 + 1 + 1 := by rw [size_alloc, e2]
  have k0 := (BMap.new w).below (below_box (w := w.alloc (.map #[] 0)) (.map #[] 0)) |>.below (below_box (w := (w.alloc (.map #[] 0)).alloc (.map #[] 0)) (.map #[] 0)) |>.below (below_box (w := ((w.alloc (.map #[] 0)).alloc (.map #[] 0)).alloc (.map #[] 0)) (.cells #[.map (some w.heap.size), .map (some (w.heap.size + 1)), .map (some (w.heap.size + 1 + 1))] 55))
  have k1 := NMap.new (w.alloc (.map #[] 0)) |>.below (below_box (w := (w.alloc (.map #[] 0)).alloc (.map #[] 0)) (.map #[] 0)) |>.below (below_box (w := ((w.alloc (.map #[] 0)).alloc (.map #[] 0)).alloc (.map #[] 0)) (.cells #[.map (some w.heap.size), .map (some (w.heap.size + 1)), .map (some (w.heap.size + 1 + 1))] 55))
  have k2 := NMap.new ((w.alloc (.map #[] 0)).alloc (.map #[] 0)) |>.below (below_box (w := ((w.alloc (.map #[] 0)).alloc (.map #[] 0)).alloc (.map #[] 0)) (.cells #[.map (some w.heap.size), .map (some (w.heap.size + 1)), .map (some (w.heap.size + 1 + 1))] 55))
  rw [e1] at k1
  rw [e2] at k2
  have hb := heap_alloc_new (((w.alloc (.map #[] 0)).alloc (.map #[] 0)).alloc (.map #[] 0)) (.cells #[.map (some w.heap.size), .map (some (w.heap.size + 1)), .map (some (w.heap.size + 1 + 1))] 55)
  rw [e3] at hb
  refine ⟨hb, if_pos rfl, fun s => ?_, k0, fun s => ?_, fun i r e => ?_⟩
  · cases s
    · show own0 _ (w.heap.size + 1) = _
      unfold own0
      rw [if_neg (by omega), if_pos rfl]
    · show own0 _ (w.heap.size + 1 + 1) = _
      unfold own0
      rw [if_neg (by omega), if_neg (by omega), if_pos rfl]
  · cases s
    · exact ⟨fun _ => none, k1, fun name => ⟨fun _ x hx => (by cases hx), fun g e => (by cases e)⟩⟩
    · exact ⟨fun _ => none, k2, fun name => ⟨fun _ x hx => (by cases hx), fun g e => (by cases e)⟩⟩
  · unfold own0 at e
    by_cases h0 : i = w.heap.size
    · subst h0
      exact k0.isMap
    · rw [if_neg h0] at e
      by_cases h1 : i = w.heap.size + 1
      · subst h1
        exact k1.isMap
      · rw [if_neg h1] at e
        by_cases h2 : i = w.heap.size + 2
        · subst h2
          exact k2.isMap
        · rw [if_neg h2] at e
          cases e
set_option maxHeartbeats 4000000 in
set_option maxRecDepth 100000 in
theorem new_calls (w : World) : Calls Try.prog 11 #[] w fun e w' => ∃ a b c, e = .returned (ptr a) ∧ IdxAt w' (own0 w.heap.size) a b c [] (fun _ => []) 0 ∧ Below w.heap.size w w' := by
  have hmm := @run_makeMap Try.prog
  go_enter Try.func11, Try.ntmps11
  go_wp2
  refine bodyPost_ret (results_tmp rfl _ _ _) rfl ⟨w.heap.size + 1 + 1 + 1, w.heap.size, fun s => if s then w.heap.size + 1 + 1 else w.heap.size + 1, rfl, ?_, below_alloc0 (below_alloc0 (below_alloc0 (below_box _) _) _) _⟩
  exact idx_new w
set_option maxHeartbeats 4000000 in
set_option maxRecDepth 100000 in
theorem has_calls {w : World} {own : Whose} {a b : Nat} {c : Bool → Nat} {P : List Pr} {L : Bool → List Pr} {n : Nat} (h : IdxAt w own a b c P L n) (p q : ByteArray) (hp : p.size ≤ maxLen) (hq : q.size ≤ maxLen) :
    Calls Try.prog 14 #[ptr a, .string p, .string q] w fun e w' => e = .returned (.bool (inP P p q)) ∧ Below w.heap.size w w' := by
  have hl := h.prs.look p q hp hq
  obtain ⟨c0, c1, c2, hz⟩ := h.cellsA
  go_enter Try.func14, Try.ntmps14
  go_wp2
  go_ret
  exact ⟨rfl, Below.refl _ _⟩
set_option maxHeartbeats 4000000 in
set_option maxRecDepth 100000 in
theorem len_calls {w : World} {own : Whose} {a b : Nat} {c : Bool → Nat} {P : List Pr} {L : Bool → List Pr} {n : Nat} (h : IdxAt w own a b c P L n) :
    Calls Try.prog 18 #[ptr a] w fun e w' => e = .returned (.int .i64 P.length) ∧ Below w.heap.size w w' := by
  have hl := h.prs.lenRun 3
  obtain ⟨c0, c1, c2, hz⟩ := h.cellsA
  go_enter Try.func18, Try.ntmps18
  go_wp2_with (at_len; refine wpList_len_run _ rfl _ _ rfl _ rfl (h.prs.lenRun _) ?_)
  go_ret
  exact ⟨rfl, Below.refl _ _⟩
set_option maxHeartbeats 16000000 in
set_option maxRecDepth 100000 in
theorem turn_calls {w : World} {own : Whose} {a b : Nat} {c : Bool → Nat} {P : List Pr} {n : Nat} (h : IdxAt w own a b c P (fun _ => P) n) (p q : ByteArray) (on : Bool) (hp : p.size ≤ maxLen) (hq : q.size ≤ maxLen) (hn : n + 5 < 1000000) (hnd : P.Nodup) (ho : on = true → inP P p q = false) :
    Calls Try.prog 29 #[ptr a, agPk p q, .bool on] w fun e w' => e = .returned (.tuple #[]) ∧ ∃ own', IdxAt w' own' a b c (tuP P p q on) (fun _ => tuP P p q on) (n + 5) ∧ OwnUp own own' w ∧ Turned own w w' := by
  have hB := below_box (w := w) (.cells #[.string p, .string q] 56)
  have hI0 := h.below hB
  have hp0 := heap_alloc_new w (.cells #[.string p, .string q] 56)
  have hT0 : Turned own w (w.alloc (.cells #[.string p, .string q] 56)) := Turned.of_below hB
  have hU0 : OwnUp own own w := OwnUp.refl own w
  have hmm := @run_makeMap Try.prog
  go_enter Try.func29, Try.ntmps29
  go_wp2_with fail
  go_loopw [12] (fun v12 wr => ∃ i : Nat, v12 = .int .i64 i ∧ i ≤ 2 ∧ wr.heap[w.heap.size]? = some (.cells #[.string p, .string q] 56) ∧ ∃ own', IdxAt wr own' a b c P (fun t => if (if t then 1 else 0) < i then tuP P p q on else P) (n + 2 * i) ∧ OwnUp own own' w ∧ Turned own w wr) (fun v12 _ => (2 - intOf v12).toNat)
  case atStart => exact ⟨0, rfl, by omega, hp0, own, hI0.cong (fun s => by simp), hU0, hT0⟩
  case round =>
    obtain ⟨i, rfl, hi, hpx, own', hI, hU, hT⟩ := hrel
    have hb0 : wr.cell? ⟨w.heap.size, 0, none⟩ = some (.string p) := by simp [World.cell?, hpx]
    have hb1 : wr.cell? ⟨w.heap.size, 1, none⟩ = some (.string q) := by simp [World.cell?, hpx]
    obtain ⟨ca, cb, cc, hz⟩ := hI.cellsA
    have hcase : i = 0 ∨ i = 1 ∨ i = 2 := by omega
    have hdr : Below wr.heap.size wr wr.drew := (Below.refl _ _).drew
    have hTd := hT.below hdr
    have hpd : wr.drew.heap[w.heap.size]? = some (.cells #[.string p, .string q] 56) := hpx
    have hd0 : wr.drew.cell? ⟨w.heap.size, 0, none⟩ = some (.string p) := hb0
    have hd1 : wr.drew.cell? ⟨w.heap.size, 1, none⟩ = some (.string q) := hb1
    have hEq := eqMapN
    rcases hcase with rfl | rfl | rfl
    · have hI1 := (hI.cong (L' := fun _ => P) (fun s => by cases s <;> simp)).below hdr
      rcases hI1.look false p hp (by omega) with ⟨g, hlk, hog, m, hBM⟩ | ⟨hlk0, hno, w2, own2, hr2, hI2, hU2, hT2, hlk, hog, hs2⟩
      · cases on
        · obtain ⟨w3, hr3, hI3, hT3, hs3⟩ := hI1.del false p q hp hq hlk hog hBM 0
          go_wp2_with fail
          go_region
          go_wp2_with (at_delete; refine wpList_delete_run _ rfl _ _ _ _ rfl _ _ rfl rfl hr3 ?_)
          exact ⟨⟨1, by go_num, by omega, hT3.cells hI1.owned hpd, _, (hI3.cong (fun t => by cases t <;> simp)).mono (by omega), hU, hTd.trans hU hT3⟩, by simp [intOf]⟩
        · obtain ⟨w3, hr3, hI3, hT3, hs3⟩ := hI1.put false p q hp hq hlk hog hBM (by omega)
          go_wp2_with fail
          go_region
          go_wp2
          exact ⟨⟨1, by go_num, by omega, hT3.cells hI1.owned hpd, _, (hI3.cong (fun t => by cases t <;> simp)).mono (by omega), hU, hTd.trans hU hT3⟩, by simp [intOf]⟩
      · have hpd2 := hT2.cells hI1.owned hpd
        have hd2 : w2.cell? ⟨w.heap.size, 0, none⟩ = some (.string p) := by simp [World.cell?, hpd2]
        have hd3 : w2.cell? ⟨w.heap.size, 1, none⟩ = some (.string q) := by simp [World.cell?, hpd2]
        have hU3 := hU.trans hTd.low.size hU2
        have hT4 := hTd.trans hU hT2
        replace hr2 : (Instr.mapUpdate 52 (.map (some (c false))) (.string p) (.map (some wr.heap.size))).run Try.prog (wr.alloc (.map #[] 0)).drew = .ok () w2 := hr2
        replace hlk : (Instr.lookup 52 (.map (some (c false))) (.string p) false).run Try.prog w2 = .ok (.map (some wr.heap.size)) w2 := hlk
        obtain ⟨hog, m, hBM⟩ := hI2.at_ false p hp (by omega) hlk
        cases on
        · obtain ⟨w3, hr3, hI3, hT3, hs3⟩ := hI2.del false p q hp hq hlk hog hBM 0
          go_wp2_with fail
          go_region
          go_wp2_with (at_delete; refine wpList_delete_run _ rfl _ _ _ _ rfl _ _ rfl rfl hr3 ?_)
          exact ⟨⟨1, by go_num, by omega, hT3.cells hI2.owned hpd2, _, (hI3.cong (fun t => by cases t <;> simp)).mono (by omega), hU3, hT4.trans hU3 hT3⟩, by simp [intOf]⟩
        · obtain ⟨w3, hr3, hI3, hT3, hs3⟩ := hI2.put false p q hp hq hlk hog hBM (by omega)
          go_wp2_with fail
          go_region
          go_wp2
          exact ⟨⟨1, by go_num, by omega, hT3.cells hI2.owned hpd2, _, (hI3.cong (fun t => by cases t <;> simp)).mono (by omega), hU3, hT4.trans hU3 hT3⟩, by simp [intOf]⟩
    · have hI1 := (hI.cong (L' := fun t => if t = false then tuP P p q on else P) (fun s => by cases s <;> simp)).below hdr
      rcases hI1.look true q hq (by omega) with ⟨g, hlk, hog, m, hBM⟩ | ⟨hlk0, hno, w2, own2, hr2, hI2, hU2, hT2, hlk, hog, hs2⟩
      · cases on
        · obtain ⟨w3, hr3, hI3, hT3, hs3⟩ := hI1.del true p q hp hq hlk hog hBM 0
          go_wp2_with fail
          go_region
          go_wp2_with (at_delete; refine wpList_delete_run _ rfl _ _ _ _ rfl _ _ rfl rfl hr3 ?_)
          exact ⟨⟨2, by go_num, by omega, hT3.cells hI1.owned hpd, _, (hI3.cong (fun t => by cases t <;> simp)).mono (by omega), hU, hTd.trans hU hT3⟩, by simp [intOf]⟩
        · obtain ⟨w3, hr3, hI3, hT3, hs3⟩ := hI1.put true p q hp hq hlk hog hBM (by omega)
          go_wp2_with fail
          go_region
          go_wp2
          exact ⟨⟨2, by go_num, by omega, hT3.cells hI1.owned hpd, _, (hI3.cong (fun t => by cases t <;> simp)).mono (by omega), hU, hTd.trans hU hT3⟩, by simp [intOf]⟩
      · have hpd2 := hT2.cells hI1.owned hpd
        have hd2 : w2.cell? ⟨w.heap.size, 0, none⟩ = some (.string p) := by simp [World.cell?, hpd2]
        have hd3 : w2.cell? ⟨w.heap.size, 1, none⟩ = some (.string q) := by simp [World.cell?, hpd2]
        have hU3 := hU.trans hTd.low.size hU2
        have hT4 := hTd.trans hU hT2
        replace hr2 : (Instr.mapUpdate 52 (.map (some (c true))) (.string q) (.map (some wr.heap.size))).run Try.prog (wr.alloc (.map #[] 0)).drew = .ok () w2 := hr2
        replace hlk : (Instr.lookup 52 (.map (some (c true))) (.string q) false).run Try.prog w2 = .ok (.map (some wr.heap.size)) w2 := hlk
        obtain ⟨hog, m, hBM⟩ := hI2.at_ true q hq (by omega) hlk
        cases on
        · obtain ⟨w3, hr3, hI3, hT3, hs3⟩ := hI2.del true p q hp hq hlk hog hBM 0
          go_wp2_with fail
          go_region
          go_wp2_with (at_delete; refine wpList_delete_run _ rfl _ _ _ _ rfl _ _ rfl rfl hr3 ?_)
          exact ⟨⟨2, by go_num, by omega, hT3.cells hI2.owned hpd2, _, (hI3.cong (fun t => by cases t <;> simp)).mono (by omega), hU3, hT4.trans hU3 hT3⟩, by simp [intOf]⟩
        · obtain ⟨w3, hr3, hI3, hT3, hs3⟩ := hI2.put true p q hp hq hlk hog hBM (by omega)
          go_wp2_with fail
          go_region
          go_wp2
          exact ⟨⟨2, by go_num, by omega, hT3.cells hI2.owned hpd2, _, (hI3.cong (fun t => by cases t <;> simp)).mono (by omega), hU3, hT4.trans hU3 hT3⟩, by simp [intOf]⟩
    · have hI1 := (hI.cong (L' := fun _ => tuP P p q on) (fun s => by cases s <;> simp)).below hdr
      cases on
      · obtain ⟨w3, hr3, hI3, hT3⟩ := hI1.delAll p q hp hq hnd 0
        go_wp2_with fail
        go_region
        go_end0
        exact ⟨rfl, own', hI3.mono (by omega), hU, hTd.trans hU hT3⟩
      · obtain ⟨w3, hr3, hI3, hT3⟩ := hI1.putAll p q hp hq (by omega) hnd (ho rfl)
        go_wp2_with fail
        go_region
        go_end0
        exact ⟨rfl, own', hI3.mono (by omega), hU, hTd.trans hU hT3⟩
end Go.Proofs.Ytocdoddmaopdbaa
namespace Go.Proofs.Ytocdoddmaopdbaa
open Go.RowKit Sp Go.Lib
section
variable {α : Type} [Inhabited α] [DecidableEq α]
theorem compact_spec (lt : α → α → Bool) (htr : ∀ a b c, lt a b = true → lt b c = true → lt a c = true) (hir : ∀ a, lt a a = false) (htot : ∀ a b, a ≠ b → lt a b = true ∨ lt b a = true)
    (d : Array α) (hs : ∀ i j, i < j → j < d.size → lt d[j]! d[i]! = false) : ∀ m, m ≤ d.size → (compactUpTo d m).Pairwise (fun a b => lt a b = true) ∧ ∀ x, x ∈ compactUpTo d m ↔ ∃ j, j < m ∧ d[j]! = x
  | 0, _ => ⟨List.Pairwise.nil, fun x => by simp [compactUpTo]⟩
  | m + 1, hm => by
    obtain ⟨h1, h2⟩ := compact_spec lt htr hir htot d hs m (by omega)
    have hle : ∀ j, j < m → lt d[m]! d[j]! = false := fun j hj => hs j m hj (by omega)
    rw [compactUpTo_succ]
    by_cases hk : keeps d m = true
    · rw [if_pos hk]
      have hlt : ∀ x ∈ compactUpTo d m, lt x d[m]! = true := by
        intro x hx
        obtain ⟨j, hj, rfl⟩ := (h2 x).1 hx
        have hne : d[j]! ≠ d[m]! := by
          intro e
          simp only [keeps, decide_eq_true_eq] at hk
          rcases hk with hk | hk
          · omega
          · apply hk
            by_cases e1 : d[m]! = d[m - 1]!
            · exact e1
            · exfalso
              have hj1 : j ≠ m - 1 := fun e2 => e1 (by rw [← e, e2])
              have a1 := hs j (m - 1) (by omega) (by omega)
              have a2 := hle (m - 1) (by omega)
              rw [e] at a1
              rcases htot _ _ e1 with h | h
              · rw [h] at a2; cases a2
              · rw [h] at a1; cases a1
        rcases htot _ _ hne with h | h
        · exact h
        · rw [hle j hj] at h; cases h
      refine ⟨List.pairwise_append.2 ⟨h1, List.pairwise_singleton _ _, fun a ha b hb => by rw [List.mem_singleton.1 hb]; exact hlt a ha⟩, fun x => ?_⟩
      rw [List.mem_append, h2, List.mem_singleton]
      constructor
      · rintro (⟨j, hj, rfl⟩ | rfl)
        · exact ⟨j, by omega, rfl⟩
        · exact ⟨m, by omega, rfl⟩
      · rintro ⟨j, hj, rfl⟩
        rcases Nat.lt_or_ge j m with h | h
        · exact .inl ⟨j, h, rfl⟩
        · obtain rfl : j = m := by omega
          exact .inr rfl
    · rw [if_neg hk, List.append_nil]
      refine ⟨h1, fun x => ?_⟩
      rw [h2]
      simp only [keeps, decide_eq_true_eq, not_or, Decidable.not_not] at hk
      constructor
      · rintro ⟨j, hj, rfl⟩
        exact ⟨j, by omega, rfl⟩
      · rintro ⟨j, hj, rfl⟩
        rcases Nat.lt_or_ge j m with h | h
        · exact ⟨j, h, rfl⟩
        · obtain rfl : j = m := by omega
          exact ⟨j - 1, by omega, hk.2.symm⟩
end
def cfL (x y : List UInt8) : Int := cmpS (strOf x) (strOf y)
theorem ltOf_cfL (x y : List UInt8) : Go.Proofs.ltOf cfL x y = less (strOf x) (strOf y) := cmpS_neg _ _
theorem swo_cfL : Go.Sort.SWO (Go.Proofs.ltOf cfL) where
  irrefl x := by rw [ltOf_cfL]; exact less_irrefl _
  trans x y z h1 h2 := by rw [ltOf_cfL] at *; exact less_trans _ _ _ h1 h2
  ntrans x y z h1 h2 := by
    rw [ltOf_cfL] at *
    rw [not_less_iff] at *
    rcases h1 with h1 | h1
    · rcases h2 with h2 | h2
      · exact .inl (h1.trans h2)
      · rw [h1]; exact .inr h2
    · rcases h2 with h2 | h2
      · rw [← h2]; exact .inr h1
      · exact .inr (less_trans _ _ _ h2 h1)
theorem tot_cfL (x y : List UInt8) (h : x ≠ y) : Go.Proofs.ltOf cfL x y = true ∨ Go.Proofs.ltOf cfL y x = true := by
  rw [ltOf_cfL, ltOf_cfL]
  exact less_total _ _ (fun e => h (strOf_inj.1 e))
theorem compact_merge (a b : List ByteArray) (d' : Array (List UInt8)) (hp : d'.toList.Perm ((a ++ b).map fun s => s.data.toList)) (hs : ∀ i j, i < j → j < d'.size → Go.Proofs.ltOf cfL d'[j]! d'[i]! = false) :
    (compact d'.toList).map strOf = mergeS a b := by
  have hc := compact_spec (Go.Proofs.ltOf cfL) swo_cfL.trans swo_cfL.irrefl tot_cfL d' hs d'.size (Nat.le_refl _)
  have he : compact d'.toList = compactUpTo d' d'.size := by unfold compact; simp
  rw [he]
  symm
  refine mergeS_eq a b _ ?_ fun x => ?_
  · rw [Sorted, List.pairwise_map]
    exact hc.1.imp fun {x y} h => by rw [ltOf_cfL] at h; exact h
  · rw [List.mem_map]
    have hm : ∀ l, l ∈ compactUpTo d' d'.size ↔ strOf l ∈ a ++ b := by
      intro l
      rw [hc.2]
      have h1 : (∃ j, j < d'.size ∧ d'[j]! = l) ↔ l ∈ d'.toList := by
        rw [List.mem_iff_getElem]
        constructor
        · rintro ⟨j, hj, rfl⟩
          exact ⟨j, by simpa using hj, by simp [hj]⟩
        · rintro ⟨j, hj, rfl⟩
          exact ⟨j, by simpa using hj, by simp [show j < d'.size by simpa using hj]⟩
      rw [h1, hp.mem_iff, List.mem_map]
      constructor
      · rintro ⟨s, hs, rfl⟩
        rw [strOf_toList]; exact hs
      · intro h
        exact ⟨_, h, strOf_list l⟩
    rw [← List.mem_append]
    constructor
    · rintro ⟨l, hl, rfl⟩
      exact (hm l).1 hl
    · intro h
      exact ⟨x.data.toList, (hm _).2 (by rw [strOf_toList]; exact h), strOf_toList x⟩
end Go.Proofs.Ytocdoddmaopdbaa
namespace Go.Proofs.Ytocdoddmaopdbaa
open Go.RowKit Sp Go.Lib
theorem info_str : (Try.prog.info? 9).map (fun i => (i.zero, i.size, i.bytes)) = some (some (.string ⟨#[]⟩), 1, 16) := by kernel_rfl
set_option maxRecDepth 100000 in
theorem growStr_calls (n : Nat) (w : World) (hn : n ≤ 1048576) :
    Calls Try.prog 72 #[.slice none 0 0, .int .i64 n] w fun e w' => ∃ v, e = .returned v ∧ Own enS 1 9 w' w.heap.size v [] ∧ Below w.heap.size w w' := by
  by_cases h0 : n = 0
  · subst h0
    go_enter Try.func72, Try.ntmps72
    go_wp2
    go_ret
    exact ⟨_, rfl, Own.nil _ _ _ _ _, Below.refl _ _⟩
  · have hp : 0 < n := by omega
    clear h0
    obtain ⟨i0, hi, hz0, hz1, hz2⟩ := info_parts info_str
    have hrun := fun ty => run_append_nil_zeros (P := Try.prog) w 38 3 ty 9 i0 (.string ⟨#[]⟩) .i64 .i64 Try.underlying38 Try.underlying3 hi hz0 n hp (by omega) (by omega) (by rw [hz2]; omega)
    have hg1 := grownCap_ge w n 0 9
    have hg2 := grownCap_le_maxLen w n 0 9 (by simp only [maxLen]; omega)
    have HR := Lib.hid hrun
    clear hrun
    go_enter Try.func72, Try.ntmps72
    go_wp2_with (at_builtin; refine wpList_append_run w rfl (.tmp 20) (.tmp 21) 38 3 rfl (.slice none 0 0) (.int .i64 n) rfl rfl _ _ (HR.out _) ?_)
    go_ret
    refine ⟨_, rfl, ?_, (Below.refl _ _).drew.alloc (Nat.le_refl _) _⟩
    have h := World.ownsRow_made (base := w.heap.size) (e := 9) (size := 1) w.drew (Builtin.zeroCells (Value.string ⟨#[]⟩).cells n ++ Builtin.zeroCells (Value.string ⟨#[]⟩).cells (grownCap w n 0 9 - n)) (grownCap w n 0 9) (Nat.le_refl _) hg2 ?_
    · exact h
    · have hz : (Value.string ⟨#[]⟩).cells.size = 1 := rfl
      rw [Array.size_append, size_zeroCells, size_zeroCells, hz]
      omega
def twoTo (a b : List ByteArray) (k : Nat) : List ByteArray := if k = 0 then [] else if k = 1 then a else a ++ b
set_option maxHeartbeats 1000000 in
set_option maxRecDepth 100000 in
theorem concatStr_calls (g n1 c1 n2 c2 : Nat) (A1 A2 : Option Addr) (a b : List ByteArray) (w : World) (h0 : w.cell? ⟨g, 0, none⟩ = some (.slice A1 n1 c1)) (h1 : w.cell? ⟨g, 1, none⟩ = some (.slice A2 n2 c2))
    (ha : Row enS 1 w (.slice A1 n1 c1) a) (hb : Row enS 1 w (.slice A2 n2 c2) b) (hn1 : n1 ≤ 524288) (hn2 : n2 ≤ 524288) :
    Calls Try.prog 63 #[.slice (some ⟨g, 0, none⟩) 2 2] w fun e w' => ∃ v, e = .returned v ∧ Own enS 1 9 w' w.heap.size v (a ++ b) ∧ Below w.heap.size w w' := by
  have ea := ha.len_eq
  have eb := hb.len_eq
  have EA := Lib.hid ea
  have EB := Lib.hid eb
  clear ea eb
  have hgl : g < w.heap.size := World.block_lt_of_cell? w ⟨g, 0, none⟩ h0
  go_enter Try.func63, Try.ntmps63
  go_wp2
  go_loop [3, 11] (fun v3 v11 => ∃ k m : Nat, v11 = .int .i64 k ∧ k ≤ 2 ∧ v3 = .int .i64 m ∧ Hid (m = if k = 0 then 0 else if k = 1 then n1 else n1 + n2) ∧ m ≤ 1048576) (fun _ v11 => (2 - intOf v11).toNat)
  case atStart => exact ⟨0, 0, rfl, by omega, rfl, rfl, by omega⟩
  case round =>
    obtain ⟨k, m, rfl, hk, rfl, HM, hm⟩ := hrel
    obtain hk0 | hk1 | hk2 : k = 0 ∨ k = 1 ∨ k = 2 := by omega
    · subst hk0
      have hm0 : m ≤ 0 := by have := HM.out; simp at this; omega
      go_wp2
      go_round
      case rel => exact ⟨1, m + n1, by go_num, by omega, by go_num, by have := HM.out; simp at this; subst this; show _ = _; simp, by omega⟩
      case measure => simp [intOf]
    · subst hk1
      have hm1 : m ≤ 524288 := by have := HM.out; simp at this; omega
      go_wp2
      go_round
      case rel => exact ⟨2, m + n2, by go_num, by omega, by go_num, by have := HM.out; simp at this; subst this; show _ = _; simp, by omega⟩
      case measure => simp [intOf]
    · subst hk2
      go_wp2_with fail
      refine (growStr_calls m _ (by omega)).mono ?_
      rintro e w1 ⟨v, rfl, hO0, hB0⟩
      go_wp2
      go_loopw [6, 27] (fun v6 v27 wr => ∃ k : Nat, v27 = .int .i64 k ∧ k ≤ 2 ∧ Own enS 1 9 wr w.heap.size v6 (twoTo a b k) ∧ Below w.heap.size w wr) (fun _ v27 _ => (2 - intOf v27).toNat)
      case atStart => exact ⟨0, rfl, by omega, hO0, hB0⟩
      case round =>
        obtain ⟨k, rfl, hk, hO, hB⟩ := hrel
        have h0' := cell_below hB h0
        have h1' := cell_below hB h1
        obtain hk0 | hk1 | hk2 : k = 0 ∨ k = 1 ∨ k = 2 := by omega
        · subst hk0
          go_wp2_with (at_builtin; refine Own.appendRow (w0 := w) w.heap.size rfl (.tmp 31) (.tmp 32) 38 9 (.string ⟨#[]⟩) 1 16 rfl Try.underlying38 info_str rfl (by decide) u6 (.slice A1 n1 c1) [] a rfl rfl enS_one hO (ha.below hB) hB hB.size (by have := EA.out; simp; omega) (by have := EA.out; simp; omega) ?_; intro v1 w2 hO1 hB1 _ _)
          go_roundw
          case rel => exact ⟨1, by go_num, by omega, hO1, hB1⟩
          case measure => simp [intOf]
        · subst hk1
          go_wp2_with (at_builtin; refine Own.appendRow (w0 := w) w.heap.size rfl (.tmp 31) (.tmp 32) 38 9 (.string ⟨#[]⟩) 1 16 rfl Try.underlying38 info_str rfl (by decide) u6 (.slice A2 n2 c2) a b rfl rfl enS_one hO (hb.below hB) hB hB.size (by have := EA.out; have := EB.out; omega) (by have := EA.out; have := EB.out; omega) ?_; intro v1 w2 hO1 hB1 _ _)
          go_roundw
          case rel => exact ⟨2, by go_num, by omega, hO1, hB1⟩
          case measure => simp [intOf]
        · subst hk2
          go_wp2
          go_ret
          exact ⟨_, rfl, hO, hB⟩
theorem sort_none (p : Option Addr) (cap : Nat) (fv : Value) (w : World) : Calls Try.prog 64 #[.slice p 0 cap, fv] w fun e w' => e = .returned (.tuple #[]) ∧ w' = w :=
  AnyF.slices_SortFunc_none (P := Try.prog) (ρ := Try.laysSlF6_f64_ren) { Try.laysSlF6_f64 with } p cap fv w
theorem cmpLays (blk off size : Nat) (w : World) : CmpLays1 Try.prog 65 #[] encStr cfL blk off size w := by
  intro m os dk _ x y
  refine (compare_exact (strOf x) (strOf y) _).mono ?_
  rintro e w' ⟨rfl, o, rfl⟩
  exact ⟨rfl, 0, #[o], (Go.Sort.alloc_eq_grow _ _)⟩
theorem sort_own (v : Value) (xs : List ByteArray) (base : Nat) (w : World) (hO : Own enS 1 9 w base v xs) (hn : 0 < xs.length) (hx : xs.length ≤ 1048576) :
    Calls Try.prog 64 #[v, .func (.func 65) #[] #[]] w fun e w' => e = .returned (.tuple #[]) ∧ ∃ (g cap : Nat) (zs : List (List UInt8)), v = .slice (some ⟨g, 0, none⟩) xs.length cap ∧ zs.length = xs.length ∧ xs.length ≤ cap ∧ base ≤ g ∧
      zs.Perm (xs.map fun s => s.data.toList) ∧ (∀ i j, i < j → j < zs.toArray.size → ltOf cfL zs.toArray[j]! zs.toArray[i]! = false) ∧ w'.ownsRow base 9 1 v xs.length (zs.map encStr) ∧ w.grownBy w' (some g) := by
  rcases hO.2 with ⟨_, h0⟩ | ⟨g, cap, cur, rfl, hbase, hb, h1, h2, h3, h4⟩
  · omega
  · have hmap : xs.flatMap enS = (xs.map fun s => s.data.toList).map encStr := by
      rw [List.map_map]
      clear h1 h2 h3 h4 hb hO hn hx
      induction xs with
      | nil => rfl
      | cons x xs ih =>
        rw [List.flatMap_cons, ih, List.map_cons]
        show Value.string x :: _ = Value.string ⟨x.data.toList.toArray⟩ :: _
        rw [ofList_toList]
        rfl
    have hH : Go.Sort.Holds encStr w g 0 (xs.map fun s => s.data.toList).toArray := holds_of_block hb (by rw [← hmap]; simpa using h4)
    have eg : ∀ args w, (callFunc 65 args).run Try.prog w = .ok (.enter 65 args) w := enters_of Try.func65 (by kernel_rfl) rfl
    have hS := Try.slices_SortFunc encStr (fun _ => rfl) cfL swo_cfL 65 #[] g 0 cap (xs.map fun s => s.data.toList).toArray w eg (cmpLays g 0 _ w) hH (Array.getElem?_eq_some_iff.1 hb).1 (by simp only [List.size_toArray, List.length_map]; omega)
    simp only [List.size_toArray, List.length_map] at hS
    refine hS.mono ?_
    rintro e w' ⟨rfl, d', n, os, ⟨hp1, _, hp3⟩, hs, rfl⟩
    simp only [List.size_toArray, List.length_map] at hp1 hs
    have hl : d'.toList.length = (xs.map fun s => s.data.toList).length := by simpa using hp1
    have hto : d'.toList.toArray = d' := by simp
    refine ⟨rfl, g, cap, d'.toList, rfl, by simpa using hp1, h1, hbase, ?_, ?_, ?_, ?_⟩
    · have e1 : d'.extract 0 (xs.length) = d' := by rw [← hp1]; simp
      have e2 : (xs.map fun s => s.data.toList).toArray.extract 0 xs.length = (xs.map fun s => s.data.toList).toArray := by
        have : xs.length = (xs.map fun s => s.data.toList).toArray.size := by simp
        rw [this, Array.extract_size]
      rw [e1, e2] at hp3
      simpa using hp3
    · rw [hto]
      intro i j hij hj
      exact hs i j (Nat.zero_le _) hij (by omega)
    · have := ownsRow_sorted (w := w) (base := base) (g := g) (cap := cap) (n := n) (os := os) (cur := cur) (e := 9) (ss := xs.map fun s => s.data.toList) (ts := d'.toList) hl hbase hb (by simpa using h1) h2 h3
      rw [hto, List.length_map] at this
      exact this
    · exact grownBy_sorted d'
theorem strings_flat (zs : List (List UInt8)) : zs.map encStr = (zs.map strOf).flatMap enS := by
  induction zs with
  | nil => rfl
  | cons z zs ih => rw [List.map_cons, List.map_cons, List.flatMap_cons, ih]; rfl
theorem compact_own (g cap n : Nat) (zs : List (List UInt8)) (base : Nat) (w : World) (hn : zs.length = n) (hO : w.ownsRow base 9 1 (.slice (some ⟨g, 0, none⟩) n cap) n (zs.map encStr)) :
    Calls Try.prog 66 #[.slice (some ⟨g, 0, none⟩) n cap] w fun e w' => ∃ v, e = .returned v ∧ Row enS 1 w' v ((compact zs).map strOf) ∧ w.grownBy w' (some g) := by
  subst hn
  rcases hO.2 with ⟨h0, _⟩ | ⟨g', cap', cur, hv, hbase, hb, h1, h2, h3, h4⟩
  · cases h0
  · cases hv
    have hH : Go.Sort.Holds encStr w g 0 zs.toArray := holds_of_block hb (by simpa using h4)
    have hcl := compact_length_le zs
    refine (Try.slices_Compact_string g 0 cap zs w hH (by simp only [maxLen] at h2; omega) h1).mono ?_
    rintro e w' ⟨rfl, q, rfl⟩
    refine ⟨_, rfl, ?_, ?_⟩
    · have hts : (compact zs ++ List.replicate (zs.length - (compact zs).length) []).length = zs.length := by
        rw [List.length_append, List.length_replicate]; omega
      have ho := ownsRow_sorted (w := w) (base := base) (g := g) (cap := cap) (n := q) (os := #[]) (cur := cur) (e := 9) (ss := zs) (ts := compact zs ++ List.replicate (zs.length - (compact zs).length) []) hts hbase hb h1 h2 h3
      rw [Go.Sort.grow_empty] at ho
      have hlen : ((compact zs).map strOf).length = (compact zs).length := List.length_map _
      refine ⟨_, cap, by rw [hlen], by rw [hlen]; omega, h2, flat_length enS_len _, fun _ => ⟨_, rfl, fun j u hu => ?_⟩⟩
      refine ho.cells (g := g) rfl j u ?_
      rw [← strings_flat] at hu
      rw [List.map_append]
      have hj : j < ((compact zs).map encStr).length := (List.getElem?_eq_some_iff.1 hu).1
      rw [List.getElem?_append_left hj]
      exact hu
    · have := grownBy_sorted (w := w) (g := g) (n := q) (os := #[]) (compact zs ++ List.replicate (zs.length - (compact zs).length) []).toArray
      rwa [Go.Sort.grow_empty] at this
set_option maxHeartbeats 1000000 in
set_option maxRecDepth 100000 in
theorem Merge_calls (n1 c1 n2 c2 : Nat) (A1 A2 : Option Addr) (a b : List ByteArray) (w : World)
    (ha : Row enS 1 w (.slice A1 n1 c1) a) (hb : Row enS 1 w (.slice A2 n2 c2) b) (hn1 : n1 ≤ 524288) (hn2 : n2 ≤ 524288) :
    Calls Try.prog 46 #[.slice A1 n1 c1, .slice A2 n2 c2] w fun e w' => ∃ v, e = .returned v ∧ Row enS 1 w' v (mergeS a b) ∧ Below w.heap.size w w' := by
  have EA := Lib.hid ha.len_eq
  have EB := Lib.hid hb.len_eq
  go_enter Try.func46, Try.ntmps46
  go_wp2_with fail
  have hb0 : Below w.heap.size w (w.alloc (.cells #[.slice A1 n1 c1, .slice A2 n2 c2] 38)) := (Below.refl _ _).alloc (Nat.le_refl _) _
  refine (concatStr_calls w.heap.size n1 c1 n2 c2 A1 A2 a b _ (by simp) (by simp) (ha.below hb0) (hb.below hb0) hn1 hn2).mono ?_
  rintro e w1 ⟨v, rfl, hO, hB⟩
  have hB1 := below_call hb0 hB
  by_cases h0 : (a ++ b).length = 0
  · have hnil : mergeS a b = [] := by
      have h1 : a ++ b = [] := List.eq_nil_of_length_eq_zero h0
      unfold mergeS
      rw [h1]
      rfl
    have HNIL := Lib.hid hnil
    have hrow := hO.row
    obtain ⟨A, c, rfl, _⟩ := hO.slice
    rw [h0] at hrow ⊢
    have HN := Lib.hid h0
    clear h0 hnil
    go_wp2_with fail
    refine (sort_none A c _ _).mono ?_
    rintro e w2 ⟨rfl, rfl⟩
    go_wp2_with fail
    refine (Try.slices_Compact_string_empty A c _).mono ?_
    rintro e w2 ⟨rfl, rfl⟩
    go_wp2
    go_ret
    refine ⟨_, rfl, ?_, hB1⟩
    rw [HNIL.out]
    obtain ⟨A', c', he, _, h2, _⟩ := hrow
    injection he with e1 e2 e3
    subst e3
    exact ⟨A, c, rfl, Nat.zero_le _, h2, rfl, fun h => absurd h (by simp)⟩
  · go_wp2_with fail
    refine (sort_own v (a ++ b) _ _ hO (by omega) (by have := EA.out; have := EB.out; rw [List.length_append]; omega)).mono ?_
    rintro e w2 ⟨rfl, g, cap, zs, rfl, hz, hcap, hbase, hp, hs, hO2, hg⟩
    have hm := compact_merge a b zs.toArray (by simpa using hp) hs
    simp only at hm
    have HM := Lib.hid hm
    have HZ := Lib.hid hz
    clear hm hz hp hs
    go_wp2_with fail
    refine (compact_own g cap _ zs _ _ (by rw [HZ.out, List.length_append]) (by have h := hO2; rw [List.length_append] at h; exact h)).mono ?_
    rintro e w3 ⟨v3, rfl, hr, hg3⟩
    go_wp2
    go_ret
    refine ⟨_, rfl, ?_, ?_⟩
    · rw [HM.out] at hr
      exact hr
    · have h1 : w.heap.size + 1 ≤ g := by simpa using hbase
      have hsz := hB.size
      have e1 : Below w.heap.size w w2 := hB1.grown hg hB1.size (fun k hk => by injection hk with hk; omega)
      exact e1.grown hg3 e1.size (fun k hk => by injection hk with hk; omega)
end Go.Proofs.Ytocdoddmaopdbaa
namespace Go.Proofs.Ytocdoddmaopdbaa
open Go.RowKit Sp
def LessTo (l : List ByteArray) (s : ByteArray) (i : Nat) : Prop := ∀ j (h : j < l.length), j < i → less l[j] s = true
theorem LessTo.succ {l : List ByteArray} {s : ByteArray} {i : Nat} (h : LessTo l s i) (hi : ∀ h : i < l.length, less l[i] s = true) : LessTo l s (i + 1) := fun j hj hj1 => by
  rcases Nat.lt_or_ge j i with h' | h'
  · exact h j hj h'
  · obtain rfl : j = i := by omega
    exact hi hj
end Go.Proofs.Ytocdoddmaopdbaa
namespace Go.Proofs.Ytocdoddmaopdbaa
open Go.RowKit Sp
theorem take_eq_succ (a b : List ByteArray) (i : Nat) (ha : i < a.length) (hb : i < b.length) (h : a.take i = b.take i) (he : a[i] = b[i]) : a.take (i + 1) = b.take (i + 1) := by
  rw [List.take_succ_eq_append_getElem ha, List.take_succ_eq_append_getElem hb, h, he]
set_option maxHeartbeats 1000000 in
set_option maxRecDepth 100000 in
theorem refSame_calls (n c m d : Nat) (A B : Option Addr) (a b : List ByteArray) (w : World) (ha : Row enS 1 w (.slice A n c) a) (hb : Row enS 1 w (.slice B m d) b) :
    Calls Try.prog 19 #[.slice A n c, .slice B m d] w fun e w' => e = .returned (.bool (decide (a = b))) ∧ Below w.heap.size w w' := by
  have hn := ha.len
  have ea := ha.len_eq
  have eb := hb.len_eq
  have hn2 : n ≤ 9223372036854775807 := by omega
  have EA := Lib.hid ea
  have EB := Lib.hid eb
  clear ea eb hn
  by_cases hm : n = m
  · subst hm
    go_enter Try.func19, Try.ntmps19
    go_wp2
    go_loopw [5] (fun v5 wr => ∃ i q : Nat, v5 = .int .i64 i ∧ i ≤ n ∧ wr = w.drewN q ∧ Hid (a.take i = b.take i)) (fun v5 _ => (n - intOf v5).toNat)
    case atStart => exact ⟨0, 0, rfl, Nat.zero_le _, rfl, by show _ = _; simp⟩
    case round =>
      obtain ⟨i, q, rfl, hi, rfl, HT⟩ := hrel
      by_cases hlt : i < n
      · have hka : i < a.length := by have := EA.out; omega
        have hkb : i < b.length := by have := EB.out; omega
        obtain ⟨ad, rfl, hca⟩ := ha.get1 (f := Value.string) i hka
        obtain ⟨bd, rfl, hcb⟩ := hb.get1 (f := Value.string) i hkb
        by_cases hx : a[i] = b[i]
        · have HT2 : Hid (a.take (i + 1) = b.take (i + 1)) := take_eq_succ a b i hka hkb HT.out hx
          rw [← hx] at hcb
          have hne : (!(a[i].toList == a[i].toList)) = false := by simp
          clear hx
          go_wp2
          go_quiet (fail)
          go_wp2
          exact ⟨⟨i + 1, _, by go_num, by omega, rfl, HT2⟩, by simp [intOf]; omega⟩
        · have HV : Hid (decide (a = b) = false) := by
            refine decide_eq_false fun e => hx ?_
            subst e
            rfl
          have hne : (!(a[i].toList == b[i].toList)) = true := by
            simp only [Bool.not_eq_true', beq_eq_false_iff_ne]
            exact fun e => hx (toList_inj'.1 e)
          clear hx
          go_wp2
          go_quiet (fail)
          go_wp2
          go_ret
          exact ⟨ret_bool HV.out.symm, by repeat (first | exact Below.refl _ _ | apply below_drewN)⟩
      · have HV : Hid (decide (a = b) = true) := by
          refine decide_eq_true ?_
          have := HT.out
          rw [List.take_of_length_le (by have := EA.out; omega), List.take_of_length_le (by have := EB.out; omega)] at this
          exact this
        go_wp2
        go_ret
        exact ⟨ret_bool HV.out.symm, by repeat (first | exact Below.refl _ _ | apply below_drewN)⟩
  · have HV : Hid (decide (a = b) = false) := by
      refine decide_eq_false fun e => hm ?_
      have h1 := EA.out
      have h2 := EB.out
      rw [e] at h1
      omega
    have hb1 : ((n : Int) != m) = true := by simp; omega
    have hb2 : (n != m) = true := by simp; omega
    have hb3 : (!(n == m)) = true := by simp; omega
    clear hm
    go_enter Try.func19, Try.ntmps19
    go_wp2
    go_ret
    exact ⟨ret_bool HV.out.symm, Below.refl _ _⟩
end Go.Proofs.Ytocdoddmaopdbaa
namespace Go.Proofs.Ytocdoddmaopdbaa
open Go.RowKit Go.Maps
open Sp
def enPr (x : Pr) : List Value := [.string x.1, .string x.2]
theorem enPr_len (x : Pr) : (enPr x).length = 2 := rfl
theorem rowPr {W : World} {A : Option Addr} {n c : Nat} {l : List Pr} (h : Row enPr 2 W (.slice A n c) l) (i : Nat) (hi : i < l.length) (x y : ByteArray) (he : l[i] = (x, y)) :
    ∃ ad, A = some ad ∧ W.cell? (ad.add (i * 2)) = some (.string x) ∧ W.cell? ⟨(ad.add (i * 2)).block, (ad.add (i * 2)).off + 1, none⟩ = some (.string y) := by
  obtain ⟨ad, e, hc⟩ := h.get enPr_len i hi
  rw [he] at hc
  exact ⟨ad, e, hc 0 (by omega), hc 1 (by omega)⟩
def RefAt (w : World) (k : Nat) (v : Value) (L : List Pr) : Prop := w.heap[k]? = some (.cells #[v] 30) ∧ Own enPr 2 44 w (k + 1) v L
theorem RefAt.below {w w1 : World} {k : Nat} {v : Value} {L : List Pr} (h : RefAt w k v L) (b : Below w.heap.size w w1) : RefAt w1 k v L := ⟨hcall h.1 b, h.2.below b⟩
theorem RefAt.cell {w : World} {k : Nat} {v : Value} {L : List Pr} (h : RefAt w k v L) : w.cell? ⟨k, 0, none⟩ = some v ∧ w.frozen? ⟨k, 0, none⟩ = false ∧ k < w.heap.size :=
  ⟨by simp [World.cell?, h.1], by simp [World.frozen?, h.1], (Array.getElem?_eq_some_iff.1 h.1).1⟩
structure RTurn (k : Nat) (w w' : World) : Prop where
  low : Below k w w'
  same : ∀ i, i < w.heap.size → i ≠ k → (∀ cs fr, w.heap[i]? ≠ some (.cells cs 44 fr)) → w'.heap[i]? = w.heap[i]?
theorem RTurn.refl (k : Nat) (w : World) : RTurn k w w := ⟨Below.refl _ _, fun _ _ _ _ => rfl⟩
theorem RTurn.of_below {k : Nat} {w w1 : World} (b : Below w.heap.size w w1) (hk : k ≤ w.heap.size) : RTurn k w w1 := ⟨b.mono hk, fun i hi _ _ => b.block i hi⟩
theorem RTurn.trans {k : Nat} {w w1 w2 : World} (h : RTurn k w w1) (hs : w.heap.size ≤ w1.heap.size) (hk : k ≤ w.heap.size) (h' : RTurn k w1 w2) : RTurn k w w2 :=
  ⟨h.low.trans h'.low, fun i hi hik hc => by
    have e := h.same i hi hik hc
    rw [h'.same i (Nat.lt_of_lt_of_le hi hs) hik (fun cs fr => by rw [e]; exact hc cs fr), e]⟩
end Go.Proofs.Ytocdoddmaopdbaa
namespace Go.Proofs.Ytocdoddmaopdbaa
open Go.RowKit Go.ChangeShapes Go.WideShapes
open Sp
def OkPr (x : Pr) : Prop := x.1.size ≤ maxLen ∧ x.2.size ≤ maxLen
section
variable {H : Type} {enc : TypeId × Value → H} {w : World} {base : Nat} {spare : Nat → Bool} {held : Bool}
set_option maxRecDepth 100000 in
theorem cePr {n : Nat} {cs : List Value} {y : DataW H × List MemPlace} (h : DataW.trod enc Try.prog w base spare held n 44 cs = some y) : ∃ e : Pr, cs = enPr e ∧ OkPr e := by
  have ck : Try.prog.cellsOf 44 = 2 := by kernel_rfl
  have c1_ : Try.prog.cellsOf 9 = 1 := by kernel_rfl
  obtain ⟨ys, m, _, _, hl0, hlen, hg⟩ := DataW.trod_array Try.underlying44 h
  rw [ck] at hl0
  obtain ⟨a0, a1, rfl⟩ : ∃ a0 a1, cs = [a0, a1] := by
    match cs, hl0 with
    | [a0, a1], _ => exact ⟨_, _, rfl⟩
  have h0 := hg 0 (by omega)
  have h1 := hg 1 (by omega)
  obtain ⟨y0, y1, rfl⟩ : ∃ y0 y1, ys = [y0, y1] := by
    match ys, hlen with
    | [y0, y1], _ => exact ⟨_, _, rfl⟩
  simp [c1_] at h0 h1
  obtain ⟨z0, e0, _, g0⟩ := DataW.trod_string Try.underlying9 h0
  obtain ⟨z1, e1, _, g1⟩ := DataW.trod_string Try.underlying9 h1
  simp at e0 e1
  subst e0 e1
  exact ⟨(z0, z1), rfl, g0, g1⟩
theorem rwPr {t : TypeId} {a : Option Addr} {n c : Nat} {d : DataW H} {p : List MemPlace} (ht : Try.prog.underlying t = some (.slice 44))
    (h : DataW.Trod enc Try.prog w 0 (fun _ => true) true t (.slice a n c) d p) : ∃ l, Row enPr 2 w (.slice a n c) l ∧ ∀ e ∈ l, OkPr e := by
  obtain ⟨fuel, hf⟩ := h
  rcases Go.Deep.open_slice ht hf with ⟨hcs, _⟩ | ⟨ad, len, cap, m, k, D, Pl, hcs, _, hl, hm, hmm, _, hi⟩
  · simp [Value.cells] at hcs
    obtain ⟨rfl, rfl, rfl⟩ := hcs
    exact ⟨[], Row.nil _ _ _, by simp⟩
  · simp [Value.cells] at hcs
    obtain ⟨rfl, rfl, rfl⟩ := hcs
    have ck : Try.prog.cellsOf 44 = 2 := by kernel_rfl
    rw [ck] at hi
    have hn : n ≤ m := by rw [hmm, if_pos rfl]; exact hl
    have hev : ∀ i, i < n → ∃ e : Pr, OkPr e ∧ ∀ j u, (enPr e)[j]? = some u → w.cell? (ad.add (i * 2 + j)) = some u := by
      intro i hi'
      obtain ⟨cs', hc, ht'⟩ := hi i (by omega)
      obtain ⟨e, rfl, he⟩ := cePr ht'
      obtain ⟨_, _, hat⟩ := World.cells?_some hc
      refine ⟨e, he, fun j u hj => ?_⟩
      have hj8 : j < 2 := (List.getElem?_eq_some_iff.1 hj).1
      have := hat j hj8
      rw [hj] at this
      rw [← this, Go.Deep.add_add]
    have hex : ∃ l : List Pr, l.length = n ∧ ∀ i (h : i < l.length), OkPr l[i] ∧ ∀ j u, (enPr l[i])[j]? = some u → w.cell? (ad.add (i * 2 + j)) = some u := by
      refine ⟨List.ofFn (fun i : Fin n => (hev i.1 i.2).choose), by simp, fun i h => ?_⟩
      have hin : i < n := by simpa using h
      have hc := (hev i hin).choose_spec
      simp only [List.getElem_ofFn]
      exact hc
    obtain ⟨l, hln, hle⟩ := hex
    refine ⟨l, ⟨some ad, c, by rw [hln], by omega, hm, by rw [flat_length enPr_len, hln], fun hp => ⟨ad, rfl, fun j u hu => ?_⟩⟩, fun e he => ?_⟩
    · have hj : j < l.length * 2 := by rw [← flat_length enPr_len]; exact (List.getElem?_eq_some_iff.1 hu).1
      have hi8 : j / 2 < l.length := by omega
      have := (hle (j / 2) hi8).2 (j % 2) u
      rw [show j / 2 * 2 + j % 2 = j by omega] at this
      refine this ?_
      have hfg := flat_get enPr_len l (j / 2) (j % 2) hi8 (by omega)
      rw [show j / 2 * 2 + j % 2 = j by omega] at hfg
      rw [← hfg, hu]
    · obtain ⟨i, hi', rfl⟩ := List.getElem_of_mem he
      exact (hle i hi').1
end
end Go.Proofs.Ytocdoddmaopdbaa
namespace Go.Proofs.Ytocdoddmaopdbaa
open Go.RowKit Go.Maps
open Sp
set_option maxHeartbeats 8000000 in
set_option maxRecDepth 100000 in
theorem set_calls {w : World} {own : Whose} {a b : Nat} {c : Bool → Nat} {P : List Pr} {n : Nat} (h : IdxAt w own a b c P (fun _ => P) n) (p q : ByteArray) (on : Bool) (hp : p.size ≤ maxLen) (hq : q.size ≤ maxLen) (hn : n + 5 < 1000000) (hnd : P.Nodup) :
    Calls Try.prog 12 #[ptr a, .string p, .string q, .bool on] w fun e w' => e = .returned (.bool (setP P p q on).2) ∧ ∃ own', IdxAt w' own' a b c (setP P p q on).1 (fun _ => (setP P p q on).1) (n + 5) ∧ OwnUp own own' w ∧ Turned own w w' := by
  have hl := h.prs.look p q hp hq
  obtain ⟨c0, c1, c2, hz⟩ := h.cellsA
  obtain ⟨x, hx⟩ : ∃ x, inP P p q = x := ⟨_, rfl⟩
  rw [hx] at hl
  unfold setP
  rw [hx]
  by_cases e : x = on
  · subst e
    rw [if_pos rfl]
    clear hx
    go_enter Try.func12, Try.ntmps12
    cases x
    · go_wp2
      go_ret
      exact ⟨rfl, own, h.mono (by omega), OwnUp.refl _ _, Turned.refl _ _⟩
    · go_wp2
      go_ret
      exact ⟨rfl, own, h.mono (by omega), OwnUp.refl _ _, Turned.refl _ _⟩
  · rw [if_neg e]
    have ht := turn_calls h p q on hp hq hn hnd (fun e2 => by cases on; cases e2; cases x; exact hx; exact absurd rfl e)
    clear hx
    go_enter Try.func12, Try.ntmps12
    cases x <;> cases on
    · exact absurd rfl e
    · go_wp2_with fail
      with_reducible refine ht.mono ?_
      rintro e w1 ⟨rfl, own', h1, h2, h3⟩
      go_wp2
      go_ret
      exact ⟨rfl, own', h1, h2, h3⟩
    · go_wp2_with fail
      with_reducible refine ht.mono ?_
      rintro e w1 ⟨rfl, own', h1, h2, h3⟩
      go_wp2
      go_ret
      exact ⟨rfl, own', h1, h2, h3⟩
    · exact absurd rfl e
def prO (s : Bool) (u x : ByteArray) : Pr := if s then (x, u) else (u, x)
theorem sd_eq {s : Bool} {x : Pr} {u : ByteArray} (h : sd s x = u) : x = prO s u (sd (!s) x) := by
  subst h
  cases s <;> rfl
theorem prO_sd (s : Bool) (u x : ByteArray) : sd s (prO s u x) = u ∧ sd (!s) (prO s u x) = x := by cases s <;> exact ⟨rfl, rfl⟩
theorem sideP_of {L : List Pr} {u : ByteArray} {s : Bool} {out : List ByteArray} (h : ∀ x, x ∈ out ↔ prO s u x ∈ L) : mergeS out [] = sideP L u s := by
  refine mergeS_eq _ _ _ (mergeS_sorted _ _) fun x => ?_
  rw [sideP, mergeS_mem]
  simp only [List.mem_map, List.mem_filter, decide_eq_true_eq, List.not_mem_nil, or_false]
  rw [h]
  constructor
  · rintro ⟨y, ⟨hy, e⟩, rfl⟩
    rw [← sd_eq e]
    exact hy
  · intro hx
    exact ⟨prO s u x, ⟨hx, (prO_sd s u x).1⟩, (prO_sd s u x).2⟩
set_option maxHeartbeats 16000000 in
set_option maxRecDepth 100000 in
theorem others_false {w : World} {own : Whose} {a b : Nat} {c : Bool → Nat} {P : List Pr} {n : Nat} (h : IdxAt w own a b c P (fun _ => P) n) (u : ByteArray) (hu : u.size ≤ maxLen) (hn : n ≤ 500000) (hsz : ∀ x ∈ P, x.1.size ≤ maxLen ∧ x.2.size ≤ maxLen) :
    Calls Try.prog 30 #[ptr a, .string u, .int .i64 0] w fun e w' => ∃ v, e = .returned v ∧ Row enS 1 w' v (sideP P u false) ∧ Below w.heap.size w w' := by
  obtain ⟨c0, c1, c2, hz⟩ := h.cellsA
  rcases h.look false u hu (by omega) with ⟨g, hlk, hog, m, D, hown, hD1, hD2, hD3⟩ | ⟨hlk, hno, -⟩
  · have hgm : g < w.heap.size := hown.lt
    have hDm : ∀ x y : ByteArray, x.size ≤ maxLen → y.size ≤ maxLen → Maps.has D (keyP x y) = true → (x, y) ∈ P ∧ x = u := fun x y hx hy hh => by
      rw [hD1 x y hx hy, Bool.and_eq_true, decide_eq_true_eq] at hh
      exact ⟨inP_iff.1 hh.1, hh.2⟩
    have hDn : ∀ x, prO false u x ∈ P → Maps.has D (keyP (prO false u x).1 (prO false u x).2) = true := fun x hx => by
      rw [hD1 _ _ (hsz _ hx).1 (hsz _ hx).2, Bool.and_eq_true, decide_eq_true_eq]
      exact ⟨inP_iff.2 hx, (prO_sd false u x).1⟩
    have hsl := hown.size_le
    clear hD1 hD3 hog
    go_enter Try.func30, Try.ntmps30
    go_wp2_with (first | (at_range; refine wpList_range_own _ rfl _ 51 rfl 56 4 mapLawP Try.underlying51 (plainElem Try.prog 4) g n D rfl hown ?_; intro w0 hrg0 hg0 hs0) | go_in)
    go_frame
    go_loopw [7] (fun v7 wr => ∃ (left : Lit → Bool) (cnt : Nat) (out : List ByteArray), wr.ranges Try.prog 56 (plainElem Try.prog 4) g w.heap.size n D left cnt ∧ Own enS 1 9 wr w.heap.size v7 out ∧ (∀ x, x ∈ out ↔ prO false u x ∈ P ∧ left (keyP (prO false u x).1 (prO false u x).2) = false) ∧ (∀ kl, left kl = true → Maps.has D kl = true) ∧ out.length + cnt ≤ n ∧ Below w.heap.size w wr) (fun _ wr => wr.rangeLeft g w.heap.size)
    case atStart =>
      refine ⟨_, _, [], hrg0, Own.nil _ _ _ _ _, fun x => ⟨fun hx => (by cases hx), fun hx => ?_⟩, fun kl hk => hk, by simpa using hsl, ⟨hg0.os, hg0.tape, hg0.output, hg0.size, fun i hi => hg0.block i hi (by simp)⟩⟩
      rw [hDn x hx.1] at hx
      cases hx.2
    case round =>
      obtain ⟨left, cnt, out, hrg, hO, hm, hlD, hc, hB⟩ := hrel
      obtain ⟨A, cc, rfl, hcc⟩ := hO.slice
      have hBS := hB.size
      have hrlt := hrg.lt
      go_wp2_with (at_next; refine next_P _ rfl _ rfl g w.heap.size n D left cnt rfl hrg hD2 ?_ ?_)
      · intro hc0 hl0
        have hF : Hid (mergeS out [] = sideP P u false) := sideP_of (s := false) fun x => by rw [hm x]; exact ⟨fun hx => hx.1, fun hx => ⟨hx, hl0 _⟩⟩
        have hol : out.length ≤ 524288 := by omega
        go_wp2_with fail
        with_reducible refine (Merge_calls _ _ _ _ _ _ out [] _ hO.row (Row.nil _ _ _) hol (by decide)).mono ?_
        rintro e w3 ⟨v, rfl, hv, b3⟩
        go_wp2
        go_ret
        exact ⟨v, rfl, by rw [← hF.out]; exact hv, below_call hB b3⟩
      · intro x y w1 cnt1 hx hy hlx hDx hrg1 hlt hg1 hs1 hen
        obtain ⟨hxP, hxu⟩ := hDm x y hx hy hDx
        have HXU := Lib.hid hxu
        clear hxu
        have hB1 : Below w.heap.size w w1 := ⟨hg1.os.trans hB.os, hg1.tape.trans hB.tape, hg1.output.trans hB.output, Nat.le_trans hB.size hg1.size, fun i hi => (hg1.block i (Nat.lt_of_lt_of_le hi hB.size) (fun e => by injection e with e; omega)).trans (hB.block i hi)⟩
        have hO1 := hO.kept hg1 (by rcases hq : (Value.slice A out.length cc).ownBlock with _ | q; exact .inl rfl; exact .inr (fun e => row_ne_iter hO hrg (by rw [hq]; exact e.symm)))
        have hB2 := below_alloc0 hB1 (.cells #[.string x, .string y] 56)
        have hO2 := hO1.alloc (.cells #[.string x, .string y] 56)
        have hrg2 := hrg1.alloc (.cells #[.string x, .string y] 56)
        have HZ : Hid ((w1.alloc (.cells #[.string x, .string y] 56)).heap.size = wr.heap.size + 1) := by show _ = _; rw [size_alloc, hs1]
        have hc1 : (w1.alloc (.cells #[.string x, .string y] 56)).cell? ⟨wr.heap.size, 1, none⟩ = some (.string y) := by
          have hnb := heap_alloc_new w1 (.cells #[.string x, .string y] 56)
          rw [← hs1]
          unfold World.cell?
          simp only
          rw [hnb]
          rfl
        go_wp2_with (at_builtin; refine Own.append (w0 := w) w.heap.size rfl (.tmp 24) (.tmp 29) 38 9 (.string ⟨#[]⟩) 1 16 rfl Try.underlying38 info_str rfl (by decide) _ out y [.string y] rfl (by rw [HZ.out]; rfl) rfl rfl (enS_one _) hO2 hB2 hB2.size (by omega) (by omega) ?_; intro v4 w4 hO4 hB4 hg4 hq4)
        have hrg4 := hrg2.kept hg4 (row_ne_low hO2 hgm) (row_ne_iter hO2 hrg2)
        refine ⟨⟨_, cnt1, out ++ [y], hrg4, hO4, fun z => ?_, fun kl hk => ?_, ?_, hB4⟩, ?_⟩
        · rw [List.mem_append, List.mem_singleton, hm z]
          constructor
          · rintro (⟨h1, h2⟩ | ez)
            · exact ⟨h1, by simp [h2]⟩
            · rw [ez]
              have e1 : prO false u y = (x, y) := by rw [← HXU.out]; rfl
              rw [e1]
              exact ⟨hxP, by simp [WideAt.sameKey_self (keyP_key x y)]⟩
          · rintro ⟨h1, h2⟩
            by_cases e : z = y
            · exact .inr e
            · left
              refine ⟨h1, ?_⟩
              rw [sameKey_ne (fun e2 => e ?_)] at h2
              · simpa using h2
              · have h3 := keyP_inj (hsz _ h1).1 (hsz _ h1).2 hx hy e2
                exact h3.2
        · rw [Bool.and_eq_true] at hk
          exact hlD kl hk.1
        · rw [List.length_append, List.length_singleton]
          omega
        · rw [hrg4.left_eq, hrg.left_eq]
          exact hlt
  · have hr := run_range_nilMap (P := Try.prog) w 51 56 4 Try.underlying51
    have hx := fun ty => run_next_nilMap (P := Try.prog) w ty 0 0 #[]
    have hF : Hid (mergeS [] [] = sideP P u false) := sideP_of (s := false) fun x => ⟨fun hx => (by cases hx), fun hx => absurd (prO_sd false u x).1 (hno _ hx)⟩
    go_enter Try.func30, Try.ntmps30
    go_wp2_with fail
    refine wp_loop_rounds 1 ?_
    rw [rounds_succ]
    go_wp2_with fail
    with_reducible refine (Merge_calls _ _ _ _ _ _ [] [] _ (Row.nil _ _ _) (Row.nil _ _ _) (by decide) (by decide)).mono ?_
    rintro e w3 ⟨v, rfl, hv, b3⟩
    go_wp2
    go_ret
    exact ⟨v, rfl, by rw [← hF.out]; exact hv, below_call (below_box _) b3⟩
set_option maxHeartbeats 16000000 in
set_option maxRecDepth 100000 in
theorem others_true {w : World} {own : Whose} {a b : Nat} {c : Bool → Nat} {P : List Pr} {n : Nat} (h : IdxAt w own a b c P (fun _ => P) n) (u : ByteArray) (hu : u.size ≤ maxLen) (hn : n ≤ 500000) (hsz : ∀ x ∈ P, x.1.size ≤ maxLen ∧ x.2.size ≤ maxLen) :
    Calls Try.prog 30 #[ptr a, .string u, .int .i64 1] w fun e w' => ∃ v, e = .returned v ∧ Row enS 1 w' v (sideP P u true) ∧ Below w.heap.size w w' := by
  obtain ⟨c0, c1, c2, hz⟩ := h.cellsA
  rcases h.look true u hu (by omega) with ⟨g, hlk, hog, m, D, hown, hD1, hD2, hD3⟩ | ⟨hlk, hno, -⟩
  · have hgm : g < w.heap.size := hown.lt
    have hDm : ∀ x y : ByteArray, x.size ≤ maxLen → y.size ≤ maxLen → Maps.has D (keyP x y) = true → (x, y) ∈ P ∧ y = u := fun x y hx hy hh => by
      rw [hD1 x y hx hy, Bool.and_eq_true, decide_eq_true_eq] at hh
      exact ⟨inP_iff.1 hh.1, hh.2⟩
    have hDn : ∀ x, prO true u x ∈ P → Maps.has D (keyP (prO true u x).1 (prO true u x).2) = true := fun x hx => by
      rw [hD1 _ _ (hsz _ hx).1 (hsz _ hx).2, Bool.and_eq_true, decide_eq_true_eq]
      exact ⟨inP_iff.2 hx, (prO_sd true u x).1⟩
    have hsl := hown.size_le
    clear hD1 hD3 hog
    go_enter Try.func30, Try.ntmps30
    go_wp2_with (first | (at_range; refine wpList_range_own _ rfl _ 51 rfl 56 4 mapLawP Try.underlying51 (plainElem Try.prog 4) g n D rfl hown ?_; intro w0 hrg0 hg0 hs0) | go_in)
    go_frame
    go_loopw [7] (fun v7 wr => ∃ (left : Lit → Bool) (cnt : Nat) (out : List ByteArray), wr.ranges Try.prog 56 (plainElem Try.prog 4) g w.heap.size n D left cnt ∧ Own enS 1 9 wr w.heap.size v7 out ∧ (∀ x, x ∈ out ↔ prO true u x ∈ P ∧ left (keyP (prO true u x).1 (prO true u x).2) = false) ∧ (∀ kl, left kl = true → Maps.has D kl = true) ∧ out.length + cnt ≤ n ∧ Below w.heap.size w wr) (fun _ wr => wr.rangeLeft g w.heap.size)
    case atStart =>
      refine ⟨_, _, [], hrg0, Own.nil _ _ _ _ _, fun x => ⟨fun hx => (by cases hx), fun hx => ?_⟩, fun kl hk => hk, by simpa using hsl, ⟨hg0.os, hg0.tape, hg0.output, hg0.size, fun i hi => hg0.block i hi (by simp)⟩⟩
      rw [hDn x hx.1] at hx
      cases hx.2
    case round =>
      obtain ⟨left, cnt, out, hrg, hO, hm, hlD, hc, hB⟩ := hrel
      obtain ⟨A, cc, rfl, hcc⟩ := hO.slice
      have hBS := hB.size
      have hrlt := hrg.lt
      go_wp2_with (at_next; refine next_P _ rfl _ rfl g w.heap.size n D left cnt rfl hrg hD2 ?_ ?_)
      · intro hc0 hl0
        have hF : Hid (mergeS out [] = sideP P u true) := sideP_of (s := true) fun x => by rw [hm x]; exact ⟨fun hx => hx.1, fun hx => ⟨hx, hl0 _⟩⟩
        have hol : out.length ≤ 524288 := by omega
        go_wp2_with fail
        with_reducible refine (Merge_calls _ _ _ _ _ _ out [] _ hO.row (Row.nil _ _ _) hol (by decide)).mono ?_
        rintro e w3 ⟨v, rfl, hv, b3⟩
        go_wp2
        go_ret
        exact ⟨v, rfl, by rw [← hF.out]; exact hv, below_call hB b3⟩
      · intro x y w1 cnt1 hx hy hlx hDx hrg1 hlt hg1 hs1 hen
        obtain ⟨hxP, hxu⟩ := hDm x y hx hy hDx
        have HXU := Lib.hid hxu
        clear hxu
        have hB1 : Below w.heap.size w w1 := ⟨hg1.os.trans hB.os, hg1.tape.trans hB.tape, hg1.output.trans hB.output, Nat.le_trans hB.size hg1.size, fun i hi => (hg1.block i (Nat.lt_of_lt_of_le hi hB.size) (fun e => by injection e with e; omega)).trans (hB.block i hi)⟩
        have hO1 := hO.kept hg1 (by rcases hq : (Value.slice A out.length cc).ownBlock with _ | q; exact .inl rfl; exact .inr (fun e => row_ne_iter hO hrg (by rw [hq]; exact e.symm)))
        have hB2 := below_alloc0 hB1 (.cells #[.string x, .string y] 56)
        have hO2 := hO1.alloc (.cells #[.string x, .string y] 56)
        have hrg2 := hrg1.alloc (.cells #[.string x, .string y] 56)
        have HZ : Hid ((w1.alloc (.cells #[.string x, .string y] 56)).heap.size = wr.heap.size + 1) := by show _ = _; rw [size_alloc, hs1]
        have hc1 : (w1.alloc (.cells #[.string x, .string y] 56)).cell? ⟨wr.heap.size, 0, none⟩ = some (.string x) := by
          have hnb := heap_alloc_new w1 (.cells #[.string x, .string y] 56)
          rw [← hs1]
          unfold World.cell?
          simp only
          rw [hnb]
          rfl
        go_wp2_with (at_builtin; refine Own.append (w0 := w) w.heap.size rfl (.tmp 24) (.tmp 29) 38 9 (.string ⟨#[]⟩) 1 16 rfl Try.underlying38 info_str rfl (by decide) _ out x [.string x] rfl (by rw [HZ.out]; rfl) rfl rfl (enS_one _) hO2 hB2 hB2.size (by omega) (by omega) ?_; intro v4 w4 hO4 hB4 hg4 hq4)
        have hrg4 := hrg2.kept hg4 (row_ne_low hO2 hgm) (row_ne_iter hO2 hrg2)
        refine ⟨⟨_, cnt1, out ++ [x], hrg4, hO4, fun z => ?_, fun kl hk => ?_, ?_, hB4⟩, ?_⟩
        · rw [List.mem_append, List.mem_singleton, hm z]
          constructor
          · rintro (⟨h1, h2⟩ | ez)
            · exact ⟨h1, by simp [h2]⟩
            · rw [ez]
              have e1 : prO true u x = (x, y) := by rw [← HXU.out]; rfl
              rw [e1]
              exact ⟨hxP, by simp [WideAt.sameKey_self (keyP_key x y)]⟩
          · rintro ⟨h1, h2⟩
            by_cases e : z = x
            · exact .inr e
            · left
              refine ⟨h1, ?_⟩
              rw [sameKey_ne (fun e2 => e ?_)] at h2
              · simpa using h2
              · have h3 := keyP_inj (hsz _ h1).1 (hsz _ h1).2 hx hy e2
                exact h3.1
        · rw [Bool.and_eq_true] at hk
          exact hlD kl hk.1
        · rw [List.length_append, List.length_singleton]
          omega
        · rw [hrg4.left_eq, hrg.left_eq]
          exact hlt
  · have hr := run_range_nilMap (P := Try.prog) w 51 56 4 Try.underlying51
    have hx := fun ty => run_next_nilMap (P := Try.prog) w ty 0 0 #[]
    have hF : Hid (mergeS [] [] = sideP P u true) := sideP_of (s := true) fun x => ⟨fun hx => (by cases hx), fun hx => absurd (prO_sd true u x).1 (hno _ hx)⟩
    go_enter Try.func30, Try.ntmps30
    go_wp2_with fail
    refine wp_loop_rounds 1 ?_
    rw [rounds_succ]
    go_wp2_with fail
    with_reducible refine (Merge_calls _ _ _ _ _ _ [] [] _ (Row.nil _ _ _) (Row.nil _ _ _) (by decide) (by decide)).mono ?_
    rintro e w3 ⟨v, rfl, hv, b3⟩
    go_wp2
    go_ret
    exact ⟨v, rfl, by rw [← hF.out]; exact hv, below_call (below_box _) b3⟩
set_option maxHeartbeats 16000000 in
set_option maxRecDepth 100000 in
theorem watchers_calls {w : World} {own : Whose} {a b : Nat} {c : Bool → Nat} {P : List Pr} {n : Nat} (h : IdxAt w own a b c P (fun _ => P) n) (u : ByteArray) (hu : u.size ≤ maxLen) (hn : n ≤ 500000) (hsz : ∀ x ∈ P, x.1.size ≤ maxLen ∧ x.2.size ≤ maxLen) :
    Calls Try.prog 20 #[ptr a, .string u] w fun e w' => ∃ v, e = .returned v ∧ Row enS 1 w' v (sideP P u true) ∧ Below w.heap.size w w' := by
  go_enter Try.func20, Try.ntmps20
  go_wp2_with fail
  with_reducible refine (others_true h u hu hn hsz).mono ?_
  rintro e w1 ⟨v, rfl, hv, b⟩
  go_wp2
  go_ret
  exact ⟨v, rfl, hv, b⟩
set_option maxHeartbeats 16000000 in
set_option maxRecDepth 100000 in
theorem contacts_calls {w : World} {own : Whose} {a b : Nat} {c : Bool → Nat} {P : List Pr} {n : Nat} (h : IdxAt w own a b c P (fun _ => P) n) (u : ByteArray) (hu : u.size ≤ maxLen) (hn : n ≤ 500000) (hsz : ∀ x ∈ P, x.1.size ≤ maxLen ∧ x.2.size ≤ maxLen) :
    Calls Try.prog 22 #[ptr a, .string u] w fun e w' => ∃ v, e = .returned v ∧ Row enS 1 w' v (sideP P u false) ∧ Below w.heap.size w w' := by
  go_enter Try.func22, Try.ntmps22
  go_wp2_with fail
  with_reducible refine (others_false h u hu hn hsz).mono ?_
  rintro e w1 ⟨v, rfl, hv, b⟩
  go_wp2
  go_ret
  exact ⟨v, rfl, hv, b⟩
end Go.Proofs.Ytocdoddmaopdbaa
