/-
Plain definitions: rosters of all users (layers 7 and 8), without any Go.
-/
import Derived.Test.YtpmafghknafhaaaAssoc
import Derived.Test.YtpmafghknafhaaaSpecD
set_option linter.unusedSectionVars false
namespace Go.Proofs.Ytpmafghknafhaaa
namespace Sp
structure It where
  to : Bool
  fr : Bool
  ou : Bool
  in_ : Bool
  bl : Bool
theorem It.eq_iff (a b : It) : a = b ↔ a.to = b.to ∧ a.fr = b.fr ∧ a.ou = b.ou ∧ a.in_ = b.in_ ∧ a.bl = b.bl :=
  ⟨fun h => by subst h; exact ⟨rfl, rfl, rfl, rfl, rfl⟩, fun ⟨h1, h2, h3, h4, h5⟩ => by cases a; cases b; simp only at h1 h2 h3 h4 h5; subst h1 h2 h3 h4 h5; rfl⟩
instance : DecidableEq It := fun a b => decidable_of_iff _ (It.eq_iff a b).symm
structure En where
  o : ByteArray
  c : ByteArray
  it : It
instance : DecidableEq En := fun a b => decidable_of_iff (a.o = b.o ∧ a.c = b.c ∧ a.it = b.it) ⟨fun h => by cases a; cases b; simp only at h; obtain ⟨h1, h2, h3⟩ := h; subst h1 h2 h3; rfl, fun h => by subst h; exact ⟨rfl, rfl, rfl⟩⟩
structure Mv where
  k : Int
  u : ByteArray
  o : ByteArray
instance : DecidableEq Mv := fun a b => decidable_of_iff (a.k = b.k ∧ a.u = b.u ∧ a.o = b.o) ⟨fun h => by cases a; cases b; simp only at h; obtain ⟨h1, h2, h3⟩ := h; subst h1 h2 h3; rfl, fun h => by subst h; exact ⟨rfl, rfl, rfl⟩⟩
abbrev EnK := ByteArray × ByteArray
def keyRo (x : En) : EnK := (x.o, x.c)
def ltRo (a b : EnK) : Bool := less a.1 b.1 || (decide (a.1 = b.1) && less a.2 b.2)
theorem ltRo_ord : SOrd ltRo where
  irr a := by simp [ltRo, less_irrefl]
  tr a b c h1 h2 := by
    simp only [ltRo, Bool.or_eq_true, Bool.and_eq_true, decide_eq_true_eq] at h1 h2 ⊢
    rcases h1 with h1 | ⟨e1, h1⟩ <;> rcases h2 with h2 | ⟨e2, h2⟩
    · exact .inl (less_trans _ _ _ h1 h2)
    · rw [e2] at h1; exact .inl h1
    · rw [← e1] at h2; exact .inl h2
    · exact .inr ⟨e1.trans e2, less_trans _ _ _ h1 h2⟩
  tri a b h := by
    simp only [ltRo, Bool.or_eq_true, Bool.and_eq_true, decide_eq_true_eq]
    by_cases e : a.1 = b.1
    · have : a.2 ≠ b.2 := fun e2 => h (Prod.ext e e2)
      rcases less_total _ _ this with h2 | h2
      · exact .inl (.inr ⟨e, h2⟩)
      · exact .inr (.inr ⟨e.symm, h2⟩)
    · rcases less_total _ _ e with h2 | h2
      · exact .inl (.inl h2)
      · exact .inr (.inl h2)
def noI : It := ⟨false, false, false, false, false⟩
def emptyI (a : It) : Bool := decide (a = noI)
def fitI (a b : It) : Bool := a.to == b.fr && (a.fr == b.to && (a.ou == b.in_ && (a.in_ == b.ou && (!(a.to && a.ou) && !(b.to && b.ou)))))
def seesI (a b : It) : Bool := a.to && (!a.bl && !b.bl)
def getRo (l : List En) (o c : ByteArray) : It := match getK keyRo l (o, c) with | some x => x.it | none => noI
def hasRo (l : List En) (o c : ByteArray) : Bool := (getK keyRo l (o, c)).isSome
def ofRo (l : List En) (o : ByteArray) : List ByteArray := (l.filter fun x => decide (x.o = o)).map En.c
def seesRo (l : List En) (w c : ByteArray) : Bool := seesI (getRo l w c) (getRo l c w)
def watchRo (l : List En) (c : ByteArray) : List ByteArray := mergeS ((l.filter fun x => decide (x.c = c) && seesRo l x.o c).map En.o) []
/-- May an entry be among others? -/
def oneRo (l : List En) (x : En) : Bool :=
  isName x.o && (isName x.c && (!decide (x.o = x.c) && (decide ((ofRo l x.o).length ≤ 16) && (hasRo l x.c x.o && (fitI x.it (getRo l x.c x.o) && !(emptyI x.it && emptyI (getRo l x.c x.o)))))))
def adjRo : List En → Bool
  | a :: b :: l => ltRo (keyRo a) (keyRo b) && adjRo (b :: l)
  | _ => true
def mayRo (l : List En) : Bool := l.all (oneRo l) && adjRo l
theorem adjRo_iff : ∀ l : List En, adjRo l = true ↔ ∀ i (h : i + 1 < l.length), ltRo (keyRo l[i]) (keyRo l[i + 1]) = true
  | [] => by simp [adjRo]
  | [a] => by simp [adjRo]
  | a :: b :: l => by
    rw [adjRo, Bool.and_eq_true, adjRo_iff (b :: l)]
    constructor
    · rintro ⟨h1, h2⟩ i hi
      cases i with
      | zero => exact h1
      | succ i => exact h2 i (by simp only [List.length_cons] at hi ⊢; omega)
    · intro h
      exact ⟨h 0 (by simp), fun i hi => h (i + 1) (by simp only [List.length_cons] at hi ⊢; omega)⟩
theorem mayRo_iff (l : List En) : mayRo l = true ↔ (∀ s ∈ l, oneRo l s = true) ∧ ∀ i (h : i + 1 < l.length), ltRo (keyRo l[i]) (keyRo l[i + 1]) = true := by
  unfold mayRo
  rw [Bool.and_eq_true, List.all_eq_true, adjRo_iff]
abbrev OrdRo (l : List En) : Prop := InOrd keyRo ltRo l
theorem mayRo_ord {l : List En} (h : mayRo l = true) : OrdRo l := ord_of_adj ltRo_ord l ((mayRo_iff l).1 h).2
theorem getRo_some {l : List En} {o c : ByteArray} {x : En} (h : getK keyRo l (o, c) = some x) : getRo l o c = x.it := by unfold getRo; rw [h]
theorem getRo_none {l : List En} {o c : ByteArray} (h : getK keyRo l (o, c) = none) : getRo l o c = noI := by unfold getRo; rw [h]
theorem getRo_at (l : List En) (o c : ByteArray) (i : Nat) (hi : i < l.length) (h : ∀ j (hj : j < l.length), j < i → keyRo l[j] ≠ (o, c)) (hq : keyRo l[i] = (o, c)) : getRo l o c = l[i].it ∧ hasRo l o c = true := by
  have e : getK keyRo l (o, c) = some l[i] := by
    unfold getK
    rw [List.find?_eq_some_iff_getElem]
    exact ⟨decide_eq_true hq, i, hi, rfl, fun j hj => by simpa using h j (by omega) hj⟩
  exact ⟨getRo_some e, by unfold hasRo; rw [e]; rfl⟩
theorem getRo_no (l : List En) (o c : ByteArray) (h : ∀ j (hj : j < l.length), keyRo l[j] ≠ (o, c)) : getRo l o c = noI ∧ hasRo l o c = false := by
  have e : getK keyRo l (o, c) = none := by
    rw [getK_none]
    intro x hx
    obtain ⟨j, hj, rfl⟩ := List.getElem_of_mem hx
    exact h j hj
  exact ⟨getRo_none e, by unfold hasRo; rw [e]; rfl⟩
def fewRo (l : List En) : Bool := decide (l.length ≤ 80) && l.all fun s => decide (s.o.size ≤ 40) && decide (s.c.size ≤ 40)
theorem hasRo_mem {l : List En} {o c : ByteArray} : hasRo l o c = true ↔ ∃ x ∈ l, x.o = o ∧ x.c = c := by
  unfold hasRo
  rw [Option.isSome_iff_exists]
  constructor
  · rintro ⟨x, hx⟩
    obtain ⟨h1, h2⟩ := getK_mem hx
    exact ⟨x, h1, congrArg Prod.fst h2, congrArg Prod.snd h2⟩
  · rintro ⟨x, hx, h1, h2⟩
    cases h : getK keyRo l (o, c) with
    | some y => exact ⟨y, rfl⟩
    | none => exact absurd (show keyRo x = (o, c) from Prod.ext h1 h2) (getK_none.1 h x hx)
theorem ofRo_mem {l : List En} {o c : ByteArray} : c ∈ ofRo l o ↔ ∃ x ∈ l, x.o = o ∧ x.c = c := by
  unfold ofRo
  simp only [List.mem_map, List.mem_filter, decide_eq_true_eq]
  exact ⟨fun ⟨x, ⟨h1, h2⟩, h3⟩ => ⟨x, h1, h2, h3⟩, fun ⟨x, h1, h2, h3⟩ => ⟨x, ⟨h1, h2⟩, h3⟩⟩
theorem sees_has {l : List En} {w c : ByteArray} (h : seesRo l w c = true) : hasRo l w c = true := by
  unfold seesRo seesI getRo at h
  unfold hasRo
  cases hg : getK keyRo l (w, c) with
  | some x => rfl
  | none => rw [hg] at h; simp [noI] at h
theorem watchRo_mem {l : List En} {w c : ByteArray} : w ∈ watchRo l c ↔ seesRo l w c = true := by
  unfold watchRo
  rw [mergeS_mem]
  simp only [List.mem_map, List.mem_filter, decide_eq_true_eq, Bool.and_eq_true, List.not_mem_nil, or_false]
  constructor
  · rintro ⟨x, ⟨_, _, h⟩, rfl⟩; exact h
  · intro h
    obtain ⟨x, hx, rfl, rfl⟩ := hasRo_mem.1 (sees_has h)
    exact ⟨x, ⟨hx, rfl, h⟩, rfl⟩
end Sp
end Go.Proofs.Ytpmafghknafhaaa
