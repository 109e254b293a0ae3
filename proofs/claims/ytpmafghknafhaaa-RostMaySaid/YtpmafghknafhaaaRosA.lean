/-
Plain definitions: rosters of all users (layers 7 and 8), without any Go.
Plain laws: rosters; who watches whom, and both sides.
Plain laws: when rosters may be, as it is told by counting.
Plain definitions: what is done of rosters, and what comes of it.
Plain laws: what two do changes nobody else's items.
Plain laws: what is done of rosters leaves them such as may be; it changes them; two moves of others can be done in any order.
-/
import Derived.Test.YtpmafghknafhaaaAssoc
import Derived.Test.YtpmafghknafhaaaSpecD
set_option linter.unusedSectionVars false
set_option linter.unusedVariables false
set_option linter.unusedSimpArgs false
namespace Go.Proofs.Ytpmafghknafhaaa
namespace Sp
structure It where
  to : Bool
  fr : Bool
  ou : Bool
  in_ : Bool
  bl : Bool
theorem It.eq_iff (a b : It) : a = b ↔ a.to = b.to ∧ a.fr = b.fr ∧ a.ou = b.ou ∧ a.in_ = b.in_ ∧ a.bl = b.bl :=
  ⟨fun h => by subst h; exact ⟨rfl, rfl, rfl, rfl, rfl⟩, fun ⟨h1, h2, h3, h4, h5⟩ => by cases a; cases b; simp only at h1 h2 h3 h4 h5; subst h1 h2 h3 h4 h5; rfl⟩
instance : DecidableEq It := fun a b => decidable_of_iff _ (It.eq_iff a b).symm
structure En where
  o : ByteArray
  c : ByteArray
  it : It
instance : DecidableEq En := fun a b => decidable_of_iff (a.o = b.o ∧ a.c = b.c ∧ a.it = b.it) ⟨fun h => by cases a; cases b; simp only at h; obtain ⟨h1, h2, h3⟩ := h; subst h1 h2 h3; rfl, fun h => by subst h; exact ⟨rfl, rfl, rfl⟩⟩
structure Mv where
  k : Int
  u : ByteArray
  o : ByteArray
instance : DecidableEq Mv := fun a b => decidable_of_iff (a.k = b.k ∧ a.u = b.u ∧ a.o = b.o) ⟨fun h => by cases a; cases b; simp only at h; obtain ⟨h1, h2, h3⟩ := h; subst h1 h2 h3; rfl, fun h => by subst h; exact ⟨rfl, rfl, rfl⟩⟩
abbrev EnK := ByteArray × ByteArray
def keyRo (x : En) : EnK := (x.o, x.c)
def ltRo (a b : EnK) : Bool := less a.1 b.1 || (decide (a.1 = b.1) && less a.2 b.2)
theorem ltRo_ord : SOrd ltRo where
  irr a := by simp [ltRo, less_irrefl]
  tr a b c h1 h2 := by
    simp only [ltRo, Bool.or_eq_true, Bool.and_eq_true, decide_eq_true_eq] at h1 h2 ⊢
    rcases h1 with h1 | ⟨e1, h1⟩ <;> rcases h2 with h2 | ⟨e2, h2⟩
    · exact .inl (less_trans _ _ _ h1 h2)
    · rw [e2] at h1; exact .inl h1
    · rw [← e1] at h2; exact .inl h2
    · exact .inr ⟨e1.trans e2, less_trans _ _ _ h1 h2⟩
  tri a b h := by
    simp only [ltRo, Bool.or_eq_true, Bool.and_eq_true, decide_eq_true_eq]
    by_cases e : a.1 = b.1
    · have : a.2 ≠ b.2 := fun e2 => h (Prod.ext e e2)
      rcases less_total _ _ this with h2 | h2
      · exact .inl (.inr ⟨e, h2⟩)
      · exact .inr (.inr ⟨e.symm, h2⟩)
    · rcases less_total _ _ e with h2 | h2
      · exact .inl (.inl h2)
      · exact .inr (.inl h2)
def noI : It := ⟨false, false, false, false, false⟩
def emptyI (a : It) : Bool := decide (a = noI)
def fitI (a b : It) : Bool := a.to == b.fr && (a.fr == b.to && (a.ou == b.in_ && (a.in_ == b.ou && (!(a.to && a.ou) && !(b.to && b.ou)))))
def seesI (a b : It) : Bool := a.to && (!a.bl && !b.bl)
def getRo (l : List En) (o c : ByteArray) : It := match getK keyRo l (o, c) with | some x => x.it | none => noI
def hasRo (l : List En) (o c : ByteArray) : Bool := (getK keyRo l (o, c)).isSome
def ofRo (l : List En) (o : ByteArray) : List ByteArray := (l.filter fun x => decide (x.o = o)).map En.c
def seesRo (l : List En) (w c : ByteArray) : Bool := seesI (getRo l w c) (getRo l c w)
def watchRo (l : List En) (c : ByteArray) : List ByteArray := mergeS ((l.filter fun x => decide (x.c = c) && seesRo l x.o c).map En.o) []
/-- May an entry be among others? -/
def oneRo (l : List En) (x : En) : Bool :=
  isName x.o && (isName x.c && (!decide (x.o = x.c) && (decide ((ofRo l x.o).length ≤ 16) && (hasRo l x.c x.o && (fitI x.it (getRo l x.c x.o) && !(emptyI x.it && emptyI (getRo l x.c x.o)))))))
def adjRo : List En → Bool
  | a :: b :: l => ltRo (keyRo a) (keyRo b) && adjRo (b :: l)
  | _ => true
def mayRo (l : List En) : Bool := l.all (oneRo l) && adjRo l
theorem adjRo_iff : ∀ l : List En, adjRo l = true ↔ ∀ i (h : i + 1 < l.length), ltRo (keyRo l[i]) (keyRo l[i + 1]) = true
  | [] => by simp [adjRo]
  | [a] => by simp [adjRo]
  | a :: b :: l => by
    rw [adjRo, Bool.and_eq_true, adjRo_iff (b :: l)]
    constructor
    · rintro ⟨h1, h2⟩ i hi
      cases i with
      | zero => exact h1
      | succ i => exact h2 i (by simp only [List.length_cons] at hi ⊢; omega)
    · intro h
      exact ⟨h 0 (by simp), fun i hi => h (i + 1) (by simp only [List.length_cons] at hi ⊢; omega)⟩
theorem mayRo_iff (l : List En) : mayRo l = true ↔ (∀ s ∈ l, oneRo l s = true) ∧ ∀ i (h : i + 1 < l.length), ltRo (keyRo l[i]) (keyRo l[i + 1]) = true := by
  unfold mayRo
  rw [Bool.and_eq_true, List.all_eq_true, adjRo_iff]
abbrev OrdRo (l : List En) : Prop := InOrd keyRo ltRo l
theorem mayRo_ord {l : List En} (h : mayRo l = true) : OrdRo l := ord_of_adj ltRo_ord l ((mayRo_iff l).1 h).2
theorem getRo_some {l : List En} {o c : ByteArray} {x : En} (h : getK keyRo l (o, c) = some x) : getRo l o c = x.it := by unfold getRo; rw [h]
theorem getRo_none {l : List En} {o c : ByteArray} (h : getK keyRo l (o, c) = none) : getRo l o c = noI := by unfold getRo; rw [h]
theorem getRo_at (l : List En) (o c : ByteArray) (i : Nat) (hi : i < l.length) (h : ∀ j (hj : j < l.length), j < i → keyRo l[j] ≠ (o, c)) (hq : keyRo l[i] = (o, c)) : getRo l o c = l[i].it ∧ hasRo l o c = true := by
  have e : getK keyRo l (o, c) = some l[i] := by
    unfold getK
    rw [List.find?_eq_some_iff_getElem]
    exact ⟨decide_eq_true hq, i, hi, rfl, fun j hj => by simpa using h j (by omega) hj⟩
  exact ⟨getRo_some e, by unfold hasRo; rw [e]; rfl⟩
theorem getRo_no (l : List En) (o c : ByteArray) (h : ∀ j (hj : j < l.length), keyRo l[j] ≠ (o, c)) : getRo l o c = noI ∧ hasRo l o c = false := by
  have e : getK keyRo l (o, c) = none := by
    rw [getK_none]
    intro x hx
    obtain ⟨j, hj, rfl⟩ := List.getElem_of_mem hx
    exact h j hj
  exact ⟨getRo_none e, by unfold hasRo; rw [e]; rfl⟩
def fewRo (l : List En) : Bool := decide (l.length ≤ 80) && l.all fun s => decide (s.o.size ≤ 40) && decide (s.c.size ≤ 40)
theorem hasRo_mem {l : List En} {o c : ByteArray} : hasRo l o c = true ↔ ∃ x ∈ l, x.o = o ∧ x.c = c := by
  unfold hasRo
  rw [Option.isSome_iff_exists]
  constructor
  · rintro ⟨x, hx⟩
    obtain ⟨h1, h2⟩ := getK_mem hx
    exact ⟨x, h1, congrArg Prod.fst h2, congrArg Prod.snd h2⟩
  · rintro ⟨x, hx, h1, h2⟩
    cases h : getK keyRo l (o, c) with
    | some y => exact ⟨y, rfl⟩
    | none => exact absurd (show keyRo x = (o, c) from Prod.ext h1 h2) (getK_none.1 h x hx)
theorem ofRo_mem {l : List En} {o c : ByteArray} : c ∈ ofRo l o ↔ ∃ x ∈ l, x.o = o ∧ x.c = c := by
  unfold ofRo
  simp only [List.mem_map, List.mem_filter, decide_eq_true_eq]
  exact ⟨fun ⟨x, ⟨h1, h2⟩, h3⟩ => ⟨x, h1, h2, h3⟩, fun ⟨x, h1, h2, h3⟩ => ⟨x, ⟨h1, h2⟩, h3⟩⟩
theorem sees_has {l : List En} {w c : ByteArray} (h : seesRo l w c = true) : hasRo l w c = true := by
  unfold seesRo seesI getRo at h
  unfold hasRo
  cases hg : getK keyRo l (w, c) with
  | some x => rfl
  | none => rw [hg] at h; simp [noI] at h
theorem watchRo_mem {l : List En} {w c : ByteArray} : w ∈ watchRo l c ↔ seesRo l w c = true := by
  unfold watchRo
  rw [mergeS_mem]
  simp only [List.mem_map, List.mem_filter, decide_eq_true_eq, Bool.and_eq_true, List.not_mem_nil, or_false]
  constructor
  · rintro ⟨x, ⟨_, _, h⟩, rfl⟩; exact h
  · intro h
    obtain ⟨x, hx, rfl, rfl⟩ := hasRo_mem.1 (sees_has h)
    exact ⟨x, ⟨hx, rfl, h⟩, rfl⟩
end Sp
end Go.Proofs.Ytpmafghknafhaaa
set_option linter.unusedSectionVars false
namespace Go.Proofs.Ytpmafghknafhaaa
namespace Sp
theorem ofRo_sorted {l : List En} (h : OrdRo l) (o : ByteArray) : Sorted (ofRo l o) := by
  unfold ofRo Sorted
  rw [List.pairwise_map]
  have h2 : (l.filter fun x => decide (x.o = o)).Pairwise fun a b => ltRo (keyRo a) (keyRo b) = true := List.Pairwise.filter _ h
  refine (List.pairwise_iff_forall_sublist.2 fun {a b} hab => ?_)
  have h3 := List.pairwise_iff_forall_sublist.1 h2 hab
  have ha : a.o = o := by
    have := List.mem_filter.1 (hab.subset (List.mem_cons_self ..))
    simpa using this.2
  have hb : b.o = o := by
    have := List.mem_filter.1 (hab.subset (List.mem_cons_of_mem _ (List.mem_cons_self ..)))
    simpa using this.2
  simp only [ltRo, keyRo, ha, hb, less_irrefl, Bool.false_or, Bool.and_eq_true, decide_eq_true_eq] at h3
  exact h3.2
theorem side {l : List En} (h : mayRo l = true) {x : En} (hx : x ∈ l) : hasRo l x.c x.o = true ∧ fitI x.it (getRo l x.c x.o) = true ∧ getRo l x.o x.c = x.it := by
  have h1 := ((mayRo_iff l).1 h).1 x hx
  unfold oneRo at h1
  simp only [Bool.and_eq_true] at h1
  exact ⟨h1.2.2.2.2.1, h1.2.2.2.2.2.1, getRo_some (show getK keyRo l (keyRo x) = some x from getK_of_mem ltRo_ord (mayRo_ord h) hx)⟩
theorem watch_of {l : List En} (h : mayRo l = true) (c : ByteArray) : (ofRo l c).filter (fun w => seesRo l w c) = watchRo l c := by
  refine (mergeS_eq _ _ _ (List.Pairwise.filter _ (ofRo_sorted (mayRo_ord h) c)) fun x => ?_).symm
  rw [List.mem_filter, ofRo_mem]
  simp only [List.mem_map, List.mem_filter, decide_eq_true_eq, Bool.and_eq_true, List.not_mem_nil, or_false]
  constructor
  · rintro ⟨⟨y, hy, h1, h2⟩, h3⟩
    obtain ⟨z, hz, e1, e2⟩ := hasRo_mem.1 (sees_has h3)
    exact ⟨z, ⟨hz, e2, by rw [e1]; exact h3⟩, e1⟩
  · rintro ⟨z, ⟨hz, e2, h3⟩, rfl⟩
    obtain ⟨y, hy, h1, h2⟩ := hasRo_mem.1 (side h hz).1
    exact ⟨⟨y, hy, h1.trans e2, h2⟩, h3⟩
theorem watch_sorted (l : List En) (c : ByteArray) : Sorted (watchRo l c) := mergeS_sorted _ _
theorem of_back {l : List En} (h : mayRo l = true) {o c : ByteArray} (hc : c ∈ ofRo l o) : o ∈ ofRo l c ∧ fitI (getRo l o c) (getRo l c o) = true := by
  obtain ⟨x, hx, rfl, rfl⟩ := ofRo_mem.1 hc
  obtain ⟨h1, h2, h3⟩ := side h hx
  obtain ⟨y, hy, e1, e2⟩ := hasRo_mem.1 h1
  exact ⟨ofRo_mem.2 ⟨y, hy, e1, e2⟩, by rw [h3]; exact h2⟩
def ownersRo (l : List En) : List ByteArray := mergeS (l.map En.o) []
theorem owners_nodup (l : List En) : (ownersRo l).Nodup := List.Pairwise.imp (fun h e => by rw [e, less_irrefl] at h; cases h) (mergeS_sorted (l.map En.o) [])
theorem count_out (o : ByteArray) : ∀ us : List ByteArray, ¬ o ∈ us → (us.map fun u => if o = u then 1 else 0).sum = 0
  | [], _ => rfl
  | u :: us, h => by
    rw [List.map_cons, List.sum_cons, count_out o us (fun h' => h (List.mem_cons_of_mem _ h')), if_neg (fun e => h (by rw [e]; exact List.mem_cons_self ..))]
theorem count_in (o : ByteArray) : ∀ us : List ByteArray, us.Nodup → o ∈ us → (us.map fun u => if o = u then 1 else 0).sum = 1
  | [], _, h => by cases h
  | u :: us, hn, h => by
    rw [List.map_cons, List.sum_cons]
    by_cases e : o = u
    · subst e
      rw [if_pos rfl, count_out _ us (List.nodup_cons.1 hn).1]
    · rw [if_neg e, count_in o us (List.nodup_cons.1 hn).2 ((List.mem_cons.1 h).resolve_left e)]
theorem sum_of (us : List ByteArray) (hn : us.Nodup) : ∀ l : List En, (∀ x ∈ l, x.o ∈ us) → (us.map fun u => (ofRo l u).length).sum = l.length
  | [], _ => by
    have : ∀ us : List ByteArray, (us.map fun u => (ofRo [] u).length).sum = 0 := by
      intro us
      induction us with
      | nil => rfl
      | cons u us ih => rw [List.map_cons, List.sum_cons, ih]; rfl
    exact this us
  | x :: l, h => by
    have ih := sum_of us hn l fun y hy => h y (List.mem_cons_of_mem _ hy)
    have e : ∀ u, (ofRo (x :: l) u).length = (if x.o = u then 1 else 0) + (ofRo l u).length := by
      intro u
      unfold ofRo
      rw [List.length_map, List.length_map, List.filter_cons]
      by_cases e : x.o = u
      · rw [if_pos (decide_eq_true e), if_pos e, List.length_cons]; omega
      · rw [if_neg (by simpa using e), if_neg e]; omega
    have e2 : ∀ us : List ByteArray, (us.map fun u => (ofRo (x :: l) u).length).sum = (us.map fun u => if x.o = u then 1 else 0).sum + (us.map fun u => (ofRo l u).length).sum := by
      intro us
      induction us with
      | nil => rfl
      | cons u us ih => rw [List.map_cons, List.sum_cons, List.map_cons, List.sum_cons, List.map_cons, List.sum_cons, ih, e]; omega
    rw [e2, ih, count_in x.o us hn (h x (List.mem_cons_self ..)), List.length_cons]
    omega
theorem owners_sum (l : List En) : ((ownersRo l).map fun u => (ofRo l u).length).sum = l.length := by
  refine sum_of _ (owners_nodup l) l fun x hx => ?_
  unfold ownersRo
  rw [mergeS_mem]
  exact .inl (List.mem_map_of_mem hx)
end Sp
end Go.Proofs.Ytpmafghknafhaaa
set_option linter.unusedSectionVars false
namespace Go.Proofs.Ytpmafghknafhaaa
namespace Sp
def cntL (l : List ByteArray) (s : ByteArray) : Nat := (l.filter fun x => decide (x = s)).length
theorem cntL_snoc (l : List ByteArray) (s t : ByteArray) : cntL (l ++ [s]) t = cntL l t + (if s = t then 1 else 0) := by
  unfold cntL
  rw [List.filter_append, List.length_append]
  by_cases e : s = t
  · rw [if_pos e, List.filter_cons, if_pos (decide_eq_true e)]; rfl
  · rw [if_neg e, List.filter_cons, if_neg (by simpa using e)]; rfl
theorem cntL_le (l : List ByteArray) (s : ByteArray) : cntL l s ≤ l.length := List.length_filter_le _ _
theorem ofRo_cnt (o : ByteArray) : ∀ l : List En, (ofRo l o).length = cntL (l.map En.o) o
  | [] => rfl
  | x :: l => by
    have ih := ofRo_cnt o l
    unfold ofRo cntL at ih ⊢
    rw [List.length_map] at ih ⊢
    rw [List.map_cons, List.filter_cons, List.filter_cons]
    by_cases e : x.o = o
    · rw [if_pos (decide_eq_true e), if_pos (decide_eq_true e), List.length_cons, List.length_cons, ih]
    · rw [if_neg (by simpa using e), if_neg (by simpa using e), ih]
theorem cntL_take (l : List En) (o : ByteArray) (i : Nat) : cntL ((l.take i).map En.o) o ≤ cntL (l.map En.o) o := by
  unfold cntL
  exact ((List.take_sublist i l).map En.o).filter _ |>.length_le
/-- All of an entry but its place and its owner's count. -/
def condRo (l : List En) (x : En) : Bool :=
  isName x.o && (isName x.c && (!decide (x.o = x.c) && (hasRo l x.c x.o && (fitI x.it (getRo l x.c x.o) && !(emptyI x.it && emptyI (getRo l x.c x.o))))))
theorem oneRo_eq (l : List En) (x : En) : oneRo l x = (condRo l x && decide ((ofRo l x.o).length ≤ 16)) := by
  unfold oneRo condRo
  cases isName x.o <;> cases isName x.c <;> cases decide (x.o = x.c) <;> cases decide ((ofRo l x.o).length ≤ 16) <;> cases hasRo l x.c x.o <;> cases fitI x.it (getRo l x.c x.o) <;> simp
theorem mayRo_no_one {l : List En} {x : En} (hx : x ∈ l) (h : oneRo l x = false) : mayRo l = false := by
  rw [← Bool.not_eq_true, mayRo_iff]
  intro h'
  rw [h'.1 x hx] at h
  cases h
theorem mayRo_no_cond {l : List En} (i : Nat) (hi : i < l.length) (h : condRo l l[i] = false) : mayRo l = false :=
  mayRo_no_one (List.getElem_mem hi) (by rw [oneRo_eq, h]; rfl)
theorem mayRo_no_cnt {l : List En} (i k : Nat) (hi : i < l.length) (h : 16 < cntL ((l.take k).map En.o) l[i].o) : mayRo l = false :=
  mayRo_no_one (List.getElem_mem hi) (by
    rw [oneRo_eq, ofRo_cnt, decide_eq_false (by have := cntL_take l l[i].o k; omega), Bool.and_false])
theorem mayRo_no_adj {l : List En} (i : Nat) (h : i + 1 < l.length) (hn : ltRo (keyRo l[i]) (keyRo l[i + 1]) = false) : mayRo l = false := by
  rw [← Bool.not_eq_true, mayRo_iff]
  intro h'
  rw [h'.2 i h] at hn
  cases hn
theorem mayRo_yes {l : List En} (h1 : ∀ o, cntL (l.map En.o) o ≤ 16) (h2 : ∀ j (h : j < l.length), condRo l l[j] = true) (h3 : ∀ j (h : j + 1 < l.length), ltRo (keyRo l[j]) (keyRo l[j + 1]) = true) : mayRo l = true := by
  rw [mayRo_iff]
  refine ⟨fun s hs => ?_, h3⟩
  obtain ⟨j, hj, rfl⟩ := List.getElem_of_mem hs
  rw [oneRo_eq, h2 j hj, ofRo_cnt, decide_eq_true (h1 _)]
  rfl
end Sp
end Go.Proofs.Ytpmafghknafhaaa
set_option linter.unusedSectionVars false
namespace Go.Proofs.Ytpmafghknafhaaa
namespace Sp
/-- What one of two does, of both items (layer 7). -/
def actI (a b : It) (k : Int) : It × It × Int :=
  if fitI a b = false then (a, b, 1)
  else if k = 1 then (if a.bl || b.bl then (a, b, 8) else if a.to || a.ou then (a, b, 7) else (⟨a.to, a.fr, true, a.in_, a.bl⟩, ⟨b.to, b.fr, b.ou, true, b.bl⟩, 0))
  else if k = 2 then (if a.bl || b.bl then (a, b, 8) else if a.in_ then (⟨a.to, true, a.ou, false, a.bl⟩, ⟨true, b.fr, false, b.in_, b.bl⟩, 0) else (a, b, 7))
  else if k = 3 then (if a.to || a.ou then (⟨false, a.fr, false, a.in_, a.bl⟩, ⟨b.to, false, b.ou, false, b.bl⟩, 0) else (a, b, 7))
  else if k = 4 then (if a.fr || a.in_ then (⟨a.to, false, a.ou, false, a.bl⟩, ⟨false, b.fr, false, b.in_, b.bl⟩, 0) else (a, b, 7))
  else if k = 5 then (if a.bl then (a, b, 7) else (⟨a.to, a.fr, a.ou, a.in_, true⟩, b, 0))
  else if k = 6 then (if a.bl then (⟨a.to, a.fr, a.ou, a.in_, false⟩, b, 0) else (a, b, 7))
  else (a, b, 1)
/-- Entries with one at its place, or without it. -/
def setRo (l : List En) (x : En) (keep : Bool) : List En :=
  if keep then (delK keyRo l (keyRo x)).takeWhile (fun y => !ltRo (keyRo x) (keyRo y)) ++ x :: (delK keyRo l (keyRo x)).dropWhile (fun y => !ltRo (keyRo x) (keyRo y)) else delK keyRo l (keyRo x)
def okDo (l : List En) (k : Int) (u o : ByteArray) : Bool := mayRo l && (isName u && (isName o && (!decide (u = o) && (decide (1 ≤ k) && decide (k ≤ 6)))))
def fullRo (l : List En) (u o : ByteArray) : Bool := !hasRo l u o && (decide (16 ≤ (ofRo l u).length) || decide (16 ≤ (ofRo l o).length))
def doRo (l : List En) (k : Int) (u o : ByteArray) : List En × Int :=
  if okDo l k u o = false then (l, 1)
  else
    let r := actI (getRo l u o) (getRo l o u) k
    if r.2.2 ≠ 0 then (l, r.2.2)
    else if fullRo l u o = true then (l, 5)
    else
      let keep := !(emptyI r.1 && emptyI r.2.1)
      (setRo (setRo l ⟨u, o, r.1⟩ keep) ⟨o, u, r.2.1⟩ keep, 0)
theorem setRo_put {l : List En} (h : OrdRo l) (x : En) : setRo l x true = putK keyRo ltRo l x := by
  unfold setRo putK insK
  rw [if_pos rfl]
  have hd := delK_ord (key := keyRo) (lt := ltRo) h (keyRo x)
  have e : ∀ m : List En, (∀ y ∈ m, keyRo y ≠ keyRo x) → m.takeWhile (fun y => !ltRo (keyRo x) (keyRo y)) = m.takeWhile (fun y => ltRo (keyRo y) (keyRo x)) ∧ m.dropWhile (fun y => !ltRo (keyRo x) (keyRo y)) = m.dropWhile (fun y => ltRo (keyRo y) (keyRo x)) := by
    intro m hm
    induction m with
    | nil => exact ⟨rfl, rfl⟩
    | cons y m ih =>
      have hy := hm y (List.mem_cons_self ..)
      have e1 : (!ltRo (keyRo x) (keyRo y)) = ltRo (keyRo y) (keyRo x) := by
        rcases ltRo_ord.tri _ _ hy with h1 | h1
        · rw [h1, ltRo_ord.asymm h1]; rfl
        · rw [h1, ltRo_ord.asymm h1]; rfl
      have ih' := ih fun z hz => hm z (List.mem_cons_of_mem _ hz)
      rw [List.takeWhile_cons, List.takeWhile_cons, List.dropWhile_cons, List.dropWhile_cons, e1]
      cases ltRo (keyRo y) (keyRo x) with
      | true => simp only [if_true]; exact ⟨by rw [ih'.1], ih'.2⟩
      | false => exact ⟨rfl, rfl⟩
  obtain ⟨e1, e2⟩ := e (delK keyRo l (keyRo x)) fun y hy => (delK_mem.1 hy).2
  rw [e1, e2]
theorem setRo_del (l : List En) (x : En) : setRo l x false = delK keyRo l (keyRo x) := by unfold setRo; rw [if_neg (by simp)]
theorem setRo_ord {l : List En} (h : OrdRo l) (x : En) (keep : Bool) : OrdRo (setRo l x keep) := by
  cases keep with
  | true => rw [setRo_put h]; exact putK_ord ltRo_ord h x
  | false => rw [setRo_del]; exact delK_ord h _
end Sp
end Go.Proofs.Ytpmafghknafhaaa
set_option linter.unusedSectionVars false
namespace Go.Proofs.Ytpmafghknafhaaa
namespace Sp
theorem doRo_err {l : List En} {k : Int} {u o : ByteArray} {r : List En} {e : Int} (h : doRo l k u o = (r, e)) (he : e ≠ 0) : r = l := by
  unfold doRo at h
  split at h
  · injection h with h1 h2; exact h1.symm
  · simp only at h
    split at h
    · injection h with h1 h2; exact h1.symm
    · split at h
      · injection h with h1 h2; exact h1.symm
      · injection h with h1 h2; exact absurd h2.symm he
theorem doRo_ok {l : List En} {k : Int} {u o : ByteArray} {r : List En} (h : doRo l k u o = (r, 0)) : okDo l k u o = true ∧ ∃ a b : It, actI (getRo l u o) (getRo l o u) k = (a, b, 0) ∧ r = setRo (setRo l ⟨u, o, a⟩ (!(emptyI a && emptyI b))) ⟨o, u, b⟩ (!(emptyI a && emptyI b)) := by
  unfold doRo at h
  split at h
  · injection h with h1 h2; exact absurd h2 (by decide)
  · rename_i hok
    refine ⟨by simpa using hok, ?_⟩
    obtain ⟨a, b, e, hact⟩ : ∃ a b e, actI (getRo l u o) (getRo l o u) k = (a, b, e) := ⟨_, _, _, rfl⟩
    rw [hact] at h
    simp only at h
    split at h
    · rename_i he
      injection h with h1 h2
      exact absurd h2 he
    · rename_i he
      have he0 : e = 0 := Decidable.not_not.1 he
      subst he0
      split at h
      · injection h with h1 h2; exact absurd h2 (by decide)
      · injection h with h1 h2
        exact ⟨a, b, hact, h1.symm⟩
theorem getK_setRo {l : List En} (h : OrdRo l) (x : En) (keep : Bool) (k : EnK) (hk : k ≠ keyRo x) : getK keyRo (setRo l x keep) k = getK keyRo l k := by
  cases keep with
  | true => rw [setRo_put h, getK_putK ltRo_ord h, if_neg hk]
  | false => rw [setRo_del, getK_delK, if_neg hk]
theorem getRo_setRo {l : List En} (h : OrdRo l) (x : En) (keep : Bool) (p q : ByteArray) (hk : (p, q) ≠ keyRo x) : getRo (setRo l x keep) p q = getRo l p q := by
  unfold getRo
  rw [getK_setRo h x keep _ hk]
theorem filter_setRo (l : List En) (x : En) (keep : Bool) (f : En → Bool) (hx : ∀ y : En, keyRo y = keyRo x → f y = false) : (setRo l x keep).filter f = l.filter f := by
  have h1 : (delK keyRo l (keyRo x)).filter f = l.filter f := by
    unfold delK
    rw [List.filter_filter]
    refine List.filter_congr fun y _ => ?_
    by_cases e : keyRo y = keyRo x
    · rw [hx y e, Bool.false_and]
    · rw [decide_eq_false e, Bool.not_false, Bool.and_true]
  unfold setRo
  split
  · rw [List.filter_append, List.filter_cons, hx x rfl, if_neg (by simp), ← List.filter_append, tw_dw, h1]
  · exact h1
theorem others_get {l : List En} (hm : mayRo l = true) {k : Int} {u o : ByteArray} {r : List En} (h : doRo l k u o = (r, 0)) {p q : ByteArray} (h1 : ¬ (p = u ∧ q = o)) (h2 : ¬ (q = u ∧ p = o)) : getRo r p q = getRo l p q := by
  obtain ⟨_, a, b, _, rfl⟩ := doRo_ok h
  rw [getRo_setRo (setRo_ord (mayRo_ord hm) _ _) _ _ _ _ (fun e => h2 ⟨congrArg Prod.snd e, congrArg Prod.fst e⟩), getRo_setRo (mayRo_ord hm) _ _ _ _ (fun e => h1 ⟨congrArg Prod.fst e, congrArg Prod.snd e⟩)]
theorem others_sees {l : List En} (hm : mayRo l = true) {k : Int} {u o : ByteArray} {r : List En} (h : doRo l k u o = (r, 0)) {p q : ByteArray} (h1 : ¬ (p = u ∧ q = o)) (h2 : ¬ (q = u ∧ p = o)) : seesRo r p q = seesRo l p q := by
  unfold seesRo
  rw [others_get hm h h1 h2, others_get hm h (fun e => h2 e) (fun e => h1 e)]
theorem others_of {l : List En} {k : Int} {u o : ByteArray} {r : List En} (h : doRo l k u o = (r, 0)) {p : ByteArray} (h1 : p ≠ u) (h2 : p ≠ o) : ofRo r p = ofRo l p := by
  obtain ⟨_, a, b, _, rfl⟩ := doRo_ok h
  unfold ofRo
  rw [filter_setRo _ _ _ _ fun y e => decide_eq_false fun e2 => h2 (e2.symm.trans (congrArg Prod.fst e)), filter_setRo _ _ _ _ fun y e => decide_eq_false fun e2 => h1 (e2.symm.trans (congrArg Prod.fst e))]
theorem others_watch {l : List En} (hm : mayRo l = true) {k : Int} {u o : ByteArray} {r : List En} (h : doRo l k u o = (r, 0)) {p : ByteArray} (h1 : p ≠ u) (h2 : p ≠ o) : watchRo r p = watchRo l p := by
  have hs : ∀ x : ByteArray, seesRo r x p = seesRo l x p := fun x => others_sees hm h (fun e => h2 e.2) (fun e => h1 e.1)
  obtain ⟨_, a, b, _, rfl⟩ := doRo_ok h
  unfold watchRo
  congr 2
  simp only [hs]
  rw [filter_setRo _ _ _ _ fun y e => by rw [decide_eq_false fun e2 => h1 (e2.symm.trans (congrArg Prod.snd e)), Bool.false_and], filter_setRo _ _ _ _ fun y e => by rw [decide_eq_false fun e2 => h2 (e2.symm.trans (congrArg Prod.snd e)), Bool.false_and]]
end Sp
end Go.Proofs.Ytpmafghknafhaaa
set_option linter.unusedSectionVars false
namespace Go.Proofs.Ytpmafghknafhaaa
namespace Sp
theorem fitI_symm (a b : It) : fitI a b = fitI b a := by
  obtain ⟨a1, a2, a3, a4, a5⟩ := a
  obtain ⟨b1, b2, b3, b4, b5⟩ := b
  simp only [fitI]
  cases a1 <;> cases a2 <;> cases a3 <;> cases a4 <;> cases b1 <;> cases b2 <;> cases b3 <;> cases b4 <;> rfl
theorem actI_fit {x y a b : It} {k : Int} (h : actI x y k = (a, b, 0)) : fitI a b = true ∧ ¬ (a = x ∧ b = y) := by
  obtain ⟨x1, x2, x3, x4, x5⟩ := x
  obtain ⟨y1, y2, y3, y4, y5⟩ := y
  unfold actI at h
  cases hf : fitI ⟨x1, x2, x3, x4, x5⟩ ⟨y1, y2, y3, y4, y5⟩ with
  | false => rw [hf] at h; simp at h
  | true =>
    rw [hf] at h
    simp only [Bool.true_eq_false, if_false] at h
    simp only [fitI, Bool.and_eq_true, beq_iff_eq] at hf
    obtain ⟨rfl, rfl, rfl, rfl, h5, h6⟩ := hf
    split at h
    · cases x5 <;> cases y5 <;> cases x1 <;> cases x3 <;> simp at h
      obtain ⟨rfl, rfl⟩ := h
      cases x2 <;> cases x4 <;> simp_all [fitI]
    · split at h
      · cases x5 <;> cases y5 <;> cases x4 <;> simp at h
        obtain ⟨rfl, rfl⟩ := h
        cases x1 <;> cases x2 <;> cases x3 <;> simp_all [fitI]
      · split at h
        · cases x1 <;> cases x3 <;> simp at h <;> obtain ⟨rfl, rfl⟩ := h <;> cases x2 <;> cases x4 <;> simp_all [fitI]
        · split at h
          · cases x2 <;> cases x4 <;> simp at h <;> obtain ⟨rfl, rfl⟩ := h <;> cases x1 <;> cases x3 <;> simp_all [fitI]
          · split at h
            · cases x5 <;> simp at h
              obtain ⟨rfl, rfl⟩ := h
              cases x1 <;> cases x2 <;> cases x3 <;> cases x4 <;> simp_all [fitI]
            · split at h
              · cases x5 <;> simp at h
                obtain ⟨rfl, rfl⟩ := h
                cases x1 <;> cases x2 <;> cases x3 <;> cases x4 <;> simp_all [fitI]
              · simp at h
theorem emptyI_iff (a : It) : emptyI a = true ↔ a = noI := by unfold emptyI; rw [decide_eq_true_eq]
/-- What lies at a key behind a move. -/
theorem doRo_get {l : List En} (hm : OrdRo l) {u o : ByteArray} (huo : u ≠ o) (a b : It) (keep : Bool) (k : EnK) :
    getK keyRo (setRo (setRo l ⟨u, o, a⟩ keep) ⟨o, u, b⟩ keep) k = if k = (o, u) then (if keep then some ⟨o, u, b⟩ else none) else if k = (u, o) then (if keep then some ⟨u, o, a⟩ else none) else getK keyRo l k := by
  have e1 : keyRo ⟨u, o, a⟩ = (u, o) := rfl
  have e2 : keyRo ⟨o, u, b⟩ = (o, u) := rfl
  cases keep with
  | true =>
    rw [setRo_put (setRo_ord hm _ _), setRo_put hm, getK_putK ltRo_ord (putK_ord ltRo_ord hm _), getK_putK ltRo_ord hm, e1, e2]
    simp
  | false => rw [setRo_del, setRo_del, getK_delK, getK_delK, e1, e2]; simp
theorem ofRo_count (l : List En) (x : En) (p : ByteArray) (h : p ≠ x.o) (keep : Bool) : ofRo (setRo l x keep) p = ofRo l p := by
  unfold ofRo
  rw [filter_setRo _ _ _ _ fun y e => decide_eq_false fun e2 => h (e2.symm.trans (congrArg Prod.fst e))]
theorem ofRo_len_set {l : List En} (hm : OrdRo l) (x : En) (keep : Bool) : (ofRo (setRo l x keep) x.o).length ≤ (ofRo l x.o).length + (if hasRo l x.o x.c then 0 else 1) := by
  have hd : ((delK keyRo l (keyRo x)).filter fun y => decide (y.o = x.o)) = delK keyRo (l.filter fun y => decide (y.o = x.o)) (keyRo x) := by
    unfold delK
    rw [List.filter_filter, List.filter_filter]
    refine List.filter_congr fun y _ => ?_
    rw [Bool.and_comm]
  have hle : (delK keyRo (l.filter fun y => decide (y.o = x.o)) (keyRo x)).length ≤ (l.filter fun y => decide (y.o = x.o)).length := List.length_filter_le _ _
  unfold ofRo
  rw [List.length_map, List.length_map]
  cases keep with
  | false => rw [setRo_del, hd]; omega
  | true =>
    have hs : ((setRo l x true).filter fun y => decide (y.o = x.o)).length = (delK keyRo (l.filter fun y => decide (y.o = x.o)) (keyRo x)).length + 1 := by
      rw [← hd]
      unfold setRo
      rw [if_pos rfl, List.filter_append, List.filter_cons, if_pos (by simp), List.length_append, List.length_cons]
      have := congrArg List.length (congrArg (List.filter fun y : En => decide (y.o = x.o)) (tw_dw (delK keyRo l (keyRo x)) (fun y => !ltRo (keyRo x) (keyRo y))))
      rw [List.filter_append, List.length_append] at this
      omega
    rw [hs]
    cases hh : hasRo l x.o x.c with
    | false => simp; exact hle
    | true =>
      obtain ⟨y, hy, h1, h2⟩ := hasRo_mem.1 hh
      have hyf : y ∈ l.filter fun y => decide (y.o = x.o) := List.mem_filter.2 ⟨hy, decide_eq_true h1⟩
      have hk : keyRo y = keyRo x := Prod.ext h1 h2
      have := delK_len ltRo_ord (ord_filter (fun y : En => decide (y.o = x.o)) hm) hyf
      rw [hk] at this
      simp
      omega
theorem hasRo_get {l m : List En} {p q : ByteArray} (h : getK keyRo l (p, q) = getK keyRo m (p, q)) : hasRo l p q = hasRo m p q ∧ getRo l p q = getRo m p q := by
  unfold hasRo getRo
  rw [h]
  exact ⟨rfl, rfl⟩
theorem of_le {l : List En} (hm : mayRo l = true) (p : ByteArray) : (ofRo l p).length ≤ 16 := by
  cases he : ofRo l p with
  | nil => simp
  | cons c cs =>
    have : c ∈ ofRo l p := by rw [he]; exact List.mem_cons_self ..
    obtain ⟨x, hx, rfl, _⟩ := ofRo_mem.1 this
    have h1 := ((mayRo_iff l).1 hm).1 x hx
    unfold oneRo at h1
    simp only [Bool.and_eq_true, decide_eq_true_eq] at h1
    rw [← he]
    exact h1.2.2.2.1
theorem okDo_all {l : List En} {k : Int} {u o : ByteArray} (h : okDo l k u o = true) : mayRo l = true ∧ isName u = true ∧ isName o = true ∧ u ≠ o ∧ 1 ≤ k ∧ k ≤ 6 := by
  unfold okDo at h
  simp only [Bool.and_eq_true, Bool.not_eq_true', decide_eq_false_iff_not, decide_eq_true_eq] at h
  exact ⟨h.1, h.2.1, h.2.2.1, h.2.2.2.1, h.2.2.2.2.1, h.2.2.2.2.2⟩
theorem doRo_room {l : List En} {k : Int} {u o : ByteArray} {r : List En} (h : doRo l k u o = (r, 0)) : fullRo l u o = false := by
  unfold doRo at h
  split at h
  · injection h with h1 h2; exact absurd h2 (by decide)
  · simp only at h
    split at h
    · rename_i he
      injection h with h1 h2
      exact absurd h2 he
    · split at h
      · injection h with h1 h2; exact absurd h2 (by decide)
      · rename_i hf
        simpa using hf
theorem hasRo_sides {l : List En} (hm : mayRo l = true) (u o : ByteArray) : hasRo l u o = hasRo l o u := by
  rw [Bool.eq_iff_iff]
  constructor
  · intro h
    obtain ⟨x, hx, rfl, rfl⟩ := hasRo_mem.1 h
    exact (side hm hx).1
  · intro h
    obtain ⟨x, hx, rfl, rfl⟩ := hasRo_mem.1 h
    exact (side hm hx).1
theorem doRo_may {l : List En} {k : Int} {u o : ByteArray} {r : List En} (h : doRo l k u o = (r, 0)) : mayRo r = true := by
  have hroom := doRo_room h
  obtain ⟨hok, a, b, hact, hr⟩ := doRo_ok h
  obtain ⟨hm, hu, ho, huo, _, _⟩ := okDo_all hok
  obtain ⟨hfit, _⟩ := actI_fit hact
  have hord := mayRo_ord hm
  obtain ⟨keep, hk0⟩ : ∃ x, (!(emptyI a && emptyI b)) = x := ⟨_, rfl⟩
  rw [hk0] at hr
  have hg := fun k => (congrArg (fun m => getK keyRo m k) hr).trans (doRo_get hord huo a b keep k)
  have hro : OrdRo r := by rw [hr]; exact setRo_ord (setRo_ord hord _ _) _ _
  have hlen : ∀ p, (ofRo r p).length ≤ 16 := by
    intro p
    have h0 := of_le hm p
    unfold fullRo at hroom
    have hsd := hasRo_sides hm u o
    by_cases hpo : p = o
    · subst hpo
      have h2 := ofRo_len_set (setRo_ord hord ⟨u, p, a⟩ keep) ⟨p, u, b⟩ keep
      have h3 := ofRo_count l ⟨u, p, a⟩ p (fun e => huo e.symm) keep
      rw [hr]
      simp only at h2
      rw [h3] at h2
      have h4 : hasRo (setRo l ⟨u, p, a⟩ keep) p u = hasRo l p u := (hasRo_get (getK_setRo hord ⟨u, p, a⟩ keep (p, u) (fun e => huo (show u = p from (congrArg Prod.fst e).symm)))).1
      rw [h4] at h2
      cases hh : hasRo l p u with
      | true => rw [hh] at h2; simp at h2; omega
      | false =>
        rw [hsd, hh] at hroom
        rw [hh] at h2
        simp at hroom h2
        omega
    · by_cases hpu : p = u
      · subst hpu
        rw [hr, ofRo_count _ _ _ hpo]
        have h2 := ofRo_len_set hord ⟨p, o, a⟩ keep
        simp only at h2
        cases hh : hasRo l p o with
        | true => rw [hh] at h2; simp at h2; omega
        | false =>
          rw [hh] at hroom h2
          simp at hroom h2
          omega
      · rw [hr, ofRo_count _ _ _ hpo, ofRo_count _ _ _ hpu]
        exact h0
  have hou : ((o, u) : EnK) ≠ (u, o) := fun e => huo (congrArg Prod.fst e).symm
  refine (mayRo_iff r).2 ⟨fun s hs => ?_, adj_of_ord hro⟩
  have hgs := getK_of_mem ltRo_ord hro hs
  rw [hg] at hgs
  unfold oneRo
  simp only [Bool.and_eq_true, decide_eq_true_eq, Bool.not_eq_true']
  by_cases k1 : keyRo s = (o, u)
  · rw [if_pos k1] at hgs
    cases keep with
    | false => simp at hgs
    | true =>
      simp at hgs
      have hs2 := hg (u, o)
      rw [if_neg (Ne.symm hou), if_pos rfl, if_pos rfl] at hs2
      have hg2 : getRo r u o = a := getRo_some hs2
      have hh2 : hasRo r u o = true := by unfold hasRo; rw [hs2]; rfl
      subst hgs
      simp only
      rw [hg2]
      refine ⟨ho, hu, decide_eq_false (fun e => huo e.symm), hlen _, hh2, by rw [fitI_symm]; exact hfit, ?_⟩
      rw [Bool.not_eq_true'] at hk0
      rw [Bool.and_comm]; exact hk0
  · rw [if_neg k1] at hgs
    by_cases k2 : keyRo s = (u, o)
    · rw [if_pos k2] at hgs
      cases keep with
      | false => simp at hgs
      | true =>
        simp at hgs
        have hs2 := hg (o, u)
        rw [if_pos rfl, if_pos rfl] at hs2
        have hg2 : getRo r o u = b := getRo_some hs2
        have hh2 : hasRo r o u = true := by unfold hasRo; rw [hs2]; rfl
        subst hgs
        simp only
        rw [hg2]
        rw [Bool.not_eq_true'] at hk0
        exact ⟨hu, ho, decide_eq_false huo, hlen _, hh2, hfit, hk0⟩
    · rw [if_neg k2] at hgs
      obtain ⟨hsl, _⟩ := getK_mem hgs
      have h1 := ((mayRo_iff l).1 hm).1 s hsl
      unfold oneRo at h1
      simp only [Bool.and_eq_true, decide_eq_true_eq, Bool.not_eq_true'] at h1
      have hs3 := hg (s.c, s.o)
      rw [if_neg (fun e => k2 (Prod.ext (congrArg Prod.snd e) (congrArg Prod.fst e))), if_neg (fun e => k1 (Prod.ext (congrArg Prod.snd e) (congrArg Prod.fst e)))] at hs3
      obtain ⟨h3, h4⟩ := hasRo_get hs3
      rw [h3, h4]
      exact ⟨h1.1, h1.2.1, h1.2.2.1, hlen _, h1.2.2.2.2.1, h1.2.2.2.2.2.1, h1.2.2.2.2.2.2⟩
/-- Both items behind a move. -/
theorem doRo_two {l : List En} {k : Int} {u o : ByteArray} {r : List En} (h : doRo l k u o = (r, 0)) : actI (getRo l u o) (getRo l o u) k = (getRo r u o, getRo r o u, 0) := by
  obtain ⟨hok, a, b, hact, hr⟩ := doRo_ok h
  obtain ⟨hm, hu, ho, huo, _, _⟩ := okDo_all hok
  obtain ⟨keep, hk0⟩ : ∃ x, (!(emptyI a && emptyI b)) = x := ⟨_, rfl⟩
  rw [hk0] at hr
  have hg := fun k => (congrArg (fun m => getK keyRo m k) hr).trans (doRo_get (mayRo_ord hm) huo a b keep k)
  have hou : ((u, o) : EnK) ≠ (o, u) := fun e => huo (congrArg Prod.fst e)
  have h1 := hg (u, o)
  have h2 := hg (o, u)
  rw [if_neg hou, if_pos rfl] at h1
  rw [if_pos rfl] at h2
  have ea : getRo r u o = a := by
    unfold getRo
    rw [h1]
    cases keep with
    | true => rfl
    | false =>
      simp only [Bool.not_eq_false', Bool.and_eq_true, emptyI_iff] at hk0
      rw [hk0.1]; rfl
  have eb : getRo r o u = b := by
    unfold getRo
    rw [h2]
    cases keep with
    | true => rfl
    | false =>
      simp only [Bool.not_eq_false', Bool.and_eq_true, emptyI_iff] at hk0
      rw [hk0.2]; rfl
  rw [ea, eb]
  exact hact
theorem doRo_ne {l : List En} {k : Int} {u o : ByteArray} {r : List En} (h : doRo l k u o = (r, 0)) : r ≠ l := by
  intro e
  have h1 := doRo_two h
  rw [e] at h1
  exact (actI_fit h1).2 ⟨rfl, rfl⟩
end Sp
end Go.Proofs.Ytpmafghknafhaaa
