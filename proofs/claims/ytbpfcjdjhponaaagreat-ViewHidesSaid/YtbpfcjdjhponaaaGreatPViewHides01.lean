import Derived.Test.YtbpfcjdjhponaaaGreatProg
import Derived.Deep.Slices
import Derived.Test.YtbpfcjdjhponaaaGreatPViewHides00
set_option linter.unusedSectionVars false
set_option linter.unusedVariables false
set_option linter.unusedSimpArgs false
namespace Go.Proofs.YtbpfcjdjhponaaaGreat
namespace Sp
structure It where
  to : Bool
  fr : Bool
  ou : Bool
  in_ : Bool
  bl : Bool
theorem It.eq_iff (a b : It) : a = b ↔ a.to = b.to ∧ a.fr = b.fr ∧ a.ou = b.ou ∧ a.in_ = b.in_ ∧ a.bl = b.bl :=
  ⟨fun h => by subst h; exact ⟨rfl, rfl, rfl, rfl, rfl⟩, fun ⟨h1, h2, h3, h4, h5⟩ => by cases a; cases b; simp only at h1 h2 h3 h4 h5; subst h1 h2 h3 h4 h5; rfl⟩
instance : DecidableEq It := fun a b => decidable_of_iff _ (It.eq_iff a b).symm
structure En where
  o : ByteArray
  c : ByteArray
  it : It
instance : DecidableEq En := fun a b => decidable_of_iff (a.o = b.o ∧ a.c = b.c ∧ a.it = b.it) ⟨fun h => by cases a; cases b; simp only at h; obtain ⟨h1, h2, h3⟩ := h; subst h1 h2 h3; rfl, fun h => by subst h; exact ⟨rfl, rfl, rfl⟩⟩
structure Mv where
  k : Int
  u : ByteArray
  o : ByteArray
instance : DecidableEq Mv := fun a b => decidable_of_iff (a.k = b.k ∧ a.u = b.u ∧ a.o = b.o) ⟨fun h => by cases a; cases b; simp only at h; obtain ⟨h1, h2, h3⟩ := h; subst h1 h2 h3; rfl, fun h => by subst h; exact ⟨rfl, rfl, rfl⟩⟩
abbrev EnK := ByteArray × ByteArray
def keyRo (x : En) : EnK := (x.o, x.c)
def ltRo (a b : EnK) : Bool := less a.1 b.1 || (decide (a.1 = b.1) && less a.2 b.2)
theorem ltRo_ord : SOrd ltRo where
  irr a := by simp [ltRo, less_irrefl]
  tr a b c h1 h2 := by
    simp only [ltRo, Bool.or_eq_true, Bool.and_eq_true, decide_eq_true_eq] at h1 h2 ⊢
    rcases h1 with h1 | ⟨e1, h1⟩ <;> rcases h2 with h2 | ⟨e2, h2⟩
    · exact .inl (less_trans _ _ _ h1 h2)
    · rw [e2] at h1; exact .inl h1
    · rw [← e1] at h2; exact .inl h2
    · exact .inr ⟨e1.trans e2, less_trans _ _ _ h1 h2⟩
  tri a b h := by
    simp only [ltRo, Bool.or_eq_true, Bool.and_eq_true, decide_eq_true_eq]
    by_cases e : a.1 = b.1
    · have : a.2 ≠ b.2 := fun e2 => h (Prod.ext e e2)
      rcases less_total _ _ this with h2 | h2
      · exact .inl (.inr ⟨e, h2⟩)
      · exact .inr (.inr ⟨e.symm, h2⟩)
    · rcases less_total _ _ e with h2 | h2
      · exact .inl (.inl h2)
      · exact .inr (.inl h2)
def noI : It := ⟨false, false, false, false, false⟩
def emptyI (a : It) : Bool := decide (a = noI)
def fitI (a b : It) : Bool := a.to == b.fr && (a.fr == b.to && (a.ou == b.in_ && (a.in_ == b.ou && (!(a.to && a.ou) && !(b.to && b.ou)))))
def seesI (a b : It) : Bool := a.to && (!a.bl && !b.bl)
def getRo (l : List En) (o c : ByteArray) : It := match getK keyRo l (o, c) with | some x => x.it | none => noI
def hasRo (l : List En) (o c : ByteArray) : Bool := (getK keyRo l (o, c)).isSome
def ofRo (l : List En) (o : ByteArray) : List ByteArray := (l.filter fun x => decide (x.o = o)).map En.c
def seesRo (l : List En) (w c : ByteArray) : Bool := seesI (getRo l w c) (getRo l c w)
def watchRo (l : List En) (c : ByteArray) : List ByteArray := mergeS ((l.filter fun x => decide (x.c = c) && seesRo l x.o c).map En.o) []
def oneRo (l : List En) (x : En) : Bool :=
  isName x.o && (isName x.c && (!decide (x.o = x.c) && (decide ((ofRo l x.o).length ≤ 16) && (hasRo l x.c x.o && (fitI x.it (getRo l x.c x.o) && !(emptyI x.it && emptyI (getRo l x.c x.o)))))))
def adjRo : List En → Bool
  | a :: b :: l => ltRo (keyRo a) (keyRo b) && adjRo (b :: l)
  | _ => true
def mayRo (l : List En) : Bool := l.all (oneRo l) && adjRo l
theorem adjRo_iff : ∀ l : List En, adjRo l = true ↔ ∀ i (h : i + 1 < l.length), ltRo (keyRo l[i]) (keyRo l[i + 1]) = true
  | [] => by simp [adjRo]
  | [a] => by simp [adjRo]
  | a :: b :: l => by
    rw [adjRo, Bool.and_eq_true, adjRo_iff (b :: l)]
    constructor
    · rintro ⟨h1, h2⟩ i hi
      cases i with
      | zero => exact h1
      | succ i => exact h2 i (by simp only [List.length_cons] at hi ⊢; omega)
    · intro h
      exact ⟨h 0 (by simp), fun i hi => h (i + 1) (by simp only [List.length_cons] at hi ⊢; omega)⟩
theorem mayRo_iff (l : List En) : mayRo l = true ↔ (∀ s ∈ l, oneRo l s = true) ∧ ∀ i (h : i + 1 < l.length), ltRo (keyRo l[i]) (keyRo l[i + 1]) = true := by
  unfold mayRo
  rw [Bool.and_eq_true, List.all_eq_true, adjRo_iff]
abbrev OrdRo (l : List En) : Prop := InOrd keyRo ltRo l
theorem mayRo_ord {l : List En} (h : mayRo l = true) : OrdRo l := ord_of_adj ltRo_ord l ((mayRo_iff l).1 h).2
theorem getRo_some {l : List En} {o c : ByteArray} {x : En} (h : getK keyRo l (o, c) = some x) : getRo l o c = x.it := by unfold getRo; rw [h]
theorem getRo_none {l : List En} {o c : ByteArray} (h : getK keyRo l (o, c) = none) : getRo l o c = noI := by unfold getRo; rw [h]
theorem getRo_at (l : List En) (o c : ByteArray) (i : Nat) (hi : i < l.length) (h : ∀ j (hj : j < l.length), j < i → keyRo l[j] ≠ (o, c)) (hq : keyRo l[i] = (o, c)) : getRo l o c = l[i].it ∧ hasRo l o c = true := by
  have e : getK keyRo l (o, c) = some l[i] := by
    unfold getK
    rw [List.find?_eq_some_iff_getElem]
    exact ⟨decide_eq_true hq, i, hi, rfl, fun j hj => by simpa using h j (by omega) hj⟩
  exact ⟨getRo_some e, by unfold hasRo; rw [e]; rfl⟩
theorem getRo_no (l : List En) (o c : ByteArray) (h : ∀ j (hj : j < l.length), keyRo l[j] ≠ (o, c)) : getRo l o c = noI ∧ hasRo l o c = false := by
  have e : getK keyRo l (o, c) = none := by
    rw [getK_none]
    intro x hx
    obtain ⟨j, hj, rfl⟩ := List.getElem_of_mem hx
    exact h j hj
  exact ⟨getRo_none e, by unfold hasRo; rw [e]; rfl⟩
def fewRo (l : List En) : Bool := decide (l.length ≤ 80) && l.all fun s => decide (s.o.size ≤ 40) && decide (s.c.size ≤ 40)
theorem hasRo_mem {l : List En} {o c : ByteArray} : hasRo l o c = true ↔ ∃ x ∈ l, x.o = o ∧ x.c = c := by
  unfold hasRo
  rw [Option.isSome_iff_exists]
  constructor
  · rintro ⟨x, hx⟩
    obtain ⟨h1, h2⟩ := getK_mem hx
    exact ⟨x, h1, congrArg Prod.fst h2, congrArg Prod.snd h2⟩
  · rintro ⟨x, hx, h1, h2⟩
    cases h : getK keyRo l (o, c) with
    | some y => exact ⟨y, rfl⟩
    | none => exact absurd (show keyRo x = (o, c) from Prod.ext h1 h2) (getK_none.1 h x hx)
theorem ofRo_mem {l : List En} {o c : ByteArray} : c ∈ ofRo l o ↔ ∃ x ∈ l, x.o = o ∧ x.c = c := by
  unfold ofRo
  simp only [List.mem_map, List.mem_filter, decide_eq_true_eq]
  exact ⟨fun ⟨x, ⟨h1, h2⟩, h3⟩ => ⟨x, h1, h2, h3⟩, fun ⟨x, h1, h2, h3⟩ => ⟨x, ⟨h1, h2⟩, h3⟩⟩
theorem sees_has {l : List En} {w c : ByteArray} (h : seesRo l w c = true) : hasRo l w c = true := by
  unfold seesRo seesI getRo at h
  unfold hasRo
  cases hg : getK keyRo l (w, c) with
  | some x => rfl
  | none => rw [hg] at h; simp [noI] at h
end Sp
end Go.Proofs.YtbpfcjdjhponaaaGreat
namespace Go.Proofs.YtbpfcjdjhponaaaGreat
namespace Sp
theorem ofRo_sorted {l : List En} (h : OrdRo l) (o : ByteArray) : Sorted (ofRo l o) := by
  unfold ofRo Sorted
  rw [List.pairwise_map]
  have h2 : (l.filter fun x => decide (x.o = o)).Pairwise fun a b => ltRo (keyRo a) (keyRo b) = true := List.Pairwise.filter _ h
  refine (List.pairwise_iff_forall_sublist.2 fun {a b} hab => ?_)
  have h3 := List.pairwise_iff_forall_sublist.1 h2 hab
  have ha : a.o = o := by
    have := List.mem_filter.1 (hab.subset (List.mem_cons_self ..))
    simpa using this.2
  have hb : b.o = o := by
    have := List.mem_filter.1 (hab.subset (List.mem_cons_of_mem _ (List.mem_cons_self ..)))
    simpa using this.2
  simp only [ltRo, keyRo, ha, hb, less_irrefl, Bool.false_or, Bool.and_eq_true, decide_eq_true_eq] at h3
  exact h3.2
theorem side {l : List En} (h : mayRo l = true) {x : En} (hx : x ∈ l) : hasRo l x.c x.o = true ∧ fitI x.it (getRo l x.c x.o) = true ∧ getRo l x.o x.c = x.it := by
  have h1 := ((mayRo_iff l).1 h).1 x hx
  unfold oneRo at h1
  simp only [Bool.and_eq_true] at h1
  exact ⟨h1.2.2.2.2.1, h1.2.2.2.2.2.1, getRo_some (show getK keyRo l (keyRo x) = some x from getK_of_mem ltRo_ord (mayRo_ord h) hx)⟩
end Sp
end Go.Proofs.YtbpfcjdjhponaaaGreat
namespace Go.Proofs.YtbpfcjdjhponaaaGreat
namespace Sp
def cntL (l : List ByteArray) (s : ByteArray) : Nat := (l.filter fun x => decide (x = s)).length
theorem cntL_snoc (l : List ByteArray) (s t : ByteArray) : cntL (l ++ [s]) t = cntL l t + (if s = t then 1 else 0) := by
  unfold cntL
  rw [List.filter_append, List.length_append]
  by_cases e : s = t
  · rw [if_pos e, List.filter_cons, if_pos (decide_eq_true e)]; rfl
  · rw [if_neg e, List.filter_cons, if_neg (by simpa using e)]; rfl
theorem ofRo_cnt (o : ByteArray) : ∀ l : List En, (ofRo l o).length = cntL (l.map En.o) o
  | [] => rfl
  | x :: l => by
    have ih := ofRo_cnt o l
    unfold ofRo cntL at ih ⊢
    rw [List.length_map] at ih ⊢
    rw [List.map_cons, List.filter_cons, List.filter_cons]
    by_cases e : x.o = o
    · rw [if_pos (decide_eq_true e), if_pos (decide_eq_true e), List.length_cons, List.length_cons, ih]
    · rw [if_neg (by simpa using e), if_neg (by simpa using e), ih]
theorem cntL_take (l : List En) (o : ByteArray) (i : Nat) : cntL ((l.take i).map En.o) o ≤ cntL (l.map En.o) o := by
  unfold cntL
  exact ((List.take_sublist i l).map En.o).filter _ |>.length_le
def condRo (l : List En) (x : En) : Bool :=
  isName x.o && (isName x.c && (!decide (x.o = x.c) && (hasRo l x.c x.o && (fitI x.it (getRo l x.c x.o) && !(emptyI x.it && emptyI (getRo l x.c x.o))))))
theorem oneRo_eq (l : List En) (x : En) : oneRo l x = (condRo l x && decide ((ofRo l x.o).length ≤ 16)) := by
  unfold oneRo condRo
  cases isName x.o <;> cases isName x.c <;> cases decide (x.o = x.c) <;> cases decide ((ofRo l x.o).length ≤ 16) <;> cases hasRo l x.c x.o <;> cases fitI x.it (getRo l x.c x.o) <;> simp
theorem mayRo_no_one {l : List En} {x : En} (hx : x ∈ l) (h : oneRo l x = false) : mayRo l = false := by
  rw [← Bool.not_eq_true, mayRo_iff]
  intro h'
  rw [h'.1 x hx] at h
  cases h
theorem mayRo_no_cond {l : List En} (i : Nat) (hi : i < l.length) (h : condRo l l[i] = false) : mayRo l = false :=
  mayRo_no_one (List.getElem_mem hi) (by rw [oneRo_eq, h]; rfl)
theorem mayRo_no_cnt {l : List En} (i k : Nat) (hi : i < l.length) (h : 16 < cntL ((l.take k).map En.o) l[i].o) : mayRo l = false :=
  mayRo_no_one (List.getElem_mem hi) (by
    rw [oneRo_eq, ofRo_cnt, decide_eq_false (by have := cntL_take l l[i].o k; omega), Bool.and_false])
theorem mayRo_no_adj {l : List En} (i : Nat) (h : i + 1 < l.length) (hn : ltRo (keyRo l[i]) (keyRo l[i + 1]) = false) : mayRo l = false := by
  rw [← Bool.not_eq_true, mayRo_iff]
  intro h'
  rw [h'.2 i h] at hn
  cases hn
theorem mayRo_yes {l : List En} (h1 : ∀ o, cntL (l.map En.o) o ≤ 16) (h2 : ∀ j (h : j < l.length), condRo l l[j] = true) (h3 : ∀ j (h : j + 1 < l.length), ltRo (keyRo l[j]) (keyRo l[j + 1]) = true) : mayRo l = true := by
  rw [mayRo_iff]
  refine ⟨fun s hs => ?_, h3⟩
  obtain ⟨j, hj, rfl⟩ := List.getElem_of_mem hs
  rw [oneRo_eq, h2 j hj, ofRo_cnt, decide_eq_true (h1 _)]
  rfl
end Sp
end Go.Proofs.YtbpfcjdjhponaaaGreat
namespace Go.Proofs.YtbpfcjdjhponaaaGreat
namespace Sp
def actI (a b : It) (k : Int) : It × It × Int :=
  if fitI a b = false then (a, b, 1)
  else if k = 1 then (if a.bl || b.bl then (a, b, 8) else if a.to || a.ou then (a, b, 7) else (⟨a.to, a.fr, true, a.in_, a.bl⟩, ⟨b.to, b.fr, b.ou, true, b.bl⟩, 0))
  else if k = 2 then (if a.bl || b.bl then (a, b, 8) else if a.in_ then (⟨a.to, true, a.ou, false, a.bl⟩, ⟨true, b.fr, false, b.in_, b.bl⟩, 0) else (a, b, 7))
  else if k = 3 then (if a.to || a.ou then (⟨false, a.fr, false, a.in_, a.bl⟩, ⟨b.to, false, b.ou, false, b.bl⟩, 0) else (a, b, 7))
  else if k = 4 then (if a.fr || a.in_ then (⟨a.to, false, a.ou, false, a.bl⟩, ⟨false, b.fr, false, b.in_, b.bl⟩, 0) else (a, b, 7))
  else if k = 5 then (if a.bl then (a, b, 7) else (⟨a.to, a.fr, a.ou, a.in_, true⟩, b, 0))
  else if k = 6 then (if a.bl then (⟨a.to, a.fr, a.ou, a.in_, false⟩, b, 0) else (a, b, 7))
  else (a, b, 1)
def setRo (l : List En) (x : En) (keep : Bool) : List En :=
  if keep then (delK keyRo l (keyRo x)).takeWhile (fun y => !ltRo (keyRo x) (keyRo y)) ++ x :: (delK keyRo l (keyRo x)).dropWhile (fun y => !ltRo (keyRo x) (keyRo y)) else delK keyRo l (keyRo x)
def okDo (l : List En) (k : Int) (u o : ByteArray) : Bool := mayRo l && (isName u && (isName o && (!decide (u = o) && (decide (1 ≤ k) && decide (k ≤ 6)))))
def fullRo (l : List En) (u o : ByteArray) : Bool := !hasRo l u o && (decide (16 ≤ (ofRo l u).length) || decide (16 ≤ (ofRo l o).length))
def doRo (l : List En) (k : Int) (u o : ByteArray) : List En × Int :=
  if okDo l k u o = false then (l, 1)
  else
    let r := actI (getRo l u o) (getRo l o u) k
    if r.2.2 ≠ 0 then (l, r.2.2)
    else if fullRo l u o = true then (l, 5)
    else
      let keep := !(emptyI r.1 && emptyI r.2.1)
      (setRo (setRo l ⟨u, o, r.1⟩ keep) ⟨o, u, r.2.1⟩ keep, 0)
theorem setRo_put {l : List En} (h : OrdRo l) (x : En) : setRo l x true = putK keyRo ltRo l x := by
  unfold setRo putK insK
  rw [if_pos rfl]
  have hd := delK_ord (key := keyRo) (lt := ltRo) h (keyRo x)
  have e : ∀ m : List En, (∀ y ∈ m, keyRo y ≠ keyRo x) → m.takeWhile (fun y => !ltRo (keyRo x) (keyRo y)) = m.takeWhile (fun y => ltRo (keyRo y) (keyRo x)) ∧ m.dropWhile (fun y => !ltRo (keyRo x) (keyRo y)) = m.dropWhile (fun y => ltRo (keyRo y) (keyRo x)) := by
    intro m hm
    induction m with
    | nil => exact ⟨rfl, rfl⟩
    | cons y m ih =>
      have hy := hm y (List.mem_cons_self ..)
      have e1 : (!ltRo (keyRo x) (keyRo y)) = ltRo (keyRo y) (keyRo x) := by
        rcases ltRo_ord.tri _ _ hy with h1 | h1
        · rw [h1, ltRo_ord.asymm h1]; rfl
        · rw [h1, ltRo_ord.asymm h1]; rfl
      have ih' := ih fun z hz => hm z (List.mem_cons_of_mem _ hz)
      rw [List.takeWhile_cons, List.takeWhile_cons, List.dropWhile_cons, List.dropWhile_cons, e1]
      cases ltRo (keyRo y) (keyRo x) with
      | true => simp only [if_true]; exact ⟨by rw [ih'.1], ih'.2⟩
      | false => exact ⟨rfl, rfl⟩
  obtain ⟨e1, e2⟩ := e (delK keyRo l (keyRo x)) fun y hy => (delK_mem.1 hy).2
  rw [e1, e2]
theorem setRo_del (l : List En) (x : En) : setRo l x false = delK keyRo l (keyRo x) := by unfold setRo; rw [if_neg (by simp)]
theorem setRo_ord {l : List En} (h : OrdRo l) (x : En) (keep : Bool) : OrdRo (setRo l x keep) := by
  cases keep with
  | true => rw [setRo_put h]; exact putK_ord ltRo_ord h x
  | false => rw [setRo_del]; exact delK_ord h _
end Sp
end Go.Proofs.YtbpfcjdjhponaaaGreat
namespace Go.Proofs.YtbpfcjdjhponaaaGreat
namespace Sp
theorem doRo_err {l : List En} {k : Int} {u o : ByteArray} {r : List En} {e : Int} (h : doRo l k u o = (r, e)) (he : e ≠ 0) : r = l := by
  unfold doRo at h
  split at h
  · injection h with h1 h2; exact h1.symm
  · simp only at h
    split at h
    · injection h with h1 h2; exact h1.symm
    · split at h
      · injection h with h1 h2; exact h1.symm
      · injection h with h1 h2; exact absurd h2.symm he
theorem doRo_ok {l : List En} {k : Int} {u o : ByteArray} {r : List En} (h : doRo l k u o = (r, 0)) : okDo l k u o = true ∧ ∃ a b : It, actI (getRo l u o) (getRo l o u) k = (a, b, 0) ∧ r = setRo (setRo l ⟨u, o, a⟩ (!(emptyI a && emptyI b))) ⟨o, u, b⟩ (!(emptyI a && emptyI b)) := by
  unfold doRo at h
  split at h
  · injection h with h1 h2; exact absurd h2 (by decide)
  · rename_i hok
    refine ⟨by simpa using hok, ?_⟩
    obtain ⟨a, b, e, hact⟩ : ∃ a b e, actI (getRo l u o) (getRo l o u) k = (a, b, e) := ⟨_, _, _, rfl⟩
    rw [hact] at h
    simp only at h
    split at h
    · rename_i he
      injection h with h1 h2
      exact absurd h2 he
    · rename_i he
      have he0 : e = 0 := Decidable.not_not.1 he
      subst he0
      split at h
      · injection h with h1 h2; exact absurd h2 (by decide)
      · injection h with h1 h2
        exact ⟨a, b, hact, h1.symm⟩
theorem getK_setRo {l : List En} (h : OrdRo l) (x : En) (keep : Bool) (k : EnK) (hk : k ≠ keyRo x) : getK keyRo (setRo l x keep) k = getK keyRo l k := by
  cases keep with
  | true => rw [setRo_put h, getK_putK ltRo_ord h, if_neg hk]
  | false => rw [setRo_del, getK_delK, if_neg hk]
theorem getRo_setRo {l : List En} (h : OrdRo l) (x : En) (keep : Bool) (p q : ByteArray) (hk : (p, q) ≠ keyRo x) : getRo (setRo l x keep) p q = getRo l p q := by
  unfold getRo
  rw [getK_setRo h x keep _ hk]
theorem filter_setRo (l : List En) (x : En) (keep : Bool) (f : En → Bool) (hx : ∀ y : En, keyRo y = keyRo x → f y = false) : (setRo l x keep).filter f = l.filter f := by
  have h1 : (delK keyRo l (keyRo x)).filter f = l.filter f := by
    unfold delK
    rw [List.filter_filter]
    refine List.filter_congr fun y _ => ?_
    by_cases e : keyRo y = keyRo x
    · rw [hx y e, Bool.false_and]
    · rw [decide_eq_false e, Bool.not_false, Bool.and_true]
  unfold setRo
  split
  · rw [List.filter_append, List.filter_cons, hx x rfl, if_neg (by simp), ← List.filter_append, tw_dw, h1]
  · exact h1
theorem others_get {l : List En} (hm : mayRo l = true) {k : Int} {u o : ByteArray} {r : List En} (h : doRo l k u o = (r, 0)) {p q : ByteArray} (h1 : ¬ (p = u ∧ q = o)) (h2 : ¬ (q = u ∧ p = o)) : getRo r p q = getRo l p q := by
  obtain ⟨_, a, b, _, rfl⟩ := doRo_ok h
  rw [getRo_setRo (setRo_ord (mayRo_ord hm) _ _) _ _ _ _ (fun e => h2 ⟨congrArg Prod.snd e, congrArg Prod.fst e⟩), getRo_setRo (mayRo_ord hm) _ _ _ _ (fun e => h1 ⟨congrArg Prod.fst e, congrArg Prod.snd e⟩)]
theorem others_sees {l : List En} (hm : mayRo l = true) {k : Int} {u o : ByteArray} {r : List En} (h : doRo l k u o = (r, 0)) {p q : ByteArray} (h1 : ¬ (p = u ∧ q = o)) (h2 : ¬ (q = u ∧ p = o)) : seesRo r p q = seesRo l p q := by
  unfold seesRo
  rw [others_get hm h h1 h2, others_get hm h (fun e => h2 e) (fun e => h1 e)]
end Sp
end Go.Proofs.YtbpfcjdjhponaaaGreat
namespace Go.Proofs.YtbpfcjdjhponaaaGreat
namespace Sp
theorem fitI_symm (a b : It) : fitI a b = fitI b a := by
  obtain ⟨a1, a2, a3, a4, a5⟩ := a
  obtain ⟨b1, b2, b3, b4, b5⟩ := b
  simp only [fitI]
  cases a1 <;> cases a2 <;> cases a3 <;> cases a4 <;> cases b1 <;> cases b2 <;> cases b3 <;> cases b4 <;> rfl
theorem actI_fit {x y a b : It} {k : Int} (h : actI x y k = (a, b, 0)) : fitI a b = true ∧ ¬ (a = x ∧ b = y) := by
  obtain ⟨x1, x2, x3, x4, x5⟩ := x
  obtain ⟨y1, y2, y3, y4, y5⟩ := y
  unfold actI at h
  cases hf : fitI ⟨x1, x2, x3, x4, x5⟩ ⟨y1, y2, y3, y4, y5⟩ with
  | false => rw [hf] at h; simp at h
  | true =>
    rw [hf] at h
    simp only [Bool.true_eq_false, if_false] at h
    simp only [fitI, Bool.and_eq_true, beq_iff_eq] at hf
    obtain ⟨rfl, rfl, rfl, rfl, h5, h6⟩ := hf
    split at h
    · cases x5 <;> cases y5 <;> cases x1 <;> cases x3 <;> simp at h
      obtain ⟨rfl, rfl⟩ := h
      cases x2 <;> cases x4 <;> simp_all [fitI]
    · split at h
      · cases x5 <;> cases y5 <;> cases x4 <;> simp at h
        obtain ⟨rfl, rfl⟩ := h
        cases x1 <;> cases x2 <;> cases x3 <;> simp_all [fitI]
      · split at h
        · cases x1 <;> cases x3 <;> simp at h <;> obtain ⟨rfl, rfl⟩ := h <;> cases x2 <;> cases x4 <;> simp_all [fitI]
        · split at h
          · cases x2 <;> cases x4 <;> simp at h <;> obtain ⟨rfl, rfl⟩ := h <;> cases x1 <;> cases x3 <;> simp_all [fitI]
          · split at h
            · cases x5 <;> simp at h
              obtain ⟨rfl, rfl⟩ := h
              cases x1 <;> cases x2 <;> cases x3 <;> cases x4 <;> simp_all [fitI]
            · split at h
              · cases x5 <;> simp at h
                obtain ⟨rfl, rfl⟩ := h
                cases x1 <;> cases x2 <;> cases x3 <;> cases x4 <;> simp_all [fitI]
              · simp at h
theorem doRo_get {l : List En} (hm : OrdRo l) {u o : ByteArray} (huo : u ≠ o) (a b : It) (keep : Bool) (k : EnK) :
    getK keyRo (setRo (setRo l ⟨u, o, a⟩ keep) ⟨o, u, b⟩ keep) k = if k = (o, u) then (if keep then some ⟨o, u, b⟩ else none) else if k = (u, o) then (if keep then some ⟨u, o, a⟩ else none) else getK keyRo l k := by
  have e1 : keyRo ⟨u, o, a⟩ = (u, o) := rfl
  have e2 : keyRo ⟨o, u, b⟩ = (o, u) := rfl
  cases keep with
  | true =>
    rw [setRo_put (setRo_ord hm _ _), setRo_put hm, getK_putK ltRo_ord (putK_ord ltRo_ord hm _), getK_putK ltRo_ord hm, e1, e2]
    simp
  | false => rw [setRo_del, setRo_del, getK_delK, getK_delK, e1, e2]; simp
theorem ofRo_count (l : List En) (x : En) (p : ByteArray) (h : p ≠ x.o) (keep : Bool) : ofRo (setRo l x keep) p = ofRo l p := by
  unfold ofRo
  rw [filter_setRo _ _ _ _ fun y e => decide_eq_false fun e2 => h (e2.symm.trans (congrArg Prod.fst e))]
theorem ofRo_len_set {l : List En} (hm : OrdRo l) (x : En) (keep : Bool) : (ofRo (setRo l x keep) x.o).length ≤ (ofRo l x.o).length + (if hasRo l x.o x.c then 0 else 1) := by
  have hd : ((delK keyRo l (keyRo x)).filter fun y => decide (y.o = x.o)) = delK keyRo (l.filter fun y => decide (y.o = x.o)) (keyRo x) := by
    unfold delK
    rw [List.filter_filter, List.filter_filter]
    refine List.filter_congr fun y _ => ?_
    rw [Bool.and_comm]
  have hle : (delK keyRo (l.filter fun y => decide (y.o = x.o)) (keyRo x)).length ≤ (l.filter fun y => decide (y.o = x.o)).length := List.length_filter_le _ _
  unfold ofRo
  rw [List.length_map, List.length_map]
  cases keep with
  | false => rw [setRo_del, hd]; omega
  | true =>
    have hs : ((setRo l x true).filter fun y => decide (y.o = x.o)).length = (delK keyRo (l.filter fun y => decide (y.o = x.o)) (keyRo x)).length + 1 := by
      rw [← hd]
      unfold setRo
      rw [if_pos rfl, List.filter_append, List.filter_cons, if_pos (by simp), List.length_append, List.length_cons]
      have := congrArg List.length (congrArg (List.filter fun y : En => decide (y.o = x.o)) (tw_dw (delK keyRo l (keyRo x)) (fun y => !ltRo (keyRo x) (keyRo y))))
      rw [List.filter_append, List.length_append] at this
      omega
    rw [hs]
    cases hh : hasRo l x.o x.c with
    | false => simp; exact hle
    | true =>
      obtain ⟨y, hy, h1, h2⟩ := hasRo_mem.1 hh
      have hyf : y ∈ l.filter fun y => decide (y.o = x.o) := List.mem_filter.2 ⟨hy, decide_eq_true h1⟩
      have hk : keyRo y = keyRo x := Prod.ext h1 h2
      have := delK_len ltRo_ord (ord_filter (fun y : En => decide (y.o = x.o)) hm) hyf
      rw [hk] at this
      simp
      omega
theorem hasRo_get {l m : List En} {p q : ByteArray} (h : getK keyRo l (p, q) = getK keyRo m (p, q)) : hasRo l p q = hasRo m p q ∧ getRo l p q = getRo m p q := by
  unfold hasRo getRo
  rw [h]
  exact ⟨rfl, rfl⟩
theorem of_le {l : List En} (hm : mayRo l = true) (p : ByteArray) : (ofRo l p).length ≤ 16 := by
  cases he : ofRo l p with
  | nil => simp
  | cons c cs =>
    have : c ∈ ofRo l p := by rw [he]; exact List.mem_cons_self ..
    obtain ⟨x, hx, rfl, _⟩ := ofRo_mem.1 this
    have h1 := ((mayRo_iff l).1 hm).1 x hx
    unfold oneRo at h1
    simp only [Bool.and_eq_true, decide_eq_true_eq] at h1
    rw [← he]
    exact h1.2.2.2.1
theorem okDo_all {l : List En} {k : Int} {u o : ByteArray} (h : okDo l k u o = true) : mayRo l = true ∧ isName u = true ∧ isName o = true ∧ u ≠ o ∧ 1 ≤ k ∧ k ≤ 6 := by
  unfold okDo at h
  simp only [Bool.and_eq_true, Bool.not_eq_true', decide_eq_false_iff_not, decide_eq_true_eq] at h
  exact ⟨h.1, h.2.1, h.2.2.1, h.2.2.2.1, h.2.2.2.2.1, h.2.2.2.2.2⟩
theorem doRo_room {l : List En} {k : Int} {u o : ByteArray} {r : List En} (h : doRo l k u o = (r, 0)) : fullRo l u o = false := by
  unfold doRo at h
  split at h
  · injection h with h1 h2; exact absurd h2 (by decide)
  · simp only at h
    split at h
    · rename_i he
      injection h with h1 h2
      exact absurd h2 he
    · split at h
      · injection h with h1 h2; exact absurd h2 (by decide)
      · rename_i hf
        simpa using hf
theorem hasRo_sides {l : List En} (hm : mayRo l = true) (u o : ByteArray) : hasRo l u o = hasRo l o u := by
  rw [Bool.eq_iff_iff]
  constructor
  · intro h
    obtain ⟨x, hx, rfl, rfl⟩ := hasRo_mem.1 h
    exact (side hm hx).1
  · intro h
    obtain ⟨x, hx, rfl, rfl⟩ := hasRo_mem.1 h
    exact (side hm hx).1
theorem doRo_may {l : List En} {k : Int} {u o : ByteArray} {r : List En} (h : doRo l k u o = (r, 0)) : mayRo r = true := by
  have hroom := doRo_room h
  obtain ⟨hok, a, b, hact, hr⟩ := doRo_ok h
  obtain ⟨hm, hu, ho, huo, _, _⟩ := okDo_all hok
  obtain ⟨hfit, _⟩ := actI_fit hact
  have hord := mayRo_ord hm
  obtain ⟨keep, hk0⟩ : ∃ x, (!(emptyI a && emptyI b)) = x := ⟨_, rfl⟩
  rw [hk0] at hr
  have hg := fun k => (congrArg (fun m => getK keyRo m k) hr).trans (doRo_get hord huo a b keep k)
  have hro : OrdRo r := by rw [hr]; exact setRo_ord (setRo_ord hord _ _) _ _
  have hlen : ∀ p, (ofRo r p).length ≤ 16 := by
    intro p
    have h0 := of_le hm p
    unfold fullRo at hroom
    have hsd := hasRo_sides hm u o
    by_cases hpo : p = o
    · subst hpo
      have h2 := ofRo_len_set (setRo_ord hord ⟨u, p, a⟩ keep) ⟨p, u, b⟩ keep
      have h3 := ofRo_count l ⟨u, p, a⟩ p (fun e => huo e.symm) keep
      rw [hr]
      simp only at h2
      rw [h3] at h2
      have h4 : hasRo (setRo l ⟨u, p, a⟩ keep) p u = hasRo l p u := (hasRo_get (getK_setRo hord ⟨u, p, a⟩ keep (p, u) (fun e => huo (show u = p from (congrArg Prod.fst e).symm)))).1
      rw [h4] at h2
      cases hh : hasRo l p u with
      | true => rw [hh] at h2; simp at h2; omega
      | false =>
        rw [hsd, hh] at hroom
        rw [hh] at h2
        simp at hroom h2
        omega
    · by_cases hpu : p = u
      · subst hpu
        rw [hr, ofRo_count _ _ _ hpo]
        have h2 := ofRo_len_set hord ⟨p, o, a⟩ keep
        simp only at h2
        cases hh : hasRo l p o with
        | true => rw [hh] at h2; simp at h2; omega
        | false =>
          rw [hh] at hroom h2
          simp at hroom h2
          omega
      · rw [hr, ofRo_count _ _ _ hpo, ofRo_count _ _ _ hpu]
        exact h0
  have hou : ((o, u) : EnK) ≠ (u, o) := fun e => huo (congrArg Prod.fst e).symm
  refine (mayRo_iff r).2 ⟨fun s hs => ?_, adj_of_ord hro⟩
  have hgs := getK_of_mem ltRo_ord hro hs
  rw [hg] at hgs
  unfold oneRo
  simp only [Bool.and_eq_true, decide_eq_true_eq, Bool.not_eq_true']
  by_cases k1 : keyRo s = (o, u)
  · rw [if_pos k1] at hgs
    cases keep with
    | false => simp at hgs
    | true =>
      simp at hgs
      have hs2 := hg (u, o)
      rw [if_neg (Ne.symm hou), if_pos rfl, if_pos rfl] at hs2
      have hg2 : getRo r u o = a := getRo_some hs2
      have hh2 : hasRo r u o = true := by unfold hasRo; rw [hs2]; rfl
      subst hgs
      simp only
      rw [hg2]
      refine ⟨ho, hu, decide_eq_false (fun e => huo e.symm), hlen _, hh2, by rw [fitI_symm]; exact hfit, ?_⟩
      rw [Bool.not_eq_true'] at hk0
      rw [Bool.and_comm]; exact hk0
  · rw [if_neg k1] at hgs
    by_cases k2 : keyRo s = (u, o)
    · rw [if_pos k2] at hgs
      cases keep with
      | false => simp at hgs
      | true =>
        simp at hgs
        have hs2 := hg (o, u)
        rw [if_pos rfl, if_pos rfl] at hs2
        have hg2 : getRo r o u = b := getRo_some hs2
        have hh2 : hasRo r o u = true := by unfold hasRo; rw [hs2]; rfl
        subst hgs
        simp only
        rw [hg2]
        rw [Bool.not_eq_true'] at hk0
        exact ⟨hu, ho, decide_eq_false huo, hlen _, hh2, hfit, hk0⟩
    · rw [if_neg k2] at hgs
      obtain ⟨hsl, _⟩ := getK_mem hgs
      have h1 := ((mayRo_iff l).1 hm).1 s hsl
      unfold oneRo at h1
      simp only [Bool.and_eq_true, decide_eq_true_eq, Bool.not_eq_true'] at h1
      have hs3 := hg (s.c, s.o)
      rw [if_neg (fun e => k2 (Prod.ext (congrArg Prod.snd e) (congrArg Prod.fst e))), if_neg (fun e => k1 (Prod.ext (congrArg Prod.snd e) (congrArg Prod.fst e)))] at hs3
      obtain ⟨h3, h4⟩ := hasRo_get hs3
      rw [h3, h4]
      exact ⟨h1.1, h1.2.1, h1.2.2.1, hlen _, h1.2.2.2.2.1, h1.2.2.2.2.2.1, h1.2.2.2.2.2.2⟩
end Sp
end Go.Proofs.YtbpfcjdjhponaaaGreat
namespace Go.Proofs.YtbpfcjdjhponaaaGreat
open Go.RowKit
namespace Sp
def oddB (c : UInt8) : Bool := decide (c.toNat < 32) || decide (126 < c.toNat)
def oddL (l : List UInt8) : Bool := l.any oddB
def mayV (a p n : Int) (t : ByteArray) : Bool :=
  decide (1 ≤ a) && (decide (a ≤ 4) && (decide (-128 ≤ p) && (decide (p ≤ 127) && (decide (0 ≤ n) && (decide (n ≤ 1099511627776) && (decide ((t.size : Int) ≤ 32) && !oddL t.data.toList))))))
def evenTo (s : ByteArray) (k : Nat) : Prop := ∀ j (h : j < s.size), j < k → oddB s[j] = false
theorem evenTo_succ (s : ByteArray) (k : Nat) (h : k < s.size) (o : evenTo s k) (hk : oddB s[k] = false) : evenTo s (k + 1) := by
  intro j hj hlt
  rcases Nat.lt_or_ge j k with h' | h'
  · exact o j hj h'
  · obtain rfl : j = k := by omega
    exact hk
theorem oddL_false (s : ByteArray) (k : Nat) (hk : s.size ≤ k) (o : evenTo s k) : oddL s.data.toList = false := by
  unfold oddL
  rw [List.any_eq_false]
  intro x hx
  obtain ⟨j, hj, rfl⟩ := List.getElem_of_mem hx
  have hj' : j < s.size := by rw [size_eq_length]; exact hj
  have := o j hj' (by omega)
  rw [show s.data.toList[j] = s[j] from rfl, this]
  simp
theorem oddL_true (s : ByteArray) (k : Nat) (hk : k < s.size) (o : oddB s[k] = true) : oddL s.data.toList = true := by
  unfold oddL
  rw [List.any_eq_true]
  exact ⟨s[k], List.getElem_mem (by rw [← size_eq_length]; exact hk), o⟩
end Sp
open Sp
set_option maxRecDepth 100000 in
theorem odd_calls (c : UInt8) (w : World) : Calls Tryz.prog 124 #[.int .u8 (c.toNat : Nat)] w fun e w' => e = .returned (.bool (oddB c)) ∧ w = w' := by
  obtain ⟨n, hn⟩ : ∃ n, c.toNat = n := ⟨_, rfl⟩
  have HV : Hid ((decide ((n : Int) < 32) || decide (126 < (n : Int))) = oddB c) := by
    show _ = _
    rw [oddB, hn]
    congr 1 <;> (rw [decide_eq_decide]; omega)
  rw [hn]
  clear hn
  by_cases h : (n : Int) < 32
  · go_enter Tryz.func124, Tryz.ntmps124
    go_wp2
    go_ret
    exact ⟨ret_bool (by rw [← HV.out, decide_eq_true h]; rfl), rfl⟩
  · go_enter Tryz.func124, Tryz.ntmps124
    go_wp2
    go_ret
    exact ⟨ret_bool (by rw [← HV.out, decide_eq_false (show ¬ (n : Int) < 32 by omega)]; rfl), rfl⟩
theorem odd_is (c : UInt8) (n : Nat) (b : Bool) (w : World) (hc : Hid (c.toNat = n)) (hb : Hid (oddB c = b)) : Calls Tryz.prog 124 #[.int .u8 (n : Nat)] w fun e w' => e = .returned (.bool b) ∧ w = w' := by
  rw [← hc.out, ← hb.out]
  exact odd_calls c w
set_option maxHeartbeats 1000000 in
set_option maxRecDepth 100000 in
theorem indexOdd_calls (s : ByteArray) (k c : Nat) (w : World) (hs : s.size ≤ 140737488351232) (ht : TextRow 5 w k s) :
    Calls Tryz.prog 165 #[.slice (some ⟨k, 0, none⟩) s.size c, .func (.func 124) #[] #[]] w fun e w' => ∃ r : Int, e = .returned (.int .i64 r) ∧ decide (0 ≤ r) = oddL s.data.toList ∧ w = w' := by
  go_enter Tryz.func165, Tryz.ntmps165
  go_wp2
  go_loop [8] (fun v8 => ∃ i : Nat, v8 = .int .i64 i ∧ i ≤ s.size ∧ Hid (evenTo s i)) (fun v8 => (s.size - intOf v8).toNat)
  case atStart => exact ⟨0, rfl, Nat.zero_le _, fun j _ h => absurd h (by omega)⟩
  case round =>
    obtain ⟨i, rfl, hi, HE⟩ := hrel
    by_cases hlt : i < s.size
    · obtain ⟨n, hn⟩ : ∃ n, (s[i]'hlt).toNat = n := ⟨_, rfl⟩
      have hcell : w.cell? ⟨k, i, none⟩ = some (.int .u8 n) := by rw [ht.cell i hlt, hn]
      have HN := Lib.hid hn
      clear hn
      cases hb : oddB (s[i]'hlt) with
      | true =>
        have HB := Lib.hid hb
        clear hb
        have HR : Hid (decide (0 ≤ (i : Int)) = oddL s.data.toList) := by show _ = _; rw [oddL_true s i hlt HB.out]; exact decide_eq_true (by omega)
        go_wp2_with (go_at_call 124; refine (odd_is (s[i]'hlt) n true _ HN HB).mono ?_; rintro e w1 ⟨rfl, rfl⟩)
        go_ret
        exact ⟨_, rfl, HR.out, rfl⟩
      | false =>
        have HB := Lib.hid hb
        clear hb
        have HE2 : Hid (evenTo s (i + 1)) := evenTo_succ s i hlt HE.out HB.out
        go_wp2_with (go_at_call 124; refine (odd_is (s[i]'hlt) n false _ HN HB).mono ?_; rintro e w1 ⟨rfl, rfl⟩)
        go_round
        case rel => exact ⟨i + 1, by go_num, by omega, HE2⟩
        case measure => simp [intOf]; omega
    · have HR : Hid (decide (0 ≤ (-1 : Int)) = oddL s.data.toList) := by show _ = _; rw [oddL_false s i (by omega) HE.out]; rfl
      go_wp2
      go_ret
      exact ⟨_, rfl, HR.out, rfl⟩
set_option maxHeartbeats 1000000 in
set_option maxRecDepth 100000 in
theorem containsOdd_calls (s : ByteArray) (k c : Nat) (w : World) (hs : s.size ≤ 140737488351232) (ht : TextRow 5 w k s) :
    Calls Tryz.prog 125 #[.slice (some ⟨k, 0, none⟩) s.size c, .func (.func 124) #[] #[]] w fun e w' => e = .returned (.bool (oddL s.data.toList)) ∧ w = w' := by
  go_enter Tryz.func125, Tryz.ntmps125
  go_wp2_with fail
  refine (indexOdd_calls s k c w hs ht).mono ?_
  rintro e w1 ⟨r, rfl, hr, rfl⟩
  have HR := Lib.hid hr
  clear hr
  go_wp2
  go_ret
  exact ⟨ret_bool HR.out, rfl⟩
set_option maxHeartbeats 2000000 in
set_option maxRecDepth 100000 in
theorem may_no0 (a p n : Int) (t : ByteArray) (w : World) (ht : t.size ≤ 140737488351232)  (h : a < 1) :
    Calls Tryz.prog 75 #[.agg #[.int .i64 a, .int .i64 p, .int .i64 n, .string t]] w fun e w' => e = .returned (.bool (mayV a p n t)) ∧ Below w.heap.size w w' := by
  have HV : Hid (mayV a p n t = false) := by show _ = _; unfold mayV; rw [decide_eq_false (show ¬ (1 ≤ a) by omega)]; rfl
  go_enter Tryz.func75, Tryz.ntmps75
  go_wp2
  go_ret
  rw [HV.out]
  exact ⟨rfl, (Below.refl _ _).alloc (Nat.le_refl _) _⟩
set_option maxHeartbeats 2000000 in
set_option maxRecDepth 100000 in
theorem may_no1 (a p n : Int) (t : ByteArray) (w : World) (ht : t.size ≤ 140737488351232) (h0 : 1 ≤ a) (h : 4 < a) :
    Calls Tryz.prog 75 #[.agg #[.int .i64 a, .int .i64 p, .int .i64 n, .string t]] w fun e w' => e = .returned (.bool (mayV a p n t)) ∧ Below w.heap.size w w' := by
  have HV : Hid (mayV a p n t = false) := by show _ = _; unfold mayV; rw [decide_eq_true h0, decide_eq_false (show ¬ (a ≤ 4) by omega)]; rfl
  go_enter Tryz.func75, Tryz.ntmps75
  go_wp2
  go_ret
  rw [HV.out]
  exact ⟨rfl, (Below.refl _ _).alloc (Nat.le_refl _) _⟩
set_option maxHeartbeats 2000000 in
set_option maxRecDepth 100000 in
theorem may_no2 (a p n : Int) (t : ByteArray) (w : World) (ht : t.size ≤ 140737488351232) (h0 : 1 ≤ a) (h1 : a ≤ 4) (h : p < -128) :
    Calls Tryz.prog 75 #[.agg #[.int .i64 a, .int .i64 p, .int .i64 n, .string t]] w fun e w' => e = .returned (.bool (mayV a p n t)) ∧ Below w.heap.size w w' := by
  have HV : Hid (mayV a p n t = false) := by show _ = _; unfold mayV; rw [decide_eq_true h0, decide_eq_true h1, decide_eq_false (show ¬ (-128 ≤ p) by omega)]; rfl
  go_enter Tryz.func75, Tryz.ntmps75
  go_wp2
  go_ret
  rw [HV.out]
  exact ⟨rfl, (Below.refl _ _).alloc (Nat.le_refl _) _⟩
set_option maxHeartbeats 2000000 in
set_option maxRecDepth 100000 in
theorem may_no3 (a p n : Int) (t : ByteArray) (w : World) (ht : t.size ≤ 140737488351232) (h0 : 1 ≤ a) (h1 : a ≤ 4) (h2 : -128 ≤ p) (h : 127 < p) :
    Calls Tryz.prog 75 #[.agg #[.int .i64 a, .int .i64 p, .int .i64 n, .string t]] w fun e w' => e = .returned (.bool (mayV a p n t)) ∧ Below w.heap.size w w' := by
  have HV : Hid (mayV a p n t = false) := by show _ = _; unfold mayV; rw [decide_eq_true h0, decide_eq_true h1, decide_eq_true h2, decide_eq_false (show ¬ (p ≤ 127) by omega)]; rfl
  go_enter Tryz.func75, Tryz.ntmps75
  go_wp2
  go_ret
  rw [HV.out]
  exact ⟨rfl, (Below.refl _ _).alloc (Nat.le_refl _) _⟩
set_option maxHeartbeats 2000000 in
set_option maxRecDepth 100000 in
theorem may_no4 (a p n : Int) (t : ByteArray) (w : World) (ht : t.size ≤ 140737488351232) (h0 : 1 ≤ a) (h1 : a ≤ 4) (h2 : -128 ≤ p) (h3 : p ≤ 127) (h : n < 0) :
    Calls Tryz.prog 75 #[.agg #[.int .i64 a, .int .i64 p, .int .i64 n, .string t]] w fun e w' => e = .returned (.bool (mayV a p n t)) ∧ Below w.heap.size w w' := by
  have HV : Hid (mayV a p n t = false) := by show _ = _; unfold mayV; rw [decide_eq_true h0, decide_eq_true h1, decide_eq_true h2, decide_eq_true h3, decide_eq_false (show ¬ (0 ≤ n) by omega)]; rfl
  go_enter Tryz.func75, Tryz.ntmps75
  go_wp2
  go_ret
  rw [HV.out]
  exact ⟨rfl, (Below.refl _ _).alloc (Nat.le_refl _) _⟩
set_option maxHeartbeats 2000000 in
set_option maxRecDepth 100000 in
theorem may_no5 (a p n : Int) (t : ByteArray) (w : World) (ht : t.size ≤ 140737488351232) (h0 : 1 ≤ a) (h1 : a ≤ 4) (h2 : -128 ≤ p) (h3 : p ≤ 127) (h4 : 0 ≤ n) (h : 1099511627776 < n) :
    Calls Tryz.prog 75 #[.agg #[.int .i64 a, .int .i64 p, .int .i64 n, .string t]] w fun e w' => e = .returned (.bool (mayV a p n t)) ∧ Below w.heap.size w w' := by
  have HV : Hid (mayV a p n t = false) := by show _ = _; unfold mayV; rw [decide_eq_true h0, decide_eq_true h1, decide_eq_true h2, decide_eq_true h3, decide_eq_true h4, decide_eq_false (show ¬ (n ≤ 1099511627776) by omega)]; rfl
  go_enter Tryz.func75, Tryz.ntmps75
  go_wp2
  go_ret
  rw [HV.out]
  exact ⟨rfl, (Below.refl _ _).alloc (Nat.le_refl _) _⟩
set_option maxHeartbeats 2000000 in
set_option maxRecDepth 100000 in
theorem may_no6 (a p n : Int) (t : ByteArray) (w : World) (ht : t.size ≤ 140737488351232) (h0 : 1 ≤ a) (h1 : a ≤ 4) (h2 : -128 ≤ p) (h3 : p ≤ 127) (h4 : 0 ≤ n) (h5 : n ≤ 1099511627776) (h : 32 < (t.size : Int)) :
    Calls Tryz.prog 75 #[.agg #[.int .i64 a, .int .i64 p, .int .i64 n, .string t]] w fun e w' => e = .returned (.bool (mayV a p n t)) ∧ Below w.heap.size w w' := by
  have HV : Hid (mayV a p n t = false) := by show _ = _; unfold mayV; rw [decide_eq_true h0, decide_eq_true h1, decide_eq_true h2, decide_eq_true h3, decide_eq_true h4, decide_eq_true h5, decide_eq_false (show ¬ ((t.size : Int) ≤ 32) by omega)]; rfl
  go_enter Tryz.func75, Tryz.ntmps75
  go_wp2
  go_ret
  rw [HV.out]
  exact ⟨rfl, (Below.refl _ _).alloc (Nat.le_refl _) _⟩
set_option maxHeartbeats 2000000 in
set_option maxRecDepth 100000 in
theorem may_yes (a p n : Int) (t : ByteArray) (w : World) (ht : t.size ≤ 140737488351232) (h0 : 1 ≤ a) (h1 : a ≤ 4) (h2 : -128 ≤ p) (h3 : p ≤ 127) (h4 : 0 ≤ n) (h5 : n ≤ 1099511627776) (h6 : (t.size : Int) ≤ 32) :
    Calls Tryz.prog 75 #[.agg #[.int .i64 a, .int .i64 p, .int .i64 n, .string t]] w fun e w' => e = .returned (.bool (mayV a p n t)) ∧ Below w.heap.size w w' := by
  have HV : Hid (mayV a p n t = !oddL t.data.toList) := by show _ = _; unfold mayV; rw [decide_eq_true h0, decide_eq_true h1, decide_eq_true h2, decide_eq_true h3, decide_eq_true h4, decide_eq_true h5, decide_eq_true h6]; rfl
  obtain ⟨b, hb⟩ : ∃ b, oddL t.data.toList = b := ⟨_, rfl⟩
  have HB := Lib.hid hb
  clear hb
  have kc := fun W : World => Lib.run_convert_string_bytes (P := Tryz.prog) W 9 80 5 t Tryz.underlying9 Tryz.underlying80 Tryz.underlying5
  have htr : TextRow 5 (Lib.bytesWorld (w.alloc (.cells #[.int .i64 a, .int .i64 p, .int .i64 n, .string t] 27)) 5 t) (w.heap.size + 1) t := by
    have := TextRow.new 5 (w.alloc (.cells #[.int .i64 a, .int .i64 p, .int .i64 n, .string t] 27)) t (by simp only [maxLen]; omega)
    simpa using this
  go_enter Tryz.func75, Tryz.ntmps75
  go_wp2_with fail
  refine (re_ (containsOdd_calls t (w.heap.size + 1) _ _ ht htr) (ret_bool HB.out)).mono ?_
  rintro e w1 ⟨rfl, rfl⟩
  go_wp2
  go_ret
  rw [HV.out, HB.out]
  exact ⟨rfl, below_bytes ((Below.refl _ _).alloc (Nat.le_refl _) _) (by simp) _ _⟩
theorem may_calls (a p n : Int) (t : ByteArray) (w : World) (ht : t.size ≤ 140737488351232) :
    Calls Tryz.prog 75 #[.agg #[.int .i64 a, .int .i64 p, .int .i64 n, .string t]] w fun e w' => e = .returned (.bool (mayV a p n t)) ∧ Below w.heap.size w w' := by
  by_cases h0' : a < 1
  · exact may_no0 a p n t w ht  h0'
  have h0 : 1 ≤ a := by omega
  by_cases h1' : 4 < a
  · exact may_no1 a p n t w ht h0 h1'
  have h1 : a ≤ 4 := by omega
  by_cases h2' : p < -128
  · exact may_no2 a p n t w ht h0 h1 h2'
  have h2 : -128 ≤ p := by omega
  by_cases h3' : 127 < p
  · exact may_no3 a p n t w ht h0 h1 h2 h3'
  have h3 : p ≤ 127 := by omega
  by_cases h4' : n < 0
  · exact may_no4 a p n t w ht h0 h1 h2 h3 h4'
  have h4 : 0 ≤ n := by omega
  by_cases h5' : 1099511627776 < n
  · exact may_no5 a p n t w ht h0 h1 h2 h3 h4 h5'
  have h5 : n ≤ 1099511627776 := by omega
  by_cases h6' : 32 < (t.size : Int)
  · exact may_no6 a p n t w ht h0 h1 h2 h3 h4 h5 h6'
  have h6 : (t.size : Int) ≤ 32 := by omega
  exact may_yes a p n t w ht h0 h1 h2 h3 h4 h5 h6
set_option maxHeartbeats 2000000 in
set_option maxRecDepth 100000 in
theorem refMay_no0 (a p n : Int) (t : ByteArray) (w : World) (ht : t.size ≤ 140737488351232)  (h : a < 1) :
    Calls Tryz.prog 132 #[.agg #[.int .i64 a, .int .i64 p, .int .i64 n, .string t]] w fun e w' => e = .returned (.bool (mayV a p n t)) ∧ Below w.heap.size w w' := by
  have HV : Hid (mayV a p n t = false) := by show _ = _; unfold mayV; rw [decide_eq_false (show ¬ (1 ≤ a) by omega)]; rfl
  go_enter Tryz.func132, Tryz.ntmps132
  go_wp2
  go_ret
  rw [HV.out]
  exact ⟨rfl, (Below.refl _ _).alloc (Nat.le_refl _) _⟩
set_option maxHeartbeats 2000000 in
set_option maxRecDepth 100000 in
theorem refMay_no1 (a p n : Int) (t : ByteArray) (w : World) (ht : t.size ≤ 140737488351232) (h0 : 1 ≤ a) (h : 4 < a) :
    Calls Tryz.prog 132 #[.agg #[.int .i64 a, .int .i64 p, .int .i64 n, .string t]] w fun e w' => e = .returned (.bool (mayV a p n t)) ∧ Below w.heap.size w w' := by
  have HV : Hid (mayV a p n t = false) := by show _ = _; unfold mayV; rw [decide_eq_true h0, decide_eq_false (show ¬ (a ≤ 4) by omega)]; rfl
  go_enter Tryz.func132, Tryz.ntmps132
  go_wp2
  go_ret
  rw [HV.out]
  exact ⟨rfl, (Below.refl _ _).alloc (Nat.le_refl _) _⟩
set_option maxHeartbeats 2000000 in
set_option maxRecDepth 100000 in
theorem refMay_no2 (a p n : Int) (t : ByteArray) (w : World) (ht : t.size ≤ 140737488351232) (h0 : 1 ≤ a) (h1 : a ≤ 4) (h : p < -128) :
    Calls Tryz.prog 132 #[.agg #[.int .i64 a, .int .i64 p, .int .i64 n, .string t]] w fun e w' => e = .returned (.bool (mayV a p n t)) ∧ Below w.heap.size w w' := by
  have HV : Hid (mayV a p n t = false) := by show _ = _; unfold mayV; rw [decide_eq_true h0, decide_eq_true h1, decide_eq_false (show ¬ (-128 ≤ p) by omega)]; rfl
  go_enter Tryz.func132, Tryz.ntmps132
  go_wp2
  go_ret
  rw [HV.out]
  exact ⟨rfl, (Below.refl _ _).alloc (Nat.le_refl _) _⟩
set_option maxHeartbeats 2000000 in
set_option maxRecDepth 100000 in
theorem refMay_no3 (a p n : Int) (t : ByteArray) (w : World) (ht : t.size ≤ 140737488351232) (h0 : 1 ≤ a) (h1 : a ≤ 4) (h2 : -128 ≤ p) (h : 127 < p) :
    Calls Tryz.prog 132 #[.agg #[.int .i64 a, .int .i64 p, .int .i64 n, .string t]] w fun e w' => e = .returned (.bool (mayV a p n t)) ∧ Below w.heap.size w w' := by
  have HV : Hid (mayV a p n t = false) := by show _ = _; unfold mayV; rw [decide_eq_true h0, decide_eq_true h1, decide_eq_true h2, decide_eq_false (show ¬ (p ≤ 127) by omega)]; rfl
  go_enter Tryz.func132, Tryz.ntmps132
  go_wp2
  go_ret
  rw [HV.out]
  exact ⟨rfl, (Below.refl _ _).alloc (Nat.le_refl _) _⟩
set_option maxHeartbeats 2000000 in
set_option maxRecDepth 100000 in
theorem refMay_no4 (a p n : Int) (t : ByteArray) (w : World) (ht : t.size ≤ 140737488351232) (h0 : 1 ≤ a) (h1 : a ≤ 4) (h2 : -128 ≤ p) (h3 : p ≤ 127) (h : n < 0) :
    Calls Tryz.prog 132 #[.agg #[.int .i64 a, .int .i64 p, .int .i64 n, .string t]] w fun e w' => e = .returned (.bool (mayV a p n t)) ∧ Below w.heap.size w w' := by
  have HV : Hid (mayV a p n t = false) := by show _ = _; unfold mayV; rw [decide_eq_true h0, decide_eq_true h1, decide_eq_true h2, decide_eq_true h3, decide_eq_false (show ¬ (0 ≤ n) by omega)]; rfl
  go_enter Tryz.func132, Tryz.ntmps132
  go_wp2
  go_ret
  rw [HV.out]
  exact ⟨rfl, (Below.refl _ _).alloc (Nat.le_refl _) _⟩
set_option maxHeartbeats 2000000 in
set_option maxRecDepth 100000 in
theorem refMay_no5 (a p n : Int) (t : ByteArray) (w : World) (ht : t.size ≤ 140737488351232) (h0 : 1 ≤ a) (h1 : a ≤ 4) (h2 : -128 ≤ p) (h3 : p ≤ 127) (h4 : 0 ≤ n) (h : 1099511627776 < n) :
    Calls Tryz.prog 132 #[.agg #[.int .i64 a, .int .i64 p, .int .i64 n, .string t]] w fun e w' => e = .returned (.bool (mayV a p n t)) ∧ Below w.heap.size w w' := by
  have HV : Hid (mayV a p n t = false) := by show _ = _; unfold mayV; rw [decide_eq_true h0, decide_eq_true h1, decide_eq_true h2, decide_eq_true h3, decide_eq_true h4, decide_eq_false (show ¬ (n ≤ 1099511627776) by omega)]; rfl
  go_enter Tryz.func132, Tryz.ntmps132
  go_wp2
  go_ret
  rw [HV.out]
  exact ⟨rfl, (Below.refl _ _).alloc (Nat.le_refl _) _⟩
set_option maxHeartbeats 2000000 in
set_option maxRecDepth 100000 in
theorem refMay_no6 (a p n : Int) (t : ByteArray) (w : World) (ht : t.size ≤ 140737488351232) (h0 : 1 ≤ a) (h1 : a ≤ 4) (h2 : -128 ≤ p) (h3 : p ≤ 127) (h4 : 0 ≤ n) (h5 : n ≤ 1099511627776) (h : 32 < (t.size : Int)) :
    Calls Tryz.prog 132 #[.agg #[.int .i64 a, .int .i64 p, .int .i64 n, .string t]] w fun e w' => e = .returned (.bool (mayV a p n t)) ∧ Below w.heap.size w w' := by
  have HV : Hid (mayV a p n t = false) := by show _ = _; unfold mayV; rw [decide_eq_true h0, decide_eq_true h1, decide_eq_true h2, decide_eq_true h3, decide_eq_true h4, decide_eq_true h5, decide_eq_false (show ¬ ((t.size : Int) ≤ 32) by omega)]; rfl
  go_enter Tryz.func132, Tryz.ntmps132
  go_wp2
  go_ret
  rw [HV.out]
  exact ⟨rfl, (Below.refl _ _).alloc (Nat.le_refl _) _⟩
set_option maxHeartbeats 2000000 in
set_option maxRecDepth 100000 in
theorem refMay_yes (a p n : Int) (t : ByteArray) (w : World) (ht : t.size ≤ 140737488351232) (h0 : 1 ≤ a) (h1 : a ≤ 4) (h2 : -128 ≤ p) (h3 : p ≤ 127) (h4 : 0 ≤ n) (h5 : n ≤ 1099511627776) (h6 : (t.size : Int) ≤ 32) :
    Calls Tryz.prog 132 #[.agg #[.int .i64 a, .int .i64 p, .int .i64 n, .string t]] w fun e w' => e = .returned (.bool (mayV a p n t)) ∧ Below w.heap.size w w' := by
  have HV : Hid (mayV a p n t = !oddL t.data.toList) := by show _ = _; unfold mayV; rw [decide_eq_true h0, decide_eq_true h1, decide_eq_true h2, decide_eq_true h3, decide_eq_true h4, decide_eq_true h5, decide_eq_true h6]; rfl
  go_enter Tryz.func132, Tryz.ntmps132
  go_wp2
  go_loop [3] (fun v3 => ∃ i : Nat, v3 = .int .i64 i ∧ i ≤ t.size ∧ Hid (evenTo t i)) (fun v3 => (t.size - intOf v3).toNat)
  case atStart => exact ⟨0, rfl, Nat.zero_le _, fun j _ h => absurd h (by omega)⟩
  case round =>
    obtain ⟨i, rfl, hi, HE⟩ := hrel
    by_cases hlt : i < t.size
    · obtain ⟨c, hc⟩ : ∃ c, (t[i]'hlt).toNat = c := ⟨_, rfl⟩
      have HC := Lib.hid hc
      by_cases hc1 : c < 32
      · have HR : Hid (oddL t.data.toList = true) := oddL_true t i hlt (by unfold oddB; rw [HC.out, decide_eq_true hc1]; rfl)
        go_wp2
        go_ret
        rw [HV.out, HR.out]
        exact ⟨rfl, (Below.refl _ _).alloc (Nat.le_refl _) _⟩
      · by_cases hc2 : 126 < c
        · have HR : Hid (oddL t.data.toList = true) := oddL_true t i hlt (by unfold oddB; rw [HC.out, decide_eq_true hc2, Bool.or_true])
          go_wp2
          go_ret
          rw [HV.out, HR.out]
          exact ⟨rfl, (Below.refl _ _).alloc (Nat.le_refl _) _⟩
        · have HE2 : Hid (evenTo t (i + 1)) := evenTo_succ t i hlt HE.out (by unfold oddB; rw [HC.out, decide_eq_false hc1, decide_eq_false hc2]; rfl)
          go_wp2
          go_round
          case rel => exact ⟨i + 1, by go_num, by omega, HE2⟩
          case measure => simp [intOf]; omega
    · have HR : Hid (oddL t.data.toList = false) := oddL_false t i (by omega) HE.out
      go_wp2
      go_ret
      rw [HV.out, HR.out]
      exact ⟨rfl, (Below.refl _ _).alloc (Nat.le_refl _) _⟩
theorem refMay_calls (a p n : Int) (t : ByteArray) (w : World) (ht : t.size ≤ 140737488351232) :
    Calls Tryz.prog 132 #[.agg #[.int .i64 a, .int .i64 p, .int .i64 n, .string t]] w fun e w' => e = .returned (.bool (mayV a p n t)) ∧ Below w.heap.size w w' := by
  by_cases h0' : a < 1
  · exact refMay_no0 a p n t w ht  h0'
  have h0 : 1 ≤ a := by omega
  by_cases h1' : 4 < a
  · exact refMay_no1 a p n t w ht h0 h1'
  have h1 : a ≤ 4 := by omega
  by_cases h2' : p < -128
  · exact refMay_no2 a p n t w ht h0 h1 h2'
  have h2 : -128 ≤ p := by omega
  by_cases h3' : 127 < p
  · exact refMay_no3 a p n t w ht h0 h1 h2 h3'
  have h3 : p ≤ 127 := by omega
  by_cases h4' : n < 0
  · exact refMay_no4 a p n t w ht h0 h1 h2 h3 h4'
  have h4 : 0 ≤ n := by omega
  by_cases h5' : 1099511627776 < n
  · exact refMay_no5 a p n t w ht h0 h1 h2 h3 h4 h5'
  have h5 : n ≤ 1099511627776 := by omega
  by_cases h6' : 32 < (t.size : Int)
  · exact refMay_no6 a p n t w ht h0 h1 h2 h3 h4 h5 h6'
  have h6 : (t.size : Int) ≤ 32 := by omega
  exact refMay_yes a p n t w ht h0 h1 h2 h3 h4 h5 h6
end Go.Proofs.YtbpfcjdjhponaaaGreat
namespace Go.Proofs.YtbpfcjdjhponaaaGreat
namespace Sp
structure Se where
  u : ByteArray
  i : Int
  v : Int × Int × Int × ByteArray
instance : DecidableEq Se := fun a b => decidable_of_iff (a.u = b.u ∧ a.i = b.i ∧ a.v = b.v) ⟨fun h => by cases a; cases b; simp only at h; obtain ⟨h1, h2, h3⟩ := h; subst h1 h2 h3; rfl, fun h => by subst h; exact ⟨rfl, rfl, rfl⟩⟩
abbrev SeK := ByteArray × Int
def keySe (s : Se) : SeK := (s.u, s.i)
def ltSe (a b : SeK) : Bool := less a.1 b.1 || (decide (a.1 = b.1) && decide (a.2 < b.2))
theorem ltSe_ord : SOrd ltSe where
  irr a := by simp [ltSe, less_irrefl]
  tr a b c h1 h2 := by
    simp only [ltSe, Bool.or_eq_true, Bool.and_eq_true, decide_eq_true_eq] at h1 h2 ⊢
    rcases h1 with h1 | ⟨e1, h1⟩ <;> rcases h2 with h2 | ⟨e2, h2⟩
    · exact .inl (less_trans _ _ _ h1 h2)
    · rw [e2] at h1; exact .inl h1
    · rw [← e1] at h2; exact .inl h2
    · exact .inr ⟨e1.trans e2, by omega⟩
  tri a b h := by
    simp only [ltSe, Bool.or_eq_true, Bool.and_eq_true, decide_eq_true_eq]
    by_cases e : a.1 = b.1
    · have : a.2 ≠ b.2 := fun e2 => h (Prod.ext e e2)
      rcases Int.lt_or_gt_of_ne this with h2 | h2
      · exact .inl (.inr ⟨e, h2⟩)
      · exact .inr (.inr ⟨e.symm, h2⟩)
    · rcases less_total _ _ e with h2 | h2
      · exact .inl (.inl h2)
      · exact .inr (.inl h2)
def oneS (s : Se) : Bool := isName s.u && (decide (0 ≤ s.i) && (decide (s.i < 4) && mayV s.v.1 s.v.2.1 s.v.2.2.1 s.v.2.2.2))
def adjS : List Se → Bool
  | a :: b :: l => ltSe (keySe a) (keySe b) && adjS (b :: l)
  | _ => true
def maySe (l : List Se) : Bool := decide (l.length ≤ 32) && (l.all oneS && adjS l)
theorem adjS_iff : ∀ l : List Se, adjS l = true ↔ ∀ i (h : i + 1 < l.length), ltSe (keySe l[i]) (keySe l[i + 1]) = true
  | [] => by simp [adjS]
  | [a] => by simp [adjS]
  | a :: b :: l => by
    rw [adjS, Bool.and_eq_true, adjS_iff (b :: l)]
    constructor
    · rintro ⟨h1, h2⟩ i hi
      cases i with
      | zero => exact h1
      | succ i => exact h2 i (by simp only [List.length_cons] at hi ⊢; omega)
    · intro h
      exact ⟨h 0 (by simp), fun i hi => h (i + 1) (by simp only [List.length_cons] at hi ⊢; omega)⟩
theorem maySe_iff (l : List Se) : maySe l = true ↔ l.length ≤ 32 ∧ (∀ s ∈ l, oneS s = true) ∧ ∀ i (h : i + 1 < l.length), ltSe (keySe l[i]) (keySe l[i + 1]) = true := by
  unfold maySe
  rw [Bool.and_eq_true, Bool.and_eq_true, decide_eq_true_eq, List.all_eq_true, adjS_iff]
theorem maySe_ord {l : List Se} (h : maySe l = true) : InOrd keySe ltSe l := ord_of_adj ltSe_ord l ((maySe_iff l).1 h).2.2
theorem maySe_of {l : List Se} (h1 : l.length ≤ 32) (h2 : ∀ s ∈ l, oneS s = true) (h3 : InOrd keySe ltSe l) : maySe l = true := (maySe_iff l).2 ⟨h1, h2, adj_of_ord h3⟩
def idxSe (l : List Se) (k : SeK) : Option Nat := l.findIdx? fun s => decide (keySe s = k)
def atSe (l : List Se) (s : Se) : Nat := (l.takeWhile fun x => ltSe (keySe x) (keySe s)).length
def putSe (l : List Se) (s : Se) : List Se × Int :=
  if (maySe l && oneS s) = false then (l, 1) else
    match idxSe l (keySe s) with
    | some i => (l.set i s, 0)
    | none => if l.length = 32 then (l, 5) else (l.take (atSe l s) ++ s :: l.drop (atSe l s), 0)
def dropSe (l : List Se) (k : SeK) : List Se × Int :=
  if maySe l = false then (l, 1) else
    match idxSe l k with
    | some i => (l.take i ++ l.drop (i + 1), 0)
    | none => (l, 6)
def ofSe (l : List Se) (u : ByteArray) : List Se := l.filter fun s => decide (s.u = u)
theorem idxSe_none {l : List Se} {k : SeK} : idxSe l k = none ↔ getK keySe l k = none := by
  unfold idxSe
  rw [List.findIdx?_eq_none_iff, getK_none]
  simp
theorem idxSe_some {l : List Se} {k : SeK} {i : Nat} (h : idxSe l k = some i) : ∃ hi : i < l.length, keySe l[i] = k := by
  unfold idxSe at h
  rw [List.findIdx?_eq_some_iff_getElem] at h
  obtain ⟨hi, h1, _⟩ := h
  exact ⟨hi, of_decide_eq_true h1⟩
theorem atSe_ins (l : List Se) (s : Se) : l.take (atSe l s) ++ s :: l.drop (atSe l s) = insK keySe ltSe l s := by
  unfold insK atSe
  rw [take_tw, drop_tw]
theorem putSe_ok {l m : List Se} {s : Se} (h : putSe l s = (m, 0)) : maySe l = true ∧ oneS s = true ∧ m = putK keySe ltSe l s ∧ m.length ≤ 32 := by
  unfold putSe at h
  split at h
  · injection h with _ h; exact absurd h (by decide)
  · rename_i hm
    rw [Bool.not_eq_false, Bool.and_eq_true] at hm
    obtain ⟨h1, h2⟩ := hm
    have ho := maySe_ord h1
    have h32 := ((maySe_iff l).1 h1).1
    refine ⟨h1, h2, ?_⟩
    split at h
    · rename_i i hi
      obtain ⟨hlt, hk⟩ := idxSe_some hi
      injection h with h _
      rw [← h]
      exact ⟨set_putK ltSe_ord ho i hlt s hk, by rw [List.length_set]; exact h32⟩
    · rename_i hi
      split at h
      · injection h with _ h; exact absurd h (by decide)
      · rename_i hn
        injection h with h _
        have hg := idxSe_none.1 hi
        rw [← h, atSe_ins]
        unfold putK
        rw [delK_none hg]
        exact ⟨rfl, by rw [insK_len]; omega⟩
theorem putSe_may {l m : List Se} {s : Se} (h : putSe l s = (m, 0)) : maySe m = true := by
  obtain ⟨h1, h2, h3, h4⟩ := putSe_ok h
  subst h3
  refine maySe_of h4 (fun x hx => ?_) (putK_ord ltSe_ord (maySe_ord h1) s)
  rcases putK_mem.1 hx with rfl | ⟨hx, _⟩
  · exact h2
  · exact ((maySe_iff l).1 h1).2.1 x hx
theorem putSe_err {l m : List Se} {s : Se} {e : Int} (h : putSe l s = (m, e)) (he : e ≠ 0) : m = l := by
  unfold putSe at h
  split at h
  · injection h with h _; exact h.symm
  · split at h
    · injection h with _ h; exact absurd h.symm he
    · split at h
      · injection h with h _; exact h.symm
      · injection h with _ h; exact absurd h.symm he
theorem dropSe_ok {l : List Se} {k : SeK} (h1 : maySe l = true) {x : Se} (hg : getK keySe l k = some x) : dropSe l k = (delK keySe l k, 0) := by
  have ho := maySe_ord h1
  unfold dropSe
  rw [if_neg (by rw [h1]; decide)]
  split
  · rename_i i hi
    obtain ⟨hlt, hk⟩ := idxSe_some hi
    rw [erase_delK ltSe_ord ho i hlt, hk]
  · rename_i hi
    rw [idxSe_none, hg] at hi
    cases hi
theorem delK_may {l : List Se} (h : maySe l = true) (k : SeK) : maySe (delK keySe l k) = true := by
  obtain ⟨h1, h2, _⟩ := (maySe_iff l).1 h
  refine maySe_of ?_ (fun x hx => h2 x (delK_mem.1 hx).1) (delK_ord (maySe_ord h) k)
  have := List.length_filter_le (fun x => !decide (keySe x = k)) l
  unfold delK
  omega
theorem ofSe_ord {l : List Se} (h : InOrd keySe ltSe l) (u : ByteArray) : InOrd keySe ltSe (ofSe l u) := ord_filter _ h
theorem ofSe_mem {l : List Se} {u : ByteArray} {x : Se} : x ∈ ofSe l u ↔ x ∈ l ∧ x.u = u := by
  unfold ofSe
  rw [List.mem_filter, decide_eq_true_eq]
theorem ofSe_put {l : List Se} (h : InOrd keySe ltSe l) (s : Se) (u : ByteArray) (hu : u ≠ s.u) : ofSe (putK keySe ltSe l s) u = ofSe l u := by
  refine ord_ext ltSe_ord _ _ (ofSe_ord (putK_ord ltSe_ord h s) u) (ofSe_ord h u) fun x => ?_
  rw [ofSe_mem, ofSe_mem, putK_mem]
  constructor
  · rintro ⟨rfl | ⟨hx, _⟩, rfl⟩
    · exact absurd rfl hu
    · exact ⟨hx, rfl⟩
  · rintro ⟨hx, rfl⟩
    exact ⟨.inr ⟨hx, fun e => hu (congrArg Prod.fst e)⟩, rfl⟩
theorem ofSe_del {l : List Se} (h : InOrd keySe ltSe l) (k : SeK) (u : ByteArray) (hu : u ≠ k.1) : ofSe (delK keySe l k) u = ofSe l u := by
  refine ord_ext ltSe_ord _ _ (ofSe_ord (delK_ord h k) u) (ofSe_ord h u) fun x => ?_
  rw [ofSe_mem, ofSe_mem, delK_mem]
  constructor
  · rintro ⟨⟨hx, _⟩, rfl⟩
    exact ⟨hx, rfl⟩
  · rintro ⟨hx, rfl⟩
    exact ⟨⟨hx, fun e => hu (congrArg Prod.fst e)⟩, rfl⟩
end Sp
end Go.Proofs.YtbpfcjdjhponaaaGreat
namespace Go.Proofs.YtbpfcjdjhponaaaGreat
namespace Sp
end Sp
end Go.Proofs.YtbpfcjdjhponaaaGreat
namespace Go.Proofs.YtbpfcjdjhponaaaGreat
namespace Sp
structure Evt where
  k : Int
  u : ByteArray
  o : ByteArray
  i : Int
  v : Int × Int × Int × ByteArray
instance : DecidableEq Evt := fun a b => decidable_of_iff (a.k = b.k ∧ a.u = b.u ∧ a.o = b.o ∧ a.i = b.i ∧ a.v = b.v) ⟨fun h => by cases a; cases b; simp only at h; obtain ⟨h1, h2, h3, h4, h5⟩ := h; subst h1 h2 h3 h4 h5; rfl, fun h => by subst h; exact ⟨rfl, rfl, rfl, rfl, rfl⟩⟩
abbrev Sta := List En × List Se
def mayT (s : Sta) : Bool := mayRo s.1 && maySe s.2
def applyT (s : Sta) (e : Evt) : Sta × Int :=
  if mayT s = false then (s, 1)
  else if 1 ≤ e.k ∧ e.k ≤ 6 then (((doRo s.1 e.k e.u e.o).1, s.2), (doRo s.1 e.k e.u e.o).2)
  else if e.k = 7 then ((s.1, (putSe s.2 ⟨e.u, e.i, e.v⟩).1), (putSe s.2 ⟨e.u, e.i, e.v⟩).2)
  else if e.k = 8 then ((s.1, (dropSe s.2 (e.u, e.i)).1), (dropSe s.2 (e.u, e.i)).2)
  else (s, 1)
def allT : Sta → List Evt → Sta × List Int
  | s, [] => (s, [])
  | s, e :: l => ((allT (applyT s e).1 l).1, (applyT s e).2 :: (allT (applyT s e).1 l).2)
def touchT (e : Evt) : List ByteArray := if 1 ≤ e.k ∧ e.k ≤ 6 then mergeS [e.u] [e.o] else if e.k = 7 ∨ e.k = 8 then [e.u] else []
def shortE (e : Evt) : Bool := decide (e.u.size ≤ 40) && (decide (e.o.size ≤ 40) && decide (e.v.2.2.2.size ≤ 60))
def eventsT (l : List Evt) (n : Int) : Bool := decide ((l.length : Int) ≤ n) && l.all shortE
theorem dropSe_err {l m : List Se} {k : SeK} {e : Int} (h : dropSe l k = (m, e)) (he : e ≠ 0) : m = l := by
  unfold dropSe at h
  split at h
  · injection h with h1 h2; exact h1.symm
  · split at h
    · injection h with h1 h2; exact absurd h2.symm he
    · injection h with h1 h2; exact h1.symm
theorem applyT_err {s t : Sta} {e : Evt} {d : Int} (h : applyT s e = (t, d)) (hd : d ≠ 0) : t = s := by
  obtain ⟨a, b⟩ := s
  unfold applyT at h
  split at h
  · injection h with h1 h2; exact h1.symm
  · split at h
    · injection h with h1 h2
      rw [← h1]
      exact Prod.ext (doRo_err (l := a) (r := (doRo a e.k e.u e.o).1) (e := (doRo a e.k e.u e.o).2) rfl (by simp only at h2; rw [h2]; exact hd)) rfl
    · split at h
      · injection h with h1 h2
        rw [← h1]
        exact Prod.ext rfl (putSe_err (l := b) (m := (putSe b ⟨e.u, e.i, e.v⟩).1) (e := (putSe b ⟨e.u, e.i, e.v⟩).2) rfl (by simp only at h2; rw [h2]; exact hd))
      · split at h
        · injection h with h1 h2
          rw [← h1]
          exact Prod.ext rfl (dropSe_err (l := b) (m := (dropSe b (e.u, e.i)).1) (e := (dropSe b (e.u, e.i)).2) rfl (by simp only at h2; rw [h2]; exact hd))
        · injection h with h1 h2; exact h1.symm
theorem allT_app (s : Sta) (l m : List Evt) : allT s (l ++ m) = ((allT (allT s l).1 m).1, (allT s l).2 ++ (allT (allT s l).1 m).2) := by
  induction l generalizing s with
  | nil => rfl
  | cons e l ih => simp only [List.cons_append, allT, ih]
theorem allT_snoc (s : Sta) (l : List Evt) (e : Evt) : allT s (l ++ [e]) = ((applyT (allT s l).1 e).1, (allT s l).2 ++ [(applyT (allT s l).1 e).2]) := by rw [allT_app]; rfl
end Sp
end Go.Proofs.YtbpfcjdjhponaaaGreat
namespace Go.Proofs.YtbpfcjdjhponaaaGreat
open Go.RowKit
open Sp
def enEv (x : Evt) : List Value := [.int .i64 x.k, .string x.u, .string x.o, .int .i64 x.i, .int .i64 x.v.1, .int .i64 x.v.2.1, .int .i64 x.v.2.2.1, .string x.v.2.2.2]
theorem enEv_len (x : Evt) : (enEv x).length = 8 := rfl
abbrev bxEv (a_ : Int) (b_ : ByteArray) (c_ : ByteArray) (d_ : Int) (e_ : Int) (f_ : Int) (g_ : Int) (h_ : ByteArray) : Obj := .cells #[.int .i64 a_, .string b_, .string c_, .int .i64 d_, .int .i64 e_, .int .i64 f_, .int .i64 g_, .string h_] 29
theorem rowEv {W : World} {A : Option Addr} {n c : Nat} {l : List Evt} (h : Row enEv 8 W (.slice A n c) l) (i : Nat) (hi : i < l.length) (a_ : Int) (b_ : ByteArray) (c_ : ByteArray) (d_ : Int) (e_ : Int) (f_ : Int) (g_ : Int) (h_ : ByteArray) (he : l[i] = ⟨a_, b_, c_, d_, e_, f_, g_, h_⟩) :
    ∃ ad, A = some ad ∧ W.cell? (ad.add (i * 8)) = some (.int .i64 a_) ∧ W.cell? ⟨(ad.add (i * 8)).block, (ad.add (i * 8)).off + 1, none⟩ = some (.string b_) ∧ W.cell? ⟨(ad.add (i * 8)).block, (ad.add (i * 8)).off + 2, none⟩ = some (.string c_) ∧ W.cell? ⟨(ad.add (i * 8)).block, (ad.add (i * 8)).off + 3, none⟩ = some (.int .i64 d_) ∧ W.cell? ⟨(ad.add (i * 8)).block, (ad.add (i * 8)).off + 4, none⟩ = some (.int .i64 e_) ∧ W.cell? ⟨(ad.add (i * 8)).block, (ad.add (i * 8)).off + 5, none⟩ = some (.int .i64 f_) ∧ W.cell? ⟨(ad.add (i * 8)).block, (ad.add (i * 8)).off + 6, none⟩ = some (.int .i64 g_) ∧ W.cell? ⟨(ad.add (i * 8)).block, (ad.add (i * 8)).off + 7, none⟩ = some (.string h_) := by
  obtain ⟨ad, e, hc⟩ := h.get enEv_len i hi
  rw [he] at hc
  exact ⟨ad, e, hc 0 (by omega), hc 1 (by omega), hc 2 (by omega), hc 3 (by omega), hc 4 (by omega), hc 5 (by omega), hc 6 (by omega), hc 7 (by omega)⟩
theorem rowsEv {W : World} {ad : Addr} {n c : Nat} {l : List Evt} (h : Row enEv 8 W (.slice (some ad) n c) l) (i : Nat) (hi : i < l.length) (a_ : Int) (b_ : ByteArray) (c_ : ByteArray) (d_ : Int) (e_ : Int) (f_ : Int) (g_ : Int) (h_ : ByteArray) (he : l[i] = ⟨a_, b_, c_, d_, e_, f_, g_, h_⟩) :
    W.cell? (ad.add (i * 8)) = some (.int .i64 a_) ∧ W.cell? ⟨(ad.add (i * 8)).block, (ad.add (i * 8)).off + 1, none⟩ = some (.string b_) ∧ W.cell? ⟨(ad.add (i * 8)).block, (ad.add (i * 8)).off + 2, none⟩ = some (.string c_) ∧ W.cell? ⟨(ad.add (i * 8)).block, (ad.add (i * 8)).off + 3, none⟩ = some (.int .i64 d_) ∧ W.cell? ⟨(ad.add (i * 8)).block, (ad.add (i * 8)).off + 4, none⟩ = some (.int .i64 e_) ∧ W.cell? ⟨(ad.add (i * 8)).block, (ad.add (i * 8)).off + 5, none⟩ = some (.int .i64 f_) ∧ W.cell? ⟨(ad.add (i * 8)).block, (ad.add (i * 8)).off + 6, none⟩ = some (.int .i64 g_) ∧ W.cell? ⟨(ad.add (i * 8)).block, (ad.add (i * 8)).off + 7, none⟩ = some (.string h_) := by
  obtain ⟨ad', e, hc⟩ := rowEv h i hi a_ b_ c_ d_ e_ f_ g_ h_ he
  injection e with e
  subst e
  exact hc
theorem cellsEv {W : World} {g : Nat} (a_ : Int) (b_ : ByteArray) (c_ : ByteArray) (d_ : Int) (e_ : Int) (f_ : Int) (g_ : Int) (h_ : ByteArray) (h : W.heap[g]? = some (bxEv a_ b_ c_ d_ e_ f_ g_ h_)) :
    W.cell? ⟨g, 0, none⟩ = some (.int .i64 a_) ∧ W.cell? ⟨g, 1, none⟩ = some (.string b_) ∧ W.cell? ⟨g, 2, none⟩ = some (.string c_) ∧ W.cell? ⟨g, 3, none⟩ = some (.int .i64 d_) ∧ W.cell? ⟨g, 4, none⟩ = some (.int .i64 e_) ∧ W.cell? ⟨g, 5, none⟩ = some (.int .i64 f_) ∧ W.cell? ⟨g, 6, none⟩ = some (.int .i64 g_) ∧ W.cell? ⟨g, 7, none⟩ = some (.string h_) ∧ g < W.heap.size :=
  ⟨by simp [World.cell?, h], by simp [World.cell?, h], by simp [World.cell?, h], by simp [World.cell?, h], by simp [World.cell?, h], by simp [World.cell?, h], by simp [World.cell?, h], by simp [World.cell?, h], (Array.getElem?_eq_some_iff.1 h).1⟩
end Go.Proofs.YtbpfcjdjhponaaaGreat
namespace Go.Proofs.YtbpfcjdjhponaaaGreat
open Go.RowKit Go.ChangeShapes Go.WideShapes
open Sp
def OkEv (x : Evt) : Prop := x.u.size ≤ maxLen ∧ x.o.size ≤ maxLen ∧ x.v.2.2.2.size ≤ maxLen
section
variable {H : Type} {enc : TypeId × Value → H} {w : World} {base : Nat} {spare : Nat → Bool} {held : Bool}
set_option maxRecDepth 100000 in
theorem ceEv {n : Nat} {cs : List Value} {y : DataW H × List MemPlace} (h : DataW.trod enc Tryz.prog w base spare held n 29 cs = some y) : ∃ e : Evt, cs = enEv e ∧ OkEv e := by
  have ck : Tryz.prog.cellsOf 29 = 8 := by kernel_rfl
  have c0_ : Tryz.prog.cellsOf 3 = 1 := by kernel_rfl
  have c1_ : Tryz.prog.cellsOf 9 = 1 := by kernel_rfl
  have c2_ : Tryz.prog.cellsOf 27 = 4 := by kernel_rfl
  obtain ⟨ys0, m0, _, _, hl0, hlen0, hf0⟩ := DataW.trod_struct Tryz.underlying29 h
  rw [ck] at hl0
  obtain ⟨a0, a1, a2, a3, a4, a5, a6, a7, rfl⟩ : ∃ a0 a1 a2 a3 a4 a5 a6 a7, cs = [a0, a1, a2, a3, a4, a5, a6, a7] := by
    match cs, hl0 with
    | [a0, a1, a2, a3, a4, a5, a6, a7], _ => exact ⟨_, _, _, _, _, _, _, _, rfl⟩
  obtain ⟨y0_0, y0_1, y0_2, y0_3, y0_4, rfl⟩ : ∃ y0_0 y0_1 y0_2 y0_3 y0_4, ys0 = [y0_0, y0_1, y0_2, y0_3, y0_4] := by
    match ys0, hlen0 with
    | [y0_0, y0_1, y0_2, y0_3, y0_4], _ => exact ⟨_, _, _, _, _, rfl⟩
  have h0_0 := hf0 0 _ rfl
  have h0_1 := hf0 1 _ rfl
  have h0_2 := hf0 2 _ rfl
  have h0_3 := hf0 3 _ rfl
  have h0_4 := hf0 4 _ rfl
  simp only [List.getElem_toArray, List.getElem_cons_zero, List.getElem_cons_succ, c0_, c1_, c2_, List.drop_zero, List.drop_succ_cons, List.take_succ_cons, List.take_zero, List.getElem?_cons_zero, List.getElem?_cons_succ] at h0_0 h0_1 h0_2 h0_3 h0_4
  obtain ⟨z0, e0, _, g0⟩ := DataW.trod_int Tryz.underlying3 h0_0
  obtain ⟨z1, e1, _, g1⟩ := DataW.trod_string Tryz.underlying9 h0_1
  obtain ⟨z2, e2, _, g2⟩ := DataW.trod_string Tryz.underlying9 h0_2
  obtain ⟨z3, e3, _, g3⟩ := DataW.trod_int Tryz.underlying3 h0_3
  obtain ⟨ys1, m1, _, _, hl1, hlen1, hf1⟩ := DataW.trod_struct Tryz.underlying27 h0_4
  obtain ⟨y1_0, y1_1, y1_2, y1_3, rfl⟩ : ∃ y1_0 y1_1 y1_2 y1_3, ys1 = [y1_0, y1_1, y1_2, y1_3] := by
    match ys1, hlen1 with
    | [y1_0, y1_1, y1_2, y1_3], _ => exact ⟨_, _, _, _, rfl⟩
  have h1_0 := hf1 0 _ rfl
  have h1_1 := hf1 1 _ rfl
  have h1_2 := hf1 2 _ rfl
  have h1_3 := hf1 3 _ rfl
  simp only [List.getElem_toArray, List.getElem_cons_zero, List.getElem_cons_succ, c0_, c1_, c2_, List.drop_zero, List.drop_succ_cons, List.take_succ_cons, List.take_zero, List.getElem?_cons_zero, List.getElem?_cons_succ] at h1_0 h1_1 h1_2 h1_3
  obtain ⟨z4, e4, _, g4⟩ := DataW.trod_int Tryz.underlying3 h1_0
  obtain ⟨z5, e5, _, g5⟩ := DataW.trod_int Tryz.underlying3 h1_1
  obtain ⟨z6, e6, _, g6⟩ := DataW.trod_int Tryz.underlying3 h1_2
  obtain ⟨z7, e7, _, g7⟩ := DataW.trod_string Tryz.underlying9 h1_3
  cases e0
  cases e1
  cases e2
  cases e3
  cases e4
  cases e5
  cases e6
  cases e7
  exact ⟨⟨z0, z1, z2, z3, z4, z5, z6, z7⟩, rfl, g1, g2, g7⟩
theorem rwEv {t : TypeId} {a : Option Addr} {n c : Nat} {d : DataW H} {p : List MemPlace} (ht : Tryz.prog.underlying t = some (.slice 29))
    (h : DataW.Trod enc Tryz.prog w 0 (fun _ => true) true t (.slice a n c) d p) : ∃ l, Row enEv 8 w (.slice a n c) l ∧ ∀ e ∈ l, OkEv e := by
  obtain ⟨fuel, hf⟩ := h
  rcases Go.Deep.open_slice ht hf with ⟨hcs, _⟩ | ⟨ad, len, cap, m, k, D, Pl, hcs, _, hl, hm, hmm, _, hi⟩
  · simp [Value.cells] at hcs
    obtain ⟨rfl, rfl, rfl⟩ := hcs
    exact ⟨[], Row.nil _ _ _, by simp⟩
  · simp [Value.cells] at hcs
    obtain ⟨rfl, rfl, rfl⟩ := hcs
    have ck : Tryz.prog.cellsOf 29 = 8 := by kernel_rfl
    rw [ck] at hi
    have hn : n ≤ m := by rw [hmm, if_pos rfl]; exact hl
    have hev : ∀ i, i < n → ∃ e : Evt, OkEv e ∧ ∀ j u, (enEv e)[j]? = some u → w.cell? (ad.add (i * 8 + j)) = some u := by
      intro i hi'
      obtain ⟨cs', hc, ht'⟩ := hi i (by omega)
      obtain ⟨e, rfl, he⟩ := ceEv ht'
      obtain ⟨_, _, hat⟩ := World.cells?_some hc
      refine ⟨e, he, fun j u hj => ?_⟩
      have hj8 : j < 8 := (List.getElem?_eq_some_iff.1 hj).1
      have := hat j hj8
      rw [hj] at this
      rw [← this, Go.Deep.add_add]
    have hex : ∃ l : List Evt, l.length = n ∧ ∀ i (h : i < l.length), OkEv l[i] ∧ ∀ j u, (enEv l[i])[j]? = some u → w.cell? (ad.add (i * 8 + j)) = some u := by
      refine ⟨List.ofFn (fun i : Fin n => (hev i.1 i.2).choose), by simp, fun i h => ?_⟩
      have hin : i < n := by simpa using h
      have hc := (hev i hin).choose_spec
      simp only [List.getElem_ofFn]
      exact hc
    obtain ⟨l, hln, hle⟩ := hex
    refine ⟨l, ⟨some ad, c, by rw [hln], by omega, hm, by rw [flat_length enEv_len, hln], fun hp => ⟨ad, rfl, fun j u hu => ?_⟩⟩, fun e he => ?_⟩
    · have hj : j < l.length * 8 := by rw [← flat_length enEv_len]; exact (List.getElem?_eq_some_iff.1 hu).1
      have hi8 : j / 8 < l.length := by omega
      have := (hle (j / 8) hi8).2 (j % 8) u
      rw [show j / 8 * 8 + j % 8 = j by omega] at this
      refine this ?_
      have hfg := flat_get enEv_len l (j / 8) (j % 8) hi8 (by omega)
      rw [show j / 8 * 8 + j % 8 = j by omega] at hfg
      rw [← hfg, hu]
    · obtain ⟨i, hi', rfl⟩ := List.getElem_of_mem he
      exact (hle i hi').1
end
end Go.Proofs.YtbpfcjdjhponaaaGreat
namespace Go.Proofs.YtbpfcjdjhponaaaGreat
open Go.RowKit
open Sp
def enEn (x : En) : List Value := [.string x.o, .string x.c, .bool x.it.to, .bool x.it.fr, .bool x.it.ou, .bool x.it.in_, .bool x.it.bl]
abbrev vaEn (x : En) : Value := .agg #[.string x.o, .string x.c, .bool x.it.to, .bool x.it.fr, .bool x.it.ou, .bool x.it.in_, .bool x.it.bl]
theorem enEn_len (x : En) : (enEn x).length = 7 := rfl
theorem enEn_one (x : En) : ∀ u ∈ enEn x, u.oneCell' = true := by intro u hu; simp only [enEn, List.mem_cons, List.mem_nil_iff, or_false] at hu; rcases hu with rfl | rfl | rfl | rfl | rfl | rfl | rfl <;> rfl
abbrev zvEn : Value := .agg #[.string ⟨#[]⟩, .string ⟨#[]⟩, .bool false, .bool false, .bool false, .bool false, .bool false]
theorem infoEn : (Tryz.prog.info? 105).map (fun i => (i.zero, i.size, i.bytes)) = some (some zvEn, 7, 40) := by kernel_rfl
abbrev bxEn (a_ : ByteArray) (b_ : ByteArray) (c_ : Bool) (d_ : Bool) (e_ : Bool) (f_ : Bool) (g_ : Bool) : Obj := .cells #[.string a_, .string b_, .bool c_, .bool d_, .bool e_, .bool f_, .bool g_] 105
theorem rowEn {W : World} {A : Option Addr} {n c : Nat} {l : List En} (h : Row enEn 7 W (.slice A n c) l) (i : Nat) (hi : i < l.length) (a_ : ByteArray) (b_ : ByteArray) (c_ : Bool) (d_ : Bool) (e_ : Bool) (f_ : Bool) (g_ : Bool) (he : l[i] = ⟨a_, b_, c_, d_, e_, f_, g_⟩) :
    ∃ ad, A = some ad ∧ W.cell? (ad.add (i * 7)) = some (.string a_) ∧ W.cell? ⟨(ad.add (i * 7)).block, (ad.add (i * 7)).off + 1, none⟩ = some (.string b_) ∧ W.cell? ⟨(ad.add (i * 7)).block, (ad.add (i * 7)).off + 2, none⟩ = some (.bool c_) ∧ W.cell? ⟨(ad.add (i * 7)).block, (ad.add (i * 7)).off + 3, none⟩ = some (.bool d_) ∧ W.cell? ⟨(ad.add (i * 7)).block, (ad.add (i * 7)).off + 4, none⟩ = some (.bool e_) ∧ W.cell? ⟨(ad.add (i * 7)).block, (ad.add (i * 7)).off + 5, none⟩ = some (.bool f_) ∧ W.cell? ⟨(ad.add (i * 7)).block, (ad.add (i * 7)).off + 6, none⟩ = some (.bool g_) := by
  obtain ⟨ad, e, hc⟩ := h.get enEn_len i hi
  rw [he] at hc
  exact ⟨ad, e, hc 0 (by omega), hc 1 (by omega), hc 2 (by omega), hc 3 (by omega), hc 4 (by omega), hc 5 (by omega), hc 6 (by omega)⟩
theorem rowsEn {W : World} {ad : Addr} {n c : Nat} {l : List En} (h : Row enEn 7 W (.slice (some ad) n c) l) (i : Nat) (hi : i < l.length) (a_ : ByteArray) (b_ : ByteArray) (c_ : Bool) (d_ : Bool) (e_ : Bool) (f_ : Bool) (g_ : Bool) (he : l[i] = ⟨a_, b_, c_, d_, e_, f_, g_⟩) :
    W.cell? (ad.add (i * 7)) = some (.string a_) ∧ W.cell? ⟨(ad.add (i * 7)).block, (ad.add (i * 7)).off + 1, none⟩ = some (.string b_) ∧ W.cell? ⟨(ad.add (i * 7)).block, (ad.add (i * 7)).off + 2, none⟩ = some (.bool c_) ∧ W.cell? ⟨(ad.add (i * 7)).block, (ad.add (i * 7)).off + 3, none⟩ = some (.bool d_) ∧ W.cell? ⟨(ad.add (i * 7)).block, (ad.add (i * 7)).off + 4, none⟩ = some (.bool e_) ∧ W.cell? ⟨(ad.add (i * 7)).block, (ad.add (i * 7)).off + 5, none⟩ = some (.bool f_) ∧ W.cell? ⟨(ad.add (i * 7)).block, (ad.add (i * 7)).off + 6, none⟩ = some (.bool g_) := by
  obtain ⟨ad', e, hc⟩ := rowEn h i hi a_ b_ c_ d_ e_ f_ g_ he
  injection e with e
  subst e
  exact hc
theorem cellsEn {W : World} {g : Nat} (a_ : ByteArray) (b_ : ByteArray) (c_ : Bool) (d_ : Bool) (e_ : Bool) (f_ : Bool) (g_ : Bool) (h : W.heap[g]? = some (bxEn a_ b_ c_ d_ e_ f_ g_)) :
    W.cell? ⟨g, 0, none⟩ = some (.string a_) ∧ W.cell? ⟨g, 1, none⟩ = some (.string b_) ∧ W.cell? ⟨g, 2, none⟩ = some (.bool c_) ∧ W.cell? ⟨g, 3, none⟩ = some (.bool d_) ∧ W.cell? ⟨g, 4, none⟩ = some (.bool e_) ∧ W.cell? ⟨g, 5, none⟩ = some (.bool f_) ∧ W.cell? ⟨g, 6, none⟩ = some (.bool g_) ∧ g < W.heap.size :=
  ⟨by simp [World.cell?, h], by simp [World.cell?, h], by simp [World.cell?, h], by simp [World.cell?, h], by simp [World.cell?, h], by simp [World.cell?, h], by simp [World.cell?, h], (Array.getElem?_eq_some_iff.1 h).1⟩
end Go.Proofs.YtbpfcjdjhponaaaGreat
namespace Go.Proofs.YtbpfcjdjhponaaaGreat
open Go.RowKit Go.ChangeShapes Go.WideShapes
open Sp
def OkEn (x : En) : Prop := x.o.size ≤ maxLen ∧ x.c.size ≤ maxLen
section
variable {H : Type} {enc : TypeId × Value → H} {w : World} {base : Nat} {spare : Nat → Bool} {held : Bool}
set_option maxRecDepth 100000 in
theorem ceEn {n : Nat} {cs : List Value} {y : DataW H × List MemPlace} (h : DataW.trod enc Tryz.prog w base spare held n 105 cs = some y) : ∃ e : En, cs = enEn e ∧ OkEn e := by
  have ck : Tryz.prog.cellsOf 105 = 7 := by kernel_rfl
  have c0_ : Tryz.prog.cellsOf 9 = 1 := by kernel_rfl
  have c1_ : Tryz.prog.cellsOf 103 = 5 := by kernel_rfl
  have c2_ : Tryz.prog.cellsOf 4 = 1 := by kernel_rfl
  obtain ⟨ys0, m0, _, _, hl0, hlen0, hf0⟩ := DataW.trod_struct Tryz.underlying105 h
  rw [ck] at hl0
  obtain ⟨a0, a1, a2, a3, a4, a5, a6, rfl⟩ : ∃ a0 a1 a2 a3 a4 a5 a6, cs = [a0, a1, a2, a3, a4, a5, a6] := by
    match cs, hl0 with
    | [a0, a1, a2, a3, a4, a5, a6], _ => exact ⟨_, _, _, _, _, _, _, rfl⟩
  obtain ⟨y0_0, y0_1, y0_2, rfl⟩ : ∃ y0_0 y0_1 y0_2, ys0 = [y0_0, y0_1, y0_2] := by
    match ys0, hlen0 with
    | [y0_0, y0_1, y0_2], _ => exact ⟨_, _, _, rfl⟩
  have h0_0 := hf0 0 _ rfl
  have h0_1 := hf0 1 _ rfl
  have h0_2 := hf0 2 _ rfl
  simp only [List.getElem_toArray, List.getElem_cons_zero, List.getElem_cons_succ, c0_, c1_, c2_, List.drop_zero, List.drop_succ_cons, List.take_succ_cons, List.take_zero, List.getElem?_cons_zero, List.getElem?_cons_succ] at h0_0 h0_1 h0_2
  obtain ⟨z0, e0, _, g0⟩ := DataW.trod_string Tryz.underlying9 h0_0
  obtain ⟨z1, e1, _, g1⟩ := DataW.trod_string Tryz.underlying9 h0_1
  obtain ⟨ys1, m1, _, _, hl1, hlen1, hf1⟩ := DataW.trod_struct Tryz.underlying103 h0_2
  obtain ⟨y1_0, y1_1, y1_2, y1_3, y1_4, rfl⟩ : ∃ y1_0 y1_1 y1_2 y1_3 y1_4, ys1 = [y1_0, y1_1, y1_2, y1_3, y1_4] := by
    match ys1, hlen1 with
    | [y1_0, y1_1, y1_2, y1_3, y1_4], _ => exact ⟨_, _, _, _, _, rfl⟩
  have h1_0 := hf1 0 _ rfl
  have h1_1 := hf1 1 _ rfl
  have h1_2 := hf1 2 _ rfl
  have h1_3 := hf1 3 _ rfl
  have h1_4 := hf1 4 _ rfl
  simp only [List.getElem_toArray, List.getElem_cons_zero, List.getElem_cons_succ, c0_, c1_, c2_, List.drop_zero, List.drop_succ_cons, List.take_succ_cons, List.take_zero, List.getElem?_cons_zero, List.getElem?_cons_succ] at h1_0 h1_1 h1_2 h1_3 h1_4
  obtain ⟨z2, e2, _⟩ := DataW.trod_bool Tryz.underlying4 h1_0
  obtain ⟨z3, e3, _⟩ := DataW.trod_bool Tryz.underlying4 h1_1
  obtain ⟨z4, e4, _⟩ := DataW.trod_bool Tryz.underlying4 h1_2
  obtain ⟨z5, e5, _⟩ := DataW.trod_bool Tryz.underlying4 h1_3
  obtain ⟨z6, e6, _⟩ := DataW.trod_bool Tryz.underlying4 h1_4
  cases e0
  cases e1
  cases e2
  cases e3
  cases e4
  cases e5
  cases e6
  exact ⟨⟨z0, z1, z2, z3, z4, z5, z6⟩, rfl, g0, g1⟩
theorem rwEn {t : TypeId} {a : Option Addr} {n c : Nat} {d : DataW H} {p : List MemPlace} (ht : Tryz.prog.underlying t = some (.slice 105))
    (h : DataW.Trod enc Tryz.prog w 0 (fun _ => true) true t (.slice a n c) d p) : ∃ l, Row enEn 7 w (.slice a n c) l ∧ ∀ e ∈ l, OkEn e := by
  obtain ⟨fuel, hf⟩ := h
  rcases Go.Deep.open_slice ht hf with ⟨hcs, _⟩ | ⟨ad, len, cap, m, k, D, Pl, hcs, _, hl, hm, hmm, _, hi⟩
  · simp [Value.cells] at hcs
    obtain ⟨rfl, rfl, rfl⟩ := hcs
    exact ⟨[], Row.nil _ _ _, by simp⟩
  · simp [Value.cells] at hcs
    obtain ⟨rfl, rfl, rfl⟩ := hcs
    have ck : Tryz.prog.cellsOf 105 = 7 := by kernel_rfl
    rw [ck] at hi
    have hn : n ≤ m := by rw [hmm, if_pos rfl]; exact hl
    have hev : ∀ i, i < n → ∃ e : En, OkEn e ∧ ∀ j u, (enEn e)[j]? = some u → w.cell? (ad.add (i * 7 + j)) = some u := by
      intro i hi'
      obtain ⟨cs', hc, ht'⟩ := hi i (by omega)
      obtain ⟨e, rfl, he⟩ := ceEn ht'
      obtain ⟨_, _, hat⟩ := World.cells?_some hc
      refine ⟨e, he, fun j u hj => ?_⟩
      have hj8 : j < 7 := (List.getElem?_eq_some_iff.1 hj).1
      have := hat j hj8
      rw [hj] at this
      rw [← this, Go.Deep.add_add]
    have hex : ∃ l : List En, l.length = n ∧ ∀ i (h : i < l.length), OkEn l[i] ∧ ∀ j u, (enEn l[i])[j]? = some u → w.cell? (ad.add (i * 7 + j)) = some u := by
      refine ⟨List.ofFn (fun i : Fin n => (hev i.1 i.2).choose), by simp, fun i h => ?_⟩
      have hin : i < n := by simpa using h
      have hc := (hev i hin).choose_spec
      simp only [List.getElem_ofFn]
      exact hc
    obtain ⟨l, hln, hle⟩ := hex
    refine ⟨l, ⟨some ad, c, by rw [hln], by omega, hm, by rw [flat_length enEn_len, hln], fun hp => ⟨ad, rfl, fun j u hu => ?_⟩⟩, fun e he => ?_⟩
    · have hj : j < l.length * 7 := by rw [← flat_length enEn_len]; exact (List.getElem?_eq_some_iff.1 hu).1
      have hi8 : j / 7 < l.length := by omega
      have := (hle (j / 7) hi8).2 (j % 7) u
      rw [show j / 7 * 7 + j % 7 = j by omega] at this
      refine this ?_
      have hfg := flat_get enEn_len l (j / 7) (j % 7) hi8 (by omega)
      rw [show j / 7 * 7 + j % 7 = j by omega] at hfg
      rw [← hfg, hu]
    · obtain ⟨i, hi', rfl⟩ := List.getElem_of_mem he
      exact (hle i hi').1
end
end Go.Proofs.YtbpfcjdjhponaaaGreat
namespace Go.Proofs.YtbpfcjdjhponaaaGreat
open Go.RowKit
open Sp
def enSe (x : Se) : List Value := [.string x.u, .int .i64 x.i, .int .i64 x.v.1, .int .i64 x.v.2.1, .int .i64 x.v.2.2.1, .string x.v.2.2.2]
abbrev vaSe (x : Se) : Value := .agg #[.string x.u, .int .i64 x.i, .int .i64 x.v.1, .int .i64 x.v.2.1, .int .i64 x.v.2.2.1, .string x.v.2.2.2]
theorem enSe_len (x : Se) : (enSe x).length = 6 := rfl
theorem enSe_one (x : Se) : ∀ u ∈ enSe x, u.oneCell' = true := by intro u hu; simp only [enSe, List.mem_cons, List.mem_nil_iff, or_false] at hu; rcases hu with rfl | rfl | rfl | rfl | rfl | rfl <;> rfl
abbrev zvSe : Value := .agg #[.string ⟨#[]⟩, .int .i64 0, .int .i64 0, .int .i64 0, .int .i64 0, .string ⟨#[]⟩]
theorem infoSe : (Tryz.prog.info? 99).map (fun i => (i.zero, i.size, i.bytes)) = some (some zvSe, 6, 64) := by kernel_rfl
abbrev bxSe (a_ : ByteArray) (b_ : Int) (c_ : Int) (d_ : Int) (e_ : Int) (f_ : ByteArray) : Obj := .cells #[.string a_, .int .i64 b_, .int .i64 c_, .int .i64 d_, .int .i64 e_, .string f_] 99
theorem rowSe {W : World} {A : Option Addr} {n c : Nat} {l : List Se} (h : Row enSe 6 W (.slice A n c) l) (i : Nat) (hi : i < l.length) (a_ : ByteArray) (b_ : Int) (c_ : Int) (d_ : Int) (e_ : Int) (f_ : ByteArray) (he : l[i] = ⟨a_, b_, c_, d_, e_, f_⟩) :
    ∃ ad, A = some ad ∧ W.cell? (ad.add (i * 6)) = some (.string a_) ∧ W.cell? ⟨(ad.add (i * 6)).block, (ad.add (i * 6)).off + 1, none⟩ = some (.int .i64 b_) ∧ W.cell? ⟨(ad.add (i * 6)).block, (ad.add (i * 6)).off + 2, none⟩ = some (.int .i64 c_) ∧ W.cell? ⟨(ad.add (i * 6)).block, (ad.add (i * 6)).off + 3, none⟩ = some (.int .i64 d_) ∧ W.cell? ⟨(ad.add (i * 6)).block, (ad.add (i * 6)).off + 4, none⟩ = some (.int .i64 e_) ∧ W.cell? ⟨(ad.add (i * 6)).block, (ad.add (i * 6)).off + 5, none⟩ = some (.string f_) := by
  obtain ⟨ad, e, hc⟩ := h.get enSe_len i hi
  rw [he] at hc
  exact ⟨ad, e, hc 0 (by omega), hc 1 (by omega), hc 2 (by omega), hc 3 (by omega), hc 4 (by omega), hc 5 (by omega)⟩
theorem rowsSe {W : World} {ad : Addr} {n c : Nat} {l : List Se} (h : Row enSe 6 W (.slice (some ad) n c) l) (i : Nat) (hi : i < l.length) (a_ : ByteArray) (b_ : Int) (c_ : Int) (d_ : Int) (e_ : Int) (f_ : ByteArray) (he : l[i] = ⟨a_, b_, c_, d_, e_, f_⟩) :
    W.cell? (ad.add (i * 6)) = some (.string a_) ∧ W.cell? ⟨(ad.add (i * 6)).block, (ad.add (i * 6)).off + 1, none⟩ = some (.int .i64 b_) ∧ W.cell? ⟨(ad.add (i * 6)).block, (ad.add (i * 6)).off + 2, none⟩ = some (.int .i64 c_) ∧ W.cell? ⟨(ad.add (i * 6)).block, (ad.add (i * 6)).off + 3, none⟩ = some (.int .i64 d_) ∧ W.cell? ⟨(ad.add (i * 6)).block, (ad.add (i * 6)).off + 4, none⟩ = some (.int .i64 e_) ∧ W.cell? ⟨(ad.add (i * 6)).block, (ad.add (i * 6)).off + 5, none⟩ = some (.string f_) := by
  obtain ⟨ad', e, hc⟩ := rowSe h i hi a_ b_ c_ d_ e_ f_ he
  injection e with e
  subst e
  exact hc
theorem cellsSe {W : World} {g : Nat} (a_ : ByteArray) (b_ : Int) (c_ : Int) (d_ : Int) (e_ : Int) (f_ : ByteArray) (h : W.heap[g]? = some (bxSe a_ b_ c_ d_ e_ f_)) :
    W.cell? ⟨g, 0, none⟩ = some (.string a_) ∧ W.cell? ⟨g, 1, none⟩ = some (.int .i64 b_) ∧ W.cell? ⟨g, 2, none⟩ = some (.int .i64 c_) ∧ W.cell? ⟨g, 3, none⟩ = some (.int .i64 d_) ∧ W.cell? ⟨g, 4, none⟩ = some (.int .i64 e_) ∧ W.cell? ⟨g, 5, none⟩ = some (.string f_) ∧ g < W.heap.size :=
  ⟨by simp [World.cell?, h], by simp [World.cell?, h], by simp [World.cell?, h], by simp [World.cell?, h], by simp [World.cell?, h], by simp [World.cell?, h], (Array.getElem?_eq_some_iff.1 h).1⟩
end Go.Proofs.YtbpfcjdjhponaaaGreat
namespace Go.Proofs.YtbpfcjdjhponaaaGreat
open Go.RowKit Go.ChangeShapes Go.WideShapes
open Sp
def OkSe (x : Se) : Prop := x.u.size ≤ maxLen ∧ x.v.2.2.2.size ≤ maxLen
section
variable {H : Type} {enc : TypeId × Value → H} {w : World} {base : Nat} {spare : Nat → Bool} {held : Bool}
set_option maxRecDepth 100000 in
theorem ceSe {n : Nat} {cs : List Value} {y : DataW H × List MemPlace} (h : DataW.trod enc Tryz.prog w base spare held n 99 cs = some y) : ∃ e : Se, cs = enSe e ∧ OkSe e := by
  have ck : Tryz.prog.cellsOf 99 = 6 := by kernel_rfl
  have c0_ : Tryz.prog.cellsOf 9 = 1 := by kernel_rfl
  have c1_ : Tryz.prog.cellsOf 3 = 1 := by kernel_rfl
  have c2_ : Tryz.prog.cellsOf 27 = 4 := by kernel_rfl
  obtain ⟨ys0, m0, _, _, hl0, hlen0, hf0⟩ := DataW.trod_struct Tryz.underlying99 h
  rw [ck] at hl0
  obtain ⟨a0, a1, a2, a3, a4, a5, rfl⟩ : ∃ a0 a1 a2 a3 a4 a5, cs = [a0, a1, a2, a3, a4, a5] := by
    match cs, hl0 with
    | [a0, a1, a2, a3, a4, a5], _ => exact ⟨_, _, _, _, _, _, rfl⟩
  obtain ⟨y0_0, y0_1, y0_2, rfl⟩ : ∃ y0_0 y0_1 y0_2, ys0 = [y0_0, y0_1, y0_2] := by
    match ys0, hlen0 with
    | [y0_0, y0_1, y0_2], _ => exact ⟨_, _, _, rfl⟩
  have h0_0 := hf0 0 _ rfl
  have h0_1 := hf0 1 _ rfl
  have h0_2 := hf0 2 _ rfl
  simp only [List.getElem_toArray, List.getElem_cons_zero, List.getElem_cons_succ, c0_, c1_, c2_, List.drop_zero, List.drop_succ_cons, List.take_succ_cons, List.take_zero, List.getElem?_cons_zero, List.getElem?_cons_succ] at h0_0 h0_1 h0_2
  obtain ⟨z0, e0, _, g0⟩ := DataW.trod_string Tryz.underlying9 h0_0
  obtain ⟨z1, e1, _, g1⟩ := DataW.trod_int Tryz.underlying3 h0_1
  obtain ⟨ys1, m1, _, _, hl1, hlen1, hf1⟩ := DataW.trod_struct Tryz.underlying27 h0_2
  obtain ⟨y1_0, y1_1, y1_2, y1_3, rfl⟩ : ∃ y1_0 y1_1 y1_2 y1_3, ys1 = [y1_0, y1_1, y1_2, y1_3] := by
    match ys1, hlen1 with
    | [y1_0, y1_1, y1_2, y1_3], _ => exact ⟨_, _, _, _, rfl⟩
  have h1_0 := hf1 0 _ rfl
  have h1_1 := hf1 1 _ rfl
  have h1_2 := hf1 2 _ rfl
  have h1_3 := hf1 3 _ rfl
  simp only [List.getElem_toArray, List.getElem_cons_zero, List.getElem_cons_succ, c0_, c1_, c2_, List.drop_zero, List.drop_succ_cons, List.take_succ_cons, List.take_zero, List.getElem?_cons_zero, List.getElem?_cons_succ] at h1_0 h1_1 h1_2 h1_3
  obtain ⟨z2, e2, _, g2⟩ := DataW.trod_int Tryz.underlying3 h1_0
  obtain ⟨z3, e3, _, g3⟩ := DataW.trod_int Tryz.underlying3 h1_1
  obtain ⟨z4, e4, _, g4⟩ := DataW.trod_int Tryz.underlying3 h1_2
  obtain ⟨z5, e5, _, g5⟩ := DataW.trod_string Tryz.underlying9 h1_3
  cases e0
  cases e1
  cases e2
  cases e3
  cases e4
  cases e5
  exact ⟨⟨z0, z1, z2, z3, z4, z5⟩, rfl, g0, g5⟩
theorem rwSe {t : TypeId} {a : Option Addr} {n c : Nat} {d : DataW H} {p : List MemPlace} (ht : Tryz.prog.underlying t = some (.slice 99))
    (h : DataW.Trod enc Tryz.prog w 0 (fun _ => true) true t (.slice a n c) d p) : ∃ l, Row enSe 6 w (.slice a n c) l ∧ ∀ e ∈ l, OkSe e := by
  obtain ⟨fuel, hf⟩ := h
  rcases Go.Deep.open_slice ht hf with ⟨hcs, _⟩ | ⟨ad, len, cap, m, k, D, Pl, hcs, _, hl, hm, hmm, _, hi⟩
  · simp [Value.cells] at hcs
    obtain ⟨rfl, rfl, rfl⟩ := hcs
    exact ⟨[], Row.nil _ _ _, by simp⟩
  · simp [Value.cells] at hcs
    obtain ⟨rfl, rfl, rfl⟩ := hcs
    have ck : Tryz.prog.cellsOf 99 = 6 := by kernel_rfl
    rw [ck] at hi
    have hn : n ≤ m := by rw [hmm, if_pos rfl]; exact hl
    have hev : ∀ i, i < n → ∃ e : Se, OkSe e ∧ ∀ j u, (enSe e)[j]? = some u → w.cell? (ad.add (i * 6 + j)) = some u := by
      intro i hi'
      obtain ⟨cs', hc, ht'⟩ := hi i (by omega)
      obtain ⟨e, rfl, he⟩ := ceSe ht'
      obtain ⟨_, _, hat⟩ := World.cells?_some hc
      refine ⟨e, he, fun j u hj => ?_⟩
      have hj8 : j < 6 := (List.getElem?_eq_some_iff.1 hj).1
      have := hat j hj8
      rw [hj] at this
      rw [← this, Go.Deep.add_add]
    have hex : ∃ l : List Se, l.length = n ∧ ∀ i (h : i < l.length), OkSe l[i] ∧ ∀ j u, (enSe l[i])[j]? = some u → w.cell? (ad.add (i * 6 + j)) = some u := by
      refine ⟨List.ofFn (fun i : Fin n => (hev i.1 i.2).choose), by simp, fun i h => ?_⟩
      have hin : i < n := by simpa using h
      have hc := (hev i hin).choose_spec
      simp only [List.getElem_ofFn]
      exact hc
    obtain ⟨l, hln, hle⟩ := hex
    refine ⟨l, ⟨some ad, c, by rw [hln], by omega, hm, by rw [flat_length enSe_len, hln], fun hp => ⟨ad, rfl, fun j u hu => ?_⟩⟩, fun e he => ?_⟩
    · have hj : j < l.length * 6 := by rw [← flat_length enSe_len]; exact (List.getElem?_eq_some_iff.1 hu).1
      have hi8 : j / 6 < l.length := by omega
      have := (hle (j / 6) hi8).2 (j % 6) u
      rw [show j / 6 * 6 + j % 6 = j by omega] at this
      refine this ?_
      have hfg := flat_get enSe_len l (j / 6) (j % 6) hi8 (by omega)
      rw [show j / 6 * 6 + j % 6 = j by omega] at hfg
      rw [← hfg, hu]
    · obtain ⟨i, hi', rfl⟩ := List.getElem_of_mem he
      exact (hle i hi').1
end
end Go.Proofs.YtbpfcjdjhponaaaGreat
namespace Go.Proofs.YtbpfcjdjhponaaaGreat
open Go.RowKit Go.ChangeShapes Go.WideShapes
open Sp
section
variable {H : Type} {enc : TypeId × Value → H} {w : World}
set_option maxRecDepth 100000 in
theorem opT {b0 : Nat} {v : Value} {d : DataW H} {p : List MemPlace} (hv : Value.okWide Tryz.prog w .any b0 25 v)
    (h : DataW.Trod enc Tryz.prog w 0 (fun _ => true) true 25 v d p) : ∃ A n c l B m d s, v = .agg #[.slice A n c, .slice B m d] ∧ Row enEn 7 w (.slice A n c) l ∧ (∀ e ∈ l, OkEn e) ∧ Row enSe 6 w (.slice B m d) s ∧ ∀ e ∈ s, OkSe e := by
  obtain ⟨cs, rfl, _⟩ := okWide_struct Tryz.underlying25 hv
  obtain ⟨fuel, hf⟩ := h
  obtain ⟨l⟩ := cs
  have ck : Tryz.prog.cellsOf 25 = 2 := by kernel_rfl
  have c0_ : Tryz.prog.cellsOf 22 = 1 := by kernel_rfl
  have c1_ : Tryz.prog.cellsOf 23 = 1 := by kernel_rfl
  obtain ⟨ys0, m0, _, _, hl0, hlen0, hf0⟩ := DataW.trod_struct Tryz.underlying25 hf
  rw [ck] at hl0
  simp only [Value.cells] at hl0 hf0
  obtain ⟨a0, a1, rfl⟩ : ∃ a0 a1, l = [a0, a1] := by
    match l, hl0 with
    | [a0, a1], _ => exact ⟨_, _, rfl⟩
  obtain ⟨y0, y1, rfl⟩ : ∃ y0 y1, ys0 = [y0, y1] := by
    match ys0, hlen0 with
    | [y0, y1], _ => exact ⟨_, _, rfl⟩
  have h0 := hf0 0 _ rfl
  have h1 := hf0 1 _ rfl
  simp only [List.getElem_toArray, List.getElem_cons_zero, List.getElem_cons_succ, c0_, c1_, List.drop_zero, List.drop_succ_cons, List.take_succ_cons, List.take_zero, List.getElem?_cons_zero, List.getElem?_cons_succ] at h0 h1
  have g0 : ∃ A n c, a0 = .slice A n c := by
    rcases Go.Deep.open_slice Tryz.underlying22 h0 with ⟨hcs, _⟩ | ⟨ad, len, cap, m, k, D, Pl, hcs, _⟩
    · simp at hcs; exact ⟨_, _, _, hcs⟩
    · simp at hcs; exact ⟨_, _, _, hcs⟩
  have g1 : ∃ A n c, a1 = .slice A n c := by
    rcases Go.Deep.open_slice Tryz.underlying23 h1 with ⟨hcs, _⟩ | ⟨ad, len, cap, m, k, D, Pl, hcs, _⟩
    · simp at hcs; exact ⟨_, _, _, hcs⟩
    · simp at hcs; exact ⟨_, _, _, hcs⟩
  obtain ⟨A, n, c, rfl⟩ := g0
  obtain ⟨B, m, d2, rfl⟩ := g1
  obtain ⟨l1, w1, z1⟩ := rwEn (d := y0.1) (p := y0.2) Tryz.underlying22 ⟨m0, by simpa [Value.cells] using h0⟩
  obtain ⟨l2, w2, z2⟩ := rwSe (d := y1.1) (p := y1.2) Tryz.underlying23 ⟨m0, by simpa [Value.cells] using h1⟩
  exact ⟨A, n, c, l1, B, m, d2, l2, rfl, w1, z1, w2, z2⟩
end
end Go.Proofs.YtbpfcjdjhponaaaGreat
namespace Go.Proofs.YtbpfcjdjhponaaaGreat
open Go.RowKit
theorem below_alloc0 {w w1 : World} (h : Below w.heap.size w w1) (o : Obj) : Below w.heap.size w (w1.alloc o) := h.alloc h.size o
theorem bcell {W w1 : World} (hb : Below W.heap.size W w1) : (∀ b o, b < W.heap.size → w1.cell? ⟨b, o, none⟩ = W.cell? ⟨b, o, none⟩) ∧ (∀ b o, b < W.heap.size → w1.frozen? ⟨b, o, none⟩ = W.frozen? ⟨b, o, none⟩) :=
  ⟨fun b o h => hb.cell (p := ⟨b, o, none⟩) h, fun b o h => hb.frozen (p := ⟨b, o, none⟩) h⟩
theorem below_box {w : World} (o : Obj) : Below w.heap.size w (w.alloc o) := below_alloc0 (Below.refl _ _) o
theorem bset {B : Nat} {a w : World} (h : Below B a w) (g o : Nat) (v : Value) (hg : B ≤ g) : Below B a (w.setCell ⟨g, o, none⟩ v) := h.setCell (p := ⟨g, o, none⟩) hg v
theorem hcall {W W' : World} {g : Nat} {o : Obj} (h : W.heap[g]? = some o) (b : Below W.heap.size W W') : W'.heap[g]? = some o := (b.block g (Array.getElem?_eq_some_iff.1 h).1).trans h
theorem halloc {W : World} {g : Nat} {o : Obj} (h : W.heap[g]? = some o) (x : Obj) : (W.alloc x).heap[g]? = some o := (Below.heap_alloc _ _ _ (Array.getElem?_eq_some_iff.1 h).1).trans h
theorem size_alloc (w : World) (o : Obj) : (w.alloc o).heap.size = w.heap.size + 1 := Array.size_push ..
end Go.Proofs.YtbpfcjdjhponaaaGreat
