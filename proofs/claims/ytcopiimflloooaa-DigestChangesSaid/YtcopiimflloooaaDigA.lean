/-
Plain definitions and laws: tables of what is seen (layer 5), without any Go.
-/
import Derived.Test.YtcopiimflloooaaAssoc
import Derived.Test.YtcopiimflloooaaSpecD
import Derived.Test.YtcopiimflloooaaValF
set_option linter.unusedSectionVars false
namespace Go.Proofs.Ytcopiimflloooaa
namespace Sp
/-- A row of a table. -/
structure Sn where
  c : ByteArray
  v : Int × Int × Int × ByteArray
instance : DecidableEq Sn := fun a b => decidable_of_iff (a.c = b.c ∧ a.v = b.v) ⟨fun h => by cases a; cases b; simp only at h; obtain ⟨h1, h2⟩ := h; subst h1 h2; rfl, fun h => by subst h; exact ⟨rfl, rfl⟩⟩
/-- A change. -/
structure Ch where
  c : ByteArray
  on : Bool
  v : Int × Int × Int × ByteArray
instance : DecidableEq Ch := fun a b => decidable_of_iff (a.c = b.c ∧ a.on = b.on ∧ a.v = b.v) ⟨fun h => by cases a; cases b; simp only at h; obtain ⟨h1, h2, h3⟩ := h; subst h1 h2 h3; rfl, fun h => by subst h; exact ⟨rfl, rfl, rfl⟩⟩
def rowOk (x : Sn) : Bool := isName x.c && mayV x.v.1 x.v.2.1 x.v.2.2.1 x.v.2.2.2
def adjT : List Sn → Bool
  | a :: b :: l => less a.c b.c && adjT (b :: l)
  | _ => true
def mayT (l : List Sn) : Bool := decide (l.length ≤ 32) && (l.all rowOk && adjT l)
theorem adjT_iff : ∀ l : List Sn, adjT l = true ↔ ∀ i (h : i + 1 < l.length), less l[i].c l[i + 1].c = true
  | [] => by simp [adjT]
  | [a] => by simp [adjT]
  | a :: b :: l => by
    rw [adjT, Bool.and_eq_true, adjT_iff (b :: l)]
    constructor
    · rintro ⟨h1, h2⟩ i hi
      cases i with
      | zero => exact h1
      | succ i => exact h2 i (by simp only [List.length_cons] at hi ⊢; omega)
    · intro h
      exact ⟨h 0 (by simp), fun i hi => h (i + 1) (by simp only [List.length_cons] at hi ⊢; omega)⟩
theorem mayT_iff (l : List Sn) : mayT l = true ↔ l.length ≤ 32 ∧ (∀ s ∈ l, rowOk s = true) ∧ ∀ i (h : i + 1 < l.length), less l[i].c l[i + 1].c = true := by
  unfold mayT
  rw [Bool.and_eq_true, Bool.and_eq_true, decide_eq_true_eq, List.all_eq_true, adjT_iff]
abbrev OrdT (l : List Sn) : Prop := InOrd Sn.c less l
theorem mayT_ord {l : List Sn} (h : mayT l = true) : OrdT l := ord_of_adj less_ord l ((mayT_iff l).1 h).2.2
theorem mayT_of {l : List Sn} (h1 : l.length ≤ 32) (h2 : ∀ s ∈ l, rowOk s = true) (h3 : OrdT l) : mayT l = true := (mayT_iff l).2 ⟨h1, h2, adj_of_ord h3⟩
/-- The place behind the last row that stands ahead of a name. -/
def atT (l : List Sn) (c : ByteArray) : Nat := (l.reverse.dropWhile fun x => !less x.c c).length
theorem atT_nil (c : ByteArray) : atT [] c = 0 := rfl
theorem atT_snoc (l : List Sn) (x : Sn) (c : ByteArray) : atT (l ++ [x]) c = if less x.c c then l.length + 1 else atT l c := by
  unfold atT
  rw [List.reverse_append, List.reverse_cons, List.reverse_nil, List.nil_append, List.singleton_append, List.dropWhile_cons]
  cases h : less x.c c <;> simp
theorem atT_le : ∀ (l : List Sn) (c : ByteArray), atT l c ≤ l.length := by
  intro l c
  unfold atT
  have := (List.dropWhile_sublist (l := l.reverse) (fun x : Sn => !less x.c c)).length_le
  rw [List.length_reverse] at this
  exact this
def restT (l : List Sn) (c : ByteArray) : List Sn := delK Sn.c l c
def setT (l : List Sn) (x : Ch) : List Sn :=
  if x.on then (restT l x.c).take (atT (restT l x.c) x.c) ++ ⟨x.c, x.v⟩ :: (restT l x.c).drop (atT (restT l x.c) x.c) else restT l x.c
def getT (l : List Sn) (c : ByteArray) : (Int × Int × Int × ByteArray) × Bool := match getK Sn.c l c with | some x => (x.v, true) | none => ((0, 0, 0, ⟨#[]⟩), false)
def chT (a b : List Sn) (c : ByteArray) : Option Ch := if getT a c = getT b c then none else some ⟨c, (getT b c).2, (getT b c).1⟩
def namesT (a b : List Sn) : List ByteArray := mergeS (a.map Sn.c) (b.map Sn.c)
def changesT (a b : List Sn) : List Ch := (namesT a b).filterMap (chT a b)
/-- In a row in order the place is the one of all that stand ahead. -/
theorem atT_ord : ∀ (l : List Sn) (c : ByteArray), OrdT l → atT l c = (l.takeWhile fun x => less x.c c).length := by
  intro l c h
  have hl := tw_dw l (fun x => less x.c c)
  generalize hp : l.takeWhile (fun x => less x.c c) = p at hl ⊢
  generalize hq : l.dropWhile (fun x => less x.c c) = q at hl
  have hq' : ∀ y ∈ q, less y.c c = false := by
    intro y hy
    cases q with
    | nil => cases hy
    | cons z q =>
      have hz : less z.c c = false := dropWhile_head (fun x : Sn => less x.c c) l z (by rw [hq]; rfl)
      rcases List.mem_cons.1 hy with rfl | hy
      · exact hz
      · have h' := h
        rw [OrdT, InOrd, ← hl, List.pairwise_append] at h'
        have hzy := (List.pairwise_cons.1 h'.2.1).1 y hy
        rw [← Bool.not_eq_true]
        intro hyc
        rw [less_trans _ _ _ hzy hyc] at hz
        cases hz
  have hp' : ∀ y ∈ p, less y.c c = true := fun y hy => by rw [← hp] at hy; exact takeWhile_all _ l y hy
  rw [← hl]
  clear hl hp hq h
  unfold atT
  rw [List.reverse_append]
  have h1 : ∀ (r s : List Sn), (∀ y ∈ r, less y.c c = false) → (r ++ s).dropWhile (fun x => !less x.c c) = s.dropWhile (fun x => !less x.c c) := by
    intro r s hr
    induction r with
    | nil => rfl
    | cons a r ih =>
      rw [List.cons_append, List.dropWhile_cons, if_pos (by rw [hr a List.mem_cons_self]; rfl)]
      exact ih fun y hy => hr y (List.mem_cons_of_mem _ hy)
  rw [h1 _ _ (fun y hy => hq' y (List.mem_reverse.1 hy))]
  have h2 : ∀ s : List Sn, (∀ y ∈ s, less y.c c = true) → s.dropWhile (fun x => !less x.c c) = s := by
    intro s hs
    cases s with
    | nil => rfl
    | cons a s => rw [List.dropWhile_cons, if_neg (by rw [hs a List.mem_cons_self]; decide)]
  rw [h2 _ (fun y hy => hp' y (List.mem_reverse.1 hy)), List.length_reverse]
theorem setT_on {l : List Sn} (h : OrdT l) (x : Ch) (hx : x.on = true) : setT l x = putK Sn.c less l ⟨x.c, x.v⟩ := by
  unfold setT
  rw [if_pos hx]
  unfold restT
  rw [atT_ord _ _ (delK_ord h _), take_tw, drop_tw]
  rfl
theorem setT_off (l : List Sn) (x : Ch) (hx : x.on = false) : setT l x = delK Sn.c l x.c := by
  unfold setT
  rw [if_neg (by rw [hx]; decide)]
  rfl
theorem setT_ord {l : List Sn} (h : OrdT l) (x : Ch) : OrdT (setT l x) := by
  cases hx : x.on with
  | true => rw [setT_on h x hx]; exact putK_ord less_ord h _
  | false => rw [setT_off l x hx]; exact delK_ord h _
theorem get_setT {l : List Sn} (h : OrdT l) (x : Ch) (c : ByteArray) : getK Sn.c (setT l x) c = if c = x.c then (if x.on then some ⟨x.c, x.v⟩ else none) else getK Sn.c l c := by
  cases hx : x.on with
  | true => rw [setT_on h x hx, getK_putK less_ord h]; simp
  | false => rw [setT_off l x hx, getK_delK]; simp
theorem setT_mem {l : List Sn} (h : OrdT l) (x : Ch) (y : Sn) (hy : y ∈ setT l x) : (y = ⟨x.c, x.v⟩ ∧ x.on = true) ∨ y ∈ l := by
  cases hx : x.on with
  | true =>
    rw [setT_on h x hx] at hy
    rcases putK_mem.1 hy with hy | hy
    · exact .inl ⟨hy, rfl⟩
    · exact .inr hy.1
  | false =>
    rw [setT_off l x hx] at hy
    exact .inr (delK_mem.1 hy).1
theorem setT_len {l : List Sn} (h : OrdT l) (x : Ch) : (setT l x).length ≤ l.length + 1 := by
  cases hx : x.on with
  | true =>
    rw [setT_on h x hx]
    cases hg : getK Sn.c l x.c with
    | none => rw [putK_len_new (x := (⟨x.c, x.v⟩ : Sn)) hg]; omega
    | some y => rw [putK_len_old less_ord h (x := (⟨x.c, x.v⟩ : Sn)) hg]; omega
  | false =>
    rw [setT_off l x hx]
    have := List.length_filter_le (fun y => !decide (Sn.c y = x.c)) l
    unfold delK
    omega
theorem setT_len_any (l : List Sn) (x : Ch) : (setT l x).length ≤ l.length + 1 := by
  have h1 := List.length_filter_le (fun y => !decide (Sn.c y = x.c)) l
  have h2 := atT_le (restT l x.c) x.c
  unfold setT
  split
  · rw [List.length_append, List.length_cons, List.length_take, List.length_drop]
    unfold restT delK at h2 ⊢
    omega
  · unfold restT delK
    omega
theorem getT_some {l : List Sn} {c : ByteArray} {x : Sn} (h : getK Sn.c l c = some x) : getT l c = (x.v, true) := by unfold getT; rw [h]
theorem getT_none {l : List Sn} {c : ByteArray} (h : getK Sn.c l c = none) : getT l c = ((0, 0, 0, ⟨#[]⟩), false) := by unfold getT; rw [h]
theorem getT_eq {a b : List Sn} {c : ByteArray} (h : getT a c = getT b c) : getK Sn.c a c = getK Sn.c b c := by
  cases ha : getK Sn.c a c with
  | none =>
    rw [getT_none ha] at h
    cases hb : getK Sn.c b c with
    | none => rfl
    | some y => rw [getT_some hb] at h; injection h with _ h; cases h
  | some x =>
    rw [getT_some ha] at h
    cases hb : getK Sn.c b c with
    | none => rw [getT_none hb] at h; injection h with _ h; cases h
    | some y =>
      rw [getT_some hb] at h
      injection h with h _
      have h1 := (getK_mem ha).2
      have h2 := (getK_mem hb).2
      cases x; cases y
      simp only at h h1 h2
      subst h h1 h2
      rfl
/-- DigestGets: what is set is got. -/
theorem gets_plain {t : List Sn} (h : OrdT t) (x : Ch) : (x.on = true → getT (setT t x) x.c = (x.v, true)) ∧ (x.on = false → getT (setT t x) x.c = ((0, 0, 0, ⟨#[]⟩), false)) ∧ ∀ o, o ≠ x.c → getT t o = getT (setT t x) o := by
  refine ⟨fun hx => ?_, fun hx => ?_, fun o ho => ?_⟩
  · rw [getT_some (x := ⟨x.c, x.v⟩) (by rw [get_setT h, if_pos rfl, if_pos hx])]
  · rw [getT_none (by rw [get_setT h, if_pos rfl, if_neg (by rw [hx]; decide)])]
  · unfold getT
    rw [get_setT h, if_neg ho]
theorem gets_may {t : List Sn} (h : mayT t = true) (x : Ch) : mayT (setT t x) = (!x.on || (rowOk ⟨x.c, x.v⟩ && decide ((setT t x).length ≤ 32))) := by
  have ho := mayT_ord h
  obtain ⟨h1, h2, _⟩ := (mayT_iff t).1 h
  rw [Bool.eq_iff_iff]
  constructor
  · intro hm
    obtain ⟨h3, h4, _⟩ := (mayT_iff _).1 hm
    cases hx : x.on with
    | false => rfl
    | true =>
      rw [h4 ⟨x.c, x.v⟩ (by rw [setT_on ho x hx]; exact putK_mem.2 (.inl rfl)), decide_eq_true h3]
      rfl
  · intro hm
    rw [Bool.or_eq_true, Bool.and_eq_true, decide_eq_true_eq] at hm
    rcases hm with hm | ⟨hm, h3⟩
    · have hx : x.on = false := by simpa using hm
      have hlen := List.length_filter_le (fun y => !decide (Sn.c y = x.c)) t
      rw [setT_off t x hx]
      exact mayT_of (by unfold delK; omega) (fun y hy => h2 y (delK_mem.1 hy).1) (delK_ord ho _)
    · refine mayT_of h3 (fun y hy => ?_) (setT_ord ho x)
      rcases setT_mem ho x y hy with ⟨hy, _⟩ | hy
      · rw [hy]; exact hm
      · exact h2 y hy
/-- DigestTwo. -/
theorem twoT_plain {t : List Sn} (h : OrdT t) (a b : Ch) : setT (setT t a) a = setT t a ∧ (a.c = b.c → setT (setT t a) b = setT t b ∧ setT (setT t b) a = setT t a) ∧ (a.c ≠ b.c → setT (setT t a) b = setT (setT t b) a) := by
  have key : ∀ x y : Ch, x.c = y.c → setT (setT t x) y = setT t y := fun x y e => by
    refine get_ext less_ord (setT_ord (setT_ord h x) y) (setT_ord h y) fun k => ?_
    rw [get_setT (setT_ord h x), get_setT h, get_setT h]
    by_cases hk : k = y.c
    · rw [if_pos hk, if_pos hk]
    · rw [if_neg hk, if_neg hk, if_neg (fun e' => hk (e'.trans e))]
  refine ⟨key a a rfl, fun e => ⟨key a b e, key b a e.symm⟩, fun e => ?_⟩
  refine get_ext less_ord (setT_ord (setT_ord h a) b) (setT_ord (setT_ord h b) a) fun k => ?_
  rw [get_setT (setT_ord h a), get_setT h, get_setT (setT_ord h b), get_setT h]
  by_cases hk : k = b.c
  · rw [if_pos hk, if_pos hk, if_neg (show ¬ k = a.c from fun e' => e (e'.symm.trans hk))]
  · rw [if_neg hk, if_neg hk]
/-- DigestChanges: the changes, set one behind the other. -/
theorem names_mem {a b : List Sn} {c : ByteArray} : c ∈ namesT a b ↔ (∃ x ∈ a, x.c = c) ∨ ∃ x ∈ b, x.c = c := by
  unfold namesT
  rw [mergeS_mem]
  simp
theorem chT_some {a b : List Sn} {c : ByteArray} {x : Ch} (h : chT a b c = some x) : x = ⟨c, (getT b c).2, (getT b c).1⟩ ∧ getT a c ≠ getT b c := by
  unfold chT at h
  split at h
  · cases h
  · rename_i hne
    injection h with h
    exact ⟨h.symm, hne⟩
theorem chT_c {a b : List Sn} {c : ByteArray} {x : Ch} (h : chT a b c = some x) : x.c = c := by rw [(chT_some h).1]
theorem changes_mem {a b : List Sn} {x : Ch} : x ∈ changesT a b ↔ x.c ∈ namesT a b ∧ chT a b x.c = some x := by
  unfold changesT
  rw [List.mem_filterMap]
  constructor
  · rintro ⟨c, hc, hx⟩
    rw [chT_c hx]
    exact ⟨hc, hx⟩
  · rintro ⟨h1, h2⟩
    exact ⟨x.c, h1, h2⟩
theorem getT_out {a : List Sn} {c : ByteArray} (h : ¬ ∃ x ∈ a, x.c = c) : getK Sn.c a c = none := getK_none.2 fun x hx e => h ⟨x, hx, e⟩
theorem changes_ord (a b : List Sn) : (changesT a b).Pairwise fun x y => less x.c y.c = true := by
  unfold changesT
  rw [List.pairwise_filterMap]
  refine List.Pairwise.imp ?_ (mergeS_sorted _ _)
  intro x y hxy p hp q hq
  rw [chT_c hp, chT_c hq]
  exact hxy
/-- What is got behind some changes of unlike contacts. -/
theorem fold_get : ∀ (l : List Ch) (t : List Sn), OrdT t → (l.Pairwise fun x y => x.c ≠ y.c) → OrdT (l.foldl setT t) ∧ ∀ c, getK Sn.c (l.foldl setT t) c = match l.find? (fun x => decide (x.c = c)) with | some x => (if x.on then some ⟨x.c, x.v⟩ else none) | none => getK Sn.c t c
  | [], t, h, _ => ⟨h, fun c => rfl⟩
  | x :: l, t, h, hp => by
    obtain ⟨h1, h2⟩ := List.pairwise_cons.1 hp
    obtain ⟨h3, h4⟩ := fold_get l (setT t x) (setT_ord h x) h2
    refine ⟨h3, fun c => ?_⟩
    rw [List.foldl_cons, h4, List.find?_cons, get_setT h]
    by_cases hc : x.c = c
    · have hn : l.find? (fun y => decide (y.c = c)) = none := by
        rw [List.find?_eq_none]
        intro y hy
        have := h1 y hy
        simp only [decide_eq_true_eq]
        exact fun e => this (hc.trans e.symm)
      rw [hn, decide_eq_true hc, if_pos hc.symm]
    · rw [decide_eq_false hc, if_neg (fun e => hc e.symm)]
theorem changes_find (a b : List Sn) (c : ByteArray) (hc : c ∈ namesT a b) : (changesT a b).find? (fun x => decide (x.c = c)) = chT a b c := by
  cases hf : (changesT a b).find? (fun x => decide (x.c = c)) with
  | none =>
    rw [List.find?_eq_none] at hf
    cases hch : chT a b c with
    | none => rfl
    | some x =>
      have := hf x (changes_mem.2 (by rw [chT_c hch]; exact ⟨hc, hch⟩))
      rw [chT_c hch] at this
      simp at this
  | some x =>
    have h1 := List.mem_of_find?_eq_some hf
    have h2 : x.c = c := of_decide_eq_true (List.find?_some (p := fun x : Ch => decide (x.c = c)) hf)
    obtain ⟨h3, h4⟩ := changes_mem.1 h1
    rw [h2] at h4
    rw [h4]
theorem changes_find_no (a b : List Sn) (c : ByteArray) (hc : ¬ c ∈ namesT a b) : (changesT a b).find? (fun x => decide (x.c = c)) = none := by
  rw [List.find?_eq_none]
  intro x hx
  simp only [decide_eq_true_eq]
  rintro rfl
  exact hc (changes_mem.1 hx).1
theorem getK_of_ch {b : List Sn} {c : ByteArray} : (if (getT b c).2 then some (⟨c, (getT b c).1⟩ : Sn) else none) = getK Sn.c b c := by
  cases hb : getK Sn.c b c with
  | none => rw [getT_none hb]; rfl
  | some y =>
    rw [getT_some hb]
    have := (getK_mem hb).2
    cases y
    simp only at this
    subst this
    rfl
theorem changes_ne (a b : List Sn) : (changesT a b).Pairwise fun x y => x.c ≠ y.c := List.Pairwise.imp (fun h e => by rw [e, less_irrefl] at h; cases h) (changes_ord a b)
theorem changes_back {t u : List Sn} (ht : OrdT t) (hu : OrdT u) : (changesT t u).foldl setT t = u := by
  obtain ⟨h1, h2⟩ := fold_get (changesT t u) t ht (changes_ne t u)
  refine get_ext less_ord h1 hu fun c => ?_
  rw [h2]
  by_cases hn : c ∈ namesT t u
  · rw [changes_find t u c hn]
    cases hx : chT t u c with
    | some x =>
      rw [(chT_some hx).1]
      exact getK_of_ch
    | none =>
      unfold chT at hx
      split at hx
      · rename_i he
        exact getT_eq he
      · cases hx
  · rw [changes_find_no t u c hn]
    rw [names_mem, not_or] at hn
    rw [getT_out hn.1, getT_out hn.2]
theorem changes_self (t : List Sn) : changesT t t = [] := by
  unfold changesT
  rw [List.filterMap_eq_nil_iff]
  intro c _
  unfold chT
  rw [if_pos rfl]
/-- Without one of them it is not that table. -/
theorem changes_skip {t u : List Sn} (ht : OrdT t) (k : Nat) (hk : k < (changesT t u).length) : ((changesT t u).take k ++ (changesT t u).drop (k + 1)).foldl setT t ≠ u := by
  intro he
  have hsub : ((changesT t u).take k ++ (changesT t u).drop (k + 1)).Sublist (changesT t u) := by
    have h1 : changesT t u = (changesT t u).take k ++ (changesT t u).drop k := (List.take_append_drop k _).symm
    conv => rhs; rw [h1]
    exact List.Sublist.append (List.Sublist.refl _) (by rw [← List.getElem_cons_drop hk]; exact List.sublist_cons_self _ _)
  have hne := changes_ne t u
  obtain ⟨h1, h2⟩ := fold_get _ t ht (List.Pairwise.sublist hsub hne)
  rw [he] at h2
  have hx : (changesT t u)[k] ∈ changesT t u := List.getElem_mem _
  obtain ⟨h3, h4⟩ := changes_mem.1 hx
  have h5 := h2 (changesT t u)[k].c
  have hfn : ((changesT t u).take k ++ (changesT t u).drop (k + 1)).find? (fun x => decide (x.c = (changesT t u)[k].c)) = none := by
    rw [List.find?_eq_none]
    intro y hy
    have hp := List.pairwise_iff_getElem.1 hne
    simp only [decide_eq_true_eq]
    rcases List.mem_append.1 hy with hy | hy
    · obtain ⟨j, hj, rfl⟩ := List.getElem_of_mem hy
      rw [List.length_take] at hj
      rw [List.getElem_take]
      exact hp j k (by omega) hk (by omega)
    · obtain ⟨j, hj, rfl⟩ := List.getElem_of_mem hy
      rw [List.length_drop] at hj
      rw [List.getElem_drop]
      exact fun e => hp k (k + 1 + j) hk (by omega) (by omega) e.symm
  rw [hfn] at h5
  refine (chT_some h4).2 ?_
  unfold getT
  rw [show getK Sn.c u (changesT t u)[k].c = getK Sn.c t (changesT t u)[k].c from h5]
/-- The bytes' sum. -/
def fnv (h : Nat) (b : UInt8) : Nat := ((h ^^^ b.toNat) * 1099511628211) % 18446744073709551616
def putT (l : List Sn) : ByteArray × Bool :=
  if mayT l then (strOf (putV l.length ++ l.flatMap fun x => (textV x.c).data.toList ++ (putVal x.v.1 x.v.2.1 x.v.2.2.1 x.v.2.2.2).1.data.toList), true) else (⟨#[]⟩, false)
def sumT (l : List Sn) : Nat := (putT l).1.data.toList.foldl fnv 14695981039346656037
/-- n rows from place a on. -/
def rowsT (s : ByteArray) : Nat → Int → List Sn → List Sn × Int × Int
  | 0, a, l => (l, a, 0)
  | n + 1, a, l =>
    let x := takeN s a
    if x.2.2 ≠ 0 then ([], 0, x.2.2) else
      let y := takeVal s x.2.1
      if y.2.2 ≠ 0 then ([], 0, y.2.2) else rowsT s n y.2.1 (l ++ [⟨x.1, y.1⟩])
def takeT (s : ByteArray) (a : Int) : List Sn × Int × Int :=
  let g := getV s a
  if g.2.2 ≠ 0 then ([], 0, g.2.2) else if 32 < g.1 then ([], 0, 3) else
    let r := rowsT s g.1 g.2.1 []
    if r.2.2 ≠ 0 then ([], 0, r.2.2) else if mayT r.1 then (r.1, r.2.1, 0) else ([], 0, 3)
end Sp
end Go.Proofs.Ytcopiimflloooaa
