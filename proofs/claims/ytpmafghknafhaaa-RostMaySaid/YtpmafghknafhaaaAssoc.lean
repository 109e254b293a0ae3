/-
Plain: lists that stand in a strict order of their keys: what is found, put, and taken away.
-/
import Derived.Test.YtpmafghknafhaaaSpecC
set_option linter.unusedSectionVars false
namespace Go.Proofs.Ytpmafghknafhaaa
namespace Sp
structure SOrd {K : Type} (lt : K → K → Bool) : Prop where
  irr : ∀ a, lt a a = false
  tr : ∀ a b c, lt a b = true → lt b c = true → lt a c = true
  tri : ∀ a b, a ≠ b → lt a b = true ∨ lt b a = true
section
variable {α K : Type} {key : α → K} {lt : K → K → Bool}
theorem SOrd.asymm (O : SOrd lt) {a b : K} (h : lt a b = true) : lt b a = false := by
  rw [← Bool.not_eq_true]
  intro h2
  have := O.tr a b a h h2
  rw [O.irr] at this
  cases this
theorem SOrd.ne (O : SOrd lt) {a b : K} (h : lt a b = true) : a ≠ b := by
  rintro rfl
  rw [O.irr] at h
  cases h
def InOrd (key : α → K) (lt : K → K → Bool) (l : List α) : Prop := l.Pairwise fun a b => lt (key a) (key b) = true
theorem ord_ext (O : SOrd lt) : ∀ l m : List α, InOrd key lt l → InOrd key lt m → (∀ x, x ∈ l ↔ x ∈ m) → l = m
  | [], [], _, _, _ => rfl
  | [], b :: m, _, _, h => absurd ((h b).2 List.mem_cons_self) (by simp)
  | a :: l, [], _, _, h => absurd ((h a).1 List.mem_cons_self) (by simp)
  | a :: l, b :: m, hl, hm, h => by
    obtain ⟨ha, hl'⟩ := List.pairwise_cons.1 hl
    obtain ⟨hb, hm'⟩ := List.pairwise_cons.1 hm
    have hab : a = b := by
      rcases List.mem_cons.1 ((h a).1 List.mem_cons_self) with e | e
      · exact e
      · rcases List.mem_cons.1 ((h b).2 List.mem_cons_self) with e' | e'
        · exact e'.symm
        · have h1 := hb a e
          have h2 := O.asymm (ha b e')
          rw [h1] at h2
          cases h2
    subst hab
    congr 1
    refine ord_ext O l m hl' hm' fun x => ?_
    have hx := h x
    simp only [List.mem_cons] at hx
    constructor
    · intro hxl
      rcases hx.1 (.inr hxl) with e | e
      · subst e
        exact absurd rfl (O.ne (ha _ hxl))
      · exact e
    · intro hxm
      rcases hx.2 (.inr hxm) with e | e
      · subst e
        exact absurd rfl (O.ne (hb _ hxm))
      · exact e
theorem ord_key (O : SOrd lt) {l : List α} (h : InOrd key lt l) {x y : α} (hx : x ∈ l) (hy : y ∈ l) (e : key x = key y) : x = y := by
  induction l with
  | nil => cases hx
  | cons a l ih =>
    obtain ⟨ha, hl⟩ := List.pairwise_cons.1 h
    rcases List.mem_cons.1 hx with e1 | h1
    · rcases List.mem_cons.1 hy with e2 | h2
      · rw [e1, e2]
      · subst e1; exact absurd e (O.ne (ha y h2))
    · rcases List.mem_cons.1 hy with e2 | h2
      · subst e2; exact absurd e.symm (O.ne (ha x h1))
      · exact ih hl h1 h2
/-- Neighbours in order: all in order. -/
theorem ord_of_adj (O : SOrd lt) : ∀ l : List α, (∀ i (h : i + 1 < l.length), lt (key l[i]) (key l[i + 1]) = true) → InOrd key lt l
  | [], _ => List.Pairwise.nil
  | [a], _ => List.pairwise_singleton _ _
  | a :: b :: l, h => by
    have ih := ord_of_adj O (b :: l) (fun i hi => h (i + 1) (by simp only [List.length_cons] at hi ⊢; omega))
    have hab : lt (key a) (key b) = true := h 0 (by simp)
    refine List.pairwise_cons.2 ⟨fun y hy => ?_, ih⟩
    rcases List.mem_cons.1 hy with rfl | hy
    · exact hab
    · exact O.tr _ _ _ hab ((List.pairwise_cons.1 ih).1 y hy)
theorem adj_of_ord {l : List α} (h : InOrd key lt l) (i : Nat) (hi : i + 1 < l.length) : lt (key l[i]) (key l[i + 1]) = true :=
  List.pairwise_iff_getElem.1 h i (i + 1) (by omega) hi (by omega)
theorem ord_filter {l : List α} (p : α → Bool) (h : InOrd key lt l) : InOrd key lt (l.filter p) := List.Pairwise.filter p h
variable [DecidableEq K]
def getK (key : α → K) (l : List α) (k : K) : Option α := l.find? fun x => decide (key x = k)
def delK (key : α → K) (l : List α) (k : K) : List α := l.filter fun x => !decide (key x = k)
def insK (key : α → K) (lt : K → K → Bool) (l : List α) (x : α) : List α := l.takeWhile (fun y => lt (key y) (key x)) ++ x :: l.dropWhile (fun y => lt (key y) (key x))
def putK (key : α → K) (lt : K → K → Bool) (l : List α) (x : α) : List α := insK key lt (delK key l (key x)) x
theorem getK_mem {l : List α} {k : K} {x : α} (h : getK key l k = some x) : x ∈ l ∧ key x = k :=
  ⟨List.mem_of_find?_eq_some h, of_decide_eq_true (List.find?_some (p := fun x => decide (key x = k)) h)⟩
theorem getK_none {l : List α} {k : K} : getK key l k = none ↔ ∀ x ∈ l, key x ≠ k := by
  unfold getK
  rw [List.find?_eq_none]
  simp
theorem getK_of_mem (O : SOrd lt) {l : List α} (h : InOrd key lt l) {x : α} (hx : x ∈ l) : getK key l (key x) = some x := by
  cases hg : getK key l (key x) with
  | none => exact absurd rfl (getK_none.1 hg x hx)
  | some y =>
    obtain ⟨h1, h2⟩ := getK_mem hg
    rw [ord_key O h h1 hx h2]
theorem getK_iff (O : SOrd lt) {l : List α} (h : InOrd key lt l) (k : K) (x : α) : getK key l k = some x ↔ x ∈ l ∧ key x = k :=
  ⟨getK_mem, fun ⟨h1, h2⟩ => by rw [← h2]; exact getK_of_mem O h h1⟩
theorem get_ext (O : SOrd lt) {l m : List α} (hl : InOrd key lt l) (hm : InOrd key lt m) (h : ∀ k, getK key l k = getK key m k) : l = m := by
  refine ord_ext O l m hl hm fun x => ?_
  constructor
  · intro hx
    have := getK_of_mem O hl hx
    rw [h] at this
    exact (getK_mem this).1
  · intro hx
    have := getK_of_mem O hm hx
    rw [← h] at this
    exact (getK_mem this).1
theorem delK_ord {l : List α} (h : InOrd key lt l) (k : K) : InOrd key lt (delK key l k) := List.Pairwise.filter _ h
theorem delK_mem {l : List α} {k : K} {x : α} : x ∈ delK key l k ↔ x ∈ l ∧ key x ≠ k := by
  unfold delK
  rw [List.mem_filter]
  simp
theorem getK_delK {l : List α} (k k' : K) : getK key (delK key l k) k' = if k' = k then none else getK key l k' := by
  induction l with
  | nil => unfold delK getK; simp
  | cons a l ih =>
    unfold delK getK at ih ⊢
    rw [List.filter_cons, List.find?_cons]
    by_cases h1 : key a = k
    · rw [if_neg (by simp [h1]), ih]
      by_cases h2 : k' = k
      · rw [if_pos h2, if_pos h2]
      · rw [if_neg h2, if_neg h2, decide_eq_false (fun e => h2 (e.symm.trans h1))]
    · rw [if_pos (by simp [h1]), List.find?_cons, ih]
      by_cases h3 : key a = k'
      · rw [decide_eq_true h3]
        simp only
        rw [if_neg (fun e => h1 (h3.trans e))]
      · rw [decide_eq_false h3]
theorem delK_none {l : List α} {k : K} (h : getK key l k = none) : delK key l k = l := by
  unfold delK
  rw [List.filter_eq_self]
  intro x hx
  simpa using getK_none.1 h x hx
theorem tw_dw (l : List α) (p : α → Bool) : l.takeWhile p ++ l.dropWhile p = l := List.takeWhile_append_dropWhile
theorem take_tw (p : α → Bool) : ∀ l : List α, l.take (l.takeWhile p).length = l.takeWhile p
  | [] => rfl
  | a :: l => by
    rw [List.takeWhile_cons]
    split
    · rw [List.length_cons, List.take_succ_cons, take_tw p l]
    · rfl
theorem drop_tw (p : α → Bool) : ∀ l : List α, l.drop (l.takeWhile p).length = l.dropWhile p
  | [] => rfl
  | a :: l => by
    rw [List.takeWhile_cons, List.dropWhile_cons]
    split
    · rw [List.length_cons, List.drop_succ_cons, drop_tw p l]
    · rfl
theorem insK_mem {l : List α} {x y : α} : y ∈ insK key lt l x ↔ y = x ∨ y ∈ l := by
  unfold insK
  rw [List.mem_append, List.mem_cons]
  conv => rhs; rw [← tw_dw l (fun y => lt (key y) (key x)), List.mem_append]
  constructor
  · rintro (h | h | h)
    · exact .inr (.inl h)
    · exact .inl h
    · exact .inr (.inr h)
  · rintro (h | h | h)
    · exact .inr (.inl h)
    · exact .inl h
    · exact .inr (.inr h)
theorem insK_ord (O : SOrd lt) {l : List α} (h : InOrd key lt l) (x : α) (hx : ∀ y ∈ l, key y ≠ key x) : InOrd key lt (insK key lt l x) := by
  have hl := tw_dw l (fun y => lt (key y) (key x))
  unfold insK InOrd
  have h' := h
  rw [InOrd, ← hl, List.pairwise_append] at h'
  obtain ⟨h1, h2, h3⟩ := h'
  rw [List.pairwise_append]
  have hq : ∀ y ∈ l.dropWhile (fun y => lt (key y) (key x)), lt (key x) (key y) = true := by
    cases hd : l.dropWhile (fun y => lt (key y) (key x)) with
    | nil => intro y hy; cases hy
    | cons z q =>
      rw [hd] at h2
      have hz : lt (key z) (key x) = false := dropWhile_head (fun y => lt (key y) (key x)) l z (by rw [hd]; rfl)
      have hzl : z ∈ l := by rw [← hl, hd]; exact List.mem_append_right _ List.mem_cons_self
      have hxz : lt (key x) (key z) = true := by
        rcases O.tri (key z) (key x) (hx z hzl) with e | e
        · rw [hz] at e; cases e
        · exact e
      intro y hy
      rcases List.mem_cons.1 hy with rfl | hy
      · exact hxz
      · exact O.tr _ _ _ hxz ((List.pairwise_cons.1 h2).1 y hy)
  refine ⟨h1, List.pairwise_cons.2 ⟨hq, h2⟩, fun a ha b hb => ?_⟩
  have hax : lt (key a) (key x) = true := takeWhile_all _ l a ha
  rcases List.mem_cons.1 hb with rfl | hb
  · exact hax
  · exact O.tr _ _ _ hax (hq b hb)
theorem getK_insK (O : SOrd lt) {l : List α} (h : InOrd key lt l) (x : α) (hx : ∀ y ∈ l, key y ≠ key x) (k : K) : getK key (insK key lt l x) k = if k = key x then some x else getK key l k := by
  have ho := insK_ord O h x hx
  by_cases hk : k = key x
  · subst hk
    rw [if_pos rfl]
    exact getK_of_mem O ho (insK_mem.2 (.inl rfl))
  · rw [if_neg hk]
    cases hg : getK key l k with
    | none =>
      rw [getK_none] at hg ⊢
      intro y hy
      rcases insK_mem.1 hy with rfl | hy
      · exact fun e => hk e.symm
      · exact hg y hy
    | some y =>
      obtain ⟨h1, h2⟩ := getK_mem hg
      rw [getK_iff O ho]
      exact ⟨insK_mem.2 (.inr h1), h2⟩
theorem putK_ord (O : SOrd lt) {l : List α} (h : InOrd key lt l) (x : α) : InOrd key lt (putK key lt l x) :=
  insK_ord O (delK_ord h _) x fun _ hy => (delK_mem.1 hy).2
theorem getK_putK (O : SOrd lt) {l : List α} (h : InOrd key lt l) (x : α) (k : K) : getK key (putK key lt l x) k = if k = key x then some x else getK key l k := by
  unfold putK
  rw [getK_insK O (delK_ord h _) x (fun _ hy => (delK_mem.1 hy).2), getK_delK]
  by_cases hk : k = key x
  · rw [if_pos hk, if_pos hk]
  · rw [if_neg hk, if_neg hk, if_neg hk]
theorem putK_mem {l : List α} {x y : α} : y ∈ putK key lt l x ↔ y = x ∨ (y ∈ l ∧ key y ≠ key x) := by
  unfold putK
  rw [insK_mem, delK_mem]
theorem insK_len (l : List α) (x : α) : (insK key lt l x).length = l.length + 1 := by
  have := congrArg List.length (tw_dw l (fun y => lt (key y) (key x)))
  rw [List.length_append] at this
  unfold insK
  rw [List.length_append, List.length_cons]
  omega
theorem delK_len (O : SOrd lt) {l : List α} (h : InOrd key lt l) {x : α} (hx : x ∈ l) : (delK key l (key x)).length + 1 = l.length := by
  induction l with
  | nil => cases hx
  | cons a l ih =>
    obtain ⟨ha, hl⟩ := List.pairwise_cons.1 h
    unfold delK at ih ⊢
    rw [List.filter_cons]
    rcases List.mem_cons.1 hx with rfl | hx
    · rw [if_neg (by simp), List.length_cons]
      have : l.filter (fun y => !decide (key y = key x)) = l := by
        rw [List.filter_eq_self]
        intro y hy
        have := (O.ne (ha y hy)).symm
        simpa using this
      rw [this]
    · have hne : key a ≠ key x := O.ne (ha x hx)
      rw [if_pos (by simp [hne]), List.length_cons, List.length_cons, ih hl hx]
theorem putK_len_new {l : List α} {x : α} (h : getK key l (key x) = none) : (putK key lt l x).length = l.length + 1 := by
  unfold putK
  rw [delK_none h, insK_len]
theorem putK_len_old (O : SOrd lt) {l : List α} (h : InOrd key lt l) {x y : α} (hg : getK key l (key x) = some y) : (putK key lt l x).length = l.length := by
  unfold putK
  obtain ⟨h1, h2⟩ := getK_mem hg
  rw [insK_len, ← h2, delK_len O h h1]
/-- One set at its place. -/
theorem set_putK (O : SOrd lt) {l : List α} (h : InOrd key lt l) (i : Nat) (hi : i < l.length) (x : α) (hx : key l[i] = key x) : l.set i x = putK key lt l x := by
  have ho : InOrd key lt (l.set i x) := by
    have h := List.pairwise_iff_getElem.1 h
    refine List.pairwise_iff_getElem.2 ?_
    intro a b ha hb hab
    rw [List.length_set] at ha hb
    rw [List.getElem_set, List.getElem_set]
    have := h a b ha hb hab
    by_cases e1 : i = a
    · subst e1
      rw [if_pos rfl, if_neg (by omega), ← hx]
      exact this
    · rw [if_neg e1]
      by_cases e2 : i = b
      · subst e2
        rw [if_pos rfl, ← hx]
        exact this
      · rw [if_neg e2]
        exact this
  refine ord_ext O _ _ ho (putK_ord O h x) fun y => ?_
  rw [putK_mem]
  constructor
  · intro hy
    obtain ⟨j, hj, rfl⟩ := List.getElem_of_mem hy
    rw [List.length_set] at hj
    rw [List.getElem_set]
    by_cases e : i = j
    · rw [if_pos e]; exact .inl rfl
    · rw [if_neg e]
      refine .inr ⟨List.getElem_mem _, fun he => ?_⟩
      have hp := List.pairwise_iff_getElem.1 h
      rcases Nat.lt_or_gt_of_ne e with hlt | hlt
      · exact O.ne (hp i j hi hj hlt) (hx.trans he.symm)
      · exact O.ne (hp j i hj hi hlt) (he.trans hx.symm)
  · rintro (rfl | ⟨hy, hne⟩)
    · exact List.mem_iff_getElem.2 ⟨i, by rw [List.length_set]; exact hi, by rw [List.getElem_set, if_pos rfl]⟩
    · obtain ⟨j, hj, rfl⟩ := List.getElem_of_mem hy
      have hij : i ≠ j := fun e => hne (by subst e; exact hx)
      exact List.mem_iff_getElem.2 ⟨j, by rw [List.length_set]; exact hj, by rw [List.getElem_set, if_neg hij]⟩
/-- One taken away at its place. -/
theorem erase_delK (O : SOrd lt) {l : List α} (h : InOrd key lt l) (i : Nat) (hi : i < l.length) : l.take i ++ l.drop (i + 1) = delK key l (key l[i]) := by
  have ho : InOrd key lt (l.take i ++ l.drop (i + 1)) := by
    have : (l.take i ++ l.drop (i + 1)).Sublist l := by
      have h1 : l = l.take i ++ l.drop i := (List.take_append_drop i l).symm
      conv => rhs; rw [h1]
      exact List.Sublist.append (List.Sublist.refl _) (by rw [← List.getElem_cons_drop hi]; exact List.sublist_cons_self _ _)
    exact List.Pairwise.sublist this h
  refine ord_ext O _ _ ho (delK_ord h _) fun y => ?_
  have hp := List.pairwise_iff_getElem.1 h
  rw [delK_mem, List.mem_append]
  constructor
  · rintro (hy | hy)
    · obtain ⟨j, hj, rfl⟩ := List.getElem_of_mem hy
      rw [List.length_take] at hj
      rw [List.getElem_take]
      exact ⟨List.getElem_mem _, O.ne (hp j i (by omega) hi (by omega))⟩
    · obtain ⟨j, hj, rfl⟩ := List.getElem_of_mem hy
      rw [List.length_drop] at hj
      rw [List.getElem_drop]
      exact ⟨List.getElem_mem _, fun e => O.ne (hp i (i + 1 + j) hi (by omega) (by omega)) e.symm⟩
  · rintro ⟨hy, hne⟩
    obtain ⟨j, hj, rfl⟩ := List.getElem_of_mem hy
    rcases Nat.lt_trichotomy j i with e | e | e
    · exact .inl (List.mem_iff_getElem.2 ⟨j, by rw [List.length_take]; omega, by rw [List.getElem_take]⟩)
    · subst e; exact absurd rfl hne
    · refine .inr (List.mem_iff_getElem.2 ⟨j - (i + 1), by rw [List.length_drop]; omega, ?_⟩)
      rw [List.getElem_drop]
      congr 1
      omega
/-- Of unlike keys: put in any order. -/
theorem putK_comm (O : SOrd lt) {l : List α} (h : InOrd key lt l) (x y : α) (hne : key x ≠ key y) : putK key lt (putK key lt l x) y = putK key lt (putK key lt l y) x := by
  refine get_ext O (putK_ord O (putK_ord O h x) y) (putK_ord O (putK_ord O h y) x) fun k => ?_
  rw [getK_putK O (putK_ord O h x), getK_putK O h, getK_putK O (putK_ord O h y), getK_putK O h]
  by_cases h1 : k = key y
  · rw [if_pos h1, if_neg (fun e => hne (e.symm.trans h1)), if_pos h1]
  · rw [if_neg h1, if_neg h1]
theorem putK_twice (O : SOrd lt) {l : List α} (h : InOrd key lt l) (x y : α) (he : key x = key y) : putK key lt (putK key lt l x) y = putK key lt l y := by
  refine get_ext O (putK_ord O (putK_ord O h x) y) (putK_ord O h y) fun k => ?_
  rw [getK_putK O (putK_ord O h x), getK_putK O h, getK_putK O h]
  by_cases h1 : k = key y
  · rw [if_pos h1, if_pos h1]
  · rw [if_neg h1, if_neg h1, if_neg (fun e => h1 (e.trans he))]
theorem delK_putK (O : SOrd lt) {l : List α} (h : InOrd key lt l) (x : α) : delK key (putK key lt l x) (key x) = delK key l (key x) := by
  refine get_ext O (delK_ord (putK_ord O h x) _) (delK_ord h _) fun k => ?_
  rw [getK_delK, getK_delK, getK_putK O h]
  by_cases h1 : k = key x
  · rw [if_pos h1, if_pos h1]
  · rw [if_neg h1, if_neg h1, if_neg h1]
end
/-- A place as a number, -1 for none. -/
def idxI : Option Nat → Int
  | some i => (i : Int)
  | none => -1
theorem idx_at {α : Type} (p : α → Bool) (l : List α) (i : Nat) (hi : i < l.length) (h : ∀ j (hj : j < l.length), j < i → p l[j] = false) (hp : p l[i] = true) : l.findIdx? p = some i := by
  rw [List.findIdx?_eq_some_iff_getElem]
  exact ⟨hi, hp, fun j hj => by rw [h j (by omega) hj]; decide⟩
theorem idx_no {α : Type} (p : α → Bool) (l : List α) (h : ∀ j (hj : j < l.length), p l[j] = false) : l.findIdx? p = none := by
  rw [List.findIdx?_eq_none_iff]
  intro x hx
  obtain ⟨j, hj, rfl⟩ := List.getElem_of_mem hx
  exact h j hj
theorem idx_any {α : Type} (p : α → Bool) (l : List α) : decide (0 ≤ idxI (l.findIdx? p)) = l.any p := by
  cases h : l.findIdx? p with
  | none =>
    rw [List.findIdx?_eq_none_iff] at h
    have : l.any p = false := by rw [List.any_eq_false]; intro x hx; rw [h x hx]; decide
    rw [this]; rfl
  | some i =>
    obtain ⟨hi, h1, _⟩ := List.findIdx?_eq_some_iff_getElem.1 h
    have : l.any p = true := List.any_eq_true.2 ⟨l[i], List.getElem_mem _, h1⟩
    rw [this]
    exact decide_eq_true (by show (0 : Int) ≤ (i : Int); omega)
theorem less_ord : SOrd less := ⟨less_irrefl, less_trans, less_total⟩
end Sp
end Go.Proofs.Ytpmafghknafhaaa
