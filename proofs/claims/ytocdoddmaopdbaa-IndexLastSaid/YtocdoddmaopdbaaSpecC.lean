/-
Plain definitions: how names stand, and lists of names made one, without any Go.
-/
import Derived.Test.YtocdoddmaopdbaaSpecA
namespace Go.Proofs.Ytocdoddmaopdbaa
namespace Sp

theorem ltL_irrefl : ∀ l : List UInt8, ltL l l = false
  | [] => rfl
  | a :: l => by simp [ltL, ltL_irrefl l]
theorem ltL_trans : ∀ x y z : List UInt8, ltL x y = true → ltL y z = true → ltL x z = true
  | _, [], [], _, h => by simp [ltL] at h
  | _, _ :: _, [], _, h => by simp [ltL] at h
  | [], [], _ :: _, h, _ => by simp [ltL] at h
  | _ :: _, [], _ :: _, h, _ => by simp [ltL] at h
  | [], _ :: _, _ :: _, _, _ => rfl
  | a :: x, b :: y, c :: z, h1, h2 => by
    simp only [ltL, Bool.or_eq_true, Bool.and_eq_true, decide_eq_true_eq, beq_iff_eq] at h1 h2 ⊢
    rcases h1 with h1 | ⟨rfl, h1⟩
    · rcases h2 with h2 | ⟨rfl, h2⟩
      · exact .inl (UInt8.lt_trans h1 h2)
      · exact .inl h1
    · rcases h2 with h2 | ⟨rfl, h2⟩
      · exact .inl h2
      · exact .inr ⟨rfl, ltL_trans x y z h1 h2⟩
theorem ltL_total : ∀ x y : List UInt8, x ≠ y → ltL x y = true ∨ ltL y x = true
  | [], [], h => absurd rfl h
  | [], _ :: _, _ => .inl rfl
  | _ :: _, [], _ => .inr rfl
  | a :: x, b :: y, h => by
    simp only [ltL, Bool.or_eq_true, Bool.and_eq_true, decide_eq_true_eq, beq_iff_eq]
    by_cases e : a = b
    · subst e
      have hn : x ≠ y := fun e => h (by rw [e])
      rcases ltL_total x y hn with h | h
      · exact .inl (.inr ⟨rfl, h⟩)
      · exact .inr (.inr ⟨rfl, h⟩)
    · rcases UInt8.lt_or_lt_of_ne e with h | h
      · exact .inl (.inl h)
      · exact .inr (.inl h)

theorem bytes_ext {s t : ByteArray} (h : s.data.toList = t.data.toList) : s = t := by
  cases s; cases t; simp only [Array.toList_inj] at h; rw [h]
theorem less_irrefl (a : ByteArray) : less a a = false := by simp [less, ltL_irrefl]
theorem less_trans (a b c : ByteArray) (h1 : less a b = true) (h2 : less b c = true) : less a c = true := by
  simp only [less, Bool.or_eq_true, Bool.and_eq_true, decide_eq_true_eq, beq_iff_eq] at h1 h2 ⊢
  rcases h1 with h1 | ⟨e1, h1⟩ <;> rcases h2 with h2 | ⟨e2, h2⟩
  · exact .inl (by omega)
  · exact .inl (by omega)
  · exact .inl (by omega)
  · exact .inr ⟨by omega, ltL_trans _ _ _ h1 h2⟩
theorem less_total (a b : ByteArray) (h : a ≠ b) : less a b = true ∨ less b a = true := by
  simp only [less, Bool.or_eq_true, Bool.and_eq_true, decide_eq_true_eq, beq_iff_eq]
  rcases Nat.lt_trichotomy a.size b.size with h1 | h1 | h1
  · exact .inl (.inl h1)
  · rcases ltL_total a.data.toList b.data.toList (fun e => h (bytes_ext e)) with h2 | h2
    · exact .inl (.inr ⟨h1, h2⟩)
    · exact .inr (.inr ⟨h1.symm, h2⟩)
  · exact .inr (.inl h1)
theorem less_asymm (a b : ByteArray) (h : less a b = true) : less b a = false := by
  rw [← Bool.not_eq_true]
  intro h2
  have := less_trans a b a h h2
  rw [less_irrefl] at this
  cases this
theorem not_less_iff (a b : ByteArray) : less a b = false ↔ (a = b ∨ less b a = true) := by
  constructor
  · intro h
    by_cases e : a = b
    · exact .inl e
    · rcases less_total a b e with h2 | h2
      · rw [h] at h2; cases h2
      · exact .inr h2
  · rintro (rfl | h)
    · exact less_irrefl a
    · exact less_asymm b a h

/-- A list by 'less', each text once. -/
def Sorted (l : List ByteArray) : Prop := l.Pairwise fun a b => less a b = true
theorem sorted_ext : ∀ l m : List ByteArray, Sorted l → Sorted m → (∀ x, x ∈ l ↔ x ∈ m) → l = m
  | [], [], _, _, _ => rfl
  | [], b :: m, _, _, h => absurd ((h b).2 List.mem_cons_self) (by simp)
  | a :: l, [], _, _, h => absurd ((h a).1 List.mem_cons_self) (by simp)
  | a :: l, b :: m, hl, hm, h => by
    obtain ⟨ha, hl'⟩ := List.pairwise_cons.1 hl
    obtain ⟨hb, hm'⟩ := List.pairwise_cons.1 hm
    have hab : a = b := by
      rcases List.mem_cons.1 ((h a).1 List.mem_cons_self) with e | e
      · exact e
      · rcases List.mem_cons.1 ((h b).2 List.mem_cons_self) with e' | e'
        · exact e'.symm
        · have h1 := hb a e
          have h2 := less_asymm _ _ (ha b e')
          rw [h1] at h2
          cases h2
    subst hab
    congr 1
    refine sorted_ext l m hl' hm' fun x => ?_
    have hx := h x
    simp only [List.mem_cons] at hx
    constructor
    · intro hxl
      rcases hx.1 (.inr hxl) with e | e
      · subst e
        have := ha _ hxl
        rw [less_irrefl] at this
        cases this
      · exact e
    · intro hxm
      rcases hx.2 (.inr hxm) with e | e
      · subst e
        have := hb _ hxm
        rw [less_irrefl] at this
        cases this
      · exact e

/-- A text into a list by 'less', once. -/
def insS (l : List ByteArray) (s : ByteArray) : List ByteArray :=
  let p := l.takeWhile fun x => less x s
  let q := l.dropWhile fun x => less x s
  if q.head? = some s then l else p ++ s :: q
/-- Two lists as one. -/
def mergeS (a b : List ByteArray) : List ByteArray := (a ++ b).foldl insS []

theorem insS_mem (l : List ByteArray) (s x : ByteArray) : x ∈ insS l s ↔ x = s ∨ x ∈ l := by
  unfold insS
  have hl : l.takeWhile (fun x => less x s) ++ l.dropWhile (fun x => less x s) = l := List.takeWhile_append_dropWhile
  simp only
  split
  · rename_i h
    constructor
    · exact .inr
    · rintro (rfl | h')
      · rw [← hl, List.mem_append]
        exact .inr (List.mem_of_mem_head? (by rw [h]; rfl))
      · exact h'
  · rw [List.mem_append, List.mem_cons]
    conv => rhs; rw [← hl, List.mem_append]
    constructor
    · rintro (h | h | h)
      · exact .inr (.inl h)
      · exact .inl h
      · exact .inr (.inr h)
    · rintro (h | h | h)
      · exact .inr (.inl h)
      · exact .inl h
      · exact .inr (.inr h)
theorem dropWhile_head {α : Type} (p : α → Bool) : ∀ (l : List α) (x : α), (l.dropWhile p).head? = some x → p x = false
  | [], _, h => by simp at h
  | a :: l, x, h => by
    rw [List.dropWhile_cons] at h
    split at h
    · exact dropWhile_head p l x h
    · rename_i hp
      simp only [List.head?_cons, Option.some.injEq] at h
      subst h
      simpa using hp
theorem takeWhile_all {α : Type} (p : α → Bool) : ∀ (l : List α) (x : α), x ∈ l.takeWhile p → p x = true
  | a :: l, x, h => by
    rw [List.takeWhile_cons] at h
    split at h
    · rename_i hp
      rcases List.mem_cons.1 h with e | e
      · rw [e]; exact hp
      · exact takeWhile_all p l x e
    · cases h
theorem insS_sorted (l : List ByteArray) (s : ByteArray) (h : Sorted l) : Sorted (insS l s) := by
  unfold insS
  have hl : l.takeWhile (fun x => less x s) ++ l.dropWhile (fun x => less x s) = l := List.takeWhile_append_dropWhile
  simp only
  split
  · exact h
  · rename_i hne
    rw [Sorted, ← hl, List.pairwise_append] at h
    obtain ⟨h1, h2, h3⟩ := h
    rw [Sorted, List.pairwise_append]
    have hq : ∀ y ∈ l.dropWhile (fun x => less x s), less s y = true := by
      cases hd : l.dropWhile (fun x => less x s) with
      | nil => intro y hy; cases hy
      | cons z q =>
        rw [hd] at h2 hne
        have hz := dropWhile_head (fun x => less x s) l z (by rw [hd]; rfl)
        have hzs : less s z = true := by
          rcases (not_less_iff z s).1 hz with e | e
          · subst e; simp at hne
          · exact e
        intro y hy
        rcases List.mem_cons.1 hy with e | e
        · rw [e]; exact hzs
        · exact less_trans _ _ _ hzs ((List.pairwise_cons.1 h2).1 y e)
    refine ⟨h1, List.pairwise_cons.2 ⟨hq, h2⟩, fun a ha b hb => ?_⟩
    have has := takeWhile_all _ l a ha
    rcases List.mem_cons.1 hb with e | e
    · rw [e]; exact has
    · exact less_trans _ _ _ has (hq b e)
theorem fold_mem : ∀ (m l : List ByteArray) (x : ByteArray), x ∈ m.foldl insS l ↔ x ∈ l ∨ x ∈ m
  | [], l, x => by simp
  | s :: m, l, x => by
    rw [List.foldl_cons, fold_mem m, insS_mem, List.mem_cons]
    constructor
    · rintro ((h | h) | h)
      · exact .inr (.inl h)
      · exact .inl h
      · exact .inr (.inr h)
    · rintro (h | h | h)
      · exact .inl (.inr h)
      · exact .inl (.inl h)
      · exact .inr h
theorem fold_sorted : ∀ (m l : List ByteArray), Sorted l → Sorted (m.foldl insS l)
  | [], _, h => h
  | s :: m, l, h => fold_sorted m _ (insS_sorted l s h)
theorem mergeS_sorted (a b : List ByteArray) : Sorted (mergeS a b) := fold_sorted _ _ List.Pairwise.nil
theorem mergeS_mem (a b : List ByteArray) (x : ByteArray) : x ∈ mergeS a b ↔ x ∈ a ∨ x ∈ b := by
  unfold mergeS
  rw [fold_mem, List.mem_append]
  simp
/-- What is by 'less' and has the same texts is it. -/
theorem mergeS_eq (a b l : List ByteArray) (h : Sorted l) (hm : ∀ x, x ∈ l ↔ x ∈ a ∨ x ∈ b) : mergeS a b = l :=
  sorted_ext _ _ (mergeS_sorted a b) h fun x => (mergeS_mem a b x).trans (hm x).symm
theorem insS_len (l : List ByteArray) (s : ByteArray) : (insS l s).length ≤ l.length + 1 := by
  unfold insS
  simp only
  split
  · omega
  · have hl : l.takeWhile (fun x => less x s) ++ l.dropWhile (fun x => less x s) = l := List.takeWhile_append_dropWhile
    have := congrArg List.length hl
    rw [List.length_append] at this
    simp only [List.length_append, List.length_cons]
    omega
theorem fold_len : ∀ (m l : List ByteArray), (m.foldl insS l).length ≤ l.length + m.length
  | [], l => by simp
  | s :: m, l => by
    rw [List.foldl_cons]
    have h1 := fold_len m (insS l s)
    have h2 := insS_len l s
    simp only [List.length_cons]
    omega
theorem mergeS_len (a b : List ByteArray) : (mergeS a b).length ≤ a.length + b.length := by
  have := fold_len (a ++ b) []
  rw [List.length_append] at this
  simp only [List.length_nil, Nat.zero_add] at this
  exact this
end Sp
end Go.Proofs.Ytocdoddmaopdbaa
