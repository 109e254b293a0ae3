/-
Plain: what is sorted, and of which neighbours alike are made one, is two lists as one.
-/
import Derived.Test.YtpmafghknafhaaaIdentD
import Derived.Lib.SlicesCompact
import Derived.Sort.OwnSorted
import Derived.Shelf.SlSortCmp.NoneTotal
namespace Go.Proofs.Ytpmafghknafhaaa
open Go.RowKit Sp Go.Lib

section
variable {α : Type} [Inhabited α] [DecidableEq α]
theorem compact_spec (lt : α → α → Bool) (htr : ∀ a b c, lt a b = true → lt b c = true → lt a c = true) (hir : ∀ a, lt a a = false) (htot : ∀ a b, a ≠ b → lt a b = true ∨ lt b a = true)
    (d : Array α) (hs : ∀ i j, i < j → j < d.size → lt d[j]! d[i]! = false) : ∀ m, m ≤ d.size → (compactUpTo d m).Pairwise (fun a b => lt a b = true) ∧ ∀ x, x ∈ compactUpTo d m ↔ ∃ j, j < m ∧ d[j]! = x
  | 0, _ => ⟨List.Pairwise.nil, fun x => by simp [compactUpTo]⟩
  | m + 1, hm => by
    obtain ⟨h1, h2⟩ := compact_spec lt htr hir htot d hs m (by omega)
    have hle : ∀ j, j < m → lt d[m]! d[j]! = false := fun j hj => hs j m hj (by omega)
    rw [compactUpTo_succ]
    by_cases hk : keeps d m = true
    · rw [if_pos hk]
      have hlt : ∀ x ∈ compactUpTo d m, lt x d[m]! = true := by
        intro x hx
        obtain ⟨j, hj, rfl⟩ := (h2 x).1 hx
        have hne : d[j]! ≠ d[m]! := by
          intro e
          simp only [keeps, decide_eq_true_eq] at hk
          rcases hk with hk | hk
          · omega
          · apply hk
            by_cases e1 : d[m]! = d[m - 1]!
            · exact e1
            · exfalso
              have hj1 : j ≠ m - 1 := fun e2 => e1 (by rw [← e, e2])
              have a1 := hs j (m - 1) (by omega) (by omega)
              have a2 := hle (m - 1) (by omega)
              rw [e] at a1
              rcases htot _ _ e1 with h | h
              · rw [h] at a2; cases a2
              · rw [h] at a1; cases a1
        rcases htot _ _ hne with h | h
        · exact h
        · rw [hle j hj] at h; cases h
      refine ⟨List.pairwise_append.2 ⟨h1, List.pairwise_singleton _ _, fun a ha b hb => by rw [List.mem_singleton.1 hb]; exact hlt a ha⟩, fun x => ?_⟩
      rw [List.mem_append, h2, List.mem_singleton]
      constructor
      · rintro (⟨j, hj, rfl⟩ | rfl)
        · exact ⟨j, by omega, rfl⟩
        · exact ⟨m, by omega, rfl⟩
      · rintro ⟨j, hj, rfl⟩
        rcases Nat.lt_or_ge j m with h | h
        · exact .inl ⟨j, h, rfl⟩
        · obtain rfl : j = m := by omega
          exact .inr rfl
    · rw [if_neg hk, List.append_nil]
      refine ⟨h1, fun x => ?_⟩
      rw [h2]
      simp only [keeps, decide_eq_true_eq, not_or, Decidable.not_not] at hk
      constructor
      · rintro ⟨j, hj, rfl⟩
        exact ⟨j, by omega, rfl⟩
      · rintro ⟨j, hj, rfl⟩
        rcases Nat.lt_or_ge j m with h | h
        · exact ⟨j, h, rfl⟩
        · obtain rfl : j = m := by omega
          exact ⟨j - 1, by omega, hk.2.symm⟩
end

/-- 'compare' of two lists of bytes. -/
def cfL (x y : List UInt8) : Int := cmpS (strOf x) (strOf y)
theorem ltOf_cfL (x y : List UInt8) : Go.Proofs.ltOf cfL x y = less (strOf x) (strOf y) := cmpS_neg _ _
theorem swo_cfL : Go.Sort.SWO (Go.Proofs.ltOf cfL) where
  irrefl x := by rw [ltOf_cfL]; exact less_irrefl _
  trans x y z h1 h2 := by rw [ltOf_cfL] at *; exact less_trans _ _ _ h1 h2
  ntrans x y z h1 h2 := by
    rw [ltOf_cfL] at *
    rw [not_less_iff] at *
    rcases h1 with h1 | h1
    · rcases h2 with h2 | h2
      · exact .inl (h1.trans h2)
      · rw [h1]; exact .inr h2
    · rcases h2 with h2 | h2
      · rw [← h2]; exact .inr h1
      · exact .inr (less_trans _ _ _ h2 h1)
theorem tot_cfL (x y : List UInt8) (h : x ≠ y) : Go.Proofs.ltOf cfL x y = true ∨ Go.Proofs.ltOf cfL y x = true := by
  rw [ltOf_cfL, ltOf_cfL]
  exact less_total _ _ (fun e => h (strOf_inj.1 e))

/-- What Compact makes of a sorted row of both lists' texts. -/
theorem compact_merge (a b : List ByteArray) (d' : Array (List UInt8)) (hp : d'.toList.Perm ((a ++ b).map fun s => s.data.toList)) (hs : ∀ i j, i < j → j < d'.size → Go.Proofs.ltOf cfL d'[j]! d'[i]! = false) :
    (compact d'.toList).map strOf = mergeS a b := by
  have hc := compact_spec (Go.Proofs.ltOf cfL) swo_cfL.trans swo_cfL.irrefl tot_cfL d' hs d'.size (Nat.le_refl _)
  have he : compact d'.toList = compactUpTo d' d'.size := by unfold compact; simp
  rw [he]
  symm
  refine mergeS_eq a b _ ?_ fun x => ?_
  · rw [Sorted, List.pairwise_map]
    exact hc.1.imp fun {x y} h => by rw [ltOf_cfL] at h; exact h
  · rw [List.mem_map]
    have hm : ∀ l, l ∈ compactUpTo d' d'.size ↔ strOf l ∈ a ++ b := by
      intro l
      rw [hc.2]
      have h1 : (∃ j, j < d'.size ∧ d'[j]! = l) ↔ l ∈ d'.toList := by
        rw [List.mem_iff_getElem]
        constructor
        · rintro ⟨j, hj, rfl⟩
          exact ⟨j, by simpa using hj, by simp [hj]⟩
        · rintro ⟨j, hj, rfl⟩
          exact ⟨j, by simpa using hj, by simp [show j < d'.size by simpa using hj]⟩
      rw [h1, hp.mem_iff, List.mem_map]
      constructor
      · rintro ⟨s, hs, rfl⟩
        rw [strOf_toList]; exact hs
      · intro h
        exact ⟨_, h, strOf_list l⟩
    rw [← List.mem_append]
    constructor
    · rintro ⟨l, hl, rfl⟩
      exact (hm l).1 hl
    · intro h
      exact ⟨x.data.toList, (hm _).2 (by rw [strOf_toList]; exact h), strOf_toList x⟩
end Go.Proofs.Ytpmafghknafhaaa
