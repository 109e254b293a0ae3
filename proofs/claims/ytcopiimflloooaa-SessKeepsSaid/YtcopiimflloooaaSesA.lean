/-
Plain definitions: sessions of all users (layer 9), without any Go.
-/
import Derived.Test.YtcopiimflloooaaAssoc
import Derived.Test.YtcopiimflloooaaSpecD
import Derived.Test.YtcopiimflloooaaValA
set_option linter.unusedSectionVars false
namespace Go.Proofs.Ytcopiimflloooaa
namespace Sp
structure Se where
  u : ByteArray
  i : Int
  v : Int × Int × Int × ByteArray
instance : DecidableEq Se := fun a b => decidable_of_iff (a.u = b.u ∧ a.i = b.i ∧ a.v = b.v) ⟨fun h => by cases a; cases b; simp only at h; obtain ⟨h1, h2, h3⟩ := h; subst h1 h2 h3; rfl, fun h => by subst h; exact ⟨rfl, rfl, rfl⟩⟩
abbrev SeK := ByteArray × Int
def keySe (s : Se) : SeK := (s.u, s.i)
def ltSe (a b : SeK) : Bool := less a.1 b.1 || (decide (a.1 = b.1) && decide (a.2 < b.2))
theorem ltSe_ord : SOrd ltSe where
  irr a := by simp [ltSe, less_irrefl]
  tr a b c h1 h2 := by
    simp only [ltSe, Bool.or_eq_true, Bool.and_eq_true, decide_eq_true_eq] at h1 h2 ⊢
    rcases h1 with h1 | ⟨e1, h1⟩ <;> rcases h2 with h2 | ⟨e2, h2⟩
    · exact .inl (less_trans _ _ _ h1 h2)
    · rw [e2] at h1; exact .inl h1
    · rw [← e1] at h2; exact .inl h2
    · exact .inr ⟨e1.trans e2, by omega⟩
  tri a b h := by
    simp only [ltSe, Bool.or_eq_true, Bool.and_eq_true, decide_eq_true_eq]
    by_cases e : a.1 = b.1
    · have : a.2 ≠ b.2 := fun e2 => h (Prod.ext e e2)
      rcases Int.lt_or_gt_of_ne this with h2 | h2
      · exact .inl (.inr ⟨e, h2⟩)
      · exact .inr (.inr ⟨e.symm, h2⟩)
    · rcases less_total _ _ e with h2 | h2
      · exact .inl (.inl h2)
      · exact .inr (.inl h2)
/-- May a session be? -/
def oneS (s : Se) : Bool := isName s.u && (decide (0 ≤ s.i) && (decide (s.i < 4) && mayV s.v.1 s.v.2.1 s.v.2.2.1 s.v.2.2.2))
/-- Neighbours in order, from place i on. -/
def adjS : List Se → Bool
  | a :: b :: l => ltSe (keySe a) (keySe b) && adjS (b :: l)
  | _ => true
def maySe (l : List Se) : Bool := decide (l.length ≤ 32) && (l.all oneS && adjS l)
theorem adjS_iff : ∀ l : List Se, adjS l = true ↔ ∀ i (h : i + 1 < l.length), ltSe (keySe l[i]) (keySe l[i + 1]) = true
  | [] => by simp [adjS]
  | [a] => by simp [adjS]
  | a :: b :: l => by
    rw [adjS, Bool.and_eq_true, adjS_iff (b :: l)]
    constructor
    · rintro ⟨h1, h2⟩ i hi
      cases i with
      | zero => exact h1
      | succ i => exact h2 i (by simp only [List.length_cons] at hi ⊢; omega)
    · intro h
      exact ⟨h 0 (by simp), fun i hi => h (i + 1) (by simp only [List.length_cons] at hi ⊢; omega)⟩
theorem maySe_iff (l : List Se) : maySe l = true ↔ l.length ≤ 32 ∧ (∀ s ∈ l, oneS s = true) ∧ ∀ i (h : i + 1 < l.length), ltSe (keySe l[i]) (keySe l[i + 1]) = true := by
  unfold maySe
  rw [Bool.and_eq_true, Bool.and_eq_true, decide_eq_true_eq, List.all_eq_true, adjS_iff]
theorem maySe_ord {l : List Se} (h : maySe l = true) : InOrd keySe ltSe l := ord_of_adj ltSe_ord l ((maySe_iff l).1 h).2.2
theorem maySe_of {l : List Se} (h1 : l.length ≤ 32) (h2 : ∀ s ∈ l, oneS s = true) (h3 : InOrd keySe ltSe l) : maySe l = true := (maySe_iff l).2 ⟨h1, h2, adj_of_ord h3⟩
/-- The place of a key. -/
def idxSe (l : List Se) (k : SeK) : Option Nat := l.findIdx? fun s => decide (keySe s = k)
def atSe (l : List Se) (s : Se) : Nat := (l.takeWhile fun x => ltSe (keySe x) (keySe s)).length
def putSe (l : List Se) (s : Se) : List Se × Int :=
  if (maySe l && oneS s) = false then (l, 1) else
    match idxSe l (keySe s) with
    | some i => (l.set i s, 0)
    | none => if l.length = 32 then (l, 5) else (l.take (atSe l s) ++ s :: l.drop (atSe l s), 0)
def dropSe (l : List Se) (k : SeK) : List Se × Int :=
  if maySe l = false then (l, 1) else
    match idxSe l k with
    | some i => (l.take i ++ l.drop (i + 1), 0)
    | none => (l, 6)
def ofSe (l : List Se) (u : ByteArray) : List Se := l.filter fun s => decide (s.u = u)
def usersSe (l : List Se) : List ByteArray := mergeS (l.map Se.u) []
theorem idxSe_none {l : List Se} {k : SeK} : idxSe l k = none ↔ getK keySe l k = none := by
  unfold idxSe
  rw [List.findIdx?_eq_none_iff, getK_none]
  simp
theorem idxSe_some {l : List Se} {k : SeK} {i : Nat} (h : idxSe l k = some i) : ∃ hi : i < l.length, keySe l[i] = k := by
  unfold idxSe at h
  rw [List.findIdx?_eq_some_iff_getElem] at h
  obtain ⟨hi, h1, _⟩ := h
  exact ⟨hi, of_decide_eq_true h1⟩
theorem atSe_ins (l : List Se) (s : Se) : l.take (atSe l s) ++ s :: l.drop (atSe l s) = insK keySe ltSe l s := by
  unfold insK atSe
  rw [take_tw, drop_tw]
/-- What is put, in a word. -/
theorem putSe_ok {l m : List Se} {s : Se} (h : putSe l s = (m, 0)) : maySe l = true ∧ oneS s = true ∧ m = putK keySe ltSe l s ∧ m.length ≤ 32 := by
  unfold putSe at h
  split at h
  · injection h with _ h; exact absurd h (by decide)
  · rename_i hm
    rw [Bool.not_eq_false, Bool.and_eq_true] at hm
    obtain ⟨h1, h2⟩ := hm
    have ho := maySe_ord h1
    have h32 := ((maySe_iff l).1 h1).1
    refine ⟨h1, h2, ?_⟩
    split at h
    · rename_i i hi
      obtain ⟨hlt, hk⟩ := idxSe_some hi
      injection h with h _
      rw [← h]
      exact ⟨set_putK ltSe_ord ho i hlt s hk, by rw [List.length_set]; exact h32⟩
    · rename_i hi
      split at h
      · injection h with _ h; exact absurd h (by decide)
      · rename_i hn
        injection h with h _
        have hg := idxSe_none.1 hi
        rw [← h, atSe_ins]
        unfold putK
        rw [delK_none hg]
        exact ⟨rfl, by rw [insK_len]; omega⟩
theorem putSe_room {l : List Se} {s : Se} (h1 : maySe l = true) (h2 : oneS s = true) (h : l.length < 32 ∨ getK keySe l (keySe s) ≠ none) : putSe l s = (putK keySe ltSe l s, 0) := by
  have ho := maySe_ord h1
  unfold putSe
  rw [if_neg (by rw [h1, h2]; decide)]
  split
  · rename_i i hi
    obtain ⟨hlt, hk⟩ := idxSe_some hi
    rw [set_putK ltSe_ord ho i hlt s hk]
  · rename_i hi
    have hg := idxSe_none.1 hi
    rcases h with h | h
    · rw [if_neg (by omega), atSe_ins]
      unfold putK
      rw [delK_none hg]
    · exact absurd hg h
theorem putSe_may {l m : List Se} {s : Se} (h : putSe l s = (m, 0)) : maySe m = true := by
  obtain ⟨h1, h2, h3, h4⟩ := putSe_ok h
  subst h3
  refine maySe_of h4 (fun x hx => ?_) (putK_ord ltSe_ord (maySe_ord h1) s)
  rcases putK_mem.1 hx with rfl | ⟨hx, _⟩
  · exact h2
  · exact ((maySe_iff l).1 h1).2.1 x hx
theorem putSe_err {l m : List Se} {s : Se} {e : Int} (h : putSe l s = (m, e)) (he : e ≠ 0) : m = l := by
  unfold putSe at h
  split at h
  · injection h with h _; exact h.symm
  · split at h
    · injection h with _ h; exact absurd h.symm he
    · split at h
      · injection h with h _; exact h.symm
      · injection h with _ h; exact absurd h.symm he
theorem dropSe_ok {l : List Se} {k : SeK} (h1 : maySe l = true) {x : Se} (hg : getK keySe l k = some x) : dropSe l k = (delK keySe l k, 0) := by
  have ho := maySe_ord h1
  unfold dropSe
  rw [if_neg (by rw [h1]; decide)]
  split
  · rename_i i hi
    obtain ⟨hlt, hk⟩ := idxSe_some hi
    rw [erase_delK ltSe_ord ho i hlt, hk]
  · rename_i hi
    rw [idxSe_none, hg] at hi
    cases hi
theorem delK_may {l : List Se} (h : maySe l = true) (k : SeK) : maySe (delK keySe l k) = true := by
  obtain ⟨h1, h2, _⟩ := (maySe_iff l).1 h
  refine maySe_of ?_ (fun x hx => h2 x (delK_mem.1 hx).1) (delK_ord (maySe_ord h) k)
  have := List.length_filter_le (fun x => !decide (keySe x = k)) l
  unfold delK
  omega
theorem ofSe_ord {l : List Se} (h : InOrd keySe ltSe l) (u : ByteArray) : InOrd keySe ltSe (ofSe l u) := ord_filter _ h
theorem ofSe_mem {l : List Se} {u : ByteArray} {x : Se} : x ∈ ofSe l u ↔ x ∈ l ∧ x.u = u := by
  unfold ofSe
  rw [List.mem_filter, decide_eq_true_eq]
/-- All others are as they were. -/
theorem ofSe_put {l : List Se} (h : InOrd keySe ltSe l) (s : Se) (u : ByteArray) (hu : u ≠ s.u) : ofSe (putK keySe ltSe l s) u = ofSe l u := by
  refine ord_ext ltSe_ord _ _ (ofSe_ord (putK_ord ltSe_ord h s) u) (ofSe_ord h u) fun x => ?_
  rw [ofSe_mem, ofSe_mem, putK_mem]
  constructor
  · rintro ⟨rfl | ⟨hx, _⟩, rfl⟩
    · exact absurd rfl hu
    · exact ⟨hx, rfl⟩
  · rintro ⟨hx, rfl⟩
    exact ⟨.inr ⟨hx, fun e => hu (congrArg Prod.fst e)⟩, rfl⟩
theorem ofSe_del {l : List Se} (h : InOrd keySe ltSe l) (k : SeK) (u : ByteArray) (hu : u ≠ k.1) : ofSe (delK keySe l k) u = ofSe l u := by
  refine ord_ext ltSe_ord _ _ (ofSe_ord (delK_ord h k) u) (ofSe_ord h u) fun x => ?_
  rw [ofSe_mem, ofSe_mem, delK_mem]
  constructor
  · rintro ⟨⟨hx, _⟩, rfl⟩
    exact ⟨hx, rfl⟩
  · rintro ⟨hx, rfl⟩
    exact ⟨⟨hx, fun e => hu (congrArg Prod.fst e)⟩, rfl⟩
end Sp
end Go.Proofs.Ytcopiimflloooaa
