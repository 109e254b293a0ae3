/-
Contracts: a name put and taken, of the program and of the reference.
Contracts: a strings.Builder that the call itself has made: written, and read.
Contracts: a name folded, of the program and of the reference.
Contracts by their answers, and the walk of 'live' of the statements on names.
-/
import Derived.Test.YtpmafghknafhaaaIdentA
import Derived.Test.YtpmafghknafhaaaSpecD
import Derived.Test.YtpmafghknafhaaaShelf
import Derived.Test.YtpmafghknafhaaaRefList
namespace Go.Proofs.Ytpmafghknafhaaa
open Go.RowKit Sp

theorem takeV_size (s : ByteArray) (a : Int) (m : Nat) (h : (takeV s a m).2.2 = 0) : (takeV s a m).1.size ≤ m ∧ 0 ≤ a ∧ a ≤ (takeV s a m).2.1 ∧ (takeV s a m).2.1 ≤ s.size := by
  obtain ⟨n, to, er, hg⟩ : ∃ n to er, getV s a = (n, to, er) := ⟨_, _, _, rfl⟩
  by_cases he : er = 0
  · subst he
    obtain ⟨h0, h1, h2, h3⟩ := getV_ok s a n to hg
    by_cases hf : (m : Int) < 0 ∨ (m : Int) < n
    · rw [takeV_form s a m n to hg hf] at h; simp at h
    · by_cases hc : s.size < to.toNat + n
      · rw [takeV_cut s a m n to hg hf hc] at h; simp at h
      · rw [takeV_ok s a m n to hg hf hc]
        simp only [ByteArray.size_extract]
        omega
  · rw [takeV_err s a m n to er hg he] at h
    exact absurd h he


end Go.Proofs.Ytpmafghknafhaaa
namespace Go.Proofs.Ytpmafghknafhaaa
open Go.RowKit Sp

theorem TextRow.kept {e : TypeId} {w w' : World} {k b n : Nat} {s : ByteArray} (h : TextRow e w k s) (hK : KeepsMarked b n w w') (hkb : k ≠ b) (hn : n ≤ s.size) : TextRow e w' k s := by
  refine h.keep ?_
  obtain ⟨cs, h1, h2, _⟩ := h
  exact hK k cs e _ hkb h1 (by simp; omega)
theorem BuilderAtF_later {T e : TypeId} {B b : Nat} {p : Value} {bs : List Value} {w w' : World} (h : Lib.BuilderAtF T e B b p bs w) (hk : ∀ k, k < w.heap.size → w'.heap[k]? = w.heap[k]?) : Lib.BuilderAtF T e B b p bs w' := by
  obtain ⟨hB, v, hb, hown, hne⟩ := h
  refine ⟨hB, v, (hk b (Array.getElem?_eq_some_iff.1 hb).1).trans hb, ⟨hown.1, ?_⟩, hne⟩
  rcases hown.2 with h | ⟨g, cap, cur, fz, hv, hg, hh, r⟩
  · exact .inl h
  · exact .inr ⟨g, cap, cur, fz, hv, hg, (hk g (Array.getElem?_eq_some_iff.1 hh).1).trans hh, r⟩
end Go.Proofs.Ytpmafghknafhaaa
namespace Go.Proofs.Ytpmafghknafhaaa
open Go.RowKit Sp

theorem foldS_size (s : ByteArray) : (foldS s).size = s.size := by
  unfold foldS
  rw [size_ofList, List.length_map, ← size_eq_length]
theorem lower_nat (c : UInt8) : ((lower c).toNat : Int) = if 65 ≤ c.toNat ∧ c.toNat ≤ 90 then (c.toNat : Int) + 32 else c.toNat := by
  unfold lower
  split
  · have : (c + 32).toNat = c.toNat + 32 := by
      rw [UInt8.toNat_add]
      have : (32 : UInt8).toNat = 32 := rfl
      omega
    rw [this]
    omega
  · rfl
theorem take_succ_map (s : ByteArray) (k : Nat) (h : k < s.size) : (s.data.toList.take (k + 1)).map lower = (s.data.toList.take k).map lower ++ [lower s[k]] := by
  have hl : k < s.data.toList.length := by rw [← size_eq_length]; exact h
  rw [List.take_succ_eq_append_getElem hl, List.map_append]
  rfl

/-- A list whose first k bytes are made small. -/
def lowTo (l : List UInt8) (k : Nat) : List UInt8 := (l.take k).map lower ++ l.drop k
theorem lowTo_len (l : List UInt8) (k : Nat) : (lowTo l k).length = l.length := by
  unfold lowTo
  rw [List.length_append, List.length_map, List.length_take, List.length_drop]
  omega
theorem lowTo_get (l : List UInt8) (k : Nat) (h : k < l.length) : (lowTo l k)[k]'(by rw [lowTo_len]; exact h) = l[k] := by
  unfold lowTo
  rw [List.getElem_append_right (by rw [List.length_map, List.length_take]; omega)]
  simp only [List.length_map, List.length_take, List.getElem_drop]
  congr 1
  omega
theorem lowTo_succ (l : List UInt8) (k : Nat) (h : k < l.length) : (lowTo l k).set k (lower l[k]) = lowTo l (k + 1) := by
  unfold lowTo
  have hl : ((l.take k).map lower).length = k := by rw [List.length_map, List.length_take]; omega
  rw [List.set_append_right k (lower l[k]) (by rw [hl]; exact Nat.le_refl _), hl, Nat.sub_self, List.drop_eq_getElem_cons h, List.set_cons_zero, List.take_succ_eq_append_getElem h, List.map_append]
  simp
theorem lowTo_same (l : List UInt8) (k : Nat) (h : k < l.length) (hs : lower l[k] = l[k]) : lowTo l k = lowTo l (k + 1) := by
  rw [← lowTo_succ l k h, hs, ← lowTo_get l k h]
  exact (List.set_getElem_self _).symm
theorem lowTo_all (l : List UInt8) : lowTo l l.length = l.map lower := by
  unfold lowTo
  rw [List.take_length, List.drop_length, List.append_nil]

end Go.Proofs.Ytpmafghknafhaaa
namespace Go.Proofs.Ytpmafghknafhaaa
open Go.RowKit Sp

theorem below_alloc {w w1 : World} (h : Below w.heap.size w w1) (o : Obj) : Below w.heap.size w (w1.alloc o) := h.alloc h.size o

section
variable (w : World)
theorem Is_is (s : ByteArray) (b : Bool) (h : Hid (isName s = b)) (hs : s.size ≤ 140737488351232) :
    Calls Try.prog 35 #[.string s] w fun e w' => e = .returned (.bool b) ∧ Below w.heap.size w w' := re_ (Is_calls s w hs) (by rw [h.out])
theorem refIs_is (s : ByteArray) (b : Bool) (h : Hid (isName s = b)) (hs : s.size ≤ 140737488351232) :
    Calls Try.prog 40 #[.string s] w fun e w' => e = .returned (.bool b) ∧ w = w' := re_ (refIs_calls s w hs) (by rw [h.out])
theorem Less_is (s t : ByteArray) (b : Bool) (h : Hid (less s t = b)) :
    Calls Try.prog 69 #[.string s, .string t] w fun e w' => e = .returned (.bool b) ∧ Below w.heap.size w w' := re_ (Less_calls s t w) (by rw [h.out])
theorem refLess_is (s t : ByteArray) (b : Bool) (h : Hid (less s t = b)) :
    Calls Try.prog 28 #[.string s, .string t] w fun e w' => e = .returned (.bool b) ∧ w = w' := re_ (refLess_calls s t w) (by rw [h.out])
end

end Go.Proofs.Ytpmafghknafhaaa
