/-
Contracts: a name folded, of the program and of the reference.
-/
import Derived.Test.YtpmafghknafhaaaIdentA
import Derived.Test.YtpmafghknafhaaaBuilder
namespace Go.Proofs.Ytpmafghknafhaaa
open Go.RowKit Sp

theorem foldS_size (s : ByteArray) : (foldS s).size = s.size := by
  unfold foldS
  rw [size_ofList, List.length_map, ← size_eq_length]
theorem lower_nat (c : UInt8) : ((lower c).toNat : Int) = if 65 ≤ c.toNat ∧ c.toNat ≤ 90 then (c.toNat : Int) + 32 else c.toNat := by
  unfold lower
  split
  · have : (c + 32).toNat = c.toNat + 32 := by
      rw [UInt8.toNat_add]
      have : (32 : UInt8).toNat = 32 := rfl
      omega
    rw [this]
    omega
  · rfl
theorem take_succ_map (s : ByteArray) (k : Nat) (h : k < s.size) : (s.data.toList.take (k + 1)).map lower = (s.data.toList.take k).map lower ++ [lower s[k]] := by
  have hl : k < s.data.toList.length := by rw [← size_eq_length]; exact h
  rw [List.take_succ_eq_append_getElem hl, List.map_append]
  rfl

/-- A list whose first k bytes are made small. -/
def lowTo (l : List UInt8) (k : Nat) : List UInt8 := (l.take k).map lower ++ l.drop k
theorem lowTo_len (l : List UInt8) (k : Nat) : (lowTo l k).length = l.length := by
  unfold lowTo
  rw [List.length_append, List.length_map, List.length_take, List.length_drop]
  omega
theorem lowTo_get (l : List UInt8) (k : Nat) (h : k < l.length) : (lowTo l k)[k]'(by rw [lowTo_len]; exact h) = l[k] := by
  unfold lowTo
  rw [List.getElem_append_right (by rw [List.length_map, List.length_take]; omega)]
  simp only [List.length_map, List.length_take, List.getElem_drop]
  congr 1
  omega
theorem lowTo_succ (l : List UInt8) (k : Nat) (h : k < l.length) : (lowTo l k).set k (lower l[k]) = lowTo l (k + 1) := by
  unfold lowTo
  have hl : ((l.take k).map lower).length = k := by rw [List.length_map, List.length_take]; omega
  rw [List.set_append_right k (lower l[k]) (by rw [hl]; exact Nat.le_refl _), hl, Nat.sub_self, List.drop_eq_getElem_cons h, List.set_cons_zero, List.take_succ_eq_append_getElem h, List.map_append]
  simp
theorem lowTo_same (l : List UInt8) (k : Nat) (h : k < l.length) (hs : lower l[k] = l[k]) : lowTo l k = lowTo l (k + 1) := by
  rw [← lowTo_succ l k h, hs, ← lowTo_get l k h]
  exact (List.set_getElem_self _).symm
theorem lowTo_all (l : List UInt8) : lowTo l l.length = l.map lower := by
  unfold lowTo
  rw [List.take_length, List.drop_length, List.append_nil]

end Go.Proofs.Ytpmafghknafhaaa
