/-
Plain definitions: numbers as few bytes (layer 1), without any Go.
-/
import Derived.Test.YtpmafghknafhaaaSpecA
namespace Go.Proofs.Ytpmafghknafhaaa
namespace Sp

/-- A number's bytes. -/
def putV (n : Nat) : List UInt8 := if n < 128 then [UInt8.ofNat n] else UInt8.ofNat (n % 128 + 128) :: putV (n / 128)
termination_by n
theorem putV_small {n : Nat} (h : n < 128) : putV n = [UInt8.ofNat n] := by rw [putV, if_pos h]
theorem putV_big {n : Nat} (h : 128 ≤ n) : putV n = UInt8.ofNat (n % 128 + 128) :: putV (n / 128) := by rw [putV, if_neg (by omega)]

/-- How a number is read: the bytes from a place on, how many are behind, what is known. none: it is cut; some none: it has not the form. -/
def getL : List UInt8 → Nat → Nat → Option (Option (Nat × Nat))
  | [], _, _ => none
  | b :: l, i, n =>
    if i = 9 ∧ 1 < b.toNat then some none
    else if 128 ≤ b.toNat then getL l (i + 1) (n + b.toNat % 128 * 128 ^ i)
    else if b.toNat = 0 ∧ 0 < i then some none
    else some (some (n + b.toNat % 128 * 128 ^ i, i + 1))

def getR (a : Int) : Option (Option (Nat × Nat)) → Nat × Int × Int
  | none => (0, 0, 2)
  | some none => (0, 0, 3)
  | some (some (n, k)) => (n, a + k, 0)
/-- The answers of 'Get': number, place, error. -/
def getV (s : ByteArray) (a : Int) : Nat × Int × Int :=
  if a < 0 ∨ (s.size : Int) < a then (0, 0, 1) else getR a (getL (s.data.toList.drop a.toNat) 0 0)

/-- What is known when i bytes have been read. -/
def GetAt (s : ByteArray) (m i n p : Nat) : Prop :=
  i ≤ 9 ∧ m + i ≤ s.size ∧ n < 128 ^ i ∧ p = 128 ^ i ∧ getL (s.data.toList.drop (m + i)) i n = getL (s.data.toList.drop m) 0 0
theorem GetAt.start (s : ByteArray) (m : Nat) (h : m ≤ s.size) : GetAt s m 0 0 1 := ⟨by omega, h, by simp, rfl, rfl⟩
theorem drop_cons (s : ByteArray) (m : Nat) (h : m < s.size) : s.data.toList.drop m = s[m] :: s.data.toList.drop (m + 1) := by
  have hl : m < s.data.toList.length := by rw [Array.length_toList]; exact h
  rw [List.drop_eq_getElem_cons hl]
  rfl
theorem drop_end (s : ByteArray) (m : Nat) (h : s.size ≤ m) : s.data.toList.drop m = [] := by
  rw [List.drop_eq_nil_iff, Array.length_toList]; exact h
theorem getV_in (s : ByteArray) (m : Nat) (h : m ≤ s.size) : getV s m = getR m (getL (s.data.toList.drop m) 0 0) := by
  unfold getV
  rw [if_neg (by omega), Int.toNat_natCast]
theorem getV_out (s : ByteArray) (a : Int) (h : a < 0 ∨ (s.size : Int) < a) : getV s a = (0, 0, 1) := by
  unfold getV
  rw [if_pos h]
theorem GetAt.p_le {s : ByteArray} {m i n p : Nat} (h : GetAt s m i n p) : p ≤ 9223372036854775808 := by
  obtain ⟨hi, _, _, rfl, _⟩ := h
  have : (128 : Nat) ^ i ≤ 128 ^ 9 := Nat.pow_le_pow_right (by omega) hi
  have h9 : (128 : Nat) ^ 9 = 9223372036854775808 := by decide
  omega
theorem GetAt.cut {s : ByteArray} {m i n p : Nat} (h : GetAt s m i n p) (he : s.size ≤ m + i) : getV s m = (0, 0, 2) := by
  obtain ⟨hi, hm, hn, hp, hg⟩ := h
  rw [getV_in s m (by omega), ← hg, drop_end s _ he]
  rfl
theorem GetAt.form1 {s : ByteArray} {m n p : Nat} (h : GetAt s m 9 n p) (hl : m + 9 < s.size) (hb : 1 < s[m + 9].toNat) : getV s m = (0, 0, 3) := by
  obtain ⟨hi, hm, hn, hp, hg⟩ := h
  rw [getV_in s m (by omega), ← hg, drop_cons s _ hl, getL, if_pos ⟨rfl, hb⟩]
  rfl
theorem GetAt.form0 {s : ByteArray} {m i n p : Nat} (h : GetAt s m i n p) (hl : m + i < s.size) (hb : s[m + i].toNat = 0) (h0 : 0 < i) : getV s m = (0, 0, 3) := by
  obtain ⟨hi, hm, hn, hp, hg⟩ := h
  rw [getV_in s m (by omega), ← hg, drop_cons s _ hl, getL, if_neg (by omega), if_neg (by omega), if_pos ⟨hb, h0⟩]
  rfl
theorem GetAt.more {s : ByteArray} {m i n p : Nat} (h : GetAt s m i n p) (hl : m + i < s.size) (hb : 128 ≤ s[m + i].toNat) (h9 : i ≠ 9) : GetAt s m (i + 1) (n + s[m + i].toNat % 128 * p) (p * 128) := by
  obtain ⟨hi, hm, hn, rfl, hg⟩ := h
  refine ⟨by omega, by omega, ?_, by rw [Nat.pow_succ], ?_⟩
  · rw [Nat.pow_succ]
    have : s[m + i].toNat % 128 * 128 ^ i ≤ 127 * 128 ^ i := Nat.mul_le_mul_right _ (by omega)
    omega
  · rw [← hg, drop_cons s _ hl, getL, if_neg (by omega), if_pos hb]
    rfl
theorem GetAt.done {s : ByteArray} {m i n p : Nat} (h : GetAt s m i n p) (hl : m + i < s.size) (hb : s[m + i].toNat < 128) (h9 : i = 9 → s[m + i].toNat ≤ 1) (h0 : s[m + i].toNat = 0 → i = 0) :
    getV s m = (n + s[m + i].toNat % 128 * p, (m : Int) + (i + 1 : Nat), 0) := by
  obtain ⟨hi, hm, hn, rfl, hg⟩ := h
  rw [getV_in s m (by omega), ← hg, drop_cons s _ hl, getL, if_neg (by omega), if_neg (by omega), if_neg (by omega)]
  rfl
theorem GetAt.sum_lt {s : ByteArray} {m i n p : Nat} (h : GetAt s m i n p) (b : Nat) (hb : i = 9 → b ≤ 1) : n + b % 128 * p < 18446744073709551616 := by
  have hp := h.p_le
  obtain ⟨hi, hm, hn, rfl, hg⟩ := h
  rcases Nat.lt_or_ge i 9 with h8 | h9
  · have : (128 : Nat) ^ i ≤ 128 ^ 8 := Nat.pow_le_pow_right (by omega) (by omega)
    have h9 : (128 : Nat) ^ 8 = 72057594037927936 := by decide
    have : b % 128 * 128 ^ i ≤ 127 * 128 ^ i := Nat.mul_le_mul_right _ (by omega)
    omega
  · obtain rfl : i = 9 := by omega
    have h9 : (128 : Nat) ^ 9 = 9223372036854775808 := by decide
    have := hb rfl
    have : b % 128 * 128 ^ 9 ≤ 1 * 128 ^ 9 := Nat.mul_le_mul_right _ (by omega)
    omega

def textV (s : ByteArray) : ByteArray := ⟨(putV s.size ++ s.data.toList).toArray⟩

/-- The answers of 'Take': text, place, error. -/
def takeV (s : ByteArray) (a : Int) (most : Int) : ByteArray × Int × Int :=
  let g := getV s a
  if g.2.2 ≠ 0 then (⟨#[]⟩, 0, g.2.2)
  else if most < 0 ∨ most < g.1 then (⟨#[]⟩, 0, 3)
  else if s.size < g.2.1.toNat + g.1 then (⟨#[]⟩, 0, 2)
  else (s.extract g.2.1.toNat (g.2.1.toNat + g.1), g.2.1 + g.1, 0)

def putN (s : ByteArray) : ByteArray × Bool := if isName s then (textV s, true) else (⟨#[]⟩, false)
def takeN (s : ByteArray) (a : Int) : ByteArray × Int × Int :=
  let t := takeV s a 16
  if t.2.2 ≠ 0 then (⟨#[]⟩, 0, t.2.2) else if isName t.1 then t else (⟨#[]⟩, 0, 3)

end Sp
end Go.Proofs.Ytpmafghknafhaaa
