/-
Plain definitions: numbers as few bytes (layer 1), without any Go.
Contracts: numbers as few bytes: what 'Put' and 'Text' answer, of the program and of the reference.
Contracts: how a number is read, of the program ('Get' goes to a label).
Contracts: texts behind their lengths: 'Put', 'Text', 'Take' of the program and of the reference.
Plain laws: names folded, put and taken back.
-/
import Derived.Test.YtpmafghknafhaaaSpecA
import Derived.Test.YtpmafghknafhaaaProg
import Derived.Test.YtpmafghknafhaaaLib
import Derived.WalkMore
import Derived.ScopeJumps
import Derived.Laws.Bits64b
namespace Go.Proofs.Ytpmafghknafhaaa
namespace Sp

/-- A number's bytes. -/
def putV (n : Nat) : List UInt8 := if n < 128 then [UInt8.ofNat n] else UInt8.ofNat (n % 128 + 128) :: putV (n / 128)
termination_by n
theorem putV_small {n : Nat} (h : n < 128) : putV n = [UInt8.ofNat n] := by rw [putV, if_pos h]
theorem putV_big {n : Nat} (h : 128 ≤ n) : putV n = UInt8.ofNat (n % 128 + 128) :: putV (n / 128) := by rw [putV, if_neg (by omega)]

/-- How a number is read: the bytes from a place on, how many are behind, what is known. none: it is cut; some none: it has not the form. -/
def getL : List UInt8 → Nat → Nat → Option (Option (Nat × Nat))
  | [], _, _ => none
  | b :: l, i, n =>
    if i = 9 ∧ 1 < b.toNat then some none
    else if 128 ≤ b.toNat then getL l (i + 1) (n + b.toNat % 128 * 128 ^ i)
    else if b.toNat = 0 ∧ 0 < i then some none
    else some (some (n + b.toNat % 128 * 128 ^ i, i + 1))

def getR (a : Int) : Option (Option (Nat × Nat)) → Nat × Int × Int
  | none => (0, 0, 2)
  | some none => (0, 0, 3)
  | some (some (n, k)) => (n, a + k, 0)
/-- The answers of 'Get': number, place, error. -/
def getV (s : ByteArray) (a : Int) : Nat × Int × Int :=
  if a < 0 ∨ (s.size : Int) < a then (0, 0, 1) else getR a (getL (s.data.toList.drop a.toNat) 0 0)

/-- What is known when i bytes have been read. -/
def GetAt (s : ByteArray) (m i n p : Nat) : Prop :=
  i ≤ 9 ∧ m + i ≤ s.size ∧ n < 128 ^ i ∧ p = 128 ^ i ∧ getL (s.data.toList.drop (m + i)) i n = getL (s.data.toList.drop m) 0 0
theorem GetAt.start (s : ByteArray) (m : Nat) (h : m ≤ s.size) : GetAt s m 0 0 1 := ⟨by omega, h, by simp, rfl, rfl⟩
theorem drop_cons (s : ByteArray) (m : Nat) (h : m < s.size) : s.data.toList.drop m = s[m] :: s.data.toList.drop (m + 1) := by
  have hl : m < s.data.toList.length := by rw [Array.length_toList]; exact h
  rw [List.drop_eq_getElem_cons hl]
  rfl
theorem drop_end (s : ByteArray) (m : Nat) (h : s.size ≤ m) : s.data.toList.drop m = [] := by
  rw [List.drop_eq_nil_iff, Array.length_toList]; exact h
theorem getV_in (s : ByteArray) (m : Nat) (h : m ≤ s.size) : getV s m = getR m (getL (s.data.toList.drop m) 0 0) := by
  unfold getV
  rw [if_neg (by omega), Int.toNat_natCast]
theorem getV_out (s : ByteArray) (a : Int) (h : a < 0 ∨ (s.size : Int) < a) : getV s a = (0, 0, 1) := by
  unfold getV
  rw [if_pos h]
theorem GetAt.p_le {s : ByteArray} {m i n p : Nat} (h : GetAt s m i n p) : p ≤ 9223372036854775808 := by
  obtain ⟨hi, _, _, rfl, _⟩ := h
  have : (128 : Nat) ^ i ≤ 128 ^ 9 := Nat.pow_le_pow_right (by omega) hi
  have h9 : (128 : Nat) ^ 9 = 9223372036854775808 := by decide
  omega
theorem GetAt.cut {s : ByteArray} {m i n p : Nat} (h : GetAt s m i n p) (he : s.size ≤ m + i) : getV s m = (0, 0, 2) := by
  obtain ⟨hi, hm, hn, hp, hg⟩ := h
  rw [getV_in s m (by omega), ← hg, drop_end s _ he]
  rfl
theorem GetAt.form1 {s : ByteArray} {m n p : Nat} (h : GetAt s m 9 n p) (hl : m + 9 < s.size) (hb : 1 < s[m + 9].toNat) : getV s m = (0, 0, 3) := by
  obtain ⟨hi, hm, hn, hp, hg⟩ := h
  rw [getV_in s m (by omega), ← hg, drop_cons s _ hl, getL, if_pos ⟨rfl, hb⟩]
  rfl
theorem GetAt.form0 {s : ByteArray} {m i n p : Nat} (h : GetAt s m i n p) (hl : m + i < s.size) (hb : s[m + i].toNat = 0) (h0 : 0 < i) : getV s m = (0, 0, 3) := by
  obtain ⟨hi, hm, hn, hp, hg⟩ := h
  rw [getV_in s m (by omega), ← hg, drop_cons s _ hl, getL, if_neg (by omega), if_neg (by omega), if_pos ⟨hb, h0⟩]
  rfl
theorem GetAt.more {s : ByteArray} {m i n p : Nat} (h : GetAt s m i n p) (hl : m + i < s.size) (hb : 128 ≤ s[m + i].toNat) (h9 : i ≠ 9) : GetAt s m (i + 1) (n + s[m + i].toNat % 128 * p) (p * 128) := by
  obtain ⟨hi, hm, hn, rfl, hg⟩ := h
  refine ⟨by omega, by omega, ?_, by rw [Nat.pow_succ], ?_⟩
  · rw [Nat.pow_succ]
    have : s[m + i].toNat % 128 * 128 ^ i ≤ 127 * 128 ^ i := Nat.mul_le_mul_right _ (by omega)
    omega
  · rw [← hg, drop_cons s _ hl, getL, if_neg (by omega), if_pos hb]
    rfl
theorem GetAt.done {s : ByteArray} {m i n p : Nat} (h : GetAt s m i n p) (hl : m + i < s.size) (hb : s[m + i].toNat < 128) (h9 : i = 9 → s[m + i].toNat ≤ 1) (h0 : s[m + i].toNat = 0 → i = 0) :
    getV s m = (n + s[m + i].toNat % 128 * p, (m : Int) + (i + 1 : Nat), 0) := by
  obtain ⟨hi, hm, hn, rfl, hg⟩ := h
  rw [getV_in s m (by omega), ← hg, drop_cons s _ hl, getL, if_neg (by omega), if_neg (by omega), if_neg (by omega)]
  rfl
theorem GetAt.sum_lt {s : ByteArray} {m i n p : Nat} (h : GetAt s m i n p) (b : Nat) (hb : i = 9 → b ≤ 1) : n + b % 128 * p < 18446744073709551616 := by
  have hp := h.p_le
  obtain ⟨hi, hm, hn, rfl, hg⟩ := h
  rcases Nat.lt_or_ge i 9 with h8 | h9
  · have : (128 : Nat) ^ i ≤ 128 ^ 8 := Nat.pow_le_pow_right (by omega) (by omega)
    have h9 : (128 : Nat) ^ 8 = 72057594037927936 := by decide
    have : b % 128 * 128 ^ i ≤ 127 * 128 ^ i := Nat.mul_le_mul_right _ (by omega)
    omega
  · obtain rfl : i = 9 := by omega
    have h9 : (128 : Nat) ^ 9 = 9223372036854775808 := by decide
    have := hb rfl
    have : b % 128 * 128 ^ 9 ≤ 1 * 128 ^ 9 := Nat.mul_le_mul_right _ (by omega)
    omega

def textV (s : ByteArray) : ByteArray := ⟨(putV s.size ++ s.data.toList).toArray⟩

/-- The answers of 'Take': text, place, error. -/
def takeV (s : ByteArray) (a : Int) (most : Int) : ByteArray × Int × Int :=
  let g := getV s a
  if g.2.2 ≠ 0 then (⟨#[]⟩, 0, g.2.2)
  else if most < 0 ∨ most < g.1 then (⟨#[]⟩, 0, 3)
  else if s.size < g.2.1.toNat + g.1 then (⟨#[]⟩, 0, 2)
  else (s.extract g.2.1.toNat (g.2.1.toNat + g.1), g.2.1 + g.1, 0)

def putN (s : ByteArray) : ByteArray × Bool := if isName s then (textV s, true) else (⟨#[]⟩, false)
def takeN (s : ByteArray) (a : Int) : ByteArray × Int × Int :=
  let t := takeV s a 16
  if t.2.2 ≠ 0 then (⟨#[]⟩, 0, t.2.2) else if isName t.1 then t else (⟨#[]⟩, 0, 3)

end Sp
end Go.Proofs.Ytpmafghknafhaaa
namespace Go.Proofs.Ytpmafghknafhaaa
open Go.RowKit Sp

theorem info_u8 : (Try.prog.info? 5).map (fun i => (i.zero, i.size, i.bytes)) = some (some (.int .u8 0), 1, 1) := by kernel_rfl

/-- 2^64, kept closed. -/
def lim64 : Nat := 18446744073709551616
theorem or128 (m : Nat) (h : m < 256) : bits .or .u8 (m : Int) 128 = ((m % 128 + 128 : Nat) : Int) := by
  have key : ∀ m : Fin 256, bits .or .u8 ((m : Nat) : Int) 128 = (((m : Nat) % 128 + 128 : Nat) : Int) := by decide +kernel
  exact key ⟨m, h⟩
theorem enB_nat (m : Nat) (h : m < 256) : enB (UInt8.ofNat m) = [.int .u8 (m : Int)] := by
  have : (UInt8.ofNat m).toNat = m := by simp; omega
  simp [enB, this]
theorem putV_len_pos (n : Nat) : 0 < (putV n).length := by
  rw [putV]; split <;> simp
theorem putV_len (n : Nat) (hn : n < 18446744073709551616) : (putV n).length ≤ 10 := by
  have key : ∀ k n : Nat, n < 128 ^ (k + 1) → (putV n).length ≤ k + 1 := by
    intro k
    induction k with
    | zero => intro n hn; rw [putV_small (by omega)]; simp
    | succ k ih =>
      intro n hn
      by_cases h : n < 128
      · rw [putV_small h]; simp
      · rw [putV_big (by omega)]
        have : n / 128 < 128 ^ (k + 1) := by rw [Nat.pow_succ] at hn; omega
        have := ih (n / 128) this
        simp; omega
  exact key 9 n (by omega)

end Go.Proofs.Ytpmafghknafhaaa
namespace Go.Proofs.Ytpmafghknafhaaa
open Go.RowKit Sp

theorem andNot128 (m : Nat) (h : m < 256) : bits .andNot .u8 (m : Int) 128 = ((m % 128 : Nat) : Int) := by
  have key : ∀ m : Fin 256, bits .andNot .u8 ((m : Nat) : Int) 128 = (((m : Nat) % 128 : Nat) : Int) := by decide +kernel
  exact key ⟨m, h⟩
theorem pow_word (i : Nat) : ((2 : Int) ^ (7 * i)) = ((128 ^ i : Nat) : Int) := by
  rw [show (128 : Nat) = 2 ^ 7 by decide, ← Nat.pow_mul]
  simp
theorem sum_lt9 (n b i : Nat) (hn : n < 128 ^ i) (hi : i ≤ 9) (h9 : i = 9 → b ≤ 1) : n + b % 128 * 128 ^ i < 18446744073709551616 := by
  rcases Nat.lt_or_ge i 9 with h8 | h9'
  · have : (128 : Nat) ^ i ≤ 128 ^ 8 := Nat.pow_le_pow_right (by omega) (by omega)
    have h9 : (128 : Nat) ^ 8 = 72057594037927936 := by decide
    have : b % 128 * 128 ^ i ≤ 127 * 128 ^ i := Nat.mul_le_mul_right _ (by omega)
    omega
  · obtain rfl : i = 9 := by omega
    have h9'' : (128 : Nat) ^ 9 = 9223372036854775808 := by decide
    have := h9 rfl
    have : b % 128 * 128 ^ 9 ≤ 1 * 128 ^ 9 := Nat.mul_le_mul_right _ (by omega)
    omega
/-- What '|=' makes of a number and the next seven bits. -/
theorem or_word (n b i : Nat) (hn : n < 128 ^ i) (hi : i ≤ 9) (hb : b < 256) (h9 : i = 9 → b ≤ 1) (x q : Int) (hx : x = (b : Int)) (hq : q = ((128 ^ i : Nat) : Int)) :
    bits .or .u64 (n : Int) (IntKind.u64.wrap (IntKind.u64.wrap (bits .andNot .u8 x 128) * q)) = ((n + b % 128 * 128 ^ i : Nat) : Int) := by
  subst hx hq
  have h0 := sum_lt9 n b i hn hi h9
  rw [andNot128 b hb, IntKind.wrap_u64, IntKind.wrap_u64]
  have e1 : ((b % 128 : Nat) : Int) % 18446744073709551616 = ((b % 128 : Nat) : Int) := by omega
  rw [e1, ← Int.natCast_mul]
  have e2 : ((b % 128 * 128 ^ i : Nat) : Int) % 18446744073709551616 = ((b % 128 * 128 ^ i : Nat) : Int) := by
    generalize b % 128 * 128 ^ i = q at *
    omega
  rw [e2, bits_or_u64_nat _ _ (by omega) (by omega)]
  congr 1
  have hp : (128 : Nat) ^ i = 2 ^ (7 * i) := by rw [show (128 : Nat) = 2 ^ 7 by decide, ← Nat.pow_mul]
  rw [hp] at hn ⊢
  rw [Nat.or_comm, Nat.mul_comm (b % 128), ← Nat.two_pow_add_eq_or_of_lt hn, Nat.add_comm]

/-- What holds at every jump. -/
def GetRel (s : ByteArray) (m : Nat) (w : World) (a' : Act) (w' : World) : Prop :=
  w = w' ∧ ∃ (i n : Nat) (u9 u10 u11 u12 u13 u14 u15 u16 u17 u18 u19 u20 u21 u22 u23 u24 u25 u26 u27 u28 u29 u30 u31 u32 u33 u34 u35 u36 u37 u38 u39 u40 u41 u42 u43 u44 u45 u46 : Value), a' = { tmps := #[.string s, .int .i64 m, undef, undef, .int .u64 0, .int .i64 0, .int .i64 0, .int .u64 n, .int .i64 i, u9, u10, u11, u12, u13, u14, u15, u16, u17, u18, u19, u20, u21, u22, u23, u24, u25, u26, u27, u28, u29, u30, u31, u32, u33, u34, u35, u36, u37, u38, u39, u40, u41, u42, u43, u44, u45, u46, undef, undef, undef, undef, undef, undef, undef, undef, undef, undef], defers := [] } ∧ Hid (GetAt s m i n (128 ^ i)) ∧ i ≤ 9

end Go.Proofs.Ytpmafghknafhaaa
namespace Go.Proofs.Ytpmafghknafhaaa
open Go.RowKit Sp

theorem textV_eq (s : ByteArray) : strOf (putV s.size) ++ s = textV s := by
  rw [append_strOf, strOf_list]
  rfl
theorem textV_size (s : ByteArray) (hs : s.size ≤ 140737488351232) : (textV s).size ≤ s.size + 10 := by
  have h1 := putV_len s.size (by omega)
  have h2 : (textV s).size = (putV s.size).length + s.data.toList.length := by unfold textV; rw [size_ofList, List.length_append]
  rw [h2, ← size_eq_length]
  omega

/-! ### Take -/
theorem getV_ok (s : ByteArray) (a : Int) (n : Nat) (to : Int) (h : getV s a = (n, to, 0)) : 0 ≤ a ∧ a < to ∧ to ≤ s.size ∧ n < 18446744073709551616 := by
  by_cases ho : a < 0 ∨ (s.size : Int) < a
  · rw [getV_out s a ho] at h
    simp at h
  · obtain ⟨m, rfl⟩ := Int.eq_ofNat_of_zero_le (show 0 ≤ a by omega)
    have hm : m ≤ s.size := by omega
    have key : ∀ k i n0 : Nat, GetAt s m i n0 (128 ^ i) → s.size - (m + i) = k → (m : Int) < to ∧ to ≤ s.size ∧ n < 18446744073709551616 := by
      intro k
      induction k using Nat.strongRecOn with
      | _ k ih =>
        intro i n0 hG hk
        rcases Nat.lt_or_ge (m + i) s.size with hl | hl
        · by_cases h1 : i = 9 ∧ 1 < s[m + i].toNat
          · obtain ⟨rfl, h1⟩ := h1
            rw [hG.form1 hl h1] at h
            simp at h
          · by_cases h2 : 128 ≤ s[m + i].toNat
            · have hi := hG.1
              have h9 : i ≠ 9 := fun e => h1 ⟨e, by omega⟩
              exact ih (s.size - (m + (i + 1))) (by omega) (i + 1) _ (by have := hG.more hl h2 h9; rwa [← Nat.pow_succ] at this) rfl
            · by_cases h3 : s[m + i].toNat = 0 ∧ 0 < i
              · rw [hG.form0 hl h3.1 h3.2] at h
                simp at h
              · have hd := hG.done hl (by omega) (by omega) (by omega)
                have hs := hG.sum_lt s[m + i].toNat (by omega)
                rw [hd] at h
                simp only [Prod.mk.injEq] at h
                omega
        · rw [hG.cut hl] at h
          simp at h
    have := key _ 0 0 (GetAt.start s m hm) rfl
    omega

/-- The answers of 'Take', way by way. -/
theorem takeV_err (s : ByteArray) (a most : Int) (n : Nat) (to e : Int) (h : getV s a = (n, to, e)) (he : e ≠ 0) : takeV s a most = (⟨#[]⟩, 0, e) := by
  simp [takeV, h, he]
theorem takeV_form (s : ByteArray) (a most : Int) (n : Nat) (to : Int) (h : getV s a = (n, to, 0)) (hm : most < 0 ∨ most < n) : takeV s a most = (⟨#[]⟩, 0, 3) := by
  simp [takeV, h, hm]
theorem takeV_cut (s : ByteArray) (a most : Int) (n : Nat) (to : Int) (h : getV s a = (n, to, 0)) (hm : ¬ (most < 0 ∨ most < n)) (hc : s.size < to.toNat + n) : takeV s a most = (⟨#[]⟩, 0, 2) := by
  simp [takeV, h, hm, hc]
theorem takeV_ok (s : ByteArray) (a most : Int) (n : Nat) (to : Int) (h : getV s a = (n, to, 0)) (hm : ¬ (most < 0 ∨ most < n)) (hc : ¬ s.size < to.toNat + n) : takeV s a most = (s.extract to.toNat (to.toNat + n), to + n, 0) := by
  simp [takeV, h, hm, hc]

end Go.Proofs.Ytpmafghknafhaaa
namespace Go.Proofs.Ytpmafghknafhaaa
open Go.RowKit
namespace Sp

theorem lower_name (c : UInt8) (h : isNameByte c = true) : lower c = c := by
  rw [isNameByte_nat] at h
  unfold lower
  rw [if_neg (by omega)]
theorem name_all (s : ByteArray) (h : isName s = true) : ∀ c ∈ s.data.toList, isNameByte c = true := by
  unfold isName at h
  cases hl : s.data.toList with
  | nil => intro c hc; cases hc
  | cons a l =>
    rw [hl] at h
    simp only [nameL, Bool.and_eq_true, List.all_eq_true, decide_eq_true_eq] at h
    intro c hc
    rcases List.mem_cons.mp hc with rfl | hc
    · exact letter_is _ h.1.1
    · exact h.1.2 c hc
theorem fold_name (s : ByteArray) (h : isName s = true) : foldS s = s := by
  have hm : s.data.toList.map lower = s.data.toList := by
    conv => rhs; rw [← List.map_id s.data.toList]
    exact List.map_congr_left fun c hc => lower_name c (name_all s h c hc)
  unfold foldS
  rw [hm]
theorem foldS_size (s : ByteArray) : (foldS s).size = s.size := by rw [size_eq_length, size_eq_length s]; simp [foldS]
theorem not_name (s : ByteArray) (h : isName (foldS s) = false) : isName s = false := by
  cases hn : isName s with
  | false => rfl
  | true => rw [fold_name s hn, hn] at h; exact h
theorem name_same (s : ByteArray) (h : isName (foldS s) = true) : isName s = (s.toList == (foldS s).toList) := by
  cases hn : isName s with
  | true => rw [fold_name s hn]; simp
  | false =>
    symm
    rw [beq_eq_false_iff_ne]
    intro e
    rw [toList_inj'] at e
    rw [← e, hn] at h
    cases h
theorem name_le (s : ByteArray) (h : isName s = true) : 0 < s.size ∧ s.size ≤ 16 := ⟨((isName_iff s).mp h).1, ((isName_iff s).mp h).2.1⟩

theorem text_name (t : ByteArray) (h : t.size ≤ 16) : (textV t).data.toList = UInt8.ofNat t.size :: t.data.toList := by
  rw [← textV_eq, putV_small (by omega), data_append, strOf_list]; rfl
theorem text_size (t : ByteArray) (h : t.size ≤ 16) : (textV t).size = 1 + t.size := by rw [size_eq_length, text_name t h, size_eq_length t]; simp; omega
theorem take_put (t b : ByteArray) (h : isName t = true) : takeN (textV t ++ b) 0 = (t, ((textV t).size : Int), 0) := by
  obtain ⟨h0, h1⟩ := name_le t h
  have hl : (textV t ++ b).data.toList = UInt8.ofNat t.size :: (t.data.toList ++ b.data.toList) := by rw [data_append, text_name t h1]; rfl
  have hu : (UInt8.ofNat t.size).toNat = t.size := by simp; omega
  have hg : getV (textV t ++ b) 0 = (t.size, 1, 0) := by
    unfold getV
    rw [if_neg (by omega)]
    simp only [Int.toNat_zero, List.drop_zero, hl, getL, hu]
    rw [if_neg (by omega), if_neg (by omega), if_neg (by omega), Nat.mod_eq_of_lt (by omega)]
    simp [getR]
  have hx : (textV t ++ b).extract 1 (1 + t.size) = t := by
    apply toList_inj.mp
    rw [ByteArray.data_extract, Array.toList_extract, hl, size_eq_length]
    simp [List.extract_eq_take_drop]
  have hz : (textV t ++ b).size = 1 + t.size + b.size := by rw [ByteArray.size_append, text_size t h1]
  have ht : takeV (textV t ++ b) 0 16 = (t, 1 + (t.size : Int), 0) := by
    rw [takeV_ok _ _ _ _ _ hg (by omega) (by rw [hz]; simp)]
    simp only [Int.toNat_one, hx]
  unfold takeN
  rw [ht]
  simp only [h, if_true, text_size t h1]
  simp
end Sp
end Go.Proofs.Ytpmafghknafhaaa
