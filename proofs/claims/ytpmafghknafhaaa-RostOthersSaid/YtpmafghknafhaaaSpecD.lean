/-
Plain laws: names folded, put and taken back.
-/
import Derived.Test.YtpmafghknafhaaaVarC
namespace Go.Proofs.Ytpmafghknafhaaa
open Go.RowKit
namespace Sp

theorem lower_name (c : UInt8) (h : isNameByte c = true) : lower c = c := by
  rw [isNameByte_nat] at h
  unfold lower
  rw [if_neg (by omega)]
theorem name_all (s : ByteArray) (h : isName s = true) : ∀ c ∈ s.data.toList, isNameByte c = true := by
  unfold isName at h
  cases hl : s.data.toList with
  | nil => intro c hc; cases hc
  | cons a l =>
    rw [hl] at h
    simp only [nameL, Bool.and_eq_true, List.all_eq_true, decide_eq_true_eq] at h
    intro c hc
    rcases List.mem_cons.mp hc with rfl | hc
    · exact letter_is _ h.1.1
    · exact h.1.2 c hc
theorem fold_name (s : ByteArray) (h : isName s = true) : foldS s = s := by
  have hm : s.data.toList.map lower = s.data.toList := by
    conv => rhs; rw [← List.map_id s.data.toList]
    exact List.map_congr_left fun c hc => lower_name c (name_all s h c hc)
  unfold foldS
  rw [hm]
theorem foldS_size (s : ByteArray) : (foldS s).size = s.size := by rw [size_eq_length, size_eq_length s]; simp [foldS]
theorem not_name (s : ByteArray) (h : isName (foldS s) = false) : isName s = false := by
  cases hn : isName s with
  | false => rfl
  | true => rw [fold_name s hn, hn] at h; exact h
theorem name_same (s : ByteArray) (h : isName (foldS s) = true) : isName s = (s.toList == (foldS s).toList) := by
  cases hn : isName s with
  | true => rw [fold_name s hn]; simp
  | false =>
    symm
    rw [beq_eq_false_iff_ne]
    intro e
    rw [toList_inj'] at e
    rw [← e, hn] at h
    cases h
theorem name_le (s : ByteArray) (h : isName s = true) : 0 < s.size ∧ s.size ≤ 16 := ⟨((isName_iff s).mp h).1, ((isName_iff s).mp h).2.1⟩

theorem text_name (t : ByteArray) (h : t.size ≤ 16) : (textV t).data.toList = UInt8.ofNat t.size :: t.data.toList := by
  rw [← textV_eq, putV_small (by omega), data_append, strOf_list]; rfl
theorem text_size (t : ByteArray) (h : t.size ≤ 16) : (textV t).size = 1 + t.size := by rw [size_eq_length, text_name t h, size_eq_length t]; simp; omega
theorem take_put (t b : ByteArray) (h : isName t = true) : takeN (textV t ++ b) 0 = (t, ((textV t).size : Int), 0) := by
  obtain ⟨h0, h1⟩ := name_le t h
  have hl : (textV t ++ b).data.toList = UInt8.ofNat t.size :: (t.data.toList ++ b.data.toList) := by rw [data_append, text_name t h1]; rfl
  have hu : (UInt8.ofNat t.size).toNat = t.size := by simp; omega
  have hg : getV (textV t ++ b) 0 = (t.size, 1, 0) := by
    unfold getV
    rw [if_neg (by omega)]
    simp only [Int.toNat_zero, List.drop_zero, hl, getL, hu]
    rw [if_neg (by omega), if_neg (by omega), if_neg (by omega), Nat.mod_eq_of_lt (by omega)]
    simp [getR]
  have hx : (textV t ++ b).extract 1 (1 + t.size) = t := by
    apply toList_inj.mp
    rw [ByteArray.data_extract, Array.toList_extract, hl, size_eq_length]
    simp [List.extract_eq_take_drop]
  have hz : (textV t ++ b).size = 1 + t.size + b.size := by rw [ByteArray.size_append, text_size t h1]
  have ht : takeV (textV t ++ b) 0 16 = (t, 1 + (t.size : Int), 0) := by
    rw [takeV_ok _ _ _ _ _ hg (by omega) (by rw [hz]; simp)]
    simp only [Int.toNat_one, hx]
  unfold takeN
  rw [ht]
  simp only [h, if_true, text_size t h1]
  simp
end Sp
end Go.Proofs.Ytpmafghknafhaaa
