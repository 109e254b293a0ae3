/-
Plain: what was put is taken: numbers, texts, names, values.
Plain: what is encoded is decoded, what is batched unbatched, and the other way round.
Layer 23: the walk of ScriptReads.
Layer 23: the walk of ScriptBatches.
Layer 23: the walk of ScriptJoins.
Plain: a text with its sum, of which one byte is changed, is not opened.
Plain: a spoilt event is none, and a batch that holds one is none.
Layer 23: ScriptSpoils, the ways that end with 'live'.
A byte of a row of the call's own is set.
Layer 23: ScriptSpoils, the main way.
Layer 23: ScriptSpoils, all ways.
Layer 23: the walk of the statement ScriptBack.
-/
import Derived.Test.YtobhlcogopcbdaaScrF
import Derived.Test.YtobhlcogopcbdaaScrU
import Derived.Test.YtobhlcogopcbdaaScrV
import Derived.Test.YtobhlcogopcbdaaCrcC
import Derived.Deep.RegionHeld3
import Derived.Deep.QuietTactic
import Derived.BigQuiet
set_option linter.unusedVariables false
set_option linter.unusedSimpArgs false
namespace Go.Proofs.Ytobhlcogopcbdaa
open Go.RowKit
open Sp
namespace Sp
theorem byte_of (n : Nat) (h : n < 256) : (UInt8.ofNat n).toNat = n := by simp; omega
theorem getL_put : ∀ (n i m : Nat) (rest : List UInt8), n * 128 ^ i < 18446744073709551616 → i ≤ 9 → (0 < i → 0 < n) → getL (putV n ++ rest) i m = some (some (m + n * 128 ^ i, i + (putV n).length)) := by
  intro n
  induction n using Nat.strongRecOn with
  | ind n ih =>
    intro i m rest hn hi h0
    by_cases hs : n < 128
    · rw [putV_small hs]
      simp only [List.cons_append, List.nil_append, getL, byte_of n (by omega), List.length_cons, List.length_nil]
      rw [if_neg, if_neg (by omega), if_neg (by omega), Nat.mod_eq_of_lt hs]
      rintro ⟨rfl, h1⟩
      omega
    · have hi9 : i < 9 := by
        rcases Nat.lt_or_ge i 9 with h | h
        · exact h
        · obtain rfl : i = 9 := by omega
          omega
      rw [putV_big (by omega)]
      simp only [List.cons_append, getL, byte_of (n % 128 + 128) (by omega), List.length_cons]
      have hp : n / 128 * 128 ^ (i + 1) + n % 128 * 128 ^ i = n * 128 ^ i := by
        rw [Nat.pow_succ, show n / 128 * (128 ^ i * 128) = (n / 128 * 128) * 128 ^ i by rw [Nat.mul_comm (128 ^ i) 128, Nat.mul_assoc], ← Nat.add_mul]
        congr 1; omega
      rw [if_neg (by omega), if_pos (by omega), ih (n / 128) (by omega) (i + 1) _ rest (by omega) (by omega) (by omega)]
      congr 3
      · rw [show (n % 128 + 128) % 128 = n % 128 by omega]; omega
      · omega
theorem getV_put (s : ByteArray) (a n : Nat) (rest : List UInt8) (h : s.data.toList.drop a = putV n ++ rest) (hn : n < 18446744073709551616) : getV s a = (n, (a : Int) + (putV n).length, 0) := by
  have ha : a ≤ s.size := by
    have h1 := congrArg List.length h
    have h2 := putV_len_pos n
    rw [List.length_drop, List.length_append, ← size_eq_length] at h1
    omega
  rw [getV_in s a ha, h, getL_put n 0 0 rest (by simpa using hn) (by omega) (by omega)]
  simp [getR]
theorem textV_list (t : ByteArray) : (textV t).data.toList = putV t.size ++ t.data.toList := rfl
theorem takeV_put (s : ByteArray) (a m : Nat) (t : ByteArray) (rest : List UInt8) (h : s.data.toList.drop a = (textV t).data.toList ++ rest) (hm : t.size ≤ m) (ht : t.size < 18446744073709551616) : takeV s a m = (t, (a : Int) + (textV t).size, 0) := by
  rw [textV_list, List.append_assoc] at h
  have hg := getV_put s a t.size _ h ht
  have hsz : (textV t).size = (putV t.size).length + t.size := by rw [size_eq_length, textV_list, List.length_append, ← size_eq_length]
  have hd : s.data.toList.drop (a + (putV t.size).length) = t.data.toList ++ rest := by rw [← List.drop_drop, h, List.drop_left]
  have hl : (a + (putV t.size).length) + t.size ≤ s.size := by
    have h1 := congrArg List.length hd
    have h2 := congrArg List.length h
    have h3 := putV_len_pos t.size
    rw [List.length_drop, List.length_append, ← size_eq_length, ← size_eq_length] at h1
    rw [List.length_drop, List.length_append, List.length_append, ← size_eq_length, ← size_eq_length] at h2
    omega
  rw [takeV_ok s a m t.size _ hg (by omega) (by omega)]
  have ht2 : ((a : Int) + ((putV t.size).length : Int)).toNat = a + (putV t.size).length := by omega
  rw [ht2, hsz]
  have he : s.extract (a + (putV t.size).length) (a + (putV t.size).length + t.size) = t := by
    rw [← toList_inj, ByteArray.data_extract, Array.toList_extract]
    have : List.extract s.data.toList (a + (putV t.size).length) (a + (putV t.size).length + t.size) = (s.data.toList.drop (a + (putV t.size).length)).take t.size := by simp [List.extract]
    rw [this, hd, size_eq_length, List.take_left]
  rw [he]
  simp only [Prod.mk.injEq, true_and, and_true]
  omega
theorem takeN_put (s : ByteArray) (a : Nat) (t : ByteArray) (rest : List UInt8) (h : s.data.toList.drop a = (textV t).data.toList ++ rest) (hm : t.size ≤ 16) (ht : isName t = true) : takeN s a = (t, (a : Int) + (textV t).size, 0) := by
  have h1 := takeV_put s a 16 t rest h hm (by omega)
  simp only [takeN]
  rw [show takeV s (a : Int) 16 = (t, (a : Int) + (textV t).size, 0) from h1]
  simp [ht]
theorem getD_drop (s : ByteArray) (a : Nat) (b : UInt8) (rest : List UInt8) (h : s.data.toList.drop a = b :: rest) : s.data.toList.getD a 0 = b := by
  have h1 : (s.data.toList.drop a)[0]? = some b := by rw [h]; rfl
  rw [List.getElem?_drop, Nat.add_zero] at h1
  rw [List.getD_eq_getElem?_getD, h1]; rfl
theorem takeVal_put (s : ByteArray) (a : Nat) (k p n : Int) (t : ByteArray) (rest : List UInt8) (hm : mayV k p n t = true) (h : s.data.toList.drop a = (putVal k p n t).1.data.toList ++ rest) : takeVal s a = ((k, p, n, t), (a : Int) + (putVal k p n t).1.size, 0) := by
  obtain ⟨m1, m2, m3, m4, m5, m6, m7, _⟩ := (mayV_iff k p n t).1 hm
  have hp : (putVal k p n t).1 = strOf (valL k p n) ++ strOf (putV n.toNat) ++ textV t := by unfold putVal; rw [if_pos hm]
  rw [hp] at h ⊢
  simp only [data_append, strOf_list, valL, List.append_assoc, List.cons_append, List.nil_append] at h
  have d1 : s.data.toList.drop (a + 1) = UInt8.ofNat (p + 128).toNat :: (putV n.toNat ++ ((textV t).data.toList ++ rest)) := by rw [← List.drop_drop, h]; rfl
  have d2 : s.data.toList.drop (a + 2) = putV n.toNat ++ ((textV t).data.toList ++ rest) := by rw [show a + 2 = (a + 1) + 1 by rfl, ← List.drop_drop, d1]; rfl
  have hg := getV_put s (a + 2) n.toNat _ d2 (by omega)
  have d3 : s.data.toList.drop (a + 2 + (putV n.toNat).length) = (textV t).data.toList ++ rest := by rw [← List.drop_drop, d2, List.drop_left]
  have ht := takeV_put s (a + 2 + (putV n.toNat).length) 32 t rest d3 (by omega) (by omega)
  have hl := congrArg List.length h
  have hpos := putV_len_pos n.toNat
  simp only [List.length_drop, List.length_cons, List.length_append, ← size_eq_length] at hl
  unfold takeVal
  rw [if_neg (by omega), if_neg (by omega)]
  rw [show ((a + 2 : Nat) : Int) = (a : Int) + 2 by omega] at hg
  rw [show ((a + 2 + (putV n.toNat).length : Nat) : Int) = (a : Int) + 2 + ((putV n.toNat).length : Int) by omega, show ((32 : Nat) : Int) = 32 from rfl] at ht
  simp only [hg, ht, Int.toNat_natCast]
  rw [getD_drop s a _ _ h, getD_drop s (a + 1) _ _ d1, byte_of k.toNat (by omega), byte_of (p + 128).toNat (by omega)]
  rw [show ((k.toNat : Nat) : Int) = k by omega, show (((p + 128).toNat : Nat) : Int) - 128 = p by omega, show ((n.toNat : Nat) : Int) = n by omega]
  rw [if_neg (by simp), if_neg (by simp), if_pos hm]
  simp only [Prod.mk.injEq, true_and, and_true, ByteArray.size_append, strOf_size, valL, List.length_cons, List.length_nil]
  omega
end Sp
end Go.Proofs.Ytobhlcogopcbdaa
set_option linter.unusedVariables false
set_option linter.unusedSimpArgs false
namespace Go.Proofs.Ytobhlcogopcbdaa
open Go.RowKit
open Sp
namespace Sp
theorem nil_of (t : ByteArray) (h : t.toList = []) : t = ⟨#[]⟩ := toList_inj.1 (show t.data.toList = [] by rw [← ByteArray.toList_eq]; exact h)
theorem mayE_split (e : Ev) (h : mayE e = true) : 1 ≤ e.k ∧ e.k ≤ 8 ∧ isName e.u = true ∧ (e.k ≤ 6 → isName e.o = true ∧ e.i = 0 ∧ e.v = zeroV) ∧ (6 < e.k → e.o = ⟨#[]⟩ ∧ 0 ≤ e.i ∧ e.i < 4) ∧ (e.k = 7 → mayV e.v.1 e.v.2.1 e.v.2.2.1 e.v.2.2.2 = true) ∧ (e.k = 8 → e.v = zeroV) := by
  obtain ⟨k, u, o, i, a, p, n, t⟩ := e
  have hz : isZ a p n t = true → (a, p, n, t) = zeroV := by
    intro hz
    unfold isZ at hz
    simp only [Bool.and_eq_true, decide_eq_true_eq] at hz
    obtain ⟨rfl, rfl, rfl, ht⟩ := hz
    have : t = ⟨#[]⟩ := nil_of t ht
    rw [this]; rfl
  unfold mayE mayE8 at h
  simp only at h ⊢
  split at h
  · cases h
  · rename_i h1
    have hu : isName u = true := by cases hn : isName u with | true => rfl | false => exact absurd (Or.inr (Or.inr hn)) h1
    have hk : 1 ≤ k ∧ k ≤ 8 := by omega
    split at h
    · rename_i h6
      simp only [Bool.and_eq_true, decide_eq_true_eq] at h
      exact ⟨hk.1, hk.2, hu, fun _ => ⟨h.1, h.2.1, hz h.2.2⟩, fun _ => by omega, fun _ => by omega, fun _ => by omega⟩
    · rename_i h6
      split at h
      · cases h
      · rename_i h7
        have ho : o = ⟨#[]⟩ := nil_of o (by
          by_cases h : o.toList = []
          · exact h
          · exact absurd (Or.inl h) h7)
        refine ⟨hk.1, hk.2, hu, fun _ => by omega, fun _ => ⟨ho, by omega, by omega⟩, fun e => ?_, fun e => ?_⟩
        · rw [if_pos e] at h; exact h
        · rw [if_neg (by omega)] at h; exact hz h
theorem byteAt_drop (s : ByteArray) (a : Nat) (k : Int) (rest : List UInt8) (h : s.data.toList.drop a = UInt8.ofNat k.toNat :: rest) (h0 : 0 ≤ k) (h1 : k < 256) : byteAt s a = k := by
  unfold byteAt
  rw [getD_drop s a _ _ h, byte_of k.toNat (by omega)]
  omega
theorem read_back (e : Ev) (h : mayE e = true) : readR (bodyE e) = e := by
  obtain ⟨k1, k8, hu, h6, h7, hv, h8⟩ := mayE_split e h
  obtain ⟨k, u, o, i, v⟩ := e
  simp only at k1 k8 hu h6 h7 hv h8
  have hus := ((isName_iff u).1 hu).2.1
  generalize hb : bodyE ⟨k, u, o, i, v⟩ = b
  have hl : ∃ rest, b.data.toList = UInt8.ofNat k.toNat :: ((textV u).data.toList ++ rest) ∧ (k ≤ 6 → rest = (textV o).data.toList) ∧ (k = 7 → rest = UInt8.ofNat i.toNat :: (putVal v.1 v.2.1 v.2.2.1 v.2.2.2).1.data.toList) ∧ (k = 8 → rest = [UInt8.ofNat i.toNat]) := by
    rw [← hb]
    unfold bodyE
    simp only
    by_cases c6 : k ≤ 6
    · rw [if_pos c6]
      exact ⟨(textV o).data.toList, by simp only [data_append, strOf_list]; simp, fun _ => rfl, fun _ => by omega, fun _ => by omega⟩
    · rw [if_neg c6]
      by_cases c7 : k = 7
      · rw [if_pos c7]
        exact ⟨UInt8.ofNat i.toNat :: (putVal v.1 v.2.1 v.2.2.1 v.2.2.2).1.data.toList, by simp only [data_append, strOf_list]; simp, fun _ => by omega, fun _ => rfl, fun _ => by omega⟩
      · rw [if_neg c7]
        exact ⟨[UInt8.ofNat i.toNat], by simp only [data_append, strOf_list]; simp, fun _ => by omega, fun _ => by omega, fun _ => rfl⟩
  obtain ⟨rest, hd, r6, r7, r8⟩ := hl
  have hd0 : b.data.toList.drop 0 = UInt8.ofNat k.toNat :: ((textV u).data.toList ++ rest) := hd
  have hb0 := byteAt_drop b 0 k _ hd0 (by omega) (by omega)
  have hd1 : b.data.toList.drop 1 = (textV u).data.toList ++ rest := by rw [hd]; rfl
  have hn := takeN_put b 1 u rest hd1 hus hu
  have hd2 : b.data.toList.drop (1 + (textV u).size) = rest := by rw [← List.drop_drop, hd1, size_eq_length, List.drop_left]
  have hne : ¬ b.toList = [] := by
    rw [ByteArray.toList_eq, hd]; simp
  have hto : ((1 : Nat) : Int) + ((textV u).size : Int) = ((1 + (textV u).size : Nat) : Int) := by omega
  rw [hto] at hn
  unfold readR
  rw [if_neg hne]
  simp only [show takeN b (1 : Int) = (u, ((1 + (textV u).size : Nat) : Int), 0) from hn, hb0]
  rw [if_neg (by simp)]
  by_cases c6 : k ≤ 6
  · rw [if_pos c6]
    obtain ⟨ho, hi, hz⟩ := h6 c6
    have hos := ((isName_iff o).1 ho).2.1
    have h2 := takeN_put b (1 + (textV u).size) o [] (by rw [hd2, r6 c6, List.append_nil]) hos ho
    rw [h2, hi, hz]
  · rw [if_neg c6]
    obtain ⟨ho, hi0, hi4⟩ := h7 (by omega)
    have hx : ∃ more, rest = UInt8.ofNat i.toNat :: more := by
      by_cases c7 : k = 7
      · exact ⟨_, r7 c7⟩
      · exact ⟨_, r8 (by omega)⟩
    obtain ⟨more, hmore⟩ := hx
    have hsz : 1 + (textV u).size < b.size := by
      have := congrArg List.length hd2
      rw [hmore, List.length_drop, List.length_cons, ← size_eq_length] at this
      omega
    have hbi := byteAt_drop b (1 + (textV u).size) i more (by rw [hd2, hmore]) hi0 (by omega)
    rw [if_neg (by omega), Int.toNat_natCast, hbi, ho]
    by_cases c7 : k = 7
    · rw [if_pos c7]
      obtain ⟨va, vp, vn, vt⟩ := v
      have h3 : b.data.toList.drop (1 + (textV u).size + 1) = (putVal va vp vn vt).1.data.toList ++ [] := by
        rw [← List.drop_drop, hd2, r7 c7, List.append_nil]; rfl
      have h4 := takeVal_put b (1 + (textV u).size + 1) va vp vn vt [] (hv c7) h3
      rw [show (((1 + (textV u).size : Nat) : Int) + 1) = ((1 + (textV u).size + 1 : Nat) : Int) by omega, h4]
    · rw [if_neg c7, h8 (by omega)]
theorem open_back (b : ByteArray) : openS (sealS b) = (b, 0) := by
  have hz := sealS_size b
  have he : (sealS b).extract 0 ((sealS b).size - 4) = b := by
    rw [← toList_inj, ByteArray.data_extract, Array.toList_extract]
    have : List.extract (sealS b).data.toList 0 ((sealS b).size - 4) = (sealS b).data.toList.take b.size := by rw [hz]; simp [List.extract]
    rw [this]
    unfold sealS
    rw [data_append, size_eq_length, List.take_left]
  unfold openS
  rw [he, if_neg (by omega), if_pos rfl]
theorem dec_back (e : Ev) (h : mayE e = true) : decR (encE e).1 = (e, 0) := by
  have hb := encE_body e h
  unfold decR
  rw [hb]
  simp only [open_back, read_back e h, hb]
  simp
theorem dec_enc (t : ByteArray) (e : Ev) (h : decR t = (e, 0)) : mayE e = true ∧ (encE e).1 = t := by
  unfold decR at h
  split at h
  · rename_i h1
    simp only [Prod.mk.injEq] at h
    exact absurd h.2 h1
  · split at h
    · simp at h
    · rename_i h2
      simp only [Prod.mk.injEq, and_true] at h
      rw [h] at h2
      constructor
      · cases hm : mayE e with
        | true => rfl
        | false => rw [encE_no e hm] at h2; exact absurd (Or.inl (by decide)) h2
      · by_cases h3 : (encE e).1.toList = t.toList
        · exact toList_inj'.1 h3
        · exact absurd (Or.inr h3) h2
theorem unbL_put (s : ByteArray) : ∀ (l : List Ev) (f a : Nat) (acc : List Ev), (∀ e ∈ l, mayE e = true) → s.data.toList.drop a = l.flatMap txE → a ≤ s.size → s.size < f + a → unbL s f a acc = some (acc ++ l)
  | [], f, a, acc, hm, hd, ha, hf => by
    have hl := congrArg List.length hd
    rw [List.length_drop, ← size_eq_length] at hl
    have : s.size - a = 0 := hl
    obtain ⟨f, rfl⟩ : ∃ g, f = g + 1 := ⟨f - 1, by omega⟩
    rw [unbL_end s f a acc (by omega), List.append_nil]
  | e :: l, f, a, acc, hm, hd, ha, hf => by
    have he := hm e (List.mem_cons_self ..)
    rw [List.flatMap_cons] at hd
    obtain ⟨_, z⟩ := encE_yes e he
    have hd' : s.data.toList.drop a = (textV (encE e).1).data.toList ++ l.flatMap txE := hd
    have ht := takeV_put s a 300 (encE e).1 _ hd' (by omega) (by omega)
    have hl := congrArg List.length hd'
    have hp := putV_len_pos (encE e).1.size
    have hz : (textV (encE e).1).size = (putV (encE e).1.size).length + (encE e).1.size := by rw [size_eq_length, textV_list, List.length_append, ← size_eq_length]
    rw [List.length_drop, List.length_append, ← size_eq_length, ← size_eq_length] at hl
    obtain ⟨f, rfl⟩ : ∃ g, f = g + 1 := ⟨f - 1, by omega⟩
    rw [unbL_yes s f a acc (encE e).1 _ e (by omega) ht (dec_back e he)]
    rw [show (a : Int) + ((textV (encE e).1).size : Int) = ((a + (textV (encE e).1).size : Nat) : Int) by omega]
    rw [unbL_put s l f _ _ (fun x hx => hm x (List.mem_cons_of_mem _ hx)) (by rw [← List.drop_drop, hd', size_eq_length, List.drop_left]) (by omega) (by omega)]
    rw [List.append_assoc]; rfl
theorem unb_back (l : List Ev) (hl : l.length ≤ 100) (hm : ∀ e ∈ l, mayE e = true) : unbE (strOf (l.flatMap txE)) = (l, 0) := by
  unfold unbE
  have := unbL_put (strOf (l.flatMap txE)) l ((strOf (l.flatMap txE)).size + 1) 0 [] hm (by rw [List.drop_zero, strOf_list]) (by omega) (by omega)
  rw [show ((0 : Nat) : Int) = 0 from rfl, List.nil_append] at this
  rw [this]
  unfold cutU
  simp only
  rw [if_neg (by omega)]
theorem unbL_text (s : ByteArray) : ∀ (f a : Nat) (acc r : List Ev), unbL s f a acc = some r → a ≤ s.size → ∃ l, r = acc ++ l ∧ s.data.toList.drop a = l.flatMap txE ∧ ∀ e ∈ l, mayE e = true
  | 0, a, acc, r, h, _ => by simp [unbL] at h
  | f + 1, a, acc, r, h, ha => by
    by_cases hge : (s.size : Int) ≤ (a : Int)
    · rw [unbL_end s f a acc hge] at h
      injection h with h
      refine ⟨[], by rw [List.append_nil]; exact h.symm, ?_, by simp⟩
      rw [List.drop_eq_nil_of_le (by rw [← size_eq_length]; omega)]; rfl
    · obtain ⟨t, to, et, ht⟩ : ∃ t to et, takeV s a 300 = (t, to, et) := ⟨_, _, _, rfl⟩
      by_cases het : et = 0
      · subst het
        obtain ⟨e, ed, hd⟩ : ∃ e ed, decR t = (e, ed) := ⟨_, _, rfl⟩
        by_cases hed : ed = 0
        · subst hed
          obtain ⟨_, t2, t3, t4⟩ := takeV_on s a 300 t to ht
          obtain ⟨p, rfl⟩ := Int.eq_ofNat_of_zero_le (show 0 ≤ to by omega)
          rw [unbL_yes s f a acc t p e hge ht hd] at h
          obtain ⟨l, h1, h2, h3⟩ := unbL_text s f p _ r h (by omega)
          obtain ⟨e1, e2⟩ := dec_enc t e hd
          obtain ⟨x1, x2⟩ := takeV_text s a 300 t p ht
          rw [Int.toNat_natCast, Int.toNat_natCast] at x1
          refine ⟨e :: l, by rw [h1, List.append_assoc]; rfl, ?_, fun x hx => ?_⟩
          · rw [x1, h2, List.flatMap_cons]
            unfold txE
            rw [e2]
          · rcases List.mem_cons.1 hx with rfl | hx
            · exact e1
            · exact h3 x hx
        · rw [unbL_no s f a acc t to e ed hge ht hd hed] at h; cases h
      · rw [unbL_bad s f a acc t to et hge ht het] at h; cases h
theorem unb_text (s : ByteArray) (l : List Ev) (h : unbE s = (l, 0)) : batchE l = (s, 0) := by
  unfold unbE at h
  cases hu : unbL s (s.size + 1) 0 [] with
  | none => rw [hu] at h; simp [cutU] at h
  | some r =>
    rw [hu] at h
    unfold cutU at h
    simp only at h
    split at h
    · simp at h
    · rename_i hlen
      simp only [Prod.mk.injEq, and_true] at h
      subst h
      obtain ⟨l, h1, h2, h3⟩ := unbL_text s (s.size + 1) 0 [] r hu (by omega)
      rw [List.nil_append] at h1
      subst h1
      unfold batchE
      rw [if_neg hlen, if_pos (List.all_eq_true.2 h3)]
      rw [List.drop_zero] at h2
      rw [← h2]
      simp only [Prod.mk.injEq, and_true]
      exact toList_inj.1 (strOf_list _)
end Sp
end Go.Proofs.Ytobhlcogopcbdaa
set_option linter.unusedVariables false
set_option linter.unusedSimpArgs false
namespace Go.Proofs.Ytobhlcogopcbdaa
open Go.RowKit
open Sp
theorem eq_self (k : Int) (u o : ByteArray) (x a p q : Int) (t : ByteArray) (W : World) :
    (binOp .eql 44 (.agg #[.int .i64 k, .string u, .string o, .int .i64 x, .int .i64 a, .int .i64 p, .int .i64 q, .string t]) (.agg #[.int .i64 k, .string u, .string o, .int .i64 x, .int .i64 a, .int .i64 p, .int .i64 q, .string t])).run Try.prog W =
      .ok (.bool true) W := by simp [go_sem]
theorem refSeal_is (s t : ByteArray) (w : World) (hs : s.size ≤ 140737488351232) (h : Hid (sealS s = t)) :
    Calls Try.prog 33 #[.string s] w fun e w' => e = .returned (.string t) ∧ Below w.heap.size w w' := by
  have := refSeal_calls s w hs
  rwa [h.out] at this
theorem unb_is (s : ByteArray) (l : List Ev) (er : Int) (w : World) (hs : s.size ≤ 1048576) (h : Hid (unbE s = (l, er))) :
    Calls Try.prog 34 #[.string s] w fun e w' => ∃ v, e = .returned (.tuple #[v, .int .i64 er]) ∧ Own enE 8 44 w' w.heap.size v l ∧ Below w.heap.size w w' := by
  have := unb_calls s w hs
  rwa [h.out] at this
theorem refUnb_is (s : ByteArray) (l : List Ev) (er : Int) (w : World) (hs : s.size ≤ 1048576) (h : Hid (unbE s = (l, er))) :
    Calls Try.prog 35 #[.string s] w fun e w' => ∃ v, e = .returned (.tuple #[v, .int .i64 er]) ∧ Own enE 8 44 w' w.heap.size v l ∧ Below w.heap.size w w' := by
  have := refUnb_calls s w hs
  rwa [h.out] at this
set_option maxHeartbeats 8000000 in
set_option maxRecDepth 100000 in
theorem reads_small (s : ByteArray) (w : World) (hs : s.size ≤ 1500) (q : ByteArray) (hq : q.size ≤ 1504) (k1 : Int) (u1 o1 : ByteArray) (i1 a1 p1 n1 : Int) (t1 : ByteArray) (e1 : Int) (k2 : Int) (u2 o2 : ByteArray) (i2 a2 p2 n2 : Int) (t2 : ByteArray) (e2 : Int) (l : List Ev) (e3 : Int)
    (HQ : Hid (sealS s = q)) (HD1 : Hid (decR s = (⟨k1, u1, o1, i1, a1, p1, n1, t1⟩, e1))) (HD2 : Hid (decR q = (⟨k2, u2, o2, i2, a2, p2, n2, t2⟩, e2))) (HU : Hid (unbE s = (l, e3))) :
    Calls Try.prog 10 #[.string s] w fun e w' => e = .returned (.bool true) ∧ Below w.heap.size w w' := by
  go_enter Try.func10, Try.ntmps10
  go_wp2_with fail
  refine (dec_is s ⟨k1, u1, o1, i1, a1, p1, n1, t1⟩ e1 _ (by omega) HD1).mono ?_
  rintro e w1 ⟨rfl, b1⟩
  have B1 := below_call (Below.refl w.heap.size w) b1
  clear b1
  unfold evV
  go_wp2_with fail
  refine (refDec_is s ⟨k1, u1, o1, i1, a1, p1, n1, t1⟩ e1 _ (by omega) HD1).mono ?_
  rintro e w2 ⟨rfl, b2⟩
  have B2 := below_call (below_alloc0 B1 _) b2
  have hp2 : w2.heap[w1.heap.size]? = some (.cells #[.int .i64 k1, .string u1, .string o1, .int .i64 i1, .int .i64 a1, .int .i64 p1, .int .i64 n1, .string t1] 44) := hcall (heap_alloc_new w1 (.cells #[.int .i64 k1, .string u1, .string o1, .int .i64 i1, .int .i64 a1, .int .i64 p1, .int .i64 n1, .string t1] 44)) b2
  clear b2 B1
  unfold evV
  go_wp2_with fail
  refine (refSeal_is s q _ (by omega) HQ).mono ?_
  rintro e w3 ⟨rfl, b3⟩
  have B3 := below_call (below_alloc0 B2 _) b3
  have hp3 : w3.heap[w1.heap.size]? = some (.cells #[.int .i64 k1, .string u1, .string o1, .int .i64 i1, .int .i64 a1, .int .i64 p1, .int .i64 n1, .string t1] 44) := hcall (halloc (hp2) _) b3
  have hq3 : w3.heap[w2.heap.size]? = some (.cells #[.int .i64 k1, .string u1, .string o1, .int .i64 i1, .int .i64 a1, .int .i64 p1, .int .i64 n1, .string t1] 44) := hcall (heap_alloc_new w2 (.cells #[.int .i64 k1, .string u1, .string o1, .int .i64 i1, .int .i64 a1, .int .i64 p1, .int .i64 n1, .string t1] 44)) b3
  clear b3 B2 hp2
  go_wp2_with fail
  refine (dec_is q ⟨k2, u2, o2, i2, a2, p2, n2, t2⟩ e2 _ (by omega) HD2).mono ?_
  rintro e w4 ⟨rfl, b4⟩
  have B4 := below_call B3 b4
  have hp4 : w4.heap[w1.heap.size]? = some (.cells #[.int .i64 k1, .string u1, .string o1, .int .i64 i1, .int .i64 a1, .int .i64 p1, .int .i64 n1, .string t1] 44) := hcall (hp3) b4
  have hq4 : w4.heap[w2.heap.size]? = some (.cells #[.int .i64 k1, .string u1, .string o1, .int .i64 i1, .int .i64 a1, .int .i64 p1, .int .i64 n1, .string t1] 44) := hcall (hq3) b4
  clear b4 B3 hp3 hq3
  unfold evV
  go_wp2_with fail
  refine (refDec_is q ⟨k2, u2, o2, i2, a2, p2, n2, t2⟩ e2 _ (by omega) HD2).mono ?_
  rintro e w5 ⟨rfl, b5⟩
  have B5 := below_call (below_alloc0 B4 _) b5
  have hp5 : w5.heap[w1.heap.size]? = some (.cells #[.int .i64 k1, .string u1, .string o1, .int .i64 i1, .int .i64 a1, .int .i64 p1, .int .i64 n1, .string t1] 44) := hcall (halloc (hp4) _) b5
  have hq5 : w5.heap[w2.heap.size]? = some (.cells #[.int .i64 k1, .string u1, .string o1, .int .i64 i1, .int .i64 a1, .int .i64 p1, .int .i64 n1, .string t1] 44) := hcall (halloc (hq4) _) b5
  have hr5 : w5.heap[w4.heap.size]? = some (.cells #[.int .i64 k2, .string u2, .string o2, .int .i64 i2, .int .i64 a2, .int .i64 p2, .int .i64 n2, .string t2] 44) := hcall (heap_alloc_new w4 (.cells #[.int .i64 k2, .string u2, .string o2, .int .i64 i2, .int .i64 a2, .int .i64 p2, .int .i64 n2, .string t2] 44)) b5
  clear b5 B4 hp4 hq4
  unfold evV
  go_wp2_with fail
  refine (unb_is s l e3 _ (by omega) HU).mono ?_
  rintro e w6 ⟨v1, rfl, ho1, b6⟩
  have B6 := below_call (below_alloc0 B5 _) b6
  have hp6 : w6.heap[w1.heap.size]? = some (.cells #[.int .i64 k1, .string u1, .string o1, .int .i64 i1, .int .i64 a1, .int .i64 p1, .int .i64 n1, .string t1] 44) := hcall (halloc (hp5) _) b6
  have hq6 : w6.heap[w2.heap.size]? = some (.cells #[.int .i64 k1, .string u1, .string o1, .int .i64 i1, .int .i64 a1, .int .i64 p1, .int .i64 n1, .string t1] 44) := hcall (halloc (hq5) _) b6
  have hr6 : w6.heap[w4.heap.size]? = some (.cells #[.int .i64 k2, .string u2, .string o2, .int .i64 i2, .int .i64 a2, .int .i64 p2, .int .i64 n2, .string t2] 44) := hcall (halloc (hr5) _) b6
  have hs6 : w6.heap[w5.heap.size]? = some (.cells #[.int .i64 k2, .string u2, .string o2, .int .i64 i2, .int .i64 a2, .int .i64 p2, .int .i64 n2, .string t2] 44) := hcall (heap_alloc_new w5 (.cells #[.int .i64 k2, .string u2, .string o2, .int .i64 i2, .int .i64 a2, .int .i64 p2, .int .i64 n2, .string t2] 44)) b6
  clear b6 B5 hp5 hq5 hr5
  obtain ⟨A1, m1, cc1, rfl⟩ : ∃ A m c, v1 = .slice A m c := by obtain ⟨A, c, rfl, _⟩ := ho1.slice; exact ⟨_, _, _, rfl⟩
  have hl1 := ho1.row
  clear ho1
  go_wp2_with fail
  refine (refUnb_is s l e3 _ (by omega) HU).mono ?_
  rintro e w7 ⟨v2, rfl, ho2, b7⟩
  have B7 := below_call B6 b7
  have hp7 : w7.heap[w1.heap.size]? = some (.cells #[.int .i64 k1, .string u1, .string o1, .int .i64 i1, .int .i64 a1, .int .i64 p1, .int .i64 n1, .string t1] 44) := hcall (hp6) b7
  have hq7 : w7.heap[w2.heap.size]? = some (.cells #[.int .i64 k1, .string u1, .string o1, .int .i64 i1, .int .i64 a1, .int .i64 p1, .int .i64 n1, .string t1] 44) := hcall (hq6) b7
  have hr7 : w7.heap[w4.heap.size]? = some (.cells #[.int .i64 k2, .string u2, .string o2, .int .i64 i2, .int .i64 a2, .int .i64 p2, .int .i64 n2, .string t2] 44) := hcall (hr6) b7
  have hs7 : w7.heap[w5.heap.size]? = some (.cells #[.int .i64 k2, .string u2, .string o2, .int .i64 i2, .int .i64 a2, .int .i64 p2, .int .i64 n2, .string t2] 44) := hcall (hs6) b7
  have hl1' := hl1.below b7
  clear b7 B6 hp6 hq6 hr6 hs6
  obtain ⟨A2, m2, cc2, rfl⟩ : ∃ A m c, v2 = .slice A m c := by obtain ⟨A, c, rfl, _⟩ := ho2.slice; exact ⟨_, _, _, rfl⟩
  have hl2 := ho2.row
  clear ho2 hl1
  obtain ⟨chp0, chp1, chp2, chp3, chp4, chp5, chp6, chp7, zhp⟩ := cells8 hp7
  obtain ⟨chq0, chq1, chq2, chq3, chq4, chq5, chq6, chq7, zhq⟩ := cells8 hq7
  obtain ⟨chr0, chr1, chr2, chr3, chr4, chr5, chr6, chr7, zhr⟩ := cells8 hr7
  obtain ⟨chs0, chs1, chs2, chs3, chs4, chs5, chs6, chs7, zhs⟩ := cells8 hs7
  have EQ1 := eq_self k1 u1 o1 i1 a1 p1 n1 t1
  have EQ2 := eq_self k2 u2 o2 i2 a2 p2 n2 t2
  go_wp2_with fail
  refine (sameE_calls m1 cc1 m2 cc2 _ _ l l _ hl1' hl2).mono ?_
  rintro e w8 ⟨bs, rfl, hs, b8⟩
  have B8 := below_call B7 b8
  obtain rfl : bs = true := hs.2 rfl
  clear hs hl1' hl2
  clear b8 B7
  go_wp2_with fail
  refine (live23 _).mono ?_
  rintro e w9 ⟨rfl, b9⟩
  have B9 := below_call B8 b9
  go_wp2
  go_ret
  exact ⟨rfl, B9⟩
set_option maxRecDepth 100000 in
theorem reads_walk (s : ByteArray) (w : World) (hs : s.size ≤ 9223372036854775807) : Calls Try.prog 10 #[.string s] w fun e w' => e = .returned (.bool true) ∧ Below w.heap.size w w' := by
  by_cases h : s.size ≤ 1500
  · obtain ⟨⟨k1, u1, o1, i1, a1, p1, n1, t1⟩, e1, h1⟩ : ∃ f e, decR s = (f, e) := ⟨_, _, rfl⟩
    obtain ⟨⟨k2, u2, o2, i2, a2, p2, n2, t2⟩, e2, h2⟩ : ∃ f e, decR (sealS s) = (f, e) := ⟨_, _, rfl⟩
    obtain ⟨l, e3, h3⟩ : ∃ f e, unbE s = (f, e) := ⟨_, _, rfl⟩
    exact reads_small s w h (sealS s) (by rw [sealS_size]; omega) k1 u1 o1 i1 a1 p1 n1 t1 e1 k2 u2 o2 i2 a2 p2 n2 t2 e2 l e3 rfl h1 h2 h3
  · have hb : (1500 : Int) < s.size := by omega
    clear h
    go_enter Try.func10, Try.ntmps10
    go_wp2_with fail
    refine (live23 _).mono ?_
    rintro e w1 ⟨rfl, b1⟩
    go_wp2
    go_ret
    exact ⟨rfl, b1⟩
end Go.Proofs.Ytobhlcogopcbdaa
set_option linter.unusedVariables false
set_option linter.unusedSimpArgs false
namespace Go.Proofs.Ytobhlcogopcbdaa
open Go.RowKit
open Sp
theorem eventsE_sz (l : List Ev) (m : Int) (h : eventsE l m = true) : SzE l := by
  intro e he
  unfold eventsE at h
  rw [Bool.and_eq_true, List.all_eq_true] at h
  have := h.2 e he
  unfold shortE at this
  simp only [Bool.and_eq_true, decide_eq_true_eq] at this
  omega
theorem events_is (n c : Nat) (A : Option Addr) (l : List Ev) (most : Int) (b : Bool) (w : World) (hl : Row enE 8 w (.slice A n c) l) (hz : ∀ e ∈ l, e.u.size ≤ 9223372036854775807 ∧ e.o.size ≤ 9223372036854775807 ∧ e.v.2.2.2.size ≤ 9223372036854775807) (h : Hid (eventsE l most = b)) :
    Calls Try.prog 37 #[.slice A n c, .int .i64 most] w fun e w' => e = .returned (.bool b) ∧ Below w.heap.size w w' := by
  have := events_calls n c A l most w hl hz
  rwa [h.out] at this
theorem batch_is (n c : Nat) (A : Option Addr) (l : List Ev) (t : ByteArray) (er : Int) (w : World) (hl : Row enE 8 w (.slice A n c) l) (hz : SzE l) (h : Hid (batchE l = (t, er))) :
    Calls Try.prog 38 #[.slice A n c] w fun e w' => e = .returned (.tuple #[.string t, .int .i64 er]) ∧ Below w.heap.size w w' := by
  have := batch_calls n c A l w hl hz
  rwa [h.out] at this
theorem refBatch_is (n c : Nat) (A : Option Addr) (l : List Ev) (t : ByteArray) (er : Int) (w : World) (hl : Row enE 8 w (.slice A n c) l) (hz : SzE l) (h : Hid (batchE l = (t, er))) :
    Calls Try.prog 39 #[.slice A n c] w fun e w' => e = .returned (.tuple #[.string t, .int .i64 er]) ∧ Below w.heap.size w w' := by
  have := refBatch_calls n c A l w hl hz
  rwa [h.out] at this
set_option maxHeartbeats 4000000 in
set_option maxRecDepth 100000 in
theorem batches_walk (n c : Nat) (A : Option Addr) (l : List Ev) (w : World) (hl : Row enE 8 w (.slice A n c) l) (hz : ∀ e ∈ l, e.u.size ≤ 9223372036854775807 ∧ e.o.size ≤ 9223372036854775807 ∧ e.v.2.2.2.size ≤ 9223372036854775807) :
    Calls Try.prog 11 #[.slice A n c] w fun e w' => e = .returned (.bool true) ∧ Below w.heap.size w w' := by
  cases h : eventsE l 110 with
  | false =>
    have H := Lib.hid h
    clear h
    go_enter Try.func11, Try.ntmps11
    go_wp2_with fail
    refine (events_is n c A l 110 false _ hl hz H).mono ?_
    rintro e w1 ⟨rfl, b1⟩
    go_wp2_with fail
    refine (live23 _).mono ?_
    rintro e w2 ⟨rfl, b2⟩
    have B2 := below_call b1 b2
    clear b1 b2
    go_wp2
    go_ret
    exact ⟨rfl, B2⟩
  | true =>
    have hs := eventsE_sz l 110 h
    have H := Lib.hid h
    obtain ⟨t, er, hb⟩ : ∃ t er, batchE l = (t, er) := ⟨_, _, rfl⟩
    have HB := Lib.hid hb
    clear h hb
    go_enter Try.func11, Try.ntmps11
    go_wp2_with fail
    refine (events_is n c A l 110 true _ hl hz H).mono ?_
    rintro e w1 ⟨rfl, b1⟩
    go_wp2_with fail
    refine (batch_is n c A l t er _ (hl.below b1) hs HB).mono ?_
    rintro e w2 ⟨rfl, b2⟩
    have B2 := below_call b1 b2
    clear b1 b2
    go_wp2_with fail
    refine (refBatch_is n c A l t er _ (hl.below B2) hs HB).mono ?_
    rintro e w3 ⟨rfl, b3⟩
    have B3 := below_call B2 b3
    clear B2 b3
    go_wp2_with fail
    refine (live23 _).mono ?_
    rintro e w4 ⟨rfl, b4⟩
    have B4 := below_call B3 b4
    clear B3 b4
    go_wp2
    go_ret
    exact ⟨rfl, B4⟩
end Go.Proofs.Ytobhlcogopcbdaa
set_option linter.unusedVariables false
set_option linter.unusedSimpArgs false
namespace Go.Proofs.Ytobhlcogopcbdaa
open Go.RowKit
open Sp
namespace Sp
theorem batch_all (l : List Ev) (hl : l.length ≤ 100) (h : ∀ e ∈ l, mayE e = true) : batchE l = (strOf (l.flatMap txE), 0) := by
  unfold batchE
  rw [if_neg (by omega), if_pos (List.all_eq_true.2 h)]
theorem batch_none (l : List Ev) (h : ¬ ∀ e ∈ l, mayE e = true) : batchE l = (⟨#[]⟩, 1) := by
  unfold batchE
  split
  · rfl
  · rw [if_neg (fun h' => h (List.all_eq_true.1 h'))]
theorem flat_sz : ∀ (l : List Ev), (∀ e ∈ l, mayE e = true) → (l.flatMap txE).length ≤ 140 * l.length
  | [], _ => by simp
  | e :: l, h => by
    have h1 := txE_len e (h e (List.mem_cons_self ..))
    have h2 := flat_sz l (fun x hx => h x (List.mem_cons_of_mem _ hx))
    rw [List.flatMap_cons, List.length_append, List.length_cons]
    omega
theorem flat_join (l m : List Ev) : strOf ((l ++ m).flatMap txE) = strOf (l.flatMap txE) ++ strOf (m.flatMap txE) := by
  rw [← toList_inj, data_append, strOf_list, strOf_list, strOf_list, List.flatMap_append]
theorem join_plain (l l2 : List Ev) (hn : (l.length : Int) ≤ 40) (hn2 : (l2.length : Int) ≤ 40) (a b q : ByteArray) (ea eb eq : Int) (ha : batchE l = (a, ea)) (hb : batchE l2 = (b, eb)) (hq : batchE (l ++ l2) = (q, eq)) :
    (ea = 0 ∧ eb = 0 ∧ eq = 0 ∧ q = a ++ b ∧ a.size ≤ 6000 ∧ b.size ≤ 6000 ∧ unbE (a ++ b) = (l ++ l2, 0)) ∨ ((ea ≠ 0 ∨ eb ≠ 0) ∧ eq = 1 ∧ q = ⟨#[]⟩ ∧ (ea = 0 ∨ ea = 1) ∧ (eb = 0 ∨ eb = 1)) := by
  by_cases k1 : ∀ e ∈ l, mayE e = true
  · by_cases k2 : ∀ e ∈ l2, mayE e = true
    · have k3 : ∀ e ∈ l ++ l2, mayE e = true := fun e he => (List.mem_append.1 he).elim (k1 e) (k2 e)
      have z1 := flat_sz l k1
      have z2 := flat_sz l2 k2
      rw [batch_all l (by omega) k1] at ha
      rw [batch_all l2 (by omega) k2] at hb
      rw [batch_all (l ++ l2) (by rw [List.length_append]; omega) k3] at hq
      simp only [Prod.mk.injEq] at ha hb hq
      left
      refine ⟨ha.2.symm, hb.2.symm, hq.2.symm, ?_, ?_, ?_, ?_⟩
      · rw [← hq.1, ← ha.1, ← hb.1, flat_join]
      · rw [← ha.1, strOf_size]; omega
      · rw [← hb.1, strOf_size]; omega
      · rw [← ha.1, ← hb.1, ← flat_join]
        exact unb_back _ (by rw [List.length_append]; omega) k3
    · rw [batch_all l (by omega) k1] at ha
      rw [batch_none l2 k2] at hb
      rw [batch_none (l ++ l2) (fun h => k2 (fun e he => h e (List.mem_append_right _ he)))] at hq
      simp only [Prod.mk.injEq] at ha hb hq
      right
      exact ⟨.inr (by rw [← hb.2]; decide), hq.2.symm, hq.1.symm, .inl ha.2.symm, .inr hb.2.symm⟩
  · rw [batch_none l k1] at ha
    rw [batch_none (l ++ l2) (fun h => k1 (fun e he => h e (List.mem_append_left _ he)))] at hq
    simp only [Prod.mk.injEq] at ha hq
    right
    refine ⟨.inl (by rw [← ha.2]; decide), hq.2.symm, hq.1.symm, .inr ha.2.symm, ?_⟩
    by_cases k2 : ∀ e ∈ l2, mayE e = true
    · rw [batch_all l2 (by omega) k2] at hb
      simp only [Prod.mk.injEq] at hb
      exact .inl hb.2.symm
    · rw [batch_none l2 k2] at hb
      simp only [Prod.mk.injEq] at hb
      exact .inr hb.2.symm
end Sp
theorem row_len {W : World} {A : Option Addr} {n c : Nat} {l : List Ev} (h : Row enE 8 W (.slice A n c) l) : n = l.length := h.len_eq
theorem eventsE_len (l : List Ev) (m : Int) (h : eventsE l m = true) : (l.length : Int) ≤ m := by
  unfold eventsE at h
  rw [Bool.and_eq_true, decide_eq_true_eq] at h
  exact h.1
theorem enE_one' (e : Ev) : ∀ u ∈ enE e, u.oneCell' = true := enE_one e
def Szs (l : List Ev) : Prop := ∀ e ∈ l, e.u.size ≤ 9223372036854775807 ∧ e.o.size ≤ 9223372036854775807 ∧ e.v.2.2.2.size ≤ 9223372036854775807
set_option maxHeartbeats 8000000 in
set_option maxRecDepth 100000 in
theorem joins_walk (n c : Nat) (A : Option Addr) (l : List Ev) (n2 c2 : Nat) (A2 : Option Addr) (l2 : List Ev) (w : World) (hl : Row enE 8 w (.slice A n c) l) (hz : Szs l) (hl2 : Row enE 8 w (.slice A2 n2 c2) l2) (hz2 : Szs l2) :
    Calls Try.prog 14 #[.slice A n c, .slice A2 n2 c2] w fun e w' => e = .returned (.bool true) ∧ Below w.heap.size w w' := by
  cases h : eventsE l 40 with
  | false =>
    have H := Lib.hid h
    clear h
    go_enter Try.func14, Try.ntmps14
    go_wp2_with fail
    refine (events_is n c A l 40 false _ hl hz H).mono ?_
    rintro e w1 ⟨rfl, b1⟩
    go_wp2_with fail
    refine (live23 _).mono ?_
    rintro e w2 ⟨rfl, b2⟩
    have B2 := below_call b1 b2
    clear b1 b2
    go_wp2
    go_ret
    exact ⟨rfl, B2⟩
  | true =>
  cases h2 : eventsE l2 40 with
  | false =>
    have H := Lib.hid h
    have H2 := Lib.hid h2
    clear h h2
    go_enter Try.func14, Try.ntmps14
    go_wp2_with fail
    refine (events_is n c A l 40 true _ hl hz H).mono ?_
    rintro e w1 ⟨rfl, b1⟩
    go_wp2_with fail
    refine (events_is n2 c2 A2 l2 40 false _ (hl2.below b1) hz2 H2).mono ?_
    rintro e w2 ⟨rfl, b2⟩
    have B2 := below_call b1 b2
    clear b1 b2
    go_wp2_with fail
    refine (live23 _).mono ?_
    rintro e w3 ⟨rfl, b3⟩
    have B3 := below_call B2 b3
    clear b3 B2
    go_wp2
    go_ret
    exact ⟨rfl, B3⟩
  | true =>
    have hs := eventsE_sz l 40 h
    have hs2 := eventsE_sz l2 40 h2
    have hn := eventsE_len l 40 h
    have hn2 := eventsE_len l2 40 h2
    obtain ⟨N, hN⟩ : ∃ N, (l ++ l2).length = N := ⟨_, rfl⟩
    have HN := Lib.hid hN
    clear hN
    have hs3 : SzE (l ++ l2) := fun e he => (List.mem_append.1 he).elim (hs e) (hs2 e)
    have H := Lib.hid h
    have H2 := Lib.hid h2
    clear h h2
    obtain ⟨a, ea, ha⟩ : ∃ a e, batchE l = (a, e) := ⟨_, _, rfl⟩
    obtain ⟨b, eb, hb⟩ : ∃ a e, batchE l2 = (a, e) := ⟨_, _, rfl⟩
    obtain ⟨q, eq, hq⟩ : ∃ a e, batchE (l ++ l2) = (a, e) := ⟨_, _, rfl⟩
    have HA := Lib.hid ha
    have HB := Lib.hid hb
    have HQ := Lib.hid hq
    have HK := Lib.hid (join_plain l l2 hn hn2 a b q ea eb eq ha hb hq)
    clear ha hb hq
    go_enter Try.func14, Try.ntmps14
    go_wp2_with fail
    refine (events_is n c A l 40 true _ hl hz H).mono ?_
    rintro e w1 ⟨rfl, b1⟩
    go_wp2_with fail
    refine (events_is n2 c2 A2 l2 40 true _ (hl2.below b1) hz2 H2).mono ?_
    rintro e w2 ⟨rfl, b2⟩
    have B2 := below_call b1 b2
    clear b1 b2
    go_wp2_with fail
    refine (batch_is n c A l a ea _ (hl.below B2) hs HA).mono ?_
    rintro e w3 ⟨rfl, b3⟩
    have B3 := below_call B2 b3
    clear b3 B2
    go_wp2_with fail
    refine (batch_is n2 c2 A2 l2 b eb _ (hl2.below B3) hs2 HB).mono ?_
    rintro e w4 ⟨rfl, b4⟩
    have B4 := below_call B3 b4
    clear b4 B3
    have z1 : (0 + l.length) * 88 ≤ 140737488355328 := by omega
    have z2 : 0 + l.length ≤ 140737488355328 := by omega
    have z3 : (l.length + l2.length) * 88 ≤ 140737488355328 := by omega
    have z4 : l.length + l2.length ≤ 140737488355328 := by omega
    have Z := Lib.hid (And.intro z1 (And.intro z2 (And.intro z3 z4)))
    clear z1 z2 z3 z4 hn hn2
    have B5 := below_alloc0 B4 (.cells #[] 44)
    have O5 : Own enE 8 44 (w4.alloc (.cells #[] 44)) w.heap.size (.slice (some ⟨w4.heap.size, 0, none⟩) 0 0) [] := Own.lit enE_len w4 [] #[] 0 rfl rfl B4.size (by omega)
    go_wp2_with (first | (at_builtin; refine Own.appendRow (w0 := w) w.heap.size rfl (.tmp 33) (.tmp 34) 48 44 (.agg #[.int .i64 0, .string ⟨#[]⟩, .string ⟨#[]⟩, .int .i64 0, .int .i64 0, .int .i64 0, .int .i64 0, .string ⟨#[]⟩]) 8 88 rfl Try.underlying48 info_evz rfl (by decide) (.slice (some ⟨w4.heap.size, 0, none⟩) 0 0) (.slice A n c) [] l rfl rfl enE_one O5 (hl.below B5) B5 B5.size Z.out.1 Z.out.2.1 ?_; intro v1 w5 (hO_w5 : Own enE 8 44 w5 w.heap.size v1 l) hB_w5 g1 g2; clear g1 g2) | (at_builtin; refine Own.appendRow (w0 := w) w.heap.size rfl (.tmp 35) (.tmp 36) 48 44 (.agg #[.int .i64 0, .string ⟨#[]⟩, .string ⟨#[]⟩, .int .i64 0, .int .i64 0, .int .i64 0, .int .i64 0, .string ⟨#[]⟩]) 8 88 rfl Try.underlying48 info_evz rfl (by decide) v1 (.slice A2 n2 c2) l l2 rfl rfl enE_one hO_w5 (hl2.below hB_w5) hB_w5 hB_w5.size Z.out.2.2.1 Z.out.2.2.2 ?_; intro v2 w6 hO_w6 hB_w6 g1 g2; clear g1 g2))
    obtain ⟨A9, c9, hv9, _⟩ := hO_w6.slice
    rw [HN.out] at hv9
    subst hv9
    clear O5 B5 B4 hO_w5 hB_w5
    go_wp2_with fail
    refine (batch_is N c9 A9 (l ++ l2) q eq _ hO_w6.row hs3 HQ).mono ?_
    rintro e w7 ⟨rfl, b7⟩
    have B7 := below_call hB_w6 b7
    have O7 := hO_w6.row.below b7
    clear b7 hB_w6 hO_w6
    rcases HK.out with ⟨rfl, rfl, rfl, hq', za, zb, hu⟩ | ⟨hne, rfl, rfl, hea, heb⟩
    · have HU := Lib.hid hu
      have HE : (q.toList == (a ++ b).toList) = true := by rw [hq']; exact beq_self_eq_true _
      clear hu HK hq' HA HB HQ
      have zab : (a ++ b).size ≤ 12000 := by rw [ByteArray.size_append]; omega
      go_wp2_with fail
      refine (unb_is (a ++ b) (l ++ l2) 0 _ (by omega) HU).mono ?_
      rintro e w8 ⟨v8, rfl, ho, b8⟩
      have B8 := below_call B7 b8
      have O8 := O7.below b8
      obtain ⟨A8, c8, hv8, _⟩ := ho.slice
      rw [HN.out] at hv8
      subst hv8
      clear b8 B7 O7
      go_wp2_with fail
      refine (sameE_calls N c8 N c9 A8 A9 (l ++ l2) (l ++ l2) _ ho.row O8).mono ?_
      rintro e w9 ⟨bs, rfl, hs, b9⟩
      obtain rfl : bs = true := hs.2 rfl
      have B9 := below_call B8 b9
      clear b9 B8 O8 ho hs
      go_wp2_with fail
      refine (live23 _).mono ?_
      rintro e w10 ⟨rfl, b10⟩
      have B10 := below_call B9 b10
      clear b10 B9
      go_wp2
      go_ret
      exact ⟨rfl, B10⟩
    · clear HK
      rcases hea with rfl | rfl <;> rcases heb with rfl | rfl
      · exact absurd hne (by decide)
      all_goals
        go_wp2_with fail
        refine (live23 _).mono ?_
        rintro e w10 ⟨rfl, b10⟩
        have B10 := below_call B7 b10
        clear b10 B7
        go_wp2
        go_ret
        exact ⟨rfl, B10⟩
end Go.Proofs.Ytobhlcogopcbdaa
set_option linter.unusedVariables false
set_option linter.unusedSimpArgs false
namespace Go.Proofs.Ytobhlcogopcbdaa
open Go.RowKit
open Sp
namespace Sp
theorem bit31 (a : Nat) (h : a < 2147483648) : (a ^^^ 3988292384).testBit 31 = true := by
  rw [Nat.testBit_xor, Nat.testBit_lt_two_pow (show a < 2 ^ 31 by omega)]
  decide
theorem xor_left {a b : Nat} (c : Nat) (h : a ^^^ c = b ^^^ c) : a = b := by
  have := congrArg (· ^^^ c) h
  simpa [Nat.xor_assoc] using this
theorem crcBit_inj (x y : Nat) (hx : x < 4294967296) (hy : y < 4294967296) (h : crcBit x = crcBit y) : x = y := by
  unfold crcBit at h
  by_cases h1 : x % 2 = 1 <;> by_cases h2 : y % 2 = 1
  · rw [if_pos h1, if_pos h2] at h
    have := xor_left _ h
    omega
  · rw [if_pos h1, if_neg h2] at h
    have h3 := bit31 (x / 2) (by omega)
    rw [h, Nat.testBit_lt_two_pow (show y / 2 < 2 ^ 31 by omega)] at h3
    cases h3
  · rw [if_neg h1, if_pos h2] at h
    have h3 := bit31 (y / 2) (by omega)
    rw [← h, Nat.testBit_lt_two_pow (show x / 2 < 2 ^ 31 by omega)] at h3
    cases h3
  · rw [if_neg h1, if_neg h2] at h
    omega
theorem crcIter_inj (x y : Nat) (hx : x < 4294967296) (hy : y < 4294967296) : ∀ n, crcIter n x = crcIter n y → x = y
  | 0, h => h
  | n + 1, h => crcIter_inj x y hx hy n (crcBit_inj _ _ (crcIter_lt x hx n) (crcIter_lt y hy n) h)
theorem crcStep_inj (c d b e : Nat) (hc : c < 4294967296) (hd : d < 4294967296) (hb : b < 256) (he : e < 256) (h : crcStep c b = crcStep d e) : c ^^^ b = d ^^^ e :=
  crcIter_inj _ _ (xor_lt32 c b hc (by omega)) (xor_lt32 d e hd (by omega)) 8 h
theorem crcFold_inj : ∀ (l : List UInt8) (c d : Nat), c < 4294967296 → d < 4294967296 → crcFold l c = crcFold l d → c = d
  | [], c, d, _, _, h => h
  | b :: l, c, d, hc, hd, h => by
    have hb := b.toNat_lt
    have := crcFold_inj l (crcStep c b.toNat) (crcStep d b.toNat) (crcStep_lt c _ hc hb) (crcStep_lt d _ hd hb) h
    exact xor_left _ (crcStep_inj c d _ _ hc hd hb hb this)
theorem crcFold_app (p q : List UInt8) (c : Nat) : crcFold (p ++ q) c = crcFold q (crcFold p c) := by unfold crcFold; rw [List.foldl_append]
theorem crcSum_one (p q : List UInt8) (x y : UInt8) (h : crcSum (p ++ x :: q) = crcSum (p ++ y :: q)) : x = y := by
  have hx := x.toNat_lt
  have hy := y.toNat_lt
  have h1 := xor_left _ h
  rw [crcFold_app, crcFold_app] at h1
  have hp := crcFold_lt p 4294967295 (by omega)
  have h2 := crcFold_inj q (crcStep (crcFold p 4294967295) x.toNat) (crcStep (crcFold p 4294967295) y.toNat) (crcStep_lt _ _ hp hx) (crcStep_lt _ _ hp hy) h1
  have h3 := crcStep_inj _ _ _ _ hp hp hx hy h2
  rw [Nat.xor_comm, Nat.xor_comm (crcFold p 4294967295)] at h3
  exact UInt8.toNat_inj.1 (xor_left _ h3)
theorem sumL_inj (a b : Nat) (ha : a < 4294967296) (hb : b < 4294967296) (h : sumL a = sumL b) : a = b := by
  unfold sumL at h
  simp only [List.cons.injEq, and_true] at h
  obtain ⟨h1, h2, h3, h4⟩ := h
  have e1 := congrArg UInt8.toNat h1
  have e2 := congrArg UInt8.toNat h2
  have e3 := congrArg UInt8.toNat h3
  have e4 := congrArg UInt8.toNat h4
  simp only [UInt8.toNat_ofNat'] at e1 e2 e3 e4
  omega
theorem spoil (b t : ByteArray) (p q : List UInt8) (x y : UInt8) (hxy : x ≠ y) (hs : (sealS b).data.toList = p ++ x :: q) (ht : t.data.toList = p ++ y :: q) : openS t = (⟨#[]⟩, 4) := by
  have hsz : t.size = b.size + 4 := by
    have h1 := congrArg List.length hs
    have h2 := congrArg List.length ht
    rw [← size_eq_length, sealS_size, List.length_append, List.length_cons] at h1
    rw [← size_eq_length, List.length_append, List.length_cons] at h2
    omega
  unfold openS
  rw [if_neg (by omega), if_neg]
  intro h
  have hb' : (t.extract 0 (t.size - 4)).data.toList = t.data.toList.take b.size := by
    rw [ByteArray.data_extract, Array.toList_extract, hsz]
    simp [List.extract]
  generalize t.extract 0 (t.size - 4) = b' at h hb'
  have hS : b.data.toList ++ sumL (crcSum b.data.toList) = p ++ x :: q := by rw [← hs]; unfold sealS; rw [data_append, strOf_list]
  have hT : b'.data.toList ++ sumL (crcSum b'.data.toList) = p ++ y :: q := by rw [← ht, ← h]; unfold sealS; rw [data_append, strOf_list]
  have hL : b.data.toList = (p ++ x :: q).take b.size := by rw [← hS, size_eq_length, List.take_left]
  rw [ht] at hb'
  rcases Nat.lt_or_ge p.length b.size with hp | hp
  · obtain ⟨m, hm⟩ : ∃ m, b.size = p.length + (m + 1) := ⟨b.size - p.length - 1, by omega⟩
    rw [hm, List.take_length_add_append, List.take_succ_cons] at hL hb'
    rw [hL] at hS
    rw [hb'] at hT
    simp only [List.append_assoc, List.cons_append, List.append_cancel_left_eq, List.cons.injEq, true_and] at hS hT
    have hE := hS.trans hT.symm
    rw [List.append_cancel_left_eq] at hE
    exact hxy (crcSum_one p _ x y (sumL_inj _ _ (crcSum_lt _) (crcSum_lt _) hE))
  · rw [List.take_append_of_le_length hp] at hL hb'
    have : b' = b := toList_inj.1 (hb'.trans hL.symm)
    rw [this, hS] at hT
    simp only [List.append_cancel_left_eq, List.cons.injEq] at hT
    exact hxy hT.1
end Sp
end Go.Proofs.Ytobhlcogopcbdaa
set_option linter.unusedVariables false
set_option linter.unusedSimpArgs false
namespace Go.Proofs.Ytobhlcogopcbdaa
open Go.RowKit
open Sp
namespace Sp
theorem dec_spoil (t : ByteArray) (h : openS t = (⟨#[]⟩, 4)) : decR t = (zeroE, 4) := by
  unfold decR
  rw [h]
  simp
theorem unb_spoil (t : ByteArray) (hz : t.size ≤ 300) (h : openS t = (⟨#[]⟩, 4)) : unbE (strOf (putV t.size) ++ t) = ([], 3) := by
  have hd : (strOf (putV t.size) ++ t).data.toList.drop 0 = (textV t).data.toList ++ [] := by
    rw [List.drop_zero, data_append, strOf_list, textV_list, List.append_nil]
  have ht := takeV_put _ 0 300 t [] hd hz (by omega)
  have hp := putV_len_pos t.size
  have hs : (strOf (putV t.size) ++ t).size = (putV t.size).length + t.size := by rw [ByteArray.size_append, strOf_size]
  unfold unbE
  rw [show unbL (strOf (putV t.size) ++ t) ((strOf (putV t.size) ++ t).size + 1) 0 [] = none from unbL_no _ _ ((0 : Nat) : Int) [] t _ zeroE 4 (by omega) ht (dec_spoil t h) (by decide)]
  rfl
/-- What lies ahead of the last text in a batch of one event. -/
theorem batch_one (e : Ev) (h : mayE e = true) : batchE [e] = (strOf (putV (encE e).1.size) ++ (encE e).1, 0) := by
  rw [batch_all [e] (by simp) (by simpa using h)]
  simp only [Prod.mk.injEq, and_true]
  rw [← toList_inj, strOf_list, data_append, strOf_list]
  simp [txE, textV_list]
theorem lower_name2 (c : UInt8) (h : isNameByte c = true) : lower c = c := by
  rw [isNameByte_nat] at h
  unfold lower
  rw [if_neg (by omega)]
theorem name_all2 (s : ByteArray) (h : isName s = true) : ∀ c ∈ s.data.toList, isNameByte c = true := by
  unfold isName at h
  cases hl : s.data.toList with
  | nil => intro c hc; cases hc
  | cons a l =>
    rw [hl] at h
    simp only [nameL, Bool.and_eq_true, List.all_eq_true, decide_eq_true_eq] at h
    intro c hc
    rcases List.mem_cons.mp hc with rfl | hc
    · exact letter_is _ h.1.1
    · exact h.1.2 c hc
theorem fold_name2 (s : ByteArray) (h : isName s = true) : foldS s = s := by
  have hm : s.data.toList.map lower = s.data.toList := by
    conv => rhs; rw [← List.map_id s.data.toList]
    exact List.map_congr_left fun c hc => lower_name2 c (name_all2 s h c hc)
  unfold foldS
  rw [hm]
theorem fold_may (e : Ev) (h : mayE e = true) : foldE e = (e, true) := by
  obtain ⟨k1, k8, hu, h6, h7, hv, h8⟩ := mayE_split e h
  obtain ⟨k, u, o, i, v⟩ := e
  simp only at k1 k8 hu h6 h7 hv h8
  have hfu : foldV u = (u, true) := by unfold foldV; rw [fold_name2 u hu, if_pos hu]
  by_cases c6 : k ≤ 6
  · obtain ⟨ho, _, _⟩ := h6 c6
    have hfo : foldV o = (o, true) := by unfold foldV; rw [fold_name2 o ho, if_pos ho]
    exact foldE_yes ⟨k, u, o, i, v⟩ u o true true hfu hfo rfl (.inl rfl) h
  · obtain ⟨rfl, _, _⟩ := h7 (by omega)
    have hfo : foldV ⟨#[]⟩ = (⟨#[]⟩, false) := by decide +kernel
    exact foldE_yes ⟨k, u, ⟨#[]⟩, i, v⟩ u ⟨#[]⟩ true false hfu hfo rfl (.inr ((toList_nil_iff _).2 rfl)) h
theorem fold_gives (e g : Ev) (h : foldE e = (g, true)) : mayE g = true := by
  unfold foldE at h
  simp only at h
  split at h
  · simp at h
  · rename_i hn
    simp only [Prod.mk.injEq, and_true] at h
    rw [← h]
    cases hm : mayE ⟨e.k, (foldV e.u).1, (foldV e.o).1, e.i, e.v⟩ with
    | true => rfl
    | false => exact absurd (Or.inr (Or.inr hm)) hn
end Sp
end Go.Proofs.Ytobhlcogopcbdaa
set_option linter.unusedVariables false
set_option linter.unusedSimpArgs false
namespace Go.Proofs.Ytobhlcogopcbdaa
open Go.RowKit
open Sp
theorem short_is (k : Int) (u o : ByteArray) (i a p n : Int) (t : ByteArray) (b : Bool) (w : World) (hu : u.size ≤ 9223372036854775807) (ho : o.size ≤ 9223372036854775807) (ht : t.size ≤ 9223372036854775807) (h : Hid (shortE ⟨k, u, o, i, a, p, n, t⟩ = b)) :
    Calls Try.prog 43 #[.agg #[.int .i64 k, .string u, .string o, .int .i64 i, .int .i64 a, .int .i64 p, .int .i64 n, .string t]] w fun e w' => e = .returned (.bool b) ∧ Below w.heap.size w w' := by
  have := short_calls k u o i a p n t w hu ho ht
  rwa [h.out] at this
theorem refMayE_is2 (k : Int) (u o : ByteArray) (i a p n : Int) (t : ByteArray) (b : Bool) (w : World) (hu : u.size ≤ 140737488351232) (ho : o.size ≤ 140737488351232) (ht : t.size ≤ 140737488351232) (h : Hid (mayE8 k u o i a p n t = b)) :
    Calls Try.prog 44 #[.agg #[.int .i64 k, .string u, .string o, .int .i64 i, .int .i64 a, .int .i64 p, .int .i64 n, .string t]] w fun e w' => e = .returned (.bool b) ∧ Below w.heap.size w w' := by
  have := refMayE_calls k u o i a p n t w hu ho ht
  rwa [h.out] at this
theorem enc_low (e : Ev) (h : mayE e = true) : 5 ≤ (encE e).1.size := by
  rw [encE_body e h]
  show 5 ≤ (sealS (bodyE e)).size
  rw [sealS_size]
  have : 1 ≤ (bodyE e).size := by
    unfold bodyE
    split
    · simp only [ByteArray.size_append, strOf_size, List.length_singleton]; omega
    · split <;> (simp only [ByteArray.size_append, strOf_size, List.length_singleton]; omega)
  omega
set_option maxHeartbeats 4000000 in
set_option maxRecDepth 100000 in
theorem spoils_no (k : Int) (u o : ByteArray) (i a p n : Int) (t : ByteArray) (pos mask : Int) (w : World) (hu : u.size ≤ 9223372036854775807) (ho : o.size ≤ 9223372036854775807) (ht : t.size ≤ 9223372036854775807) (h : shortE ⟨k, u, o, i, a, p, n, t⟩ = false) :
    Calls Try.prog 13 #[.agg #[.int .i64 k, .string u, .string o, .int .i64 i, .int .i64 a, .int .i64 p, .int .i64 n, .string t], .int .i64 pos, .int .u8 mask] w fun e w' => e = .returned (.bool true) ∧ Below w.heap.size w w' := by
  have H := Lib.hid h
  clear h
  go_enter Try.func13, Try.ntmps13
  go_wp2_with fail
  refine (short_is k u o i a p n t false _ hu ho ht H).mono ?_
  rintro e w1 ⟨rfl, b1⟩
  have B1 := below_call (below_box _) b1
  clear b1
  go_wp2_with fail
  refine (live23 _).mono ?_
  rintro e w2 ⟨rfl, b2⟩
  have B2 := below_call B1 b2
  clear b2 B1
  go_wp2
  go_ret
  exact ⟨rfl, B2⟩
set_option maxHeartbeats 4000000 in
set_option maxRecDepth 100000 in
theorem spoils_maynot (k : Int) (u o : ByteArray) (i a p n : Int) (t : ByteArray) (pos mask : Int) (w : World) (hu : u.size ≤ 60) (ho : o.size ≤ 60) (ht : t.size ≤ 60) (h : shortE ⟨k, u, o, i, a, p, n, t⟩ = true) (hm : mayE8 k u o i a p n t = false) :
    Calls Try.prog 13 #[.agg #[.int .i64 k, .string u, .string o, .int .i64 i, .int .i64 a, .int .i64 p, .int .i64 n, .string t], .int .i64 pos, .int .u8 mask] w fun e w' => e = .returned (.bool true) ∧ Below w.heap.size w w' := by
  have H := Lib.hid h
  have HM := Lib.hid hm
  clear h hm
  have h0 := heap_alloc_new w (.cells #[.int .i64 k, .string u, .string o, .int .i64 i, .int .i64 a, .int .i64 p, .int .i64 n, .string t] 44)
  go_enter Try.func13, Try.ntmps13
  go_wp2_with fail
  refine (short_is k u o i a p n t true _ (by omega) (by omega) (by omega) H).mono ?_
  rintro e w1 ⟨rfl, b1⟩
  have B1 := below_call (below_box _) b1
  have h1 := hcall h0 b1
  obtain ⟨c10, c11, c12, c13, c14, c15, c16, c17, z1⟩ := cells8 h1
  clear b1 h0
  go_wp2_with fail
  refine (refMayE_is2 k u o i a p n t false _ (by omega) (by omega) (by omega) HM).mono ?_
  rintro e w2 ⟨rfl, b2⟩
  have B2 := below_call B1 b2
  have h2 := hcall h1 b2
  clear c10 c11 c12 c13 c14 c15 c16 c17 z1 h1 B1 b2
  clear h2
  go_wp2_with fail
  refine (live23 _).mono ?_
  rintro e w3 ⟨rfl, b3⟩
  have B3 := below_call B2 b3
  clear b3 B2
  go_wp2
  go_ret
  exact ⟨rfl, B3⟩
set_option maxHeartbeats 4000000 in
set_option maxRecDepth 100000 in
theorem spoils_out (k : Int) (u o : ByteArray) (i a p n : Int) (t : ByteArray) (pos mask : Int) (w : World) (hu : u.size ≤ 60) (ho : o.size ≤ 60) (ht : t.size ≤ 60) (h : shortE ⟨k, u, o, i, a, p, n, t⟩ = true) (hm : mayE8 k u o i a p n t = true) (g : ByteArray) (HG : Hid (encE ⟨k, u, o, i, a, p, n, t⟩ = (g, 0))) (hg : 5 ≤ g.size) (hg2 : g.size ≤ 130) (hx : pos < 0 ∨ (0 ≤ pos ∧ (g.size : Int) ≤ pos) ∨ (0 ≤ pos ∧ pos < g.size ∧ mask = 0)) :
    Calls Try.prog 13 #[.agg #[.int .i64 k, .string u, .string o, .int .i64 i, .int .i64 a, .int .i64 p, .int .i64 n, .string t], .int .i64 pos, .int .u8 mask] w fun e w' => e = .returned (.bool true) ∧ Below w.heap.size w w' := by
  have H := Lib.hid h
  have HM := Lib.hid hm
  clear h hm
  have h0 := heap_alloc_new w (.cells #[.int .i64 k, .string u, .string o, .int .i64 i, .int .i64 a, .int .i64 p, .int .i64 n, .string t] 44)
  go_enter Try.func13, Try.ntmps13
  go_wp2_with fail
  refine (short_is k u o i a p n t true _ (by omega) (by omega) (by omega) H).mono ?_
  rintro e w1 ⟨rfl, b1⟩
  have B1 := below_call (below_box _) b1
  have h1 := hcall h0 b1
  obtain ⟨c10, c11, c12, c13, c14, c15, c16, c17, z1⟩ := cells8 h1
  clear b1 h0
  go_wp2_with fail
  refine (refMayE_is2 k u o i a p n t true _ (by omega) (by omega) (by omega) HM).mono ?_
  rintro e w2 ⟨rfl, b2⟩
  have B2 := below_call B1 b2
  have h2 := hcall h1 b2
  clear c10 c11 c12 c13 c14 c15 c16 c17 z1 h1 B1 b2
  obtain ⟨c20, c21, c22, c23, c24, c25, c26, c27, z2⟩ := cells8 h2
  go_wp2_with fail
  refine (enc_is k u o i a p n t g 0 _ (by omega) (by omega) (by omega) HG).mono ?_
  rintro e w3 ⟨rfl, b3⟩
  have B3 := below_call B2 b3
  clear c20 c21 c22 c23 c24 c25 c26 c27 z2 h2 b3 B2
  rcases hx with hx | ⟨hx, hx2⟩ | ⟨hx, hx2, rfl⟩
  all_goals
    go_wp2_with fail
    refine (live23 _).mono ?_
    rintro e w4 ⟨rfl, b4⟩
    have B4 := below_call B3 b4
    clear b4 B3
    go_wp2
    go_ret
    exact ⟨rfl, B4⟩
end Go.Proofs.Ytobhlcogopcbdaa
set_option linter.unusedVariables false
set_option linter.unusedSimpArgs false
namespace Go.Proofs.Ytobhlcogopcbdaa
open Go.RowKit
open Sp
theorem xor_u8 (x y : UInt8) : bits .xor .u8 (x.toNat : Int) (y.toNat : Int) = (((x ^^^ y).toNat : Nat) : Int) := by
  have hx := x.toNat_lt
  have hy := y.toNat_lt
  have hz := (x ^^^ y).toNat_lt
  have h1 : (BitVec.ofInt 8 (x.toNat : Int)).toNat = x.toNat := by
    rw [BitVec.ofInt_natCast, BitVec.toNat_ofNat]; exact Nat.mod_eq_of_lt (by omega)
  have h2 : (BitVec.ofInt 8 (y.toNat : Int)).toNat = y.toNat := by
    rw [BitVec.ofInt_natCast, BitVec.toNat_ofNat]; exact Nat.mod_eq_of_lt (by omega)
  show IntKind.u8.wrap ((BitVec.ofInt 8 (x.toNat : Int) ^^^ BitVec.ofInt 8 (y.toNat : Int)).toNat : Int) = _
  rw [BitVec.toNat_xor, h1, h2, ← UInt8.toNat_xor, IntKind.wrap_u8]
  omega
theorem xor_ne (x y : UInt8) (h : y ≠ 0) : x ^^^ y ≠ x := by
  intro e
  apply h
  have := congrArg (x ^^^ ·) e
  simpa [← UInt8.xor_assoc] using this
theorem Buf.set {w : World} {base g n cap : Nat} {l : List UInt8} (h : Buf w base (.slice (some ⟨g, 0, none⟩) n cap) l) (j : Nat) (hj : j < l.length) (y : UInt8) :
    Buf (w.setCell ⟨g, j, none⟩ (.int .u8 y.toNat)) base (.slice (some ⟨g, 0, none⟩) n cap) (l.set j y) := by
  obtain ⟨g', cap', he, h1, h2, h3, h4, h5, h6, h7⟩ := h
  simp only [Value.slice.injEq, Option.some.injEq, Addr.mk.injEq] at he
  obtain ⟨⟨rfl, _, _⟩, rfl, rfl⟩ := he
  have hb : ∃ cs T fr, w.heap[g]? = some (.cells cs T fr) := by
    have := h5 j hj
    unfold World.cell? at this
    split at this
    · exact ⟨_, _, _, by assumption⟩
    · cases this
  obtain ⟨cs, T, fr, hb⟩ := hb
  have hcs : ∀ i, w.cell? ⟨g, i, none⟩ = cs[i]? := fun i => by simp [World.cell?, hb]
  have hnew : (w.setCell ⟨g, j, none⟩ (.int .u8 y.toNat)).heap[g]? = some (.cells (cs.setIfInBounds j (.int .u8 y.toNat)) T fr) := by
    simp [World.setCell, Array.getElem?_modify, hb]
  have hcn : ∀ i, (w.setCell ⟨g, j, none⟩ (.int .u8 y.toNat)).cell? ⟨g, i, none⟩ = (cs.setIfInBounds j (.int .u8 y.toNat))[i]? := fun i => by simp [World.cell?, hnew]
  have hlj : j < cs.size := by
    have := h5 j hj
    rw [hcs] at this
    exact (Array.getElem?_eq_some_iff.1 this).1
  refine ⟨g, cap, by rw [List.length_set], h1, by rw [List.length_set]; exact h2, h3, by simpa [World.setCell] using h4, fun i hi => ?_, fun i hi => ?_, fun i hi => ?_⟩
  · rw [List.length_set] at hi
    rw [hcn, List.getElem_set]
    by_cases hij : j = i
    · subst hij
      rw [if_pos rfl]
      simp [hlj]
    · rw [if_neg hij, Array.getElem?_setIfInBounds, if_neg hij, ← hcs]
      exact h5 i hi
  · rw [hcn]
    have := h6 i hi
    rw [hcs] at this
    rw [Array.getElem?_setIfInBounds]
    split
    · rfl
    · exact this
  · have := h7 i hi
    simp only [World.frozen?, hb] at this
    simp only [World.frozen?, hnew]
    exact this
end Go.Proofs.Ytobhlcogopcbdaa
set_option linter.unusedVariables false
set_option linter.unusedSimpArgs false
namespace Go.Proofs.Ytobhlcogopcbdaa
open Go.RowKit
open Sp
set_option maxHeartbeats 8000000 in
set_option maxRecDepth 100000 in
theorem spoils_main (k : Int) (u o : ByteArray) (i a p n : Int) (t : ByteArray) (m : Nat) (mk : UInt8) (w : World) (hu : u.size ≤ 60) (ho : o.size ≤ 60) (ht : t.size ≤ 60) (h : shortE ⟨k, u, o, i, a, p, n, t⟩ = true) (hm : mayE8 k u o i a p n t = true) (g : ByteArray) (HG : Hid (encE ⟨k, u, o, i, a, p, n, t⟩ = (g, 0))) (hg : 5 ≤ g.size) (hg2 : g.size ≤ 130)
    (hp : m < g.size) (x y : UInt8) (q : ByteArray) (HX : Hid (∃ h : m < g.data.toList.length, g.data.toList[m] = x)) (HY : bits .xor .u8 (x.toNat : Int) (mk.toNat : Int) = (y.toNat : Int)) (hmk : ((mk.toNat : Int) == 0) = false) (HQ : Hid (strOf (g.data.toList.set m y) = q)) (hq : q.size = g.size) (HD : Hid (decR q = (zeroE, 4))) (z : ByteArray) (wt : ByteArray) (HB : Hid (batchE [⟨k, u, o, i, a, p, n, t⟩] = (wt, 0))) (hwt : wt.size = z.size + g.size) (HZ : wt.extract 0 z.size = z) (hz : z.size ≤ 10) (HU : Hid (unbE (z ++ q) = ([], 3))) :
    Calls Try.prog 13 #[.agg #[.int .i64 k, .string u, .string o, .int .i64 i, .int .i64 a, .int .i64 p, .int .i64 n, .string t], .int .i64 m, .int .u8 (mk.toNat : Int)] w fun e w' => e = .returned (.bool true) ∧ Below w.heap.size w w' := by
  have H := Lib.hid h
  have HM := Lib.hid hm
  clear h hm
  have h0 := heap_alloc_new w (.cells #[.int .i64 k, .string u, .string o, .int .i64 i, .int .i64 a, .int .i64 p, .int .i64 n, .string t] 44)
  go_enter Try.func13, Try.ntmps13
  go_wp2_with fail
  refine (short_is k u o i a p n t true _ (by omega) (by omega) (by omega) H).mono ?_
  rintro e w1 ⟨rfl, b1⟩
  have B1 := below_call (below_box _) b1
  have h1 := hcall h0 b1
  obtain ⟨c10, c11, c12, c13, c14, c15, c16, c17, z1⟩ := cells8 h1
  clear b1 h0
  go_wp2_with fail
  refine (refMayE_is2 k u o i a p n t true _ (by omega) (by omega) (by omega) HM).mono ?_
  rintro e w2 ⟨rfl, b2⟩
  have B2 := below_call B1 b2
  have h2 := hcall h1 b2
  clear c10 c11 c12 c13 c14 c15 c16 c17 z1 h1 B1 b2
  obtain ⟨c20, c21, c22, c23, c24, c25, c26, c27, z2⟩ := cells8 h2
  go_wp2_with fail
  refine (enc_is k u o i a p n t g 0 _ (by omega) (by omega) (by omega) HG).mono ?_
  rintro e w3 ⟨rfl, b3⟩
  have B3 := below_call B2 b3
  have h3 := hcall h2 b3
  clear c20 c21 c22 c23 c24 c25 c26 c27 z2 h2 b3 B2
  have kc := fun W : World => Lib.run_convert_string_bytes (P := Try.prog) W 9 39 5 g Try.underlying9 Try.underlying39 Try.underlying5
  have hbuf := Buf.text w3 g (by simp only [maxLen]; omega)
  have BW : Below w.heap.size w (Lib.bytesWorld w3 5 g) := below_bytes B3 B3.size 5 g
  have F : (Lib.bytesWorld w3 5 g).cell? ⟨w3.heap.size, m, none⟩ = some (.int .u8 x.toNat) ∧ (Lib.bytesWorld w3 5 g).frozen? ⟨w3.heap.size, m, none⟩ = false := by
    obtain ⟨hl, hx⟩ := HX.out
    obtain ⟨g', cap', he, h1, h2, h3, h4, h5, h6, h7⟩ := hbuf
    simp only [Value.slice.injEq, Option.some.injEq, Addr.mk.injEq] at he
    obtain ⟨⟨rfl, _, _⟩, _, rfl⟩ := he
    exact ⟨by rw [h5 m hl, hx], h7 m (by omega)⟩
  obtain ⟨F1, F2⟩ := F
  have hset := hbuf.set m HX.out.1 y
  have ks := Row.string (P := Try.prog) Try.underlying39 Try.underlying5 Try.underlying9 hset.row
  rw [HQ.out] at ks
  have BS := bset BW w3.heap.size m (.int .u8 (y.toNat : Int)) B3.size
  have h4 : (Lib.bytesWorld w3 5 g).heap[w.heap.size]? = some (.cells #[.int .i64 k, .string u, .string o, .int .i64 i, .int .i64 a, .int .i64 p, .int .i64 n, .string t] 44) := by
    rw [Lib.bytesWorld_at_old _ _ _ _ (Array.getElem?_eq_some_iff.1 h3).1]; exact h3
  have h5 : ((Lib.bytesWorld w3 5 g).setCell ⟨w3.heap.size, m, none⟩ (.int .u8 (y.toNat : Int))).heap[w.heap.size]? = some (.cells #[.int .i64 k, .string u, .string o, .int .i64 i, .int .i64 a, .int .i64 p, .int .i64 n, .string t] 44) := by
    rw [Below.heap_setCell _ _ _ _ (by have := (Array.getElem?_eq_some_iff.1 h3).1; simp; omega)]; exact h4
  go_wp2_with fail
  refine (dec_is q zeroE 4 _ (by omega) HD).mono ?_
  rintro e w4 ⟨rfl, b4⟩
  have B4 := below_call BS b4
  have h6 := hcall h5 b4
  have bf4 := hset.below b4
  rw [ev_z]
  clear BS h5 h4 hset ks kc F1 F2 b4 BW hbuf h3 B3
  have h7 := halloc h6 cZ
  obtain ⟨c60, c61, c62, c63, c64, c65, c66, c67, z6⟩ := cells8 h6
  have hrow := (Own.lit (e := 44) (base := 0) enE_len (w4.alloc cZ) [⟨k, u, o, i, a, p, n, t⟩] #[.int .i64 k, .string u, .string o, .int .i64 i, .int .i64 a, .int .i64 p, .int .i64 n, .string t] 1 rfl rfl (Nat.zero_le _) (by omega)).row
  rw [show (w4.alloc cZ).heap.size = w4.heap.size + 1 from Array.size_push ..] at hrow
  have hSz : SzE [⟨k, u, o, i, a, p, n, t⟩] := by
    intro e he
    obtain rfl : e = _ := List.mem_singleton.1 he
    exact ⟨by show u.size ≤ _; omega, by show o.size ≤ _; omega, by show t.size ≤ _; omega⟩
  have B5 := below_alloc0 (below_alloc0 B4 cZ) (.cells #[.int .i64 k, .string u, .string o, .int .i64 i, .int .i64 a, .int .i64 p, .int .i64 n, .string t] 44)
  have hz4 := heap_alloc_new w4 cZ
  have hz5 := halloc hz4 (.cells #[.int .i64 k, .string u, .string o, .int .i64 i, .int .i64 a, .int .i64 p, .int .i64 n, .string t] 44)
  have bf5 := (bf4.below ((Below.refl _ _).alloc (Nat.le_refl _) cZ)).below ((Below.refl _ _).alloc (Nat.le_refl _) (.cells #[.int .i64 k, .string u, .string o, .int .i64 i, .int .i64 a, .int .i64 p, .int .i64 n, .string t] 44))
  go_wp2_with fail
  refine (batch_is 1 1 _ [⟨k, u, o, i, a, p, n, t⟩] wt 0 _ hrow hSz HB).mono ?_
  rintro e w6 ⟨rfl, b6⟩
  have B6 := below_call B5 b6
  have hz6 := hcall hz5 b6
  have bf6 := bf5.below b6
  clear c60 c61 c62 c63 c64 c65 c66 c67 z6 hrow hSz B4 B5 hz4 hz5 bf4 bf5 b6 h6 h7
  have ks6 := Row.string (P := Try.prog) Try.underlying39 Try.underlying5 Try.underlying9 bf6.row
  have ks7 := Row.string (P := Try.prog) (w := w6.drew) Try.underlying39 Try.underlying5 Try.underlying9 bf6.row
  rw [HQ.out] at ks6 ks7
  have hsub : (wt.size : Int) - (g.size : Int) = (z.size : Int) := by omega
  have hmax : max (0 : Int) (z.size : Int) = (z.size : Int) := by omega
  go_wp2_with fail
  go_region
  (try simp only [Exit.inBlock, Exit.then])
  go_wp2_with fail
  refine (unb_is (z ++ q) [] 3 _ (by rw [ByteArray.size_append]; omega) HU).mono ?_
  rintro e w7 ⟨v7, rfl, ho7, b7⟩
  have BD : Below w.heap.size w w6.drew := B6.drew
  have B7 := below_call BD b7
  have hz7 := hcall (show w6.drew.heap[w4.heap.size]? = some cZ from hz6) b7
  obtain ⟨A7, c7, rfl, _⟩ := ho7.slice
  clear BD B6 hz6 bf6 ks6 ks7 ho7 b7
  obtain ⟨c70, c71, c72, c73, c74, c75, c76, c77, z7⟩ := cells8 hz7
  have EZ := eq_self 0 ⟨#[]⟩ ⟨#[]⟩ 0 0 0 0 ⟨#[]⟩
  go_wp2_with fail
  refine (live23 _).mono ?_
  rintro e w8 ⟨rfl, b8⟩
  have B8 := below_call B7 b8
  clear c70 c71 c72 c73 c74 c75 c76 c77 z7 hz7 b8 B7
  go_wp2
  go_ret
  exact ⟨rfl, B8⟩
end Go.Proofs.Ytobhlcogopcbdaa
set_option linter.unusedVariables false
set_option linter.unusedSimpArgs false
namespace Go.Proofs.Ytobhlcogopcbdaa
open Go.RowKit
open Sp
theorem spoils_walk (e : Ev) (pos mask : Int) (w : World) (hz : e.u.size ≤ 9223372036854775807 ∧ e.o.size ≤ 9223372036854775807 ∧ e.v.2.2.2.size ≤ 9223372036854775807) (hm0 : 0 ≤ mask) (hm1 : mask < 256) :
    Calls Try.prog 13 #[evV e, .int .i64 pos, .int .u8 mask] w fun e w' => e = .returned (.bool true) ∧ Below w.heap.size w w' := by
  obtain ⟨k, u, o, i, a, p, n, t⟩ := e
  simp only at hz
  cases h : shortE ⟨k, u, o, i, a, p, n, t⟩ with
  | false => exact spoils_no k u o i a p n t pos mask w hz.1 hz.2.1 hz.2.2 h
  | true =>
    have hs := h
    unfold shortE at hs
    simp only [Bool.and_eq_true, decide_eq_true_eq] at hs
    cases hm : mayE8 k u o i a p n t with
    | false => exact spoils_maynot k u o i a p n t pos mask w (by omega) (by omega) (by omega) h hm
    | true =>
      have hme : mayE ⟨k, u, o, i, a, p, n, t⟩ = true := hm
      obtain ⟨y1, y2⟩ := encE_yes _ hme
      have y3 := enc_low _ hme
      have hb := batch_one _ hme
      have hbody := encE_body _ hme
      obtain ⟨g, er, hg⟩ : ∃ g er, encE ⟨k, u, o, i, a, p, n, t⟩ = (g, er) := ⟨_, _, rfl⟩
      rw [hg] at y1 y2 y3 hb hbody
      simp only at y1 y2 y3 hb
      subst y1
      by_cases hx : pos < 0 ∨ (0 ≤ pos ∧ (g.size : Int) ≤ pos) ∨ (0 ≤ pos ∧ pos < g.size ∧ mask = 0)
      · exact spoils_out k u o i a p n t pos mask w (by omega) (by omega) (by omega) h hm g hg y3 y2 hx
      · obtain ⟨m, rfl⟩ := Int.eq_ofNat_of_zero_le (show 0 ≤ pos by omega)
        have hp : m < g.size := by omega
        have hmk : mask ≠ 0 := by omega
        obtain ⟨mk, rfl⟩ : ∃ mk : UInt8, mask = (mk.toNat : Int) := ⟨UInt8.ofNat mask.toNat, by rw [byte_of _ (by omega)]; omega⟩
        have hmk0 : mk ≠ 0 := by rintro rfl; exact hmk rfl
        have hl : m < g.data.toList.length := by rw [← size_eq_length]; exact hp
        have hq : (strOf (g.data.toList.set m (g.data.toList[m] ^^^ mk))).size = g.size := by rw [strOf_size, List.length_set, ← size_eq_length]
        have hsp : openS (strOf (g.data.toList.set m (g.data.toList[m] ^^^ mk))) = (⟨#[]⟩, 4) := by
          have hbg : sealS (bodyE ⟨k, u, o, i, a, p, n, t⟩) = g := (Prod.mk.inj hbody).1.symm
          refine spoil (bodyE ⟨k, u, o, i, a, p, n, t⟩) _ (g.data.toList.take m) (g.data.toList.drop (m + 1)) g.data.toList[m] (g.data.toList[m] ^^^ mk) (fun e => xor_ne _ _ hmk0 e.symm) ?_ ?_
          · rw [hbg, List.getElem_cons_drop, List.take_append_drop]
          · rw [strOf_list, List.set_eq_take_append_cons_drop, if_pos hl]
        have hpl : (putV g.size).length ≤ 10 := putV_len _ (by omega)
        have hzz : (strOf (putV g.size)).size = (putV g.size).length := strOf_size _
        have hu := unb_spoil _ (by rw [hq]; omega) hsp
        rw [hq] at hu
        refine spoils_main k u o i a p n t m mk w (by omega) (by omega) (by omega) h hm g hg y3 y2 hp g.data.toList[m] (g.data.toList[m] ^^^ mk) _ ⟨hl, rfl⟩ (xor_u8 _ _) (by simpa using hmk) rfl hq (dec_spoil _ hsp) (strOf (putV g.size)) (strOf (putV g.size) ++ g) hb (by rw [ByteArray.size_append]) ?_ (by omega) hu
        rw [← toList_inj, ByteArray.data_extract, Array.toList_extract]
        have : List.extract (strOf (putV g.size) ++ g).data.toList 0 (strOf (putV g.size)).size = (strOf (putV g.size) ++ g).data.toList.take (strOf (putV g.size)).size := by simp [List.extract]
        rw [this, data_append, size_eq_length, List.take_left]
theorem u8_bounds (z : Int) (h : (Lit.int .u8 z).wf = true) : 0 ≤ z ∧ z < 256 := by
  have h1 : IntKind.u8.min ≤ z ∧ z ≤ IntKind.u8.max := by simpa [Lit.wf] using h
  rw [show IntKind.u8.min = 0 by decide, show IntKind.u8.max = 255 by decide] at h1
  omega
theorem spoils_walk2 (e : Ev) (pos mask : Int) (w : World) (hz : e.u.size ≤ 9223372036854775807 ∧ e.o.size ≤ 9223372036854775807 ∧ e.v.2.2.2.size ≤ 9223372036854775807) (hm : (Lit.int .u8 mask).wf = true) :
    Calls Try.prog 13 #[evV e, .int .i64 pos, .int .u8 mask] w fun e w' => e = .returned (.bool true) ∧ Below w.heap.size w w' :=
  spoils_walk e pos mask w hz (u8_bounds mask hm).1 (u8_bounds mask hm).2
end Go.Proofs.Ytobhlcogopcbdaa
set_option linter.unusedVariables false
set_option linter.unusedSimpArgs false
namespace Go.Proofs.Ytobhlcogopcbdaa
open Go.RowKit
open Sp
theorem foldV_sz (s u : ByteArray) (b : Bool) (h : foldV s = (u, b)) : u.size ≤ s.size := by
  unfold foldV at h
  split at h
  · injection h with h1 h2; rw [← h1, foldS_size]; exact Nat.le_refl _
  · injection h with h1 h2; rw [← h1]; exact Nat.zero_le _
theorem fold_is (k : Int) (u o : ByteArray) (i a p n : Int) (t : ByteArray) (g : Ev) (b : Bool) (w : World) (hu : u.size ≤ 60) (ho : o.size ≤ 60) (ht : t.size ≤ 60) (h : Hid (foldE ⟨k, u, o, i, a, p, n, t⟩ = (g, b))) :
    Calls Try.prog 42 #[.agg #[.int .i64 k, .string u, .string o, .int .i64 i, .int .i64 a, .int .i64 p, .int .i64 n, .string t]] w fun e w' => e = .returned (.tuple #[evV g, .bool b]) ∧ Below w.heap.size w w' := by
  obtain ⟨u', bu, hU⟩ : ∃ u' bu, foldV u = (u', bu) := ⟨_, _, rfl⟩
  obtain ⟨o', bo, hO⟩ : ∃ u' bu, foldV o = (u', bu) := ⟨_, _, rfl⟩
  have z1 := foldV_sz _ _ _ hU
  have z2 := foldV_sz _ _ _ hO
  have := foldE_w k u o i a p n t u' o' bu bo w (by omega) (by omega) (by omega) (Lib.hid hU) (Lib.hid hO) (by omega) (by omega)
  rwa [h.out] at this
theorem mayE_is (k : Int) (u o : ByteArray) (i a p n : Int) (t : ByteArray) (b : Bool) (w : World) (hu : u.size ≤ 60) (ho : o.size ≤ 60) (ht : t.size ≤ 60) (h : Hid (mayE8 k u o i a p n t = b)) :
    Calls Try.prog 41 #[.agg #[.int .i64 k, .string u, .string o, .int .i64 i, .int .i64 a, .int .i64 p, .int .i64 n, .string t]] w fun e w' => e = .returned (.bool b) ∧ Below w.heap.size w w' := by
  have := mayE_calls k u o i a p n t w (by omega) (by omega) (by omega)
  rwa [h.out] at this
theorem neq_self (k : Int) (u o : ByteArray) (x a p q : Int) (t : ByteArray) (W : World) :
    (binOp .neq 44 (.agg #[.int .i64 k, .string u, .string o, .int .i64 x, .int .i64 a, .int .i64 p, .int .i64 q, .string t]) (.agg #[.int .i64 k, .string u, .string o, .int .i64 x, .int .i64 a, .int .i64 p, .int .i64 q, .string t])).run Try.prog W =
      .ok (.bool false) W := by simp [go_sem]
abbrev evC (k : Int) (u o : ByteArray) (i a p n : Int) (t : ByteArray) : Obj := .cells #[.int .i64 k, .string u, .string o, .int .i64 i, .int .i64 a, .int .i64 p, .int .i64 n, .string t] 44
theorem row_evs {W : World} {ad : Addr} {n c : Nat} {l : List Ev} (h : Row enE 8 W (.slice (some ad) n c) l) (i : Nat) (hi : i < l.length) (k : Int) (u o : ByteArray) (x a p m : Int) (t : ByteArray) (he : l[i] = ⟨k, u, o, x, a, p, m, t⟩) :
    W.cell? (ad.add (i * 8)) = some (.int .i64 k) ∧ W.cell? ⟨(ad.add (i * 8)).block, (ad.add (i * 8)).off + 1, none⟩ = some (.string u) ∧ W.cell? ⟨(ad.add (i * 8)).block, (ad.add (i * 8)).off + 2, none⟩ = some (.string o) ∧ W.cell? ⟨(ad.add (i * 8)).block, (ad.add (i * 8)).off + 3, none⟩ = some (.int .i64 x) ∧ W.cell? ⟨(ad.add (i * 8)).block, (ad.add (i * 8)).off + 4, none⟩ = some (.int .i64 a) ∧ W.cell? ⟨(ad.add (i * 8)).block, (ad.add (i * 8)).off + 5, none⟩ = some (.int .i64 p) ∧ W.cell? ⟨(ad.add (i * 8)).block, (ad.add (i * 8)).off + 6, none⟩ = some (.int .i64 m) ∧ W.cell? ⟨(ad.add (i * 8)).block, (ad.add (i * 8)).off + 7, none⟩ = some (.string t) := by
  obtain ⟨ad', e, hc⟩ := row_ev h i hi k u o x a p m t he
  injection e with e
  subst e
  exact hc
namespace Sp
theorem unb_may (s : ByteArray) (l : List Ev) (g : Int) (h : unbE s = (l, g)) : ∀ e ∈ l, mayE e = true := by
  unfold unbE at h
  cases hu : unbL s (s.size + 1) 0 [] with
  | none => rw [hu] at h; simp only [cutU, Prod.mk.injEq] at h; rw [← h.1]; intro e he; cases he
  | some r =>
    rw [hu] at h
    unfold cutU at h
    simp only at h
    split at h
    · simp only [Prod.mk.injEq] at h; rw [← h.1]; intro e he; cases he
    · simp only [Prod.mk.injEq] at h
      obtain ⟨l', h1, h2, h3⟩ := unbL_text s (s.size + 1) 0 [] r hu (by omega)
      rw [List.nil_append] at h1
      rw [← h.1, h1]
      exact h3
theorem may_sz (e : Ev) (h : mayE e = true) : e.u.size ≤ 60 ∧ e.o.size ≤ 60 ∧ e.v.2.2.2.size ≤ 60 := by
  obtain ⟨k, u, o, i, a, p, n, t⟩ := e
  obtain ⟨_, _, h1, h2, h3, _⟩ := mayE8_sz k u o i a p n t h
  exact ⟨by show u.size ≤ 60; omega, by show o.size ≤ 60; omega, by show t.size ≤ 60; omega⟩
theorem dec_may (s : ByteArray) (e : Ev) (f : Int) (h : decR s = (e, f)) : e.u.size ≤ 60 ∧ e.o.size ≤ 60 ∧ e.v.2.2.2.size ≤ 60 := by
  by_cases hf : f = 0
  · subst hf
    exact may_sz e (dec_enc s e h).1
  · have : e = zeroE := by
      unfold decR at h
      split at h
      · injection h with h1 h2; exact h1.symm
      · split at h
        · injection h with h1 h2; exact h1.symm
        · injection h with h1 h2; exact absurd h2.symm hf
    subst this
    exact ⟨by decide, by decide, by decide⟩
/-- What holds of an event in a round of ScriptBack. -/
theorem back_yes (e : Ev) (h : mayE e = true) : ∃ t : ByteArray, encE e = (t, 0) ∧ t.size ≤ 130 ∧ decR t = (e, 0) ∧ foldE e = (e, true) := by
  obtain ⟨y1, y2⟩ := encE_yes _ h
  obtain ⟨g, er, hg⟩ : ∃ g er, encE e = (g, er) := ⟨_, _, rfl⟩
  have hd := dec_back e h
  rw [hg] at y1 y2 hd
  simp only at y1 y2 hd
  subst y1
  exact ⟨g, hg, y2, hd, fold_may e h⟩
theorem back_no (e : Ev) (h : mayE e = false) : encE e = (⟨#[]⟩, 1) ∧ ∃ x, decR ⟨#[]⟩ = (x, 2) ∧ x = zeroE := ⟨encE_no e h, zeroE, by decide +kernel, rfl⟩
theorem back_good (l : List Ev) (hl : l.length ≤ 100) (h : l.all mayE = true) : ∃ b, batchE l = (b, 0) ∧ b.size ≤ 140 * l.length ∧ unbE b = (l, 0) :=
  ⟨_, batch_all l hl (List.all_eq_true.1 h), by rw [strOf_size]; exact flat_sz l (List.all_eq_true.1 h), unb_back l hl (List.all_eq_true.1 h)⟩
theorem back_bad (l : List Ev) (h : l.all mayE = false) : batchE l = (⟨#[]⟩, 1) := batch_none l fun h' => by rw [List.all_eq_true.2 h'] at h; cases h
theorem unb_empty : unbE ⟨#[]⟩ = ([], 0) := by decide +kernel
end Sp
set_option maxHeartbeats 20000000 in
set_option maxRecDepth 100000 in
theorem back_walk (n c : Nat) (A : Option Addr) (l : List Ev) (s : ByteArray) (w : World) (hl : Row enE 8 w (.slice A n c) l) (hz : Szs l) (hs : s.size ≤ 9223372036854775807) :
    Calls Try.prog 12 #[.slice A n c, .string s] w fun e w' => e = .returned (.bool true) ∧ Below w.heap.size w w' := by
  cases h : eventsE l 30 with
  | false =>
    have H := Lib.hid h
    clear h
    go_enter Try.func12, Try.ntmps12
    go_wp2_with fail
    refine (events_is n c A l 30 false _ hl hz H).mono ?_
    rintro e w1 ⟨rfl, b1⟩
    go_wp2_with fail
    refine (live23 _).mono ?_
    rintro e w2 ⟨rfl, b2⟩
    have B2 := below_call b1 b2
    clear b1 b2
    go_wp2
    go_ret
    exact ⟨rfl, B2⟩
  | true =>
  by_cases hlong : (1500 : Int) < (s.size : Int)
  · have H := Lib.hid h
    clear h
    go_enter Try.func12, Try.ntmps12
    go_wp2_with fail
    refine (events_is n c A l 30 true _ hl hz H).mono ?_
    rintro e w1 ⟨rfl, b1⟩
    go_wp2_with fail
    refine (live23 _).mono ?_
    rintro e w2 ⟨rfl, b2⟩
    have B2 := below_call b1 b2
    clear b1 b2
    go_wp2
    go_ret
    exact ⟨rfl, B2⟩
  · have hs' : (s.size : Int) ≤ 1500 := by omega
    clear hlong
    have hsz := eventsE_sz l 30 h
    have hn := eventsE_len l 30 h
    have EA := Lib.hid hl.len_eq
    have hnn : n ≤ 30 := by have := EA.out; omega
    have HSH : Hid (∀ e ∈ l, shortE e = true) := by
      unfold eventsE at h
      rw [Bool.and_eq_true, List.all_eq_true] at h
      exact h.2
    have HN := Lib.hid hn
    have H := Lib.hid h
    clear h hn
    go_enter Try.func12, Try.ntmps12
    go_wp2_with fail
    refine (events_is n c A l 30 true _ hl hz H).mono ?_
    rintro e w1 ⟨rfl, b1⟩
    clear hz H
    have HZ := Lib.hid hsz
    clear hsz
    go_wp2_with fail
    go_loopw [5, 6] (fun v5 v6 wr => ∃ i : Nat, v6 = .int .i64 i ∧ i ≤ n ∧ v5 = .bool ((l.take i).all mayE) ∧ Below w.heap.size w wr) (fun _ v6 _ => (n - intOf v6).toNat)
    case atStart => exact ⟨0, rfl, Nat.zero_le _, rfl, b1⟩
    case round =>
      obtain ⟨i, rfl, hi, rfl, hB⟩ := hrel
      clear b1
      by_cases hlt : i < n
      · have hil : i < l.length := by have := EA.out; omega
        have hgood : Hid ((l.take (i + 1)).all mayE = ((l.take i).all mayE && mayE l[i])) := by
          show _ = _
          rw [List.take_succ_eq_append_getElem hil, List.all_append, List.all_cons, List.all_nil, Bool.and_true]
        obtain ⟨good, hgd⟩ : ∃ good, (l.take i).all mayE = good := ⟨_, rfl⟩
        have hsh := HSH.out l[i] (List.getElem_mem _)
        rw [hgd] at hgood ⊢
        have hg2 := hgood.out
        clear hgood hgd
        obtain ⟨⟨k, u, o, x, a, p, m, t⟩, he⟩ : ∃ e, l[i] = e := ⟨_, rfl⟩
        rw [he] at hsh hg2
        unfold shortE at hsh
        simp only [Bool.and_eq_true, decide_eq_true_eq] at hsh
        obtain ⟨z1, z2, z3⟩ := hsh
        obtain ⟨ad, rfl, c0, c1, c2, c3, c4, c5, c6, c7⟩ := row_ev (hl.below hB) i hil k u o x a p m t he
        have HE := Lib.hid he
        clear he
        have x1 : (0 : Int) ≤ (i : Int) := by omega
        have x2 : (i : Int) < (n : Int) := by omega
        cases hmay : mayE ⟨k, u, o, x, a, p, m, t⟩ with
        | true =>
          rw [hmay, Bool.and_true] at hg2
          cases good
          all_goals
            have HG2 := Lib.hid hg2
            obtain ⟨q, h1, h2, h3, h4⟩ := back_yes _ hmay
            have H1 := Lib.hid h1
            have H3 := Lib.hid h3
            have H4 := Lib.hid h4
            have H5 : Hid (mayE8 k u o x a p m t = true) := hmay
            clear h1 h3 h4 hmay hg2
            go_wp2_with fail
            refine (enc_is k u o x a p m t q 0 _ (by omega) (by omega) (by omega) H1).mono ?_
            rintro e w2 ⟨rfl, b2⟩
            have B2 := below_call hB b2
            clear b2 hB c0 c1 c2 c3 c4 c5 c6 c7
            go_wp2_with fail
            refine (dec_is q ⟨k, u, o, x, a, p, m, t⟩ 0 _ (by omega) H3).mono ?_
            rintro e w3 ⟨rfl, b3⟩
            have B3 := below_call B2 b3
            clear b3 B2
            have B3' := below_alloc0 B3 (evC k u o x a p m t)
            have h3' := heap_alloc_new w3 (evC k u o x a p m t)
            obtain ⟨c0, c1, c2, c3, c4, c5, c6, c7⟩ := row_evs (hl.below B3') i hil k u o x a p m t HE.out
            rw [show evV ⟨k, u, o, x, a, p, m, t⟩ = .agg #[.int .i64 k, .string u, .string o, .int .i64 x, .int .i64 a, .int .i64 p, .int .i64 m, .string t] from rfl]
            go_wp2_with fail
            refine (mayE_is k u o x a p m t true _ (by omega) (by omega) (by omega) H5).mono ?_
            rintro e w4 ⟨rfl, b4⟩
            have B4 := below_call B3' b4
            have h4 := hcall h3' b4
            clear b4 B3 B3' h3' c0 c1 c2 c3 c4 c5 c6 c7
            obtain ⟨c0, c1, c2, c3, c4, c5, c6, c7⟩ := row_evs (hl.below B4) i hil k u o x a p m t HE.out
            obtain ⟨d0, d1, d2, d3, d4, d5, d6, d7, dz⟩ := cells8 h4
            have NS := neq_self k u o x a p m t
            go_wp2_with fail
            go_quiet (fail)
            have B4' : Below w.heap.size w (w4.drewN nq) := below_drewN B4 _
            go_wp2_with fail
            refine (fold_is k u o x a p m t ⟨k, u, o, x, a, p, m, t⟩ true _ (by omega) (by omega) (by omega) H4).mono ?_
            rintro e w5 ⟨rfl, b5⟩
            have B5 := below_call B4' b5
            clear b5 B4 B4' h4 c0 c1 c2 c3 c4 c5 c6 c7 d0 d1 d2 d3 d4 d5 d6 d7 dz
            have B5' := below_alloc0 B5 (evC k u o x a p m t)
            have h5' := heap_alloc_new w5 (evC k u o x a p m t)
            rw [show evV ⟨k, u, o, x, a, p, m, t⟩ = .agg #[.int .i64 k, .string u, .string o, .int .i64 x, .int .i64 a, .int .i64 p, .int .i64 m, .string t] from rfl]
            obtain ⟨c0, c1, c2, c3, c4, c5, c6, c7⟩ := row_evs (hl.below B5') i hil k u o x a p m t HE.out
            obtain ⟨d0, d1, d2, d3, d4, d5, d6, d7, dz⟩ := cells8 h5'
            have NS5 := neq_self k u o x a p m t
            go_wp2_with fail
            go_region_held3 (fun w' => w'.cell? ⟨w5.heap.size, 0, none⟩ = some (.int .i64 k) ∧ w'.cell? ⟨w5.heap.size, 1, none⟩ = some (.string u) ∧ w'.cell? ⟨w5.heap.size, 2, none⟩ = some (.string o) ∧ w'.cell? ⟨w5.heap.size, 3, none⟩ = some (.int .i64 x) ∧ w'.cell? ⟨w5.heap.size, 4, none⟩ = some (.int .i64 a) ∧ w'.cell? ⟨w5.heap.size, 5, none⟩ = some (.int .i64 p) ∧ w'.cell? ⟨w5.heap.size, 6, none⟩ = some (.int .i64 m) ∧ w'.cell? ⟨w5.heap.size, 7, none⟩ = some (.string t) ∧ w'.cell? (ad.add (i * 8)) = some (.int .i64 k) ∧ w'.cell? ⟨(ad.add (i * 8)).block, (ad.add (i * 8)).off + 1, none⟩ = some (.string u) ∧ w'.cell? ⟨(ad.add (i * 8)).block, (ad.add (i * 8)).off + 2, none⟩ = some (.string o) ∧ w'.cell? ⟨(ad.add (i * 8)).block, (ad.add (i * 8)).off + 3, none⟩ = some (.int .i64 x) ∧ w'.cell? ⟨(ad.add (i * 8)).block, (ad.add (i * 8)).off + 4, none⟩ = some (.int .i64 a) ∧ w'.cell? ⟨(ad.add (i * 8)).block, (ad.add (i * 8)).off + 5, none⟩ = some (.int .i64 p) ∧ w'.cell? ⟨(ad.add (i * 8)).block, (ad.add (i * 8)).off + 6, none⟩ = some (.int .i64 m) ∧ w'.cell? ⟨(ad.add (i * 8)).block, (ad.add (i * 8)).off + 7, none⟩ = some (.string t)) (first | exact ⟨d0, d1, d2, d3, d4, d5, d6, d7, c0, c1, c2, c3, c4, c5, c6, c7⟩ | exact ⟨cell_below hbx d0, cell_below hbx d1, cell_below hbx d2, cell_below hbx d3, cell_below hbx d4, cell_below hbx d5, cell_below hbx d6, cell_below hbx d7, cell_below hbx c0, cell_below hbx c1, cell_below hbx c2, cell_below hbx c3, cell_below hbx c4, cell_below hbx c5, cell_below hbx c6, cell_below hbx c7⟩) ((go_at_call 41; refine (mayE_is k u o x a p m t true _ (by omega) (by omega) (by omega) H5).mono ?_; rintro e wx ⟨rfl, hbx⟩))
            have B6 := below_call (w1 := (w5.alloc (evC k u o x a p m t)).drew) B5'.drew hbx
            clear hbx B5 B5' h5' c0 c1 c2 c3 c4 c5 c6 c7 d0 d1 d2 d3 d4 d5 d6 d7 dz
            go_wp2
            exact ⟨⟨i + 1, by go_num, by omega, by rw [HG2.out], B6⟩, by simp [intOf]; omega⟩
        | false =>
          rw [hmay, Bool.and_false] at hg2
          cases good with
          | true =>
            have HG2 := Lib.hid hg2
            obtain ⟨h1, zz, h2, rfl⟩ := back_no _ hmay
            have H1 := Lib.hid h1
            have H3 := Lib.hid h2
            have H5 : Hid (mayE8 k u o x a p m t = false) := hmay
            obtain ⟨⟨k2, u2, o2, x2, a2, p2, m2, t2⟩, is, h4⟩ : ∃ g is, foldE ⟨k, u, o, x, a, p, m, t⟩ = (g, is) := ⟨_, _, rfl⟩
            have H4 := Lib.hid h4
            have H6 : Hid (is = true → mayE8 k2 u2 o2 x2 a2 p2 m2 t2 = true) := fun h => by subst h; exact fold_gives _ _ h4
            clear h1 h2 h4 hmay hg2
            go_wp2_with fail
            refine (enc_is k u o x a p m t ⟨#[]⟩ 1 _ (by omega) (by omega) (by omega) H1).mono ?_
            rintro e w2 ⟨rfl, b2⟩
            have B2 := below_call hB b2
            clear b2 hB c0 c1 c2 c3 c4 c5 c6 c7
            go_wp2_with fail
            refine (dec_is ⟨#[]⟩ zeroE 2 _ (by decide) H3).mono ?_
            rintro e w3 ⟨rfl, b3⟩
            have B3 := below_call B2 b3
            clear b3 B2
            have B3' := below_alloc0 B3 cZ
            obtain ⟨c0, c1, c2, c3, c4, c5, c6, c7⟩ := row_evs (hl.below B3') i hil k u o x a p m t HE.out
            rw [ev_z]
            go_wp2_with fail
            refine (mayE_is k u o x a p m t false _ (by omega) (by omega) (by omega) H5).mono ?_
            rintro e w4 ⟨rfl, b4⟩
            have B4 := below_call B3' b4
            clear b4 B3 B3' c0 c1 c2 c3 c4 c5 c6 c7
            obtain ⟨c0, c1, c2, c3, c4, c5, c6, c7⟩ := row_evs (hl.below B4) i hil k u o x a p m t HE.out
            go_wp2_with fail
            go_quiet (fail)
            have B4' : Below w.heap.size w (w4.drewN nq) := below_drewN B4 _
            go_wp2_with fail
            refine (fold_is k u o x a p m t ⟨k2, u2, o2, x2, a2, p2, m2, t2⟩ is _ (by omega) (by omega) (by omega) H4).mono ?_
            rintro e w5 ⟨rfl, b5⟩
            have B5 := below_call B4' b5
            clear b5 B4 B4' c0 c1 c2 c3 c4 c5 c6 c7
            have B5' := below_alloc0 B5 (evC k2 u2 o2 x2 a2 p2 m2 t2)
            have h5' := heap_alloc_new w5 (evC k2 u2 o2 x2 a2 p2 m2 t2)
            rw [show evV ⟨k2, u2, o2, x2, a2, p2, m2, t2⟩ = .agg #[.int .i64 k2, .string u2, .string o2, .int .i64 x2, .int .i64 a2, .int .i64 p2, .int .i64 m2, .string t2] from rfl]
            obtain ⟨d0, d1, d2, d3, d4, d5, d6, d7, dz⟩ := cells8 h5'
            cases is with
            | true =>
              have hm2 := H6.out rfl
              obtain ⟨y1, y2, y3⟩ := may_sz ⟨k2, u2, o2, x2, a2, p2, m2, t2⟩ hm2
              simp only at y1 y2 y3
              have H7 := Lib.hid hm2
              clear hm2 H6
              go_wp2_with fail
              refine wp_region_held_drew (S := fun W => W.cell? ⟨w5.heap.size, 0, none⟩ = some (.int .i64 k2) ∧ W.cell? ⟨w5.heap.size, 1, none⟩ = some (.string u2) ∧ W.cell? ⟨w5.heap.size, 2, none⟩ = some (.string o2) ∧ W.cell? ⟨w5.heap.size, 3, none⟩ = some (.int .i64 x2) ∧ W.cell? ⟨w5.heap.size, 4, none⟩ = some (.int .i64 a2) ∧ W.cell? ⟨w5.heap.size, 5, none⟩ = some (.int .i64 p2) ∧ W.cell? ⟨w5.heap.size, 6, none⟩ = some (.int .i64 m2) ∧ W.cell? ⟨w5.heap.size, 7, none⟩ = some (.string t2)) (by kernel_rfl) ⟨d0, d1, d2, d3, d4, d5, d6, d7⟩ (fun hHeld => ?_)
              refine wpAnyH_take (i := 0) (v := ?vx1) rfl (by kernel_rfl) (by kernel_rfl) (by kernel_rfl) (fun _ _ _ h => h) (Or.inl ⟨by rfl, ?hyx1⟩) (by assumption) ?restx1
              case hyx1 => (intro w hSw; (try dsimp only at hSw); go_simp; (try (first | with_reducible rfl | rw [if_neg (by omega)])))
              try simp only [Act.put, List.getElem_toArray, List.getElem_cons_succ, List.getElem_cons_zero, List.setIfInBounds_toArray, List.set_cons_zero, List.set_cons_succ]
              refine wpAnyH_take (i := 1) (v := ?vx2) rfl (by kernel_rfl) (by kernel_rfl) (by kernel_rfl) (fun _ _ _ h => h) (Or.inl ⟨by rfl, ?hyx2⟩) (by assumption) ?restx2
              case hyx2 => (intro w hSw; (try dsimp only at hSw); go_simp; (try (first | with_reducible rfl | rw [if_neg (by omega)])))
              try simp only [Act.put, List.getElem_toArray, List.getElem_cons_succ, List.getElem_cons_zero, List.setIfInBounds_toArray, List.set_cons_zero, List.set_cons_succ]
              refine wpAnyH_take (i := 2) (v := undef) rfl (by kernel_rfl) (by kernel_rfl) (by kernel_rfl) (fun _ _ _ h => h) (Or.inr ⟨by rfl, rfl⟩) (by assumption) ?_
              try simp only [Act.put, List.getElem_toArray, List.getElem_cons_succ, List.getElem_cons_zero, List.setIfInBounds_toArray, List.set_cons_zero, List.set_cons_succ]
              refine wpAnyH_take (i := 3) (v := undef) rfl (by kernel_rfl) (by kernel_rfl) (by kernel_rfl) (fun _ _ _ h => h) (Or.inr ⟨by rfl, rfl⟩) (by assumption) ?_
              try simp only [Act.put, List.getElem_toArray, List.getElem_cons_succ, List.getElem_cons_zero, List.setIfInBounds_toArray, List.set_cons_zero, List.set_cons_succ]
              refine wpAnyH_take (i := 4) (v := undef) rfl (by kernel_rfl) (by kernel_rfl) (by kernel_rfl) (fun _ _ _ h => h) (Or.inr ⟨by rfl, rfl⟩) (by assumption) ?_
              try simp only [Act.put, List.getElem_toArray, List.getElem_cons_succ, List.getElem_cons_zero, List.setIfInBounds_toArray, List.set_cons_zero, List.set_cons_succ]
              refine wpAnyH_take (i := 5) (v := undef) rfl (by kernel_rfl) (by kernel_rfl) (by kernel_rfl) (fun _ _ _ h => h) (Or.inr ⟨by rfl, rfl⟩) (by assumption) ?_
              try simp only [Act.put, List.getElem_toArray, List.getElem_cons_succ, List.getElem_cons_zero, List.setIfInBounds_toArray, List.set_cons_zero, List.set_cons_succ]
              refine wpAnyH_take (i := 6) (v := undef) rfl (by kernel_rfl) (by kernel_rfl) (by kernel_rfl) (fun _ _ _ h => h) (Or.inr ⟨by rfl, rfl⟩) (by assumption) ?_
              try simp only [Act.put, List.getElem_toArray, List.getElem_cons_succ, List.getElem_cons_zero, List.setIfInBounds_toArray, List.set_cons_zero, List.set_cons_succ]
              refine wpAnyH_take (i := 7) (v := undef) rfl (by kernel_rfl) (by kernel_rfl) (by kernel_rfl) (fun _ _ _ h => h) (Or.inr ⟨by rfl, rfl⟩) (by assumption) ?_
              try simp only [Act.put, List.getElem_toArray, List.getElem_cons_succ, List.getElem_cons_zero, List.setIfInBounds_toArray, List.set_cons_zero, List.set_cons_succ]
              refine wpAnyH_take (i := 8) (v := undef) rfl (by kernel_rfl) (by kernel_rfl) (by kernel_rfl) (fun _ _ _ h => h) (Or.inr ⟨by rfl, rfl⟩) (by assumption) ?_
              try simp only [Act.put, List.getElem_toArray, List.getElem_cons_succ, List.getElem_cons_zero, List.setIfInBounds_toArray, List.set_cons_zero, List.set_cons_succ]
              refine wpAnyH_take (i := 9) (v := undef) rfl (by kernel_rfl) (by kernel_rfl) (by kernel_rfl) (fun _ _ _ h => h) (Or.inr ⟨by rfl, rfl⟩) (by assumption) ?_
              try simp only [Act.put, List.getElem_toArray, List.getElem_cons_succ, List.getElem_cons_zero, List.setIfInBounds_toArray, List.set_cons_zero, List.set_cons_succ]
              refine wpAnyH_take (i := 10) (v := undef) rfl (by kernel_rfl) (by kernel_rfl) (by kernel_rfl) (fun _ _ _ h => h) (Or.inr ⟨by rfl, rfl⟩) (by assumption) ?_
              try simp only [Act.put, List.getElem_toArray, List.getElem_cons_succ, List.getElem_cons_zero, List.setIfInBounds_toArray, List.set_cons_zero, List.set_cons_succ]
              refine wpAnyH_take (i := 11) (v := undef) rfl (by kernel_rfl) (by kernel_rfl) (by kernel_rfl) (fun _ _ _ h => h) (Or.inr ⟨by rfl, rfl⟩) (by assumption) ?_
              try simp only [Act.put, List.getElem_toArray, List.getElem_cons_succ, List.getElem_cons_zero, List.setIfInBounds_toArray, List.set_cons_zero, List.set_cons_succ]
              refine wpAnyH_take (i := 12) (v := ?vx13) rfl (by kernel_rfl) (by kernel_rfl) (by kernel_rfl) (fun _ _ _ h => h) (Or.inl ⟨by rfl, ?hyx13⟩) (by assumption) ?restx13
              case hyx13 => (intro w hSw; (try dsimp only at hSw); go_simp; (try (first | with_reducible rfl | rw [if_neg (by omega)])))
              try simp only [Act.put, List.getElem_toArray, List.getElem_cons_succ, List.getElem_cons_zero, List.setIfInBounds_toArray, List.set_cons_zero, List.set_cons_succ]
              refine wpAnyH_take (i := 13) (v := ?vx14) rfl (by kernel_rfl) (by kernel_rfl) (by kernel_rfl) (fun _ _ _ h => h) (Or.inl ⟨by rfl, ?hyx14⟩) (by assumption) ?restx14
              case hyx14 => (intro w hSw; (try dsimp only at hSw); go_simp; (try (first | with_reducible rfl | rw [if_neg (by omega)])))
              try simp only [Act.put, List.getElem_toArray, List.getElem_cons_succ, List.getElem_cons_zero, List.setIfInBounds_toArray, List.set_cons_zero, List.set_cons_succ]
              refine wpAnyH_take (i := 14) (v := ?vx15) rfl (by kernel_rfl) (by kernel_rfl) (by kernel_rfl) (fun _ _ _ h => h) (Or.inl ⟨by rfl, ?hyx15⟩) (by assumption) ?restx15
              case hyx15 => (intro w hSw; (try dsimp only at hSw); go_simp; (try (first | with_reducible rfl | rw [if_neg (by omega)])))
              try simp only [Act.put, List.getElem_toArray, List.getElem_cons_succ, List.getElem_cons_zero, List.setIfInBounds_toArray, List.set_cons_zero, List.set_cons_succ]
              refine wpAnyH_take (i := 15) (v := ?vx16) rfl (by kernel_rfl) (by kernel_rfl) (by kernel_rfl) (fun _ _ _ h => h) (Or.inl ⟨by rfl, ?hyx16⟩) (by assumption) ?restx16
              case hyx16 => (intro w hSw; (try dsimp only at hSw); go_simp; (try (first | with_reducible rfl | rw [if_neg (by omega)])))
              try simp only [Act.put, List.getElem_toArray, List.getElem_cons_succ, List.getElem_cons_zero, List.setIfInBounds_toArray, List.set_cons_zero, List.set_cons_succ]
              refine wpAnyH_take (i := 16) (v := ?vx17) rfl (by kernel_rfl) (by kernel_rfl) (by kernel_rfl) (fun _ _ _ h => h) (Or.inl ⟨by rfl, ?hyx17⟩) (by assumption) ?restx17
              case hyx17 => (intro w hSw; (try dsimp only at hSw); go_simp; (try (first | with_reducible rfl | rw [if_neg (by omega)])))
              try simp only [Act.put, List.getElem_toArray, List.getElem_cons_succ, List.getElem_cons_zero, List.setIfInBounds_toArray, List.set_cons_zero, List.set_cons_succ]
              refine wpAnyH_ready (rs := [17]) (by kernel_rfl) (by simp) ?_
              refine AllReadyH.cons rfl (fun K hK => ?_) ?_
              · go_simp
                go_at_call 41
                refine (mayE_is k2 u2 o2 x2 a2 p2 m2 t2 true _ y1 y2 y3 H7).mono ?_
                rintro e wx ⟨rfl, hbx⟩
                refine hK.out _ _ (by (try dsimp only); (first | exact ⟨d0, d1, d2, d3, d4, d5, d6, d7⟩ | exact ⟨cell_below hbx d0, cell_below hbx d1, cell_below hbx d2, cell_below hbx d3, cell_below hbx d4, cell_below hbx d5, cell_below hbx d6, cell_below hbx d7⟩)) (fun hHeld => ?_)
                clear hK K
                try simp only [Act.put, List.getElem_toArray, List.getElem_cons_succ, List.getElem_cons_zero, List.setIfInBounds_toArray, List.set_cons_zero, List.set_cons_succ]
                refine wpAnyH_take (i := 18) (v := ?vx18) rfl (by kernel_rfl) (by kernel_rfl) (by kernel_rfl) (fun _ _ _ h => h) (Or.inl ⟨by rfl, ?hyx18⟩) (by assumption) ?restx18
                case hyx18 => (intro w hSw; (try dsimp only at hSw); go_simp; (try (first | with_reducible rfl | rw [if_neg (by omega)])))
                try simp only [Act.put, List.getElem_toArray, List.getElem_cons_succ, List.getElem_cons_zero, List.setIfInBounds_toArray, List.set_cons_zero, List.set_cons_succ]
                refine wpAnyH_take (i := 19) (v := ?vx19) rfl (by kernel_rfl) (by kernel_rfl) (by kernel_rfl) (fun _ _ _ h => h) (Or.inl ⟨by rfl, ?hyx19⟩) (by assumption) ?restx19
                case hyx19 => (intro w hSw; (try dsimp only at hSw); go_simp; (try (first | with_reducible rfl | rw [if_neg (by omega)])))
                try simp only [Act.put, List.getElem_toArray, List.getElem_cons_succ, List.getElem_cons_zero, List.setIfInBounds_toArray, List.set_cons_zero, List.set_cons_succ]
                refine wpAnyH_take (i := 20) (v := ?vx20) rfl (by kernel_rfl) (by kernel_rfl) (by kernel_rfl) (fun _ _ _ h => h) (Or.inl ⟨by rfl, ?hyx20⟩) (by assumption) ?restx20
                case hyx20 => (intro w hSw; (try dsimp only at hSw); go_simp; (try (first | with_reducible rfl | rw [if_neg (by omega)])))
                try simp only [Act.put, List.getElem_toArray, List.getElem_cons_succ, List.getElem_cons_zero, List.setIfInBounds_toArray, List.set_cons_zero, List.set_cons_succ]
                refine wpAnyH_done (by kernel_rfl) ?_ _
                have B6 := below_call (w1 := (w5.alloc (evC k2 u2 o2 x2 a2 p2 m2 t2)).drew) B5'.drew hbx
                clear hbx B5 B5' h5' d0 d1 d2 d3 d4 d5 d6 d7 dz
                go_wp2
                exact ⟨⟨i + 1, by go_num, by omega, by rw [HG2.out], B6⟩, by simp [intOf]; omega⟩
              exact AllReadyH.nil
            | false =>
              clear H6
              go_wp2_with fail
              go_quiet (fail)
              have B6 : Below w.heap.size w ((w5.alloc (evC k2 u2 o2 x2 a2 p2 m2 t2)).drewN nq) := below_drewN B5' _
              clear B5 B5' h5' d0 d1 d2 d3 d4 d5 d6 d7 dz
              go_wp2
              exact ⟨⟨i + 1, by go_num, by omega, by rw [HG2.out], B6⟩, by simp [intOf]; omega⟩
          | false =>
            have HG2 := Lib.hid hg2
            obtain ⟨h1, zz, h2, rfl⟩ := back_no _ hmay
            have H1 := Lib.hid h1
            have H3 := Lib.hid h2
            have H5 : Hid (mayE8 k u o x a p m t = false) := hmay
            obtain ⟨⟨k2, u2, o2, x2, a2, p2, m2, t2⟩, is, h4⟩ : ∃ g is, foldE ⟨k, u, o, x, a, p, m, t⟩ = (g, is) := ⟨_, _, rfl⟩
            have H4 := Lib.hid h4
            have H6 : Hid (is = true → mayE8 k2 u2 o2 x2 a2 p2 m2 t2 = true) := fun h => by subst h; exact fold_gives _ _ h4
            clear h1 h2 h4 hmay hg2
            go_wp2_with fail
            refine (enc_is k u o x a p m t ⟨#[]⟩ 1 _ (by omega) (by omega) (by omega) H1).mono ?_
            rintro e w2 ⟨rfl, b2⟩
            have B2 := below_call hB b2
            clear b2 hB c0 c1 c2 c3 c4 c5 c6 c7
            go_wp2_with fail
            refine (dec_is ⟨#[]⟩ zeroE 2 _ (by decide) H3).mono ?_
            rintro e w3 ⟨rfl, b3⟩
            have B3 := below_call B2 b3
            clear b3 B2
            have B3' := below_alloc0 B3 cZ
            obtain ⟨c0, c1, c2, c3, c4, c5, c6, c7⟩ := row_evs (hl.below B3') i hil k u o x a p m t HE.out
            rw [ev_z]
            go_wp2_with fail
            refine (mayE_is k u o x a p m t false _ (by omega) (by omega) (by omega) H5).mono ?_
            rintro e w4 ⟨rfl, b4⟩
            have B4 := below_call B3' b4
            clear b4 B3 B3' c0 c1 c2 c3 c4 c5 c6 c7
            obtain ⟨c0, c1, c2, c3, c4, c5, c6, c7⟩ := row_evs (hl.below B4) i hil k u o x a p m t HE.out
            go_wp2_with fail
            go_quiet (fail)
            have B4' : Below w.heap.size w (w4.drewN nq) := below_drewN B4 _
            go_wp2_with fail
            refine (fold_is k u o x a p m t ⟨k2, u2, o2, x2, a2, p2, m2, t2⟩ is _ (by omega) (by omega) (by omega) H4).mono ?_
            rintro e w5 ⟨rfl, b5⟩
            have B5 := below_call B4' b5
            clear b5 B4 B4' c0 c1 c2 c3 c4 c5 c6 c7
            have B5' := below_alloc0 B5 (evC k2 u2 o2 x2 a2 p2 m2 t2)
            have h5' := heap_alloc_new w5 (evC k2 u2 o2 x2 a2 p2 m2 t2)
            rw [show evV ⟨k2, u2, o2, x2, a2, p2, m2, t2⟩ = .agg #[.int .i64 k2, .string u2, .string o2, .int .i64 x2, .int .i64 a2, .int .i64 p2, .int .i64 m2, .string t2] from rfl]
            obtain ⟨d0, d1, d2, d3, d4, d5, d6, d7, dz⟩ := cells8 h5'
            cases is with
            | true =>
              have hm2 := H6.out rfl
              obtain ⟨y1, y2, y3⟩ := may_sz ⟨k2, u2, o2, x2, a2, p2, m2, t2⟩ hm2
              simp only at y1 y2 y3
              have H7 := Lib.hid hm2
              clear hm2 H6
              go_wp2_with fail
              refine wp_region_held_drew (S := fun W => W.cell? ⟨w5.heap.size, 0, none⟩ = some (.int .i64 k2) ∧ W.cell? ⟨w5.heap.size, 1, none⟩ = some (.string u2) ∧ W.cell? ⟨w5.heap.size, 2, none⟩ = some (.string o2) ∧ W.cell? ⟨w5.heap.size, 3, none⟩ = some (.int .i64 x2) ∧ W.cell? ⟨w5.heap.size, 4, none⟩ = some (.int .i64 a2) ∧ W.cell? ⟨w5.heap.size, 5, none⟩ = some (.int .i64 p2) ∧ W.cell? ⟨w5.heap.size, 6, none⟩ = some (.int .i64 m2) ∧ W.cell? ⟨w5.heap.size, 7, none⟩ = some (.string t2)) (by kernel_rfl) ⟨d0, d1, d2, d3, d4, d5, d6, d7⟩ (fun hHeld => ?_)
              refine wpAnyH_take (i := 0) (v := ?vz1) rfl (by kernel_rfl) (by kernel_rfl) (by kernel_rfl) (fun _ _ _ h => h) (Or.inl ⟨by rfl, ?hyz1⟩) (by assumption) ?restz1
              case hyz1 => (intro w hSw; (try dsimp only at hSw); go_simp; (try (first | with_reducible rfl | rw [if_neg (by omega)])))
              try simp only [Act.put, List.getElem_toArray, List.getElem_cons_succ, List.getElem_cons_zero, List.setIfInBounds_toArray, List.set_cons_zero, List.set_cons_succ]
              refine wpAnyH_take (i := 1) (v := ?vz2) rfl (by kernel_rfl) (by kernel_rfl) (by kernel_rfl) (fun _ _ _ h => h) (Or.inl ⟨by rfl, ?hyz2⟩) (by assumption) ?restz2
              case hyz2 => (intro w hSw; (try dsimp only at hSw); go_simp; (try (first | with_reducible rfl | rw [if_neg (by omega)])))
              try simp only [Act.put, List.getElem_toArray, List.getElem_cons_succ, List.getElem_cons_zero, List.setIfInBounds_toArray, List.set_cons_zero, List.set_cons_succ]
              refine wpAnyH_take (i := 2) (v := undef) rfl (by kernel_rfl) (by kernel_rfl) (by kernel_rfl) (fun _ _ _ h => h) (Or.inr ⟨by rfl, rfl⟩) (by assumption) ?_
              try simp only [Act.put, List.getElem_toArray, List.getElem_cons_succ, List.getElem_cons_zero, List.setIfInBounds_toArray, List.set_cons_zero, List.set_cons_succ]
              refine wpAnyH_take (i := 3) (v := undef) rfl (by kernel_rfl) (by kernel_rfl) (by kernel_rfl) (fun _ _ _ h => h) (Or.inr ⟨by rfl, rfl⟩) (by assumption) ?_
              try simp only [Act.put, List.getElem_toArray, List.getElem_cons_succ, List.getElem_cons_zero, List.setIfInBounds_toArray, List.set_cons_zero, List.set_cons_succ]
              refine wpAnyH_take (i := 4) (v := undef) rfl (by kernel_rfl) (by kernel_rfl) (by kernel_rfl) (fun _ _ _ h => h) (Or.inr ⟨by rfl, rfl⟩) (by assumption) ?_
              try simp only [Act.put, List.getElem_toArray, List.getElem_cons_succ, List.getElem_cons_zero, List.setIfInBounds_toArray, List.set_cons_zero, List.set_cons_succ]
              refine wpAnyH_take (i := 5) (v := undef) rfl (by kernel_rfl) (by kernel_rfl) (by kernel_rfl) (fun _ _ _ h => h) (Or.inr ⟨by rfl, rfl⟩) (by assumption) ?_
              try simp only [Act.put, List.getElem_toArray, List.getElem_cons_succ, List.getElem_cons_zero, List.setIfInBounds_toArray, List.set_cons_zero, List.set_cons_succ]
              refine wpAnyH_take (i := 6) (v := undef) rfl (by kernel_rfl) (by kernel_rfl) (by kernel_rfl) (fun _ _ _ h => h) (Or.inr ⟨by rfl, rfl⟩) (by assumption) ?_
              try simp only [Act.put, List.getElem_toArray, List.getElem_cons_succ, List.getElem_cons_zero, List.setIfInBounds_toArray, List.set_cons_zero, List.set_cons_succ]
              refine wpAnyH_take (i := 7) (v := undef) rfl (by kernel_rfl) (by kernel_rfl) (by kernel_rfl) (fun _ _ _ h => h) (Or.inr ⟨by rfl, rfl⟩) (by assumption) ?_
              try simp only [Act.put, List.getElem_toArray, List.getElem_cons_succ, List.getElem_cons_zero, List.setIfInBounds_toArray, List.set_cons_zero, List.set_cons_succ]
              refine wpAnyH_take (i := 8) (v := undef) rfl (by kernel_rfl) (by kernel_rfl) (by kernel_rfl) (fun _ _ _ h => h) (Or.inr ⟨by rfl, rfl⟩) (by assumption) ?_
              try simp only [Act.put, List.getElem_toArray, List.getElem_cons_succ, List.getElem_cons_zero, List.setIfInBounds_toArray, List.set_cons_zero, List.set_cons_succ]
              refine wpAnyH_take (i := 9) (v := undef) rfl (by kernel_rfl) (by kernel_rfl) (by kernel_rfl) (fun _ _ _ h => h) (Or.inr ⟨by rfl, rfl⟩) (by assumption) ?_
              try simp only [Act.put, List.getElem_toArray, List.getElem_cons_succ, List.getElem_cons_zero, List.setIfInBounds_toArray, List.set_cons_zero, List.set_cons_succ]
              refine wpAnyH_take (i := 10) (v := undef) rfl (by kernel_rfl) (by kernel_rfl) (by kernel_rfl) (fun _ _ _ h => h) (Or.inr ⟨by rfl, rfl⟩) (by assumption) ?_
              try simp only [Act.put, List.getElem_toArray, List.getElem_cons_succ, List.getElem_cons_zero, List.setIfInBounds_toArray, List.set_cons_zero, List.set_cons_succ]
              refine wpAnyH_take (i := 11) (v := undef) rfl (by kernel_rfl) (by kernel_rfl) (by kernel_rfl) (fun _ _ _ h => h) (Or.inr ⟨by rfl, rfl⟩) (by assumption) ?_
              try simp only [Act.put, List.getElem_toArray, List.getElem_cons_succ, List.getElem_cons_zero, List.setIfInBounds_toArray, List.set_cons_zero, List.set_cons_succ]
              refine wpAnyH_take (i := 12) (v := ?vz13) rfl (by kernel_rfl) (by kernel_rfl) (by kernel_rfl) (fun _ _ _ h => h) (Or.inl ⟨by rfl, ?hyz13⟩) (by assumption) ?restz13
              case hyz13 => (intro w hSw; (try dsimp only at hSw); go_simp; (try (first | with_reducible rfl | rw [if_neg (by omega)])))
              try simp only [Act.put, List.getElem_toArray, List.getElem_cons_succ, List.getElem_cons_zero, List.setIfInBounds_toArray, List.set_cons_zero, List.set_cons_succ]
              refine wpAnyH_take (i := 13) (v := ?vz14) rfl (by kernel_rfl) (by kernel_rfl) (by kernel_rfl) (fun _ _ _ h => h) (Or.inl ⟨by rfl, ?hyz14⟩) (by assumption) ?restz14
              case hyz14 => (intro w hSw; (try dsimp only at hSw); go_simp; (try (first | with_reducible rfl | rw [if_neg (by omega)])))
              try simp only [Act.put, List.getElem_toArray, List.getElem_cons_succ, List.getElem_cons_zero, List.setIfInBounds_toArray, List.set_cons_zero, List.set_cons_succ]
              refine wpAnyH_take (i := 14) (v := ?vz15) rfl (by kernel_rfl) (by kernel_rfl) (by kernel_rfl) (fun _ _ _ h => h) (Or.inl ⟨by rfl, ?hyz15⟩) (by assumption) ?restz15
              case hyz15 => (intro w hSw; (try dsimp only at hSw); go_simp; (try (first | with_reducible rfl | rw [if_neg (by omega)])))
              try simp only [Act.put, List.getElem_toArray, List.getElem_cons_succ, List.getElem_cons_zero, List.setIfInBounds_toArray, List.set_cons_zero, List.set_cons_succ]
              refine wpAnyH_take (i := 15) (v := ?vz16) rfl (by kernel_rfl) (by kernel_rfl) (by kernel_rfl) (fun _ _ _ h => h) (Or.inl ⟨by rfl, ?hyz16⟩) (by assumption) ?restz16
              case hyz16 => (intro w hSw; (try dsimp only at hSw); go_simp; (try (first | with_reducible rfl | rw [if_neg (by omega)])))
              try simp only [Act.put, List.getElem_toArray, List.getElem_cons_succ, List.getElem_cons_zero, List.setIfInBounds_toArray, List.set_cons_zero, List.set_cons_succ]
              refine wpAnyH_take (i := 16) (v := ?vz17) rfl (by kernel_rfl) (by kernel_rfl) (by kernel_rfl) (fun _ _ _ h => h) (Or.inl ⟨by rfl, ?hyz17⟩) (by assumption) ?restz17
              case hyz17 => (intro w hSw; (try dsimp only at hSw); go_simp; (try (first | with_reducible rfl | rw [if_neg (by omega)])))
              try simp only [Act.put, List.getElem_toArray, List.getElem_cons_succ, List.getElem_cons_zero, List.setIfInBounds_toArray, List.set_cons_zero, List.set_cons_succ]
              refine wpAnyH_ready (rs := [17]) (by kernel_rfl) (by simp) ?_
              refine AllReadyH.cons rfl (fun K hK => ?_) ?_
              · go_simp
                go_at_call 41
                refine (mayE_is k2 u2 o2 x2 a2 p2 m2 t2 true _ y1 y2 y3 H7).mono ?_
                rintro e wx ⟨rfl, hbx⟩
                refine hK.out _ _ (by (try dsimp only); (first | exact ⟨d0, d1, d2, d3, d4, d5, d6, d7⟩ | exact ⟨cell_below hbx d0, cell_below hbx d1, cell_below hbx d2, cell_below hbx d3, cell_below hbx d4, cell_below hbx d5, cell_below hbx d6, cell_below hbx d7⟩)) (fun hHeld => ?_)
                clear hK K
                try simp only [Act.put, List.getElem_toArray, List.getElem_cons_succ, List.getElem_cons_zero, List.setIfInBounds_toArray, List.set_cons_zero, List.set_cons_succ]
                refine wpAnyH_take (i := 18) (v := ?vz18) rfl (by kernel_rfl) (by kernel_rfl) (by kernel_rfl) (fun _ _ _ h => h) (Or.inl ⟨by rfl, ?hyz18⟩) (by assumption) ?restz18
                case hyz18 => (intro w hSw; (try dsimp only at hSw); go_simp; (try (first | with_reducible rfl | rw [if_neg (by omega)])))
                try simp only [Act.put, List.getElem_toArray, List.getElem_cons_succ, List.getElem_cons_zero, List.setIfInBounds_toArray, List.set_cons_zero, List.set_cons_succ]
                refine wpAnyH_take (i := 19) (v := ?vz19) rfl (by kernel_rfl) (by kernel_rfl) (by kernel_rfl) (fun _ _ _ h => h) (Or.inl ⟨by rfl, ?hyz19⟩) (by assumption) ?restz19
                case hyz19 => (intro w hSw; (try dsimp only at hSw); go_simp; (try (first | with_reducible rfl | rw [if_neg (by omega)])))
                try simp only [Act.put, List.getElem_toArray, List.getElem_cons_succ, List.getElem_cons_zero, List.setIfInBounds_toArray, List.set_cons_zero, List.set_cons_succ]
                refine wpAnyH_take (i := 20) (v := ?vz20) rfl (by kernel_rfl) (by kernel_rfl) (by kernel_rfl) (fun _ _ _ h => h) (Or.inl ⟨by rfl, ?hyz20⟩) (by assumption) ?restz20
                case hyz20 => (intro w hSw; (try dsimp only at hSw); go_simp; (try (first | with_reducible rfl | rw [if_neg (by omega)])))
                try simp only [Act.put, List.getElem_toArray, List.getElem_cons_succ, List.getElem_cons_zero, List.setIfInBounds_toArray, List.set_cons_zero, List.set_cons_succ]
                refine wpAnyH_done (by kernel_rfl) ?_ _
                have B6 := below_call (w1 := (w5.alloc (evC k2 u2 o2 x2 a2 p2 m2 t2)).drew) B5'.drew hbx
                clear hbx B5 B5' h5' d0 d1 d2 d3 d4 d5 d6 d7 dz
                go_wp2
                exact ⟨⟨i + 1, by go_num, by omega, by rw [HG2.out], B6⟩, by simp [intOf]; omega⟩
              exact AllReadyH.nil
            | false =>
              clear H6
              go_wp2_with fail
              go_quiet (fail)
              have B6 : Below w.heap.size w ((w5.alloc (evC k2 u2 o2 x2 a2 p2 m2 t2)).drewN nq) := below_drewN B5' _
              clear B5 B5' h5' d0 d1 d2 d3 d4 d5 d6 d7 dz
              go_wp2
              exact ⟨⟨i + 1, by go_num, by omega, by rw [HG2.out], B6⟩, by simp [intOf]; omega⟩
      · have hin : i = n := by omega
        subst hin
        have hall : (l.take i).all mayE = l.all mayE := by rw [List.take_of_length_le (by rw [EA.out]; exact Nat.le_refl _)]
        rw [hall]
        clear hall
        obtain ⟨⟨k0, u0, o0, x0, a0, p0, m0, t0⟩, f, hd⟩ : ∃ o f, decR s = (o, f) := ⟨_, _, rfl⟩
        obtain ⟨kl, g, hu⟩ : ∃ kl g, unbE s = (kl, g) := ⟨_, _, rfl⟩
        obtain ⟨q', e', hq⟩ : ∃ q e, encE ⟨k0, u0, o0, x0, a0, p0, m0, t0⟩ = (q, e) := ⟨_, _, rfl⟩
        obtain ⟨b', h', hb⟩ : ∃ b h, batchE kl = (b, h) := ⟨_, _, rfl⟩
        obtain ⟨y1, y2, y3⟩ := dec_may s _ f hd
        simp only at y1 y2 y3
        have HF : Hid ((f = 0 → q' = s) ∧ (g = 0 → b' = s ∧ h' = 0)) := by
          refine ⟨fun hf => ?_, fun hg => ?_⟩
          · subst hf
            have := (dec_enc s _ hd).2
            rw [hq] at this
            exact this
          · subst hg
            have := unb_text s kl hu
            rw [hb] at this
            injection this with i1 i2
            exact ⟨i1, i2⟩
        have HSK : SzE kl := fun e he => by
          obtain ⟨j1, j2, j3⟩ := may_sz e (unb_may s kl g hu e he)
          exact ⟨by omega, by omega, by omega⟩
        have HD := Lib.hid hd
        have HU := Lib.hid hu
        have HQ := Lib.hid hq
        have HB := Lib.hid hb
        have HSK' := Lib.hid HSK
        clear hd hu hq hb HSK
        have hlen100 : Hid (l.length ≤ 100) := by show _ ≤ _; have := HN.out; omega
        cases hgood : l.all mayE with
        | true =>
          obtain ⟨b, r1, r2, r3⟩ := back_good l hlen100.out hgood
          have r2' : b.size ≤ 4200 := by have := HN.out; omega
          have R1 := Lib.hid r1
          have R3 := Lib.hid r3
          clear r1 r2 r3 hgood
          go_wp2_with fail
          refine (batch_is i c A l b 0 _ (hl.below hB) HZ.out R1).mono ?_
          rintro e w2 ⟨rfl, b2⟩
          have B2 := below_call hB b2
          clear b2 hB
          go_wp2_with fail
          refine (unb_is b l 0 _ (by omega) R3).mono ?_
          rintro e w3 ⟨v3, rfl, ho, b3⟩
          have B3 := below_call B2 b3
          obtain ⟨A3, c3, hv3, _⟩ := ho.slice
          rw [← EA.out] at hv3
          subst hv3
          clear b3 B2
          go_wp2_with fail
          refine (sameE_calls i c3 i c A3 A l l _ ho.row (hl.below B3)).mono ?_
          rintro e w4 ⟨bs, rfl, hs, b4⟩
          obtain rfl : bs = true := hs.2 rfl
          have B9 := below_call B3 b4
          clear b4 B3 ho hs
          go_wp2_with fail
          refine (dec_is s ⟨k0, u0, o0, x0, a0, p0, m0, t0⟩ f _ (by omega) HD).mono ?_
          rintro e w10 ⟨rfl, b10⟩
          have B10 := below_alloc0 (below_call B9 b10) (evC k0 u0 o0 x0 a0 p0 m0 t0)
          have h10 := heap_alloc_new w10 (evC k0 u0 o0 x0 a0 p0 m0 t0)
          obtain ⟨d0, d1, d2, d3, d4, d5, d6, d7, dz⟩ := cells8 h10
          rw [show evV ⟨k0, u0, o0, x0, a0, p0, m0, t0⟩ = .agg #[.int .i64 k0, .string u0, .string o0, .int .i64 x0, .int .i64 a0, .int .i64 p0, .int .i64 m0, .string t0] from rfl]
          clear b10 B9
          go_wp2_with fail
          refine (enc_is k0 u0 o0 x0 a0 p0 m0 t0 q' e' _ (by omega) (by omega) (by omega) HQ).mono ?_
          rintro e w11 ⟨rfl, b11⟩
          have B11 := below_call B10 b11
          clear d0 d1 d2 d3 d4 d5 d6 d7 dz h10 B10 b11
          go_wp2_with fail
          refine (unb_is s kl g _ (by omega) HU).mono ?_
          rintro e w12 ⟨v12, rfl, ho12, b12⟩
          have B12 := below_call B11 b12
          obtain ⟨A12, c12, hv12, _⟩ := ho12.slice
          obtain ⟨N12, HN12⟩ : ∃ N, Hid (kl.length = N) := ⟨_, rfl⟩
          rw [HN12.out] at hv12
          subst hv12
          clear b12 B11
          go_wp2_with fail
          refine (batch_is N12 c12 A12 kl b' h' _ ho12.row HSK'.out HB).mono ?_
          rintro e w13 ⟨rfl, b13⟩
          have B13 := below_call B12 b13
          clear b13 B12 ho12
          by_cases hf : f = 0
          all_goals by_cases hg : g = 0
          all_goals (first | (have hq := HF.out.1 hf) | (have hf1 : (f == 0) = false := by simpa using hf) | skip)
          all_goals (first | (have hb := HF.out.2 hg) | (have hg1 : (g == 0) = false := by simpa using hg) | skip)
          all_goals clear HD HQ HU HB HF HSK'
          all_goals (try subst hf)
          all_goals (try subst hg)
          all_goals (try subst hq)
          all_goals (try (obtain ⟨rfl, rfl⟩ := hb))
          all_goals
            go_wp2_with fail
            refine (live23 _).mono ?_
            rintro e w14 ⟨rfl, b14⟩
            have B14 := below_call B13 b14
            clear b14 B13
            go_wp2
            go_ret
            exact ⟨rfl, B14⟩
        | false =>
          have R1 := Lib.hid (back_bad l hgood)
          have R3 := Lib.hid unb_empty
          clear hgood
          go_wp2_with fail
          refine (batch_is i c A l ⟨#[]⟩ 1 _ (hl.below hB) HZ.out R1).mono ?_
          rintro e w2 ⟨rfl, b2⟩
          have B2 := below_call hB b2
          clear b2 hB
          go_wp2_with fail
          refine (unb_is ⟨#[]⟩ [] 0 _ (by decide) R3).mono ?_
          rintro e w3 ⟨v3, rfl, ho, b3⟩
          have B9 := below_call B2 b3
          obtain ⟨A3, c3, rfl, _⟩ := ho.slice
          clear b3 B2 ho
          go_wp2_with fail
          refine (dec_is s ⟨k0, u0, o0, x0, a0, p0, m0, t0⟩ f _ (by omega) HD).mono ?_
          rintro e w10 ⟨rfl, b10⟩
          have B10 := below_alloc0 (below_call B9 b10) (evC k0 u0 o0 x0 a0 p0 m0 t0)
          have h10 := heap_alloc_new w10 (evC k0 u0 o0 x0 a0 p0 m0 t0)
          obtain ⟨d0, d1, d2, d3, d4, d5, d6, d7, dz⟩ := cells8 h10
          rw [show evV ⟨k0, u0, o0, x0, a0, p0, m0, t0⟩ = .agg #[.int .i64 k0, .string u0, .string o0, .int .i64 x0, .int .i64 a0, .int .i64 p0, .int .i64 m0, .string t0] from rfl]
          clear b10 B9
          go_wp2_with fail
          refine (enc_is k0 u0 o0 x0 a0 p0 m0 t0 q' e' _ (by omega) (by omega) (by omega) HQ).mono ?_
          rintro e w11 ⟨rfl, b11⟩
          have B11 := below_call B10 b11
          clear d0 d1 d2 d3 d4 d5 d6 d7 dz h10 B10 b11
          go_wp2_with fail
          refine (unb_is s kl g _ (by omega) HU).mono ?_
          rintro e w12 ⟨v12, rfl, ho12, b12⟩
          have B12 := below_call B11 b12
          obtain ⟨A12, c12, hv12, _⟩ := ho12.slice
          obtain ⟨N12, HN12⟩ : ∃ N, Hid (kl.length = N) := ⟨_, rfl⟩
          rw [HN12.out] at hv12
          subst hv12
          clear b12 B11
          go_wp2_with fail
          refine (batch_is N12 c12 A12 kl b' h' _ ho12.row HSK'.out HB).mono ?_
          rintro e w13 ⟨rfl, b13⟩
          have B13 := below_call B12 b13
          clear b13 B12 ho12
          by_cases hf : f = 0
          all_goals by_cases hg : g = 0
          all_goals (first | (have hq := HF.out.1 hf) | (have hf1 : (f == 0) = false := by simpa using hf) | skip)
          all_goals (first | (have hb := HF.out.2 hg) | (have hg1 : (g == 0) = false := by simpa using hg) | skip)
          all_goals clear HD HQ HU HB HF HSK'
          all_goals (try subst hf)
          all_goals (try subst hg)
          all_goals (try subst hq)
          all_goals (try (obtain ⟨rfl, rfl⟩ := hb))
          all_goals
            go_wp2_with fail
            refine (live23 _).mono ?_
            rintro e w14 ⟨rfl, b14⟩
            have B14 := below_call B13 b14
            clear b14 B13
            go_wp2
            go_ret
            exact ⟨rfl, B14⟩
end Go.Proofs.Ytobhlcogopcbdaa
