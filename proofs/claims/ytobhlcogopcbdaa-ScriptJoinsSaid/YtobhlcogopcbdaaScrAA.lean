/-
Plain: what was put is taken: numbers, texts, names, values.
Plain: what is encoded is decoded, what is batched unbatched, and the other way round.
Layer 23: the walk of ScriptReads.
Layer 23: the walk of ScriptBatches.
Layer 23: the walk of ScriptJoins.
-/
import Derived.Test.YtobhlcogopcbdaaScrF
import Derived.Test.YtobhlcogopcbdaaScrU
import Derived.Test.YtobhlcogopcbdaaScrV
set_option linter.unusedVariables false
set_option linter.unusedSimpArgs false
namespace Go.Proofs.Ytobhlcogopcbdaa
open Go.RowKit
open Sp
namespace Sp
theorem byte_of (n : Nat) (h : n < 256) : (UInt8.ofNat n).toNat = n := by simp; omega
theorem getL_put : ∀ (n i m : Nat) (rest : List UInt8), n * 128 ^ i < 18446744073709551616 → i ≤ 9 → (0 < i → 0 < n) → getL (putV n ++ rest) i m = some (some (m + n * 128 ^ i, i + (putV n).length)) := by
  intro n
  induction n using Nat.strongRecOn with
  | ind n ih =>
    intro i m rest hn hi h0
    by_cases hs : n < 128
    · rw [putV_small hs]
      simp only [List.cons_append, List.nil_append, getL, byte_of n (by omega), List.length_cons, List.length_nil]
      rw [if_neg, if_neg (by omega), if_neg (by omega), Nat.mod_eq_of_lt hs]
      rintro ⟨rfl, h1⟩
      omega
    · have hi9 : i < 9 := by
        rcases Nat.lt_or_ge i 9 with h | h
        · exact h
        · obtain rfl : i = 9 := by omega
          omega
      rw [putV_big (by omega)]
      simp only [List.cons_append, getL, byte_of (n % 128 + 128) (by omega), List.length_cons]
      have hp : n / 128 * 128 ^ (i + 1) + n % 128 * 128 ^ i = n * 128 ^ i := by
        rw [Nat.pow_succ, show n / 128 * (128 ^ i * 128) = (n / 128 * 128) * 128 ^ i by rw [Nat.mul_comm (128 ^ i) 128, Nat.mul_assoc], ← Nat.add_mul]
        congr 1; omega
      rw [if_neg (by omega), if_pos (by omega), ih (n / 128) (by omega) (i + 1) _ rest (by omega) (by omega) (by omega)]
      congr 3
      · rw [show (n % 128 + 128) % 128 = n % 128 by omega]; omega
      · omega
theorem getV_put (s : ByteArray) (a n : Nat) (rest : List UInt8) (h : s.data.toList.drop a = putV n ++ rest) (hn : n < 18446744073709551616) : getV s a = (n, (a : Int) + (putV n).length, 0) := by
  have ha : a ≤ s.size := by
    have h1 := congrArg List.length h
    have h2 := putV_len_pos n
    rw [List.length_drop, List.length_append, ← size_eq_length] at h1
    omega
  rw [getV_in s a ha, h, getL_put n 0 0 rest (by simpa using hn) (by omega) (by omega)]
  simp [getR]
theorem textV_list (t : ByteArray) : (textV t).data.toList = putV t.size ++ t.data.toList := rfl
theorem takeV_put (s : ByteArray) (a m : Nat) (t : ByteArray) (rest : List UInt8) (h : s.data.toList.drop a = (textV t).data.toList ++ rest) (hm : t.size ≤ m) (ht : t.size < 18446744073709551616) : takeV s a m = (t, (a : Int) + (textV t).size, 0) := by
  rw [textV_list, List.append_assoc] at h
  have hg := getV_put s a t.size _ h ht
  have hsz : (textV t).size = (putV t.size).length + t.size := by rw [size_eq_length, textV_list, List.length_append, ← size_eq_length]
  have hd : s.data.toList.drop (a + (putV t.size).length) = t.data.toList ++ rest := by rw [← List.drop_drop, h, List.drop_left]
  have hl : (a + (putV t.size).length) + t.size ≤ s.size := by
    have h1 := congrArg List.length hd
    have h2 := congrArg List.length h
    have h3 := putV_len_pos t.size
    rw [List.length_drop, List.length_append, ← size_eq_length, ← size_eq_length] at h1
    rw [List.length_drop, List.length_append, List.length_append, ← size_eq_length, ← size_eq_length] at h2
    omega
  rw [takeV_ok s a m t.size _ hg (by omega) (by omega)]
  have ht2 : ((a : Int) + ((putV t.size).length : Int)).toNat = a + (putV t.size).length := by omega
  rw [ht2, hsz]
  have he : s.extract (a + (putV t.size).length) (a + (putV t.size).length + t.size) = t := by
    rw [← toList_inj, ByteArray.data_extract, Array.toList_extract]
    have : List.extract s.data.toList (a + (putV t.size).length) (a + (putV t.size).length + t.size) = (s.data.toList.drop (a + (putV t.size).length)).take t.size := by simp [List.extract]
    rw [this, hd, size_eq_length, List.take_left]
  rw [he]
  simp only [Prod.mk.injEq, true_and, and_true]
  omega
theorem takeN_put (s : ByteArray) (a : Nat) (t : ByteArray) (rest : List UInt8) (h : s.data.toList.drop a = (textV t).data.toList ++ rest) (hm : t.size ≤ 16) (ht : isName t = true) : takeN s a = (t, (a : Int) + (textV t).size, 0) := by
  have h1 := takeV_put s a 16 t rest h hm (by omega)
  simp only [takeN]
  rw [show takeV s (a : Int) 16 = (t, (a : Int) + (textV t).size, 0) from h1]
  simp [ht]
theorem getD_drop (s : ByteArray) (a : Nat) (b : UInt8) (rest : List UInt8) (h : s.data.toList.drop a = b :: rest) : s.data.toList.getD a 0 = b := by
  have h1 : (s.data.toList.drop a)[0]? = some b := by rw [h]; rfl
  rw [List.getElem?_drop, Nat.add_zero] at h1
  rw [List.getD_eq_getElem?_getD, h1]; rfl
theorem takeVal_put (s : ByteArray) (a : Nat) (k p n : Int) (t : ByteArray) (rest : List UInt8) (hm : mayV k p n t = true) (h : s.data.toList.drop a = (putVal k p n t).1.data.toList ++ rest) : takeVal s a = ((k, p, n, t), (a : Int) + (putVal k p n t).1.size, 0) := by
  obtain ⟨m1, m2, m3, m4, m5, m6, m7, _⟩ := (mayV_iff k p n t).1 hm
  have hp : (putVal k p n t).1 = strOf (valL k p n) ++ strOf (putV n.toNat) ++ textV t := by unfold putVal; rw [if_pos hm]
  rw [hp] at h ⊢
  simp only [data_append, strOf_list, valL, List.append_assoc, List.cons_append, List.nil_append] at h
  have d1 : s.data.toList.drop (a + 1) = UInt8.ofNat (p + 128).toNat :: (putV n.toNat ++ ((textV t).data.toList ++ rest)) := by rw [← List.drop_drop, h]; rfl
  have d2 : s.data.toList.drop (a + 2) = putV n.toNat ++ ((textV t).data.toList ++ rest) := by rw [show a + 2 = (a + 1) + 1 by rfl, ← List.drop_drop, d1]; rfl
  have hg := getV_put s (a + 2) n.toNat _ d2 (by omega)
  have d3 : s.data.toList.drop (a + 2 + (putV n.toNat).length) = (textV t).data.toList ++ rest := by rw [← List.drop_drop, d2, List.drop_left]
  have ht := takeV_put s (a + 2 + (putV n.toNat).length) 32 t rest d3 (by omega) (by omega)
  have hl := congrArg List.length h
  have hpos := putV_len_pos n.toNat
  simp only [List.length_drop, List.length_cons, List.length_append, ← size_eq_length] at hl
  unfold takeVal
  rw [if_neg (by omega), if_neg (by omega)]
  rw [show ((a + 2 : Nat) : Int) = (a : Int) + 2 by omega] at hg
  rw [show ((a + 2 + (putV n.toNat).length : Nat) : Int) = (a : Int) + 2 + ((putV n.toNat).length : Int) by omega, show ((32 : Nat) : Int) = 32 from rfl] at ht
  simp only [hg, ht, Int.toNat_natCast]
  rw [getD_drop s a _ _ h, getD_drop s (a + 1) _ _ d1, byte_of k.toNat (by omega), byte_of (p + 128).toNat (by omega)]
  rw [show ((k.toNat : Nat) : Int) = k by omega, show (((p + 128).toNat : Nat) : Int) - 128 = p by omega, show ((n.toNat : Nat) : Int) = n by omega]
  rw [if_neg (by simp), if_neg (by simp), if_pos hm]
  simp only [Prod.mk.injEq, true_and, and_true, ByteArray.size_append, strOf_size, valL, List.length_cons, List.length_nil]
  omega
end Sp
end Go.Proofs.Ytobhlcogopcbdaa
set_option linter.unusedVariables false
set_option linter.unusedSimpArgs false
namespace Go.Proofs.Ytobhlcogopcbdaa
open Go.RowKit
open Sp
namespace Sp
theorem nil_of (t : ByteArray) (h : t.toList = []) : t = ⟨#[]⟩ := toList_inj.1 (show t.data.toList = [] by rw [← ByteArray.toList_eq]; exact h)
theorem mayE_split (e : Ev) (h : mayE e = true) : 1 ≤ e.k ∧ e.k ≤ 8 ∧ isName e.u = true ∧ (e.k ≤ 6 → isName e.o = true ∧ e.i = 0 ∧ e.v = zeroV) ∧ (6 < e.k → e.o = ⟨#[]⟩ ∧ 0 ≤ e.i ∧ e.i < 4) ∧ (e.k = 7 → mayV e.v.1 e.v.2.1 e.v.2.2.1 e.v.2.2.2 = true) ∧ (e.k = 8 → e.v = zeroV) := by
  obtain ⟨k, u, o, i, a, p, n, t⟩ := e
  have hz : isZ a p n t = true → (a, p, n, t) = zeroV := by
    intro hz
    unfold isZ at hz
    simp only [Bool.and_eq_true, decide_eq_true_eq] at hz
    obtain ⟨rfl, rfl, rfl, ht⟩ := hz
    have : t = ⟨#[]⟩ := nil_of t ht
    rw [this]; rfl
  unfold mayE mayE8 at h
  simp only at h ⊢
  split at h
  · cases h
  · rename_i h1
    have hu : isName u = true := by cases hn : isName u with | true => rfl | false => exact absurd (Or.inr (Or.inr hn)) h1
    have hk : 1 ≤ k ∧ k ≤ 8 := by omega
    split at h
    · rename_i h6
      simp only [Bool.and_eq_true, decide_eq_true_eq] at h
      exact ⟨hk.1, hk.2, hu, fun _ => ⟨h.1, h.2.1, hz h.2.2⟩, fun _ => by omega, fun _ => by omega, fun _ => by omega⟩
    · rename_i h6
      split at h
      · cases h
      · rename_i h7
        have ho : o = ⟨#[]⟩ := nil_of o (by
          by_cases h : o.toList = []
          · exact h
          · exact absurd (Or.inl h) h7)
        refine ⟨hk.1, hk.2, hu, fun _ => by omega, fun _ => ⟨ho, by omega, by omega⟩, fun e => ?_, fun e => ?_⟩
        · rw [if_pos e] at h; exact h
        · rw [if_neg (by omega)] at h; exact hz h
theorem byteAt_drop (s : ByteArray) (a : Nat) (k : Int) (rest : List UInt8) (h : s.data.toList.drop a = UInt8.ofNat k.toNat :: rest) (h0 : 0 ≤ k) (h1 : k < 256) : byteAt s a = k := by
  unfold byteAt
  rw [getD_drop s a _ _ h, byte_of k.toNat (by omega)]
  omega
theorem read_back (e : Ev) (h : mayE e = true) : readR (bodyE e) = e := by
  obtain ⟨k1, k8, hu, h6, h7, hv, h8⟩ := mayE_split e h
  obtain ⟨k, u, o, i, v⟩ := e
  simp only at k1 k8 hu h6 h7 hv h8
  have hus := ((isName_iff u).1 hu).2.1
  generalize hb : bodyE ⟨k, u, o, i, v⟩ = b
  have hl : ∃ rest, b.data.toList = UInt8.ofNat k.toNat :: ((textV u).data.toList ++ rest) ∧ (k ≤ 6 → rest = (textV o).data.toList) ∧ (k = 7 → rest = UInt8.ofNat i.toNat :: (putVal v.1 v.2.1 v.2.2.1 v.2.2.2).1.data.toList) ∧ (k = 8 → rest = [UInt8.ofNat i.toNat]) := by
    rw [← hb]
    unfold bodyE
    simp only
    by_cases c6 : k ≤ 6
    · rw [if_pos c6]
      exact ⟨(textV o).data.toList, by simp only [data_append, strOf_list]; simp, fun _ => rfl, fun _ => by omega, fun _ => by omega⟩
    · rw [if_neg c6]
      by_cases c7 : k = 7
      · rw [if_pos c7]
        exact ⟨UInt8.ofNat i.toNat :: (putVal v.1 v.2.1 v.2.2.1 v.2.2.2).1.data.toList, by simp only [data_append, strOf_list]; simp, fun _ => by omega, fun _ => rfl, fun _ => by omega⟩
      · rw [if_neg c7]
        exact ⟨[UInt8.ofNat i.toNat], by simp only [data_append, strOf_list]; simp, fun _ => by omega, fun _ => by omega, fun _ => rfl⟩
  obtain ⟨rest, hd, r6, r7, r8⟩ := hl
  have hd0 : b.data.toList.drop 0 = UInt8.ofNat k.toNat :: ((textV u).data.toList ++ rest) := hd
  have hb0 := byteAt_drop b 0 k _ hd0 (by omega) (by omega)
  have hd1 : b.data.toList.drop 1 = (textV u).data.toList ++ rest := by rw [hd]; rfl
  have hn := takeN_put b 1 u rest hd1 hus hu
  have hd2 : b.data.toList.drop (1 + (textV u).size) = rest := by rw [← List.drop_drop, hd1, size_eq_length, List.drop_left]
  have hne : ¬ b.toList = [] := by
    rw [ByteArray.toList_eq, hd]; simp
  have hto : ((1 : Nat) : Int) + ((textV u).size : Int) = ((1 + (textV u).size : Nat) : Int) := by omega
  rw [hto] at hn
  unfold readR
  rw [if_neg hne]
  simp only [show takeN b (1 : Int) = (u, ((1 + (textV u).size : Nat) : Int), 0) from hn, hb0]
  rw [if_neg (by simp)]
  by_cases c6 : k ≤ 6
  · rw [if_pos c6]
    obtain ⟨ho, hi, hz⟩ := h6 c6
    have hos := ((isName_iff o).1 ho).2.1
    have h2 := takeN_put b (1 + (textV u).size) o [] (by rw [hd2, r6 c6, List.append_nil]) hos ho
    rw [h2, hi, hz]
  · rw [if_neg c6]
    obtain ⟨ho, hi0, hi4⟩ := h7 (by omega)
    have hx : ∃ more, rest = UInt8.ofNat i.toNat :: more := by
      by_cases c7 : k = 7
      · exact ⟨_, r7 c7⟩
      · exact ⟨_, r8 (by omega)⟩
    obtain ⟨more, hmore⟩ := hx
    have hsz : 1 + (textV u).size < b.size := by
      have := congrArg List.length hd2
      rw [hmore, List.length_drop, List.length_cons, ← size_eq_length] at this
      omega
    have hbi := byteAt_drop b (1 + (textV u).size) i more (by rw [hd2, hmore]) hi0 (by omega)
    rw [if_neg (by omega), Int.toNat_natCast, hbi, ho]
    by_cases c7 : k = 7
    · rw [if_pos c7]
      obtain ⟨va, vp, vn, vt⟩ := v
      have h3 : b.data.toList.drop (1 + (textV u).size + 1) = (putVal va vp vn vt).1.data.toList ++ [] := by
        rw [← List.drop_drop, hd2, r7 c7, List.append_nil]; rfl
      have h4 := takeVal_put b (1 + (textV u).size + 1) va vp vn vt [] (hv c7) h3
      rw [show (((1 + (textV u).size : Nat) : Int) + 1) = ((1 + (textV u).size + 1 : Nat) : Int) by omega, h4]
    · rw [if_neg c7, h8 (by omega)]
theorem open_back (b : ByteArray) : openS (sealS b) = (b, 0) := by
  have hz := sealS_size b
  have he : (sealS b).extract 0 ((sealS b).size - 4) = b := by
    rw [← toList_inj, ByteArray.data_extract, Array.toList_extract]
    have : List.extract (sealS b).data.toList 0 ((sealS b).size - 4) = (sealS b).data.toList.take b.size := by rw [hz]; simp [List.extract]
    rw [this]
    unfold sealS
    rw [data_append, size_eq_length, List.take_left]
  unfold openS
  rw [he, if_neg (by omega), if_pos rfl]
theorem dec_back (e : Ev) (h : mayE e = true) : decR (encE e).1 = (e, 0) := by
  have hb := encE_body e h
  unfold decR
  rw [hb]
  simp only [open_back, read_back e h, hb]
  simp
theorem dec_enc (t : ByteArray) (e : Ev) (h : decR t = (e, 0)) : mayE e = true ∧ (encE e).1 = t := by
  unfold decR at h
  split at h
  · rename_i h1
    simp only [Prod.mk.injEq] at h
    exact absurd h.2 h1
  · split at h
    · simp at h
    · rename_i h2
      simp only [Prod.mk.injEq, and_true] at h
      rw [h] at h2
      constructor
      · cases hm : mayE e with
        | true => rfl
        | false => rw [encE_no e hm] at h2; exact absurd (Or.inl (by decide)) h2
      · by_cases h3 : (encE e).1.toList = t.toList
        · exact toList_inj'.1 h3
        · exact absurd (Or.inr h3) h2
theorem unbL_put (s : ByteArray) : ∀ (l : List Ev) (f a : Nat) (acc : List Ev), (∀ e ∈ l, mayE e = true) → s.data.toList.drop a = l.flatMap txE → a ≤ s.size → s.size < f + a → unbL s f a acc = some (acc ++ l)
  | [], f, a, acc, hm, hd, ha, hf => by
    have hl := congrArg List.length hd
    rw [List.length_drop, ← size_eq_length] at hl
    have : s.size - a = 0 := hl
    obtain ⟨f, rfl⟩ : ∃ g, f = g + 1 := ⟨f - 1, by omega⟩
    rw [unbL_end s f a acc (by omega), List.append_nil]
  | e :: l, f, a, acc, hm, hd, ha, hf => by
    have he := hm e (List.mem_cons_self ..)
    rw [List.flatMap_cons] at hd
    obtain ⟨_, z⟩ := encE_yes e he
    have hd' : s.data.toList.drop a = (textV (encE e).1).data.toList ++ l.flatMap txE := hd
    have ht := takeV_put s a 300 (encE e).1 _ hd' (by omega) (by omega)
    have hl := congrArg List.length hd'
    have hp := putV_len_pos (encE e).1.size
    have hz : (textV (encE e).1).size = (putV (encE e).1.size).length + (encE e).1.size := by rw [size_eq_length, textV_list, List.length_append, ← size_eq_length]
    rw [List.length_drop, List.length_append, ← size_eq_length, ← size_eq_length] at hl
    obtain ⟨f, rfl⟩ : ∃ g, f = g + 1 := ⟨f - 1, by omega⟩
    rw [unbL_yes s f a acc (encE e).1 _ e (by omega) ht (dec_back e he)]
    rw [show (a : Int) + ((textV (encE e).1).size : Int) = ((a + (textV (encE e).1).size : Nat) : Int) by omega]
    rw [unbL_put s l f _ _ (fun x hx => hm x (List.mem_cons_of_mem _ hx)) (by rw [← List.drop_drop, hd', size_eq_length, List.drop_left]) (by omega) (by omega)]
    rw [List.append_assoc]; rfl
theorem unb_back (l : List Ev) (hl : l.length ≤ 100) (hm : ∀ e ∈ l, mayE e = true) : unbE (strOf (l.flatMap txE)) = (l, 0) := by
  unfold unbE
  have := unbL_put (strOf (l.flatMap txE)) l ((strOf (l.flatMap txE)).size + 1) 0 [] hm (by rw [List.drop_zero, strOf_list]) (by omega) (by omega)
  rw [show ((0 : Nat) : Int) = 0 from rfl, List.nil_append] at this
  rw [this]
  unfold cutU
  simp only
  rw [if_neg (by omega)]
theorem unbL_text (s : ByteArray) : ∀ (f a : Nat) (acc r : List Ev), unbL s f a acc = some r → a ≤ s.size → ∃ l, r = acc ++ l ∧ s.data.toList.drop a = l.flatMap txE ∧ ∀ e ∈ l, mayE e = true
  | 0, a, acc, r, h, _ => by simp [unbL] at h
  | f + 1, a, acc, r, h, ha => by
    by_cases hge : (s.size : Int) ≤ (a : Int)
    · rw [unbL_end s f a acc hge] at h
      injection h with h
      refine ⟨[], by rw [List.append_nil]; exact h.symm, ?_, by simp⟩
      rw [List.drop_eq_nil_of_le (by rw [← size_eq_length]; omega)]; rfl
    · obtain ⟨t, to, et, ht⟩ : ∃ t to et, takeV s a 300 = (t, to, et) := ⟨_, _, _, rfl⟩
      by_cases het : et = 0
      · subst het
        obtain ⟨e, ed, hd⟩ : ∃ e ed, decR t = (e, ed) := ⟨_, _, rfl⟩
        by_cases hed : ed = 0
        · subst hed
          obtain ⟨_, t2, t3, t4⟩ := takeV_on s a 300 t to ht
          obtain ⟨p, rfl⟩ := Int.eq_ofNat_of_zero_le (show 0 ≤ to by omega)
          rw [unbL_yes s f a acc t p e hge ht hd] at h
          obtain ⟨l, h1, h2, h3⟩ := unbL_text s f p _ r h (by omega)
          obtain ⟨e1, e2⟩ := dec_enc t e hd
          obtain ⟨x1, x2⟩ := takeV_text s a 300 t p ht
          rw [Int.toNat_natCast, Int.toNat_natCast] at x1
          refine ⟨e :: l, by rw [h1, List.append_assoc]; rfl, ?_, fun x hx => ?_⟩
          · rw [x1, h2, List.flatMap_cons]
            unfold txE
            rw [e2]
          · rcases List.mem_cons.1 hx with rfl | hx
            · exact e1
            · exact h3 x hx
        · rw [unbL_no s f a acc t to e ed hge ht hd hed] at h; cases h
      · rw [unbL_bad s f a acc t to et hge ht het] at h; cases h
theorem unb_text (s : ByteArray) (l : List Ev) (h : unbE s = (l, 0)) : batchE l = (s, 0) := by
  unfold unbE at h
  cases hu : unbL s (s.size + 1) 0 [] with
  | none => rw [hu] at h; simp [cutU] at h
  | some r =>
    rw [hu] at h
    unfold cutU at h
    simp only at h
    split at h
    · simp at h
    · rename_i hlen
      simp only [Prod.mk.injEq, and_true] at h
      subst h
      obtain ⟨l, h1, h2, h3⟩ := unbL_text s (s.size + 1) 0 [] r hu (by omega)
      rw [List.nil_append] at h1
      subst h1
      unfold batchE
      rw [if_neg hlen, if_pos (List.all_eq_true.2 h3)]
      rw [List.drop_zero] at h2
      rw [← h2]
      simp only [Prod.mk.injEq, and_true]
      exact toList_inj.1 (strOf_list _)
end Sp
end Go.Proofs.Ytobhlcogopcbdaa
set_option linter.unusedVariables false
set_option linter.unusedSimpArgs false
namespace Go.Proofs.Ytobhlcogopcbdaa
open Go.RowKit
open Sp
theorem eq_self (k : Int) (u o : ByteArray) (x a p q : Int) (t : ByteArray) (W : World) :
    (binOp .eql 44 (.agg #[.int .i64 k, .string u, .string o, .int .i64 x, .int .i64 a, .int .i64 p, .int .i64 q, .string t]) (.agg #[.int .i64 k, .string u, .string o, .int .i64 x, .int .i64 a, .int .i64 p, .int .i64 q, .string t])).run Try.prog W =
      .ok (.bool true) W := by simp [go_sem]
theorem refSeal_is (s t : ByteArray) (w : World) (hs : s.size ≤ 140737488351232) (h : Hid (sealS s = t)) :
    Calls Try.prog 33 #[.string s] w fun e w' => e = .returned (.string t) ∧ Below w.heap.size w w' := by
  have := refSeal_calls s w hs
  rwa [h.out] at this
theorem unb_is (s : ByteArray) (l : List Ev) (er : Int) (w : World) (hs : s.size ≤ 1048576) (h : Hid (unbE s = (l, er))) :
    Calls Try.prog 34 #[.string s] w fun e w' => ∃ v, e = .returned (.tuple #[v, .int .i64 er]) ∧ Own enE 8 44 w' w.heap.size v l ∧ Below w.heap.size w w' := by
  have := unb_calls s w hs
  rwa [h.out] at this
theorem refUnb_is (s : ByteArray) (l : List Ev) (er : Int) (w : World) (hs : s.size ≤ 1048576) (h : Hid (unbE s = (l, er))) :
    Calls Try.prog 35 #[.string s] w fun e w' => ∃ v, e = .returned (.tuple #[v, .int .i64 er]) ∧ Own enE 8 44 w' w.heap.size v l ∧ Below w.heap.size w w' := by
  have := refUnb_calls s w hs
  rwa [h.out] at this
set_option maxHeartbeats 8000000 in
set_option maxRecDepth 100000 in
theorem reads_small (s : ByteArray) (w : World) (hs : s.size ≤ 1500) (q : ByteArray) (hq : q.size ≤ 1504) (k1 : Int) (u1 o1 : ByteArray) (i1 a1 p1 n1 : Int) (t1 : ByteArray) (e1 : Int) (k2 : Int) (u2 o2 : ByteArray) (i2 a2 p2 n2 : Int) (t2 : ByteArray) (e2 : Int) (l : List Ev) (e3 : Int)
    (HQ : Hid (sealS s = q)) (HD1 : Hid (decR s = (⟨k1, u1, o1, i1, a1, p1, n1, t1⟩, e1))) (HD2 : Hid (decR q = (⟨k2, u2, o2, i2, a2, p2, n2, t2⟩, e2))) (HU : Hid (unbE s = (l, e3))) :
    Calls Try.prog 10 #[.string s] w fun e w' => e = .returned (.bool true) ∧ Below w.heap.size w w' := by
  go_enter Try.func10, Try.ntmps10
  go_wp2_with fail
  refine (dec_is s ⟨k1, u1, o1, i1, a1, p1, n1, t1⟩ e1 _ (by omega) HD1).mono ?_
  rintro e w1 ⟨rfl, b1⟩
  have B1 := below_call (Below.refl w.heap.size w) b1
  clear b1
  unfold evV
  go_wp2_with fail
  refine (refDec_is s ⟨k1, u1, o1, i1, a1, p1, n1, t1⟩ e1 _ (by omega) HD1).mono ?_
  rintro e w2 ⟨rfl, b2⟩
  have B2 := below_call (below_alloc0 B1 _) b2
  have hp2 : w2.heap[w1.heap.size]? = some (.cells #[.int .i64 k1, .string u1, .string o1, .int .i64 i1, .int .i64 a1, .int .i64 p1, .int .i64 n1, .string t1] 44) := hcall (heap_alloc_new w1 (.cells #[.int .i64 k1, .string u1, .string o1, .int .i64 i1, .int .i64 a1, .int .i64 p1, .int .i64 n1, .string t1] 44)) b2
  clear b2 B1
  unfold evV
  go_wp2_with fail
  refine (refSeal_is s q _ (by omega) HQ).mono ?_
  rintro e w3 ⟨rfl, b3⟩
  have B3 := below_call (below_alloc0 B2 _) b3
  have hp3 : w3.heap[w1.heap.size]? = some (.cells #[.int .i64 k1, .string u1, .string o1, .int .i64 i1, .int .i64 a1, .int .i64 p1, .int .i64 n1, .string t1] 44) := hcall (halloc (hp2) _) b3
  have hq3 : w3.heap[w2.heap.size]? = some (.cells #[.int .i64 k1, .string u1, .string o1, .int .i64 i1, .int .i64 a1, .int .i64 p1, .int .i64 n1, .string t1] 44) := hcall (heap_alloc_new w2 (.cells #[.int .i64 k1, .string u1, .string o1, .int .i64 i1, .int .i64 a1, .int .i64 p1, .int .i64 n1, .string t1] 44)) b3
  clear b3 B2 hp2
  go_wp2_with fail
  refine (dec_is q ⟨k2, u2, o2, i2, a2, p2, n2, t2⟩ e2 _ (by omega) HD2).mono ?_
  rintro e w4 ⟨rfl, b4⟩
  have B4 := below_call B3 b4
  have hp4 : w4.heap[w1.heap.size]? = some (.cells #[.int .i64 k1, .string u1, .string o1, .int .i64 i1, .int .i64 a1, .int .i64 p1, .int .i64 n1, .string t1] 44) := hcall (hp3) b4
  have hq4 : w4.heap[w2.heap.size]? = some (.cells #[.int .i64 k1, .string u1, .string o1, .int .i64 i1, .int .i64 a1, .int .i64 p1, .int .i64 n1, .string t1] 44) := hcall (hq3) b4
  clear b4 B3 hp3 hq3
  unfold evV
  go_wp2_with fail
  refine (refDec_is q ⟨k2, u2, o2, i2, a2, p2, n2, t2⟩ e2 _ (by omega) HD2).mono ?_
  rintro e w5 ⟨rfl, b5⟩
  have B5 := below_call (below_alloc0 B4 _) b5
  have hp5 : w5.heap[w1.heap.size]? = some (.cells #[.int .i64 k1, .string u1, .string o1, .int .i64 i1, .int .i64 a1, .int .i64 p1, .int .i64 n1, .string t1] 44) := hcall (halloc (hp4) _) b5
  have hq5 : w5.heap[w2.heap.size]? = some (.cells #[.int .i64 k1, .string u1, .string o1, .int .i64 i1, .int .i64 a1, .int .i64 p1, .int .i64 n1, .string t1] 44) := hcall (halloc (hq4) _) b5
  have hr5 : w5.heap[w4.heap.size]? = some (.cells #[.int .i64 k2, .string u2, .string o2, .int .i64 i2, .int .i64 a2, .int .i64 p2, .int .i64 n2, .string t2] 44) := hcall (heap_alloc_new w4 (.cells #[.int .i64 k2, .string u2, .string o2, .int .i64 i2, .int .i64 a2, .int .i64 p2, .int .i64 n2, .string t2] 44)) b5
  clear b5 B4 hp4 hq4
  unfold evV
  go_wp2_with fail
  refine (unb_is s l e3 _ (by omega) HU).mono ?_
  rintro e w6 ⟨v1, rfl, ho1, b6⟩
  have B6 := below_call (below_alloc0 B5 _) b6
  have hp6 : w6.heap[w1.heap.size]? = some (.cells #[.int .i64 k1, .string u1, .string o1, .int .i64 i1, .int .i64 a1, .int .i64 p1, .int .i64 n1, .string t1] 44) := hcall (halloc (hp5) _) b6
  have hq6 : w6.heap[w2.heap.size]? = some (.cells #[.int .i64 k1, .string u1, .string o1, .int .i64 i1, .int .i64 a1, .int .i64 p1, .int .i64 n1, .string t1] 44) := hcall (halloc (hq5) _) b6
  have hr6 : w6.heap[w4.heap.size]? = some (.cells #[.int .i64 k2, .string u2, .string o2, .int .i64 i2, .int .i64 a2, .int .i64 p2, .int .i64 n2, .string t2] 44) := hcall (halloc (hr5) _) b6
  have hs6 : w6.heap[w5.heap.size]? = some (.cells #[.int .i64 k2, .string u2, .string o2, .int .i64 i2, .int .i64 a2, .int .i64 p2, .int .i64 n2, .string t2] 44) := hcall (heap_alloc_new w5 (.cells #[.int .i64 k2, .string u2, .string o2, .int .i64 i2, .int .i64 a2, .int .i64 p2, .int .i64 n2, .string t2] 44)) b6
  clear b6 B5 hp5 hq5 hr5
  obtain ⟨A1, m1, cc1, rfl⟩ : ∃ A m c, v1 = .slice A m c := by obtain ⟨A, c, rfl, _⟩ := ho1.slice; exact ⟨_, _, _, rfl⟩
  have hl1 := ho1.row
  clear ho1
  go_wp2_with fail
  refine (refUnb_is s l e3 _ (by omega) HU).mono ?_
  rintro e w7 ⟨v2, rfl, ho2, b7⟩
  have B7 := below_call B6 b7
  have hp7 : w7.heap[w1.heap.size]? = some (.cells #[.int .i64 k1, .string u1, .string o1, .int .i64 i1, .int .i64 a1, .int .i64 p1, .int .i64 n1, .string t1] 44) := hcall (hp6) b7
  have hq7 : w7.heap[w2.heap.size]? = some (.cells #[.int .i64 k1, .string u1, .string o1, .int .i64 i1, .int .i64 a1, .int .i64 p1, .int .i64 n1, .string t1] 44) := hcall (hq6) b7
  have hr7 : w7.heap[w4.heap.size]? = some (.cells #[.int .i64 k2, .string u2, .string o2, .int .i64 i2, .int .i64 a2, .int .i64 p2, .int .i64 n2, .string t2] 44) := hcall (hr6) b7
  have hs7 : w7.heap[w5.heap.size]? = some (.cells #[.int .i64 k2, .string u2, .string o2, .int .i64 i2, .int .i64 a2, .int .i64 p2, .int .i64 n2, .string t2] 44) := hcall (hs6) b7
  have hl1' := hl1.below b7
  clear b7 B6 hp6 hq6 hr6 hs6
  obtain ⟨A2, m2, cc2, rfl⟩ : ∃ A m c, v2 = .slice A m c := by obtain ⟨A, c, rfl, _⟩ := ho2.slice; exact ⟨_, _, _, rfl⟩
  have hl2 := ho2.row
  clear ho2 hl1
  obtain ⟨chp0, chp1, chp2, chp3, chp4, chp5, chp6, chp7, zhp⟩ := cells8 hp7
  obtain ⟨chq0, chq1, chq2, chq3, chq4, chq5, chq6, chq7, zhq⟩ := cells8 hq7
  obtain ⟨chr0, chr1, chr2, chr3, chr4, chr5, chr6, chr7, zhr⟩ := cells8 hr7
  obtain ⟨chs0, chs1, chs2, chs3, chs4, chs5, chs6, chs7, zhs⟩ := cells8 hs7
  have EQ1 := eq_self k1 u1 o1 i1 a1 p1 n1 t1
  have EQ2 := eq_self k2 u2 o2 i2 a2 p2 n2 t2
  go_wp2_with fail
  refine (sameE_calls m1 cc1 m2 cc2 _ _ l l _ hl1' hl2).mono ?_
  rintro e w8 ⟨bs, rfl, hs, b8⟩
  have B8 := below_call B7 b8
  obtain rfl : bs = true := hs.2 rfl
  clear hs hl1' hl2
  clear b8 B7
  go_wp2_with fail
  refine (live23 _).mono ?_
  rintro e w9 ⟨rfl, b9⟩
  have B9 := below_call B8 b9
  go_wp2
  go_ret
  exact ⟨rfl, B9⟩
set_option maxRecDepth 100000 in
theorem reads_walk (s : ByteArray) (w : World) (hs : s.size ≤ 9223372036854775807) : Calls Try.prog 10 #[.string s] w fun e w' => e = .returned (.bool true) ∧ Below w.heap.size w w' := by
  by_cases h : s.size ≤ 1500
  · obtain ⟨⟨k1, u1, o1, i1, a1, p1, n1, t1⟩, e1, h1⟩ : ∃ f e, decR s = (f, e) := ⟨_, _, rfl⟩
    obtain ⟨⟨k2, u2, o2, i2, a2, p2, n2, t2⟩, e2, h2⟩ : ∃ f e, decR (sealS s) = (f, e) := ⟨_, _, rfl⟩
    obtain ⟨l, e3, h3⟩ : ∃ f e, unbE s = (f, e) := ⟨_, _, rfl⟩
    exact reads_small s w h (sealS s) (by rw [sealS_size]; omega) k1 u1 o1 i1 a1 p1 n1 t1 e1 k2 u2 o2 i2 a2 p2 n2 t2 e2 l e3 rfl h1 h2 h3
  · have hb : (1500 : Int) < s.size := by omega
    clear h
    go_enter Try.func10, Try.ntmps10
    go_wp2_with fail
    refine (live23 _).mono ?_
    rintro e w1 ⟨rfl, b1⟩
    go_wp2
    go_ret
    exact ⟨rfl, b1⟩
end Go.Proofs.Ytobhlcogopcbdaa
set_option linter.unusedVariables false
set_option linter.unusedSimpArgs false
namespace Go.Proofs.Ytobhlcogopcbdaa
open Go.RowKit
open Sp
theorem eventsE_sz (l : List Ev) (m : Int) (h : eventsE l m = true) : SzE l := by
  intro e he
  unfold eventsE at h
  rw [Bool.and_eq_true, List.all_eq_true] at h
  have := h.2 e he
  unfold shortE at this
  simp only [Bool.and_eq_true, decide_eq_true_eq] at this
  omega
theorem events_is (n c : Nat) (A : Option Addr) (l : List Ev) (most : Int) (b : Bool) (w : World) (hl : Row enE 8 w (.slice A n c) l) (hz : ∀ e ∈ l, e.u.size ≤ 9223372036854775807 ∧ e.o.size ≤ 9223372036854775807 ∧ e.v.2.2.2.size ≤ 9223372036854775807) (h : Hid (eventsE l most = b)) :
    Calls Try.prog 37 #[.slice A n c, .int .i64 most] w fun e w' => e = .returned (.bool b) ∧ Below w.heap.size w w' := by
  have := events_calls n c A l most w hl hz
  rwa [h.out] at this
theorem batch_is (n c : Nat) (A : Option Addr) (l : List Ev) (t : ByteArray) (er : Int) (w : World) (hl : Row enE 8 w (.slice A n c) l) (hz : SzE l) (h : Hid (batchE l = (t, er))) :
    Calls Try.prog 38 #[.slice A n c] w fun e w' => e = .returned (.tuple #[.string t, .int .i64 er]) ∧ Below w.heap.size w w' := by
  have := batch_calls n c A l w hl hz
  rwa [h.out] at this
theorem refBatch_is (n c : Nat) (A : Option Addr) (l : List Ev) (t : ByteArray) (er : Int) (w : World) (hl : Row enE 8 w (.slice A n c) l) (hz : SzE l) (h : Hid (batchE l = (t, er))) :
    Calls Try.prog 39 #[.slice A n c] w fun e w' => e = .returned (.tuple #[.string t, .int .i64 er]) ∧ Below w.heap.size w w' := by
  have := refBatch_calls n c A l w hl hz
  rwa [h.out] at this
set_option maxHeartbeats 4000000 in
set_option maxRecDepth 100000 in
theorem batches_walk (n c : Nat) (A : Option Addr) (l : List Ev) (w : World) (hl : Row enE 8 w (.slice A n c) l) (hz : ∀ e ∈ l, e.u.size ≤ 9223372036854775807 ∧ e.o.size ≤ 9223372036854775807 ∧ e.v.2.2.2.size ≤ 9223372036854775807) :
    Calls Try.prog 11 #[.slice A n c] w fun e w' => e = .returned (.bool true) ∧ Below w.heap.size w w' := by
  cases h : eventsE l 110 with
  | false =>
    have H := Lib.hid h
    clear h
    go_enter Try.func11, Try.ntmps11
    go_wp2_with fail
    refine (events_is n c A l 110 false _ hl hz H).mono ?_
    rintro e w1 ⟨rfl, b1⟩
    go_wp2_with fail
    refine (live23 _).mono ?_
    rintro e w2 ⟨rfl, b2⟩
    have B2 := below_call b1 b2
    clear b1 b2
    go_wp2
    go_ret
    exact ⟨rfl, B2⟩
  | true =>
    have hs := eventsE_sz l 110 h
    have H := Lib.hid h
    obtain ⟨t, er, hb⟩ : ∃ t er, batchE l = (t, er) := ⟨_, _, rfl⟩
    have HB := Lib.hid hb
    clear h hb
    go_enter Try.func11, Try.ntmps11
    go_wp2_with fail
    refine (events_is n c A l 110 true _ hl hz H).mono ?_
    rintro e w1 ⟨rfl, b1⟩
    go_wp2_with fail
    refine (batch_is n c A l t er _ (hl.below b1) hs HB).mono ?_
    rintro e w2 ⟨rfl, b2⟩
    have B2 := below_call b1 b2
    clear b1 b2
    go_wp2_with fail
    refine (refBatch_is n c A l t er _ (hl.below B2) hs HB).mono ?_
    rintro e w3 ⟨rfl, b3⟩
    have B3 := below_call B2 b3
    clear B2 b3
    go_wp2_with fail
    refine (live23 _).mono ?_
    rintro e w4 ⟨rfl, b4⟩
    have B4 := below_call B3 b4
    clear B3 b4
    go_wp2
    go_ret
    exact ⟨rfl, B4⟩
end Go.Proofs.Ytobhlcogopcbdaa
set_option linter.unusedVariables false
set_option linter.unusedSimpArgs false
namespace Go.Proofs.Ytobhlcogopcbdaa
open Go.RowKit
open Sp
namespace Sp
theorem batch_all (l : List Ev) (hl : l.length ≤ 100) (h : ∀ e ∈ l, mayE e = true) : batchE l = (strOf (l.flatMap txE), 0) := by
  unfold batchE
  rw [if_neg (by omega), if_pos (List.all_eq_true.2 h)]
theorem batch_none (l : List Ev) (h : ¬ ∀ e ∈ l, mayE e = true) : batchE l = (⟨#[]⟩, 1) := by
  unfold batchE
  split
  · rfl
  · rw [if_neg (fun h' => h (List.all_eq_true.1 h'))]
theorem flat_sz : ∀ (l : List Ev), (∀ e ∈ l, mayE e = true) → (l.flatMap txE).length ≤ 140 * l.length
  | [], _ => by simp
  | e :: l, h => by
    have h1 := txE_len e (h e (List.mem_cons_self ..))
    have h2 := flat_sz l (fun x hx => h x (List.mem_cons_of_mem _ hx))
    rw [List.flatMap_cons, List.length_append, List.length_cons]
    omega
theorem flat_join (l m : List Ev) : strOf ((l ++ m).flatMap txE) = strOf (l.flatMap txE) ++ strOf (m.flatMap txE) := by
  rw [← toList_inj, data_append, strOf_list, strOf_list, strOf_list, List.flatMap_append]
theorem join_plain (l l2 : List Ev) (hn : (l.length : Int) ≤ 40) (hn2 : (l2.length : Int) ≤ 40) (a b q : ByteArray) (ea eb eq : Int) (ha : batchE l = (a, ea)) (hb : batchE l2 = (b, eb)) (hq : batchE (l ++ l2) = (q, eq)) :
    (ea = 0 ∧ eb = 0 ∧ eq = 0 ∧ q = a ++ b ∧ a.size ≤ 6000 ∧ b.size ≤ 6000 ∧ unbE (a ++ b) = (l ++ l2, 0)) ∨ ((ea ≠ 0 ∨ eb ≠ 0) ∧ eq = 1 ∧ q = ⟨#[]⟩ ∧ (ea = 0 ∨ ea = 1) ∧ (eb = 0 ∨ eb = 1)) := by
  by_cases k1 : ∀ e ∈ l, mayE e = true
  · by_cases k2 : ∀ e ∈ l2, mayE e = true
    · have k3 : ∀ e ∈ l ++ l2, mayE e = true := fun e he => (List.mem_append.1 he).elim (k1 e) (k2 e)
      have z1 := flat_sz l k1
      have z2 := flat_sz l2 k2
      rw [batch_all l (by omega) k1] at ha
      rw [batch_all l2 (by omega) k2] at hb
      rw [batch_all (l ++ l2) (by rw [List.length_append]; omega) k3] at hq
      simp only [Prod.mk.injEq] at ha hb hq
      left
      refine ⟨ha.2.symm, hb.2.symm, hq.2.symm, ?_, ?_, ?_, ?_⟩
      · rw [← hq.1, ← ha.1, ← hb.1, flat_join]
      · rw [← ha.1, strOf_size]; omega
      · rw [← hb.1, strOf_size]; omega
      · rw [← ha.1, ← hb.1, ← flat_join]
        exact unb_back _ (by rw [List.length_append]; omega) k3
    · rw [batch_all l (by omega) k1] at ha
      rw [batch_none l2 k2] at hb
      rw [batch_none (l ++ l2) (fun h => k2 (fun e he => h e (List.mem_append_right _ he)))] at hq
      simp only [Prod.mk.injEq] at ha hb hq
      right
      exact ⟨.inr (by rw [← hb.2]; decide), hq.2.symm, hq.1.symm, .inl ha.2.symm, .inr hb.2.symm⟩
  · rw [batch_none l k1] at ha
    rw [batch_none (l ++ l2) (fun h => k1 (fun e he => h e (List.mem_append_left _ he)))] at hq
    simp only [Prod.mk.injEq] at ha hq
    right
    refine ⟨.inl (by rw [← ha.2]; decide), hq.2.symm, hq.1.symm, .inr ha.2.symm, ?_⟩
    by_cases k2 : ∀ e ∈ l2, mayE e = true
    · rw [batch_all l2 (by omega) k2] at hb
      simp only [Prod.mk.injEq] at hb
      exact .inl hb.2.symm
    · rw [batch_none l2 k2] at hb
      simp only [Prod.mk.injEq] at hb
      exact .inr hb.2.symm
end Sp
theorem row_len {W : World} {A : Option Addr} {n c : Nat} {l : List Ev} (h : Row enE 8 W (.slice A n c) l) : n = l.length := h.len_eq
theorem eventsE_len (l : List Ev) (m : Int) (h : eventsE l m = true) : (l.length : Int) ≤ m := by
  unfold eventsE at h
  rw [Bool.and_eq_true, decide_eq_true_eq] at h
  exact h.1
theorem enE_one' (e : Ev) : ∀ u ∈ enE e, u.oneCell' = true := enE_one e
def Szs (l : List Ev) : Prop := ∀ e ∈ l, e.u.size ≤ 9223372036854775807 ∧ e.o.size ≤ 9223372036854775807 ∧ e.v.2.2.2.size ≤ 9223372036854775807
set_option maxHeartbeats 8000000 in
set_option maxRecDepth 100000 in
theorem joins_walk (n c : Nat) (A : Option Addr) (l : List Ev) (n2 c2 : Nat) (A2 : Option Addr) (l2 : List Ev) (w : World) (hl : Row enE 8 w (.slice A n c) l) (hz : Szs l) (hl2 : Row enE 8 w (.slice A2 n2 c2) l2) (hz2 : Szs l2) :
    Calls Try.prog 14 #[.slice A n c, .slice A2 n2 c2] w fun e w' => e = .returned (.bool true) ∧ Below w.heap.size w w' := by
  cases h : eventsE l 40 with
  | false =>
    have H := Lib.hid h
    clear h
    go_enter Try.func14, Try.ntmps14
    go_wp2_with fail
    refine (events_is n c A l 40 false _ hl hz H).mono ?_
    rintro e w1 ⟨rfl, b1⟩
    go_wp2_with fail
    refine (live23 _).mono ?_
    rintro e w2 ⟨rfl, b2⟩
    have B2 := below_call b1 b2
    clear b1 b2
    go_wp2
    go_ret
    exact ⟨rfl, B2⟩
  | true =>
  cases h2 : eventsE l2 40 with
  | false =>
    have H := Lib.hid h
    have H2 := Lib.hid h2
    clear h h2
    go_enter Try.func14, Try.ntmps14
    go_wp2_with fail
    refine (events_is n c A l 40 true _ hl hz H).mono ?_
    rintro e w1 ⟨rfl, b1⟩
    go_wp2_with fail
    refine (events_is n2 c2 A2 l2 40 false _ (hl2.below b1) hz2 H2).mono ?_
    rintro e w2 ⟨rfl, b2⟩
    have B2 := below_call b1 b2
    clear b1 b2
    go_wp2_with fail
    refine (live23 _).mono ?_
    rintro e w3 ⟨rfl, b3⟩
    have B3 := below_call B2 b3
    clear b3 B2
    go_wp2
    go_ret
    exact ⟨rfl, B3⟩
  | true =>
    have hs := eventsE_sz l 40 h
    have hs2 := eventsE_sz l2 40 h2
    have hn := eventsE_len l 40 h
    have hn2 := eventsE_len l2 40 h2
    obtain ⟨N, hN⟩ : ∃ N, (l ++ l2).length = N := ⟨_, rfl⟩
    have HN := Lib.hid hN
    clear hN
    have hs3 : SzE (l ++ l2) := fun e he => (List.mem_append.1 he).elim (hs e) (hs2 e)
    have H := Lib.hid h
    have H2 := Lib.hid h2
    clear h h2
    obtain ⟨a, ea, ha⟩ : ∃ a e, batchE l = (a, e) := ⟨_, _, rfl⟩
    obtain ⟨b, eb, hb⟩ : ∃ a e, batchE l2 = (a, e) := ⟨_, _, rfl⟩
    obtain ⟨q, eq, hq⟩ : ∃ a e, batchE (l ++ l2) = (a, e) := ⟨_, _, rfl⟩
    have HA := Lib.hid ha
    have HB := Lib.hid hb
    have HQ := Lib.hid hq
    have HK := Lib.hid (join_plain l l2 hn hn2 a b q ea eb eq ha hb hq)
    clear ha hb hq
    go_enter Try.func14, Try.ntmps14
    go_wp2_with fail
    refine (events_is n c A l 40 true _ hl hz H).mono ?_
    rintro e w1 ⟨rfl, b1⟩
    go_wp2_with fail
    refine (events_is n2 c2 A2 l2 40 true _ (hl2.below b1) hz2 H2).mono ?_
    rintro e w2 ⟨rfl, b2⟩
    have B2 := below_call b1 b2
    clear b1 b2
    go_wp2_with fail
    refine (batch_is n c A l a ea _ (hl.below B2) hs HA).mono ?_
    rintro e w3 ⟨rfl, b3⟩
    have B3 := below_call B2 b3
    clear b3 B2
    go_wp2_with fail
    refine (batch_is n2 c2 A2 l2 b eb _ (hl2.below B3) hs2 HB).mono ?_
    rintro e w4 ⟨rfl, b4⟩
    have B4 := below_call B3 b4
    clear b4 B3
    have z1 : (0 + l.length) * 88 ≤ 140737488355328 := by omega
    have z2 : 0 + l.length ≤ 140737488355328 := by omega
    have z3 : (l.length + l2.length) * 88 ≤ 140737488355328 := by omega
    have z4 : l.length + l2.length ≤ 140737488355328 := by omega
    have Z := Lib.hid (And.intro z1 (And.intro z2 (And.intro z3 z4)))
    clear z1 z2 z3 z4 hn hn2
    have B5 := below_alloc0 B4 (.cells #[] 44)
    have O5 : Own enE 8 44 (w4.alloc (.cells #[] 44)) w.heap.size (.slice (some ⟨w4.heap.size, 0, none⟩) 0 0) [] := Own.lit enE_len w4 [] #[] 0 rfl rfl B4.size (by omega)
    go_wp2_with (first | (at_builtin; refine Own.appendRow (w0 := w) w.heap.size rfl (.tmp 33) (.tmp 34) 48 44 (.agg #[.int .i64 0, .string ⟨#[]⟩, .string ⟨#[]⟩, .int .i64 0, .int .i64 0, .int .i64 0, .int .i64 0, .string ⟨#[]⟩]) 8 88 rfl Try.underlying48 info_evz rfl (by decide) (.slice (some ⟨w4.heap.size, 0, none⟩) 0 0) (.slice A n c) [] l rfl rfl enE_one O5 (hl.below B5) B5 B5.size Z.out.1 Z.out.2.1 ?_; intro v1 w5 (hO_w5 : Own enE 8 44 w5 w.heap.size v1 l) hB_w5 g1 g2; clear g1 g2) | (at_builtin; refine Own.appendRow (w0 := w) w.heap.size rfl (.tmp 35) (.tmp 36) 48 44 (.agg #[.int .i64 0, .string ⟨#[]⟩, .string ⟨#[]⟩, .int .i64 0, .int .i64 0, .int .i64 0, .int .i64 0, .string ⟨#[]⟩]) 8 88 rfl Try.underlying48 info_evz rfl (by decide) v1 (.slice A2 n2 c2) l l2 rfl rfl enE_one hO_w5 (hl2.below hB_w5) hB_w5 hB_w5.size Z.out.2.2.1 Z.out.2.2.2 ?_; intro v2 w6 hO_w6 hB_w6 g1 g2; clear g1 g2))
    obtain ⟨A9, c9, hv9, _⟩ := hO_w6.slice
    rw [HN.out] at hv9
    subst hv9
    clear O5 B5 B4 hO_w5 hB_w5
    go_wp2_with fail
    refine (batch_is N c9 A9 (l ++ l2) q eq _ hO_w6.row hs3 HQ).mono ?_
    rintro e w7 ⟨rfl, b7⟩
    have B7 := below_call hB_w6 b7
    have O7 := hO_w6.row.below b7
    clear b7 hB_w6 hO_w6
    rcases HK.out with ⟨rfl, rfl, rfl, hq', za, zb, hu⟩ | ⟨hne, rfl, rfl, hea, heb⟩
    · have HU := Lib.hid hu
      have HE : (q.toList == (a ++ b).toList) = true := by rw [hq']; exact beq_self_eq_true _
      clear hu HK hq' HA HB HQ
      have zab : (a ++ b).size ≤ 12000 := by rw [ByteArray.size_append]; omega
      go_wp2_with fail
      refine (unb_is (a ++ b) (l ++ l2) 0 _ (by omega) HU).mono ?_
      rintro e w8 ⟨v8, rfl, ho, b8⟩
      have B8 := below_call B7 b8
      have O8 := O7.below b8
      obtain ⟨A8, c8, hv8, _⟩ := ho.slice
      rw [HN.out] at hv8
      subst hv8
      clear b8 B7 O7
      go_wp2_with fail
      refine (sameE_calls N c8 N c9 A8 A9 (l ++ l2) (l ++ l2) _ ho.row O8).mono ?_
      rintro e w9 ⟨bs, rfl, hs, b9⟩
      obtain rfl : bs = true := hs.2 rfl
      have B9 := below_call B8 b9
      clear b9 B8 O8 ho hs
      go_wp2_with fail
      refine (live23 _).mono ?_
      rintro e w10 ⟨rfl, b10⟩
      have B10 := below_call B9 b10
      clear b10 B9
      go_wp2
      go_ret
      exact ⟨rfl, B10⟩
    · clear HK
      rcases hea with rfl | rfl <;> rcases heb with rfl | rfl
      · exact absurd hne (by decide)
      all_goals
        go_wp2_with fail
        refine (live23 _).mono ?_
        rintro e w10 ⟨rfl, b10⟩
        have B10 := below_call B7 b10
        clear b10 B7
        go_wp2
        go_ret
        exact ⟨rfl, B10⟩
end Go.Proofs.Ytobhlcogopcbdaa
