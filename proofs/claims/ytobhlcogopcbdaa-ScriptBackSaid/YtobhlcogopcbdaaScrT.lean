/-
Plain: both readings of an event are one.
-/
import Derived.Test.YtobhlcogopcbdaaScrS
set_option linter.unusedVariables false
set_option linter.unusedSimpArgs false
namespace Go.Proofs.Ytobhlcogopcbdaa
open Go.RowKit
open Sp
namespace Sp
theorem drop_at (s : ByteArray) (m : Nat) (h : m < s.size) : s.data.toList.drop m = UInt8.ofNat (byteAt s m).toNat :: s.data.toList.drop (m + 1) := by
  rw [drop_cons s m h, byteAt_is s m h, Int.toNat_natCast, UInt8.ofNat_toNat]
theorem byteAt_lt (s : ByteArray) (m : Nat) : 0 ≤ byteAt s m ∧ byteAt s m < 256 := by
  unfold byteAt
  have := (s.data.toList.getD m 0).toNat_lt
  omega
theorem takeVal_text (s : ByteArray) (a : Int) (v : PV) (to : Int) (h : takeVal s a = (v, to, 0)) :
    mayV v.1 v.2.1 v.2.2.1 v.2.2.2 = true ∧ 0 ≤ a ∧ to ≤ s.size ∧ s.data.toList.drop a.toNat = (putVal v.1 v.2.1 v.2.2.1 v.2.2.2).1.data.toList ++ s.data.toList.drop to.toNat ∧ to.toNat = a.toNat + (putVal v.1 v.2.1 v.2.2.1 v.2.2.2).1.size := by
  unfold takeVal at h
  split at h
  · simp at h
  · rename_i h1
    split at h
    · simp at h
    · rename_i h2
      obtain ⟨m, rfl⟩ := Int.eq_ofNat_of_zero_le (show 0 ≤ a by omega)
      obtain ⟨n, fr, er, hg⟩ : ∃ n fr er, getV s ((m : Int) + 2) = (n, fr, er) := ⟨_, _, _, rfl⟩
      simp only [hg] at h
      split at h
      · rename_i he; simp only [Prod.mk.injEq] at h; exact absurd h.2.2 he
      · rename_i he
        have he' : er = 0 := by simpa using he
        subst he'
        obtain ⟨t, to', er', ht⟩ : ∃ t to er, takeV s fr 32 = (t, to, er) := ⟨_, _, _, rfl⟩
        simp only [ht] at h
        split at h
        · rename_i he; simp only [Prod.mk.injEq] at h; exact absurd h.2.2 he
        · rename_i he
          have he' : er' = 0 := by simpa using he
          subst he'
          split at h
          · rename_i hm
            simp only [Prod.mk.injEq] at h
            obtain ⟨rfl, rfl, _⟩ := h
            simp only
            obtain ⟨e1, e2⟩ := getV_text s _ n fr hg
            obtain ⟨e3, e4⟩ := takeV_text s fr 32 t to' ht
            have hsz := (takeV_size s fr 32 (by show (takeV s fr 32).2.2 = 0; rw [ht])).2.2.2
            rw [show takeV s fr (32 : Nat) = (t, to', 0) from ht] at hsz
            refine ⟨hm, by omega, hsz, ?_, ?_⟩
            · unfold putVal
              rw [if_pos hm, Int.toNat_natCast]
              have hx : ∀ i, ((s.data.toList.getD i 0).toNat : Int) = byteAt s i := fun i => rfl
              have d1 := drop_at s m (by omega)
              have d2 := drop_at s (m + 1) (by omega)
              have b1 := byteAt_lt s m
              have b2 := byteAt_lt s (m + 1)
              rw [d1, d2, show m + 1 + 1 = ((m : Int) + 2).toNat by omega, e1, e3]
              simp only [data_append, strOf_list, valL, Int.toNat_natCast, hx]
              rw [show byteAt s (m + 1) - 128 + 128 = byteAt s (m + 1) by omega]
              simp
            · unfold putVal
              rw [if_pos hm]
              simp only [ByteArray.size_append, strOf_size, valL, List.length_cons, List.length_nil, Int.toNat_natCast]
              omega
          · simp at h
def bodyE (e : Ev) : ByteArray :=
  if e.k ≤ 6 then strOf [UInt8.ofNat e.k.toNat] ++ textV e.u ++ textV e.o else if e.k = 7 then strOf [UInt8.ofNat e.k.toNat] ++ textV e.u ++ strOf [UInt8.ofNat e.i.toNat] ++ (putVal e.v.1 e.v.2.1 e.v.2.2.1 e.v.2.2.2).1 else strOf [UInt8.ofNat e.k.toNat] ++ textV e.u ++ strOf [UInt8.ofNat e.i.toNat]
theorem encE_body (e : Ev) (h : mayE e = true) : encE e = (sealS (bodyE e), 0) := by
  unfold encE encE8
  rw [if_neg (by rw [show mayE8 _ _ _ _ _ _ _ _ = true from h]; simp)]
  rfl
theorem body_iff (t b : ByteArray) (e : Nat) (h : t.data.toList = b.data.toList ++ t.data.toList.drop e) (he : e ≤ t.size) : b = t ↔ e = t.size := by
  have hl := congrArg List.length h
  rw [List.length_append, List.length_drop, ← size_eq_length, ← size_eq_length] at hl
  constructor
  · intro hb
    subst hb
    omega
  · intro hb
    rw [← toList_inj]
    rw [List.drop_eq_nil_of_le (by rw [← size_eq_length]; omega), List.append_nil] at h
    exact h.symm
theorem takeVal_bad (s : ByteArray) (a : Int) (v : PV) (to er : Int) (h : takeVal s a = (v, to, er)) (he : er ≠ 0) : v = zeroV := by
  unfold takeVal at h
  simp only at h
  split at h
  · injection h with h1 _; exact h1.symm
  · split at h
    · injection h with h1 _; exact h1.symm
    · split at h
      · injection h with h1 _; exact h1.symm
      · split at h
        · injection h with h1 _; exact h1.symm
        · split at h
          · simp only [Prod.mk.injEq] at h; exact absurd h.2.2.symm he
          · injection h with h1 _; exact h1.symm
theorem isName_nil : isName ⟨#[]⟩ = false := by decide +kernel
theorem mayV_zero : mayV 0 0 0 ⟨#[]⟩ = false := by decide +kernel
theorem mayE_hi (k : Int) (u o : ByteArray) (i : Int) (v : PV) (h : k < 1 ∨ 8 < k) : mayE ⟨k, u, o, i, v⟩ = false := by
  unfold mayE mayE8
  rw [if_pos (h.elim .inl (fun h => .inr (.inl h)))]
theorem mayE_zero : mayE zeroE = false := mayE_hi 0 _ _ _ _ (.inl (by omega))
/-- The program's reading, and the document's. -/
theorem read_both (t : ByteArray) : ((readP t).2 = true ↔ (mayE (readR t) = true ∧ bodyE (readR t) = t)) ∧ ((readP t).2 = true → (readP t).1 = readR t) := by
  by_cases h : t.size = 0
  · have h1 : readP t = (zeroE, false) := by unfold readP; rw [if_pos h]
    have h2 : readR t = zeroE := by unfold readR; rw [if_pos ((toList_nil_iff t).2 h)]
    rw [h1, h2, mayE_zero]; simp
  have h0 : 0 < t.size := by omega
  have hn : ¬ t.toList = [] := fun e => h ((toList_nil_iff t).1 e)
  obtain ⟨u, a1, er, hu⟩ : ∃ u a e, takeN t 1 = (u, a, e) := ⟨_, _, _, rfl⟩
  by_cases he : er = 0
  · subst he
    obtain ⟨_, e2, e3, hun, hus⟩ := takeN_ok t 1 u a1 hu
    obtain ⟨T1, T2⟩ := takeN_text t 1 u a1 hu
    obtain ⟨m, rfl⟩ := Int.eq_ofNat_of_zero_le (show 0 ≤ a1 by omega)
    have d0 := drop_at t 0 h0
    have hk := byteAt_lt t 0
    simp only [Int.toNat_natCast, Int.toNat_one] at T1 T2
    rw [T1, List.drop_zero] at d0
    generalize hk0 : byteAt t 0 = k at d0 hk
    have hP : readP t = if 1 ≤ k ∧ k ≤ 6 then
        if (takeN t m).2.2 = 0 ∧ (takeN t m).2.1 = t.size ∧ mayE8 k u (takeN t m).1 0 0 0 0 ⟨#[]⟩ = true then (⟨k, u, (takeN t m).1, 0, zeroV⟩, true) else (zeroE, false)
      else if (t.size : Int) ≤ m then (zeroE, false)
      else if k = 7 then
        if (takeVal t ((m : Int) + 1)).2.2 = 0 ∧ (takeVal t ((m : Int) + 1)).2.1 = t.size ∧ mayE ⟨7, u, ⟨#[]⟩, byteAt t m, (takeVal t ((m : Int) + 1)).1⟩ = true then (⟨7, u, ⟨#[]⟩, byteAt t m, (takeVal t ((m : Int) + 1)).1⟩, true) else (zeroE, false)
      else if k = 8 then
        if (m : Int) + 1 = t.size ∧ mayE8 8 u ⟨#[]⟩ (byteAt t m) 0 0 0 ⟨#[]⟩ = true then (⟨8, u, ⟨#[]⟩, byteAt t m, zeroV⟩, true) else (zeroE, false)
      else (zeroE, false) := by
      unfold readP
      rw [if_neg h]
      simp only [hu, hk0, Int.toNat_natCast]
      rw [if_neg (by simp)]
    have hR : readR t = if k ≤ 6 then ⟨k, u, (takeN t m).1, 0, zeroV⟩ else if (t.size : Int) ≤ m then zeroE else ⟨k, u, ⟨#[]⟩, byteAt t m, if k = 7 then (takeVal t ((m : Int) + 1)).1 else zeroV⟩ := by
      unfold readR
      rw [if_neg hn]
      simp only [hu, hk0, Int.toNat_natCast]
      rw [if_neg (by simp)]
    rw [hP, hR]
    clear hP hR
    by_cases h6 : k ≤ 6
    · rw [if_pos h6]
      obtain ⟨o, a2, er2, ho⟩ : ∃ u a e, takeN t m = (u, a, e) := ⟨_, _, _, rfl⟩
      simp only [ho]
      by_cases h1 : 1 ≤ k
      · rw [if_pos ⟨h1, h6⟩]
        by_cases h2 : er2 = 0
        · subst h2
          obtain ⟨_, f2, f3, _, _⟩ := takeN_ok t m o a2 ho
          obtain ⟨S1, S2⟩ := takeN_text t m o a2 ho
          rw [Int.toNat_natCast] at S1
          have hb := body_iff t (bodyE ⟨k, u, o, 0, zeroV⟩) a2.toNat (by
            unfold bodyE
            rw [if_pos h6]
            simp only [data_append, strOf_list]
            conv => lhs; rw [d0, S1]
            simp) (by omega)
          have hm : mayE ⟨k, u, o, 0, zeroV⟩ = mayE8 k u o 0 0 0 0 ⟨#[]⟩ := rfl
          by_cases hq : a2 = t.size ∧ mayE8 k u o 0 0 0 0 ⟨#[]⟩ = true
          · rw [if_pos ⟨rfl, hq⟩]
            exact ⟨⟨fun _ => ⟨hq.2, hb.2 (by omega)⟩, fun _ => rfl⟩, fun _ => rfl⟩
          · rw [if_neg (fun h => hq h.2)]
            exact ⟨⟨fun h => by (cases h), fun h => absurd ⟨by have := hb.1 h.2; omega, h.1⟩ hq⟩, fun h => by (cases h)⟩
        · rw [if_neg (fun h => h2 h.1)]
          have := takeN_bad t m o a2 er2 ho h2
          subst this
          have hm : mayE ⟨k, u, ⟨#[]⟩, 0, zeroV⟩ = false := by
            unfold mayE mayE8
            simp only
            rw [isName_nil]
            split
            · rfl
            · simp
          rw [hm]; simp
      · have hz : ∀ x y : Ev × Bool, (if (t.size : Int) ≤ m then (zeroE, false) else if k = 7 then x else if k = 8 then y else (zeroE, false)) = (zeroE, false) := by
          intro x y
          rw [if_neg (show ¬ k = 7 by omega), if_neg (show ¬ k = 8 by omega)]
          split <;> rfl
        rw [if_neg (fun h => h1 h.1), mayE_hi _ _ _ _ _ (.inl (show k < 1 from by omega)), hz]; simp
    · rw [if_neg h6, if_neg (fun h => h6 h.2)]
      by_cases hge : (t.size : Int) ≤ m
      · rw [if_pos hge, if_pos hge, mayE_zero]; simp
      · rw [if_neg hge, if_neg hge]
        have dm := drop_at t m (by omega)
        have hi := byteAt_lt t m
        generalize byteAt t m = i at dm hi
        by_cases h7 : k = 7
        · subst h7
          rw [if_pos rfl, if_pos rfl]
          obtain ⟨v, a3, er3, hv⟩ : ∃ u a e, takeVal t ((m : Int) + 1) = (u, a, e) := ⟨_, _, _, rfl⟩
          simp only [hv]
          by_cases h2 : er3 = 0
          · subst h2
            obtain ⟨f0, f1, f2, S1, S2⟩ := takeVal_text t _ v a3 hv
            rw [show ((m : Int) + 1).toNat = m + 1 by omega] at S1 S2
            have hb := body_iff t (bodyE ⟨7, u, ⟨#[]⟩, i, v⟩) a3.toNat (by
              unfold bodyE
              rw [if_neg (show ¬ (7 : Int) ≤ 6 by decide), if_pos (show (7 : Int) = 7 from rfl)]
              simp only [data_append, strOf_list]
              conv => lhs; rw [d0, dm, S1]
              simp) (by omega)
            by_cases hq : a3 = t.size ∧ mayE ⟨7, u, ⟨#[]⟩, i, v⟩ = true
            · rw [if_pos ⟨rfl, hq⟩]
              exact ⟨⟨fun _ => ⟨hq.2, hb.2 (by omega)⟩, fun _ => rfl⟩, fun _ => rfl⟩
            · rw [if_neg (fun h => hq h.2)]
              exact ⟨⟨fun h => by (cases h), fun h => absurd ⟨by have := hb.1 h.2; omega, h.1⟩ hq⟩, fun h => by (cases h)⟩
          · rw [if_neg (fun h => h2 h.1)]
            have hm : mayE ⟨7, u, ⟨#[]⟩, i, v⟩ = false := by
              have hz : v = zeroV := takeVal_bad t _ v a3 er3 hv h2
              subst hz
              unfold mayE mayE8
              simp only
              rw [if_neg (by rw [hun]; decide), if_neg (by decide)]
              split
              · rfl
              · rw [if_pos trivial]; exact mayV_zero
            rw [hm]; simp
        · rw [if_neg h7, if_neg h7]
          by_cases h8 : k = 8
          · subst h8
            rw [if_pos rfl]
            have hb := body_iff t (bodyE ⟨8, u, ⟨#[]⟩, i, zeroV⟩) (m + 1) (by
              unfold bodyE
              rw [if_neg (show ¬ (8 : Int) ≤ 6 by decide), if_neg (show ¬ (8 : Int) = 7 by decide)]
              simp only [data_append, strOf_list]
              conv => lhs; rw [d0, dm]
              simp) (by omega)
            have hm : mayE ⟨8, u, ⟨#[]⟩, i, zeroV⟩ = mayE8 8 u ⟨#[]⟩ i 0 0 0 ⟨#[]⟩ := rfl
            by_cases hq : (m : Int) + 1 = t.size ∧ mayE8 8 u ⟨#[]⟩ i 0 0 0 ⟨#[]⟩ = true
            · rw [if_pos hq]
              exact ⟨⟨fun _ => ⟨hq.2, hb.2 (by omega)⟩, fun _ => rfl⟩, fun _ => rfl⟩
            · rw [if_neg hq]
              exact ⟨⟨fun h => by (cases h), fun h => absurd ⟨by have := hb.1 h.2; omega, h.1⟩ hq⟩, fun h => by (cases h)⟩
          · rw [if_neg h8, mayE_hi _ _ _ _ _ (by omega)]; simp
  · have h1 : readP t = (zeroE, false) := by unfold readP; rw [if_neg h]; simp only [hu]; rw [if_pos he]
    have h2 : readR t = zeroE := by unfold readR; rw [if_neg hn]; simp only [hu]; rw [if_pos he]
    rw [h1, h2, mayE_zero]; simp
theorem openS_seal (s t : ByteArray) (h : openS s = (t, 0)) : sealS t = s := by
  unfold openS at h
  split at h
  · simp at h
  · split at h
    · rename_i h2
      injection h with h3 _
      rw [← h3]; exact h2
    · simp at h
theorem sealS_inj (a b : ByteArray) (h : sealS a = sealS b) : a = b := by
  have h1 : (sealS a).data.toList = (sealS b).data.toList := by rw [h]
  have hs : a.size = b.size := by have := congrArg ByteArray.size h; rw [sealS_size, sealS_size] at this; omega
  unfold sealS at h1
  rw [data_append, data_append] at h1
  exact toList_inj.1 (List.append_inj_left h1 (by rw [← size_eq_length, ← size_eq_length, hs]))
theorem dec_both (s : ByteArray) : decP s = decR s := by
  obtain ⟨t, er, ho⟩ : ∃ t er, openS s = (t, er) := ⟨_, _, rfl⟩
  unfold decP decR
  simp only [ho]
  by_cases he : er = 0
  · subst he
    simp only [ne_eq, not_true_eq_false, if_false]
    have hs := openS_seal s t ho
    obtain ⟨h1, h2⟩ := read_both t
    by_cases hr : (readP t).2 = true
    · obtain ⟨h3, h4⟩ := h1.1 hr
      rw [if_pos hr, h2 hr, encE_body _ h3, h4, hs, if_neg (by simp)]
    · rw [if_neg hr, if_pos]
      cases hm : mayE (readR t) with
      | false => rw [encE_no _ hm]; left; decide
      | true =>
        right
        rw [encE_body _ hm]
        intro e
        have e2 : sealS (bodyE (readR t)) = s := toList_inj'.1 e
        rw [← hs] at e2
        exact hr (h1.2 ⟨hm, sealS_inj _ _ e2⟩)
  · rw [if_pos he, if_pos he]
end Sp
end Go.Proofs.Ytobhlcogopcbdaa
