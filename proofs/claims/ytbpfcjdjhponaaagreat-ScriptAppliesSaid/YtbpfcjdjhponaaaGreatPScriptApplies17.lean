import Derived.Deep.RegionHeld3
import Derived.Deep.QuietTactic
import Derived.BigQuiet
import Derived.Test.YtbpfcjdjhponaaaGreatPScriptApplies16
set_option linter.unusedVariables false
set_option linter.unusedSimpArgs false
namespace Go.Proofs.YtbpfcjdjhponaaaGreat
open Go.RowKit
open Sp
namespace Sp
theorem drop_at (s : ByteArray) (m : Nat) (h : m < s.size) : s.data.toList.drop m = UInt8.ofNat (byteAt s m).toNat :: s.data.toList.drop (m + 1) := by
  rw [drop_cons s m h, byteAt_is s m h, Int.toNat_natCast, UInt8.ofNat_toNat]
theorem byteAt_lt (s : ByteArray) (m : Nat) : 0 ≤ byteAt s m ∧ byteAt s m < 256 := by
  unfold byteAt
  have := (s.data.toList.getD m 0).toNat_lt
  omega
theorem takeVal_text (s : ByteArray) (a : Int) (v : PV) (to : Int) (h : takeVal s a = (v, to, 0)) :
    mayV v.1 v.2.1 v.2.2.1 v.2.2.2 = true ∧ 0 ≤ a ∧ to ≤ s.size ∧ s.data.toList.drop a.toNat = (putVal v.1 v.2.1 v.2.2.1 v.2.2.2).1.data.toList ++ s.data.toList.drop to.toNat ∧ to.toNat = a.toNat + (putVal v.1 v.2.1 v.2.2.1 v.2.2.2).1.size := by
  unfold takeVal at h
  split at h
  · simp at h
  · rename_i h1
    split at h
    · simp at h
    · rename_i h2
      obtain ⟨m, rfl⟩ := Int.eq_ofNat_of_zero_le (show 0 ≤ a by omega)
      obtain ⟨n, fr, er, hg⟩ : ∃ n fr er, getV s ((m : Int) + 2) = (n, fr, er) := ⟨_, _, _, rfl⟩
      simp only [hg] at h
      split at h
      · rename_i he; simp only [Prod.mk.injEq] at h; exact absurd h.2.2 he
      · rename_i he
        have he' : er = 0 := by simpa using he
        subst he'
        obtain ⟨t, to', er', ht⟩ : ∃ t to er, takeV s fr 32 = (t, to, er) := ⟨_, _, _, rfl⟩
        simp only [ht] at h
        split at h
        · rename_i he; simp only [Prod.mk.injEq] at h; exact absurd h.2.2 he
        · rename_i he
          have he' : er' = 0 := by simpa using he
          subst he'
          split at h
          · rename_i hm
            simp only [Prod.mk.injEq] at h
            obtain ⟨rfl, rfl, _⟩ := h
            simp only
            obtain ⟨e1, e2⟩ := getV_text s _ n fr hg
            obtain ⟨e3, e4⟩ := takeV_text s fr 32 t to' ht
            have hsz := (takeV_size s fr 32 (by show (takeV s fr 32).2.2 = 0; rw [ht])).2.2.2
            rw [show takeV s fr (32 : Nat) = (t, to', 0) from ht] at hsz
            refine ⟨hm, by omega, hsz, ?_, ?_⟩
            · unfold putVal
              rw [if_pos hm, Int.toNat_natCast]
              have hx : ∀ i, ((s.data.toList.getD i 0).toNat : Int) = byteAt s i := fun i => rfl
              have d1 := drop_at s m (by omega)
              have d2 := drop_at s (m + 1) (by omega)
              have b1 := byteAt_lt s m
              have b2 := byteAt_lt s (m + 1)
              rw [d1, d2, show m + 1 + 1 = ((m : Int) + 2).toNat by omega, e1, e3]
              simp only [data_append, strOf_list, valL, Int.toNat_natCast, hx]
              rw [show byteAt s (m + 1) - 128 + 128 = byteAt s (m + 1) by omega]
              simp
            · unfold putVal
              rw [if_pos hm]
              simp only [ByteArray.size_append, strOf_size, valL, List.length_cons, List.length_nil, Int.toNat_natCast]
              omega
          · simp at h
def bodyE (e : Ev) : ByteArray :=
  if e.k ≤ 6 then strOf [UInt8.ofNat e.k.toNat] ++ textV e.u ++ textV e.o else if e.k = 7 then strOf [UInt8.ofNat e.k.toNat] ++ textV e.u ++ strOf [UInt8.ofNat e.i.toNat] ++ (putVal e.v.1 e.v.2.1 e.v.2.2.1 e.v.2.2.2).1 else strOf [UInt8.ofNat e.k.toNat] ++ textV e.u ++ strOf [UInt8.ofNat e.i.toNat]
theorem encE_body (e : Ev) (h : mayE e = true) : encE e = (sealS (bodyE e), 0) := by
  unfold encE encE8
  rw [if_neg (by rw [show mayE8 _ _ _ _ _ _ _ _ = true from h]; simp)]
  rfl
theorem body_iff (t b : ByteArray) (e : Nat) (h : t.data.toList = b.data.toList ++ t.data.toList.drop e) (he : e ≤ t.size) : b = t ↔ e = t.size := by
  have hl := congrArg List.length h
  rw [List.length_append, List.length_drop, ← size_eq_length, ← size_eq_length] at hl
  constructor
  · intro hb
    subst hb
    omega
  · intro hb
    rw [← toList_inj]
    rw [List.drop_eq_nil_of_le (by rw [← size_eq_length]; omega), List.append_nil] at h
    exact h.symm
theorem takeVal_bad (s : ByteArray) (a : Int) (v : PV) (to er : Int) (h : takeVal s a = (v, to, er)) (he : er ≠ 0) : v = zeroV := by
  unfold takeVal at h
  simp only at h
  split at h
  · injection h with h1 _; exact h1.symm
  · split at h
    · injection h with h1 _; exact h1.symm
    · split at h
      · injection h with h1 _; exact h1.symm
      · split at h
        · injection h with h1 _; exact h1.symm
        · split at h
          · simp only [Prod.mk.injEq] at h; exact absurd h.2.2.symm he
          · injection h with h1 _; exact h1.symm
theorem isName_nil : isName ⟨#[]⟩ = false := by decide +kernel
theorem mayV_zero : mayV 0 0 0 ⟨#[]⟩ = false := by decide +kernel
theorem mayE_hi (k : Int) (u o : ByteArray) (i : Int) (v : PV) (h : k < 1 ∨ 8 < k) : mayE ⟨k, u, o, i, v⟩ = false := by
  unfold mayE mayE8
  rw [if_pos (h.elim .inl (fun h => .inr (.inl h)))]
theorem mayE_zero : mayE zeroE = false := mayE_hi 0 _ _ _ _ (.inl (by omega))
theorem read_both (t : ByteArray) : ((readP t).2 = true ↔ (mayE (readR t) = true ∧ bodyE (readR t) = t)) ∧ ((readP t).2 = true → (readP t).1 = readR t) := by
  by_cases h : t.size = 0
  · have h1 : readP t = (zeroE, false) := by unfold readP; rw [if_pos h]
    have h2 : readR t = zeroE := by unfold readR; rw [if_pos ((toList_nil_iff t).2 h)]
    rw [h1, h2, mayE_zero]; simp
  have h0 : 0 < t.size := by omega
  have hn : ¬ t.toList = [] := fun e => h ((toList_nil_iff t).1 e)
  obtain ⟨u, a1, er, hu⟩ : ∃ u a e, takeN t 1 = (u, a, e) := ⟨_, _, _, rfl⟩
  by_cases he : er = 0
  · subst he
    obtain ⟨_, e2, e3, hun, hus⟩ := takeN_ok t 1 u a1 hu
    obtain ⟨T1, T2⟩ := takeN_text t 1 u a1 hu
    obtain ⟨m, rfl⟩ := Int.eq_ofNat_of_zero_le (show 0 ≤ a1 by omega)
    have d0 := drop_at t 0 h0
    have hk := byteAt_lt t 0
    simp only [Int.toNat_natCast, Int.toNat_one] at T1 T2
    rw [T1, List.drop_zero] at d0
    generalize hk0 : byteAt t 0 = k at d0 hk
    have hP : readP t = if 1 ≤ k ∧ k ≤ 6 then
        if (takeN t m).2.2 = 0 ∧ (takeN t m).2.1 = t.size ∧ mayE8 k u (takeN t m).1 0 0 0 0 ⟨#[]⟩ = true then (⟨k, u, (takeN t m).1, 0, zeroV⟩, true) else (zeroE, false)
      else if (t.size : Int) ≤ m then (zeroE, false)
      else if k = 7 then
        if (takeVal t ((m : Int) + 1)).2.2 = 0 ∧ (takeVal t ((m : Int) + 1)).2.1 = t.size ∧ mayE ⟨7, u, ⟨#[]⟩, byteAt t m, (takeVal t ((m : Int) + 1)).1⟩ = true then (⟨7, u, ⟨#[]⟩, byteAt t m, (takeVal t ((m : Int) + 1)).1⟩, true) else (zeroE, false)
      else if k = 8 then
        if (m : Int) + 1 = t.size ∧ mayE8 8 u ⟨#[]⟩ (byteAt t m) 0 0 0 ⟨#[]⟩ = true then (⟨8, u, ⟨#[]⟩, byteAt t m, zeroV⟩, true) else (zeroE, false)
      else (zeroE, false) := by
      unfold readP
      rw [if_neg h]
      simp only [hu, hk0, Int.toNat_natCast]
      rw [if_neg (by simp)]
    have hR : readR t = if k ≤ 6 then ⟨k, u, (takeN t m).1, 0, zeroV⟩ else if (t.size : Int) ≤ m then zeroE else ⟨k, u, ⟨#[]⟩, byteAt t m, if k = 7 then (takeVal t ((m : Int) + 1)).1 else zeroV⟩ := by
      unfold readR
      rw [if_neg hn]
      simp only [hu, hk0, Int.toNat_natCast]
      rw [if_neg (by simp)]
    rw [hP, hR]
    clear hP hR
    by_cases h6 : k ≤ 6
    · rw [if_pos h6]
      obtain ⟨o, a2, er2, ho⟩ : ∃ u a e, takeN t m = (u, a, e) := ⟨_, _, _, rfl⟩
      simp only [ho]
      by_cases h1 : 1 ≤ k
      · rw [if_pos ⟨h1, h6⟩]
        by_cases h2 : er2 = 0
        · subst h2
          obtain ⟨_, f2, f3, _, _⟩ := takeN_ok t m o a2 ho
          obtain ⟨S1, S2⟩ := takeN_text t m o a2 ho
          rw [Int.toNat_natCast] at S1
          have hb := body_iff t (bodyE ⟨k, u, o, 0, zeroV⟩) a2.toNat (by
            unfold bodyE
            rw [if_pos h6]
            simp only [data_append, strOf_list]
            conv => lhs; rw [d0, S1]
            simp) (by omega)
          have hm : mayE ⟨k, u, o, 0, zeroV⟩ = mayE8 k u o 0 0 0 0 ⟨#[]⟩ := rfl
          by_cases hq : a2 = t.size ∧ mayE8 k u o 0 0 0 0 ⟨#[]⟩ = true
          · rw [if_pos ⟨rfl, hq⟩]
            exact ⟨⟨fun _ => ⟨hq.2, hb.2 (by omega)⟩, fun _ => rfl⟩, fun _ => rfl⟩
          · rw [if_neg (fun h => hq h.2)]
            exact ⟨⟨fun h => by (cases h), fun h => absurd ⟨by have := hb.1 h.2; omega, h.1⟩ hq⟩, fun h => by (cases h)⟩
        · rw [if_neg (fun h => h2 h.1)]
          have := takeN_bad t m o a2 er2 ho h2
          subst this
          have hm : mayE ⟨k, u, ⟨#[]⟩, 0, zeroV⟩ = false := by
            unfold mayE mayE8
            simp only
            rw [isName_nil]
            split
            · rfl
            · simp
          rw [hm]; simp
      · have hz : ∀ x y : Ev × Bool, (if (t.size : Int) ≤ m then (zeroE, false) else if k = 7 then x else if k = 8 then y else (zeroE, false)) = (zeroE, false) := by
          intro x y
          rw [if_neg (show ¬ k = 7 by omega), if_neg (show ¬ k = 8 by omega)]
          split <;> rfl
        rw [if_neg (fun h => h1 h.1), mayE_hi _ _ _ _ _ (.inl (show k < 1 from by omega)), hz]; simp
    · rw [if_neg h6, if_neg (fun h => h6 h.2)]
      by_cases hge : (t.size : Int) ≤ m
      · rw [if_pos hge, if_pos hge, mayE_zero]; simp
      · rw [if_neg hge, if_neg hge]
        have dm := drop_at t m (by omega)
        have hi := byteAt_lt t m
        generalize byteAt t m = i at dm hi
        by_cases h7 : k = 7
        · subst h7
          rw [if_pos rfl, if_pos rfl]
          obtain ⟨v, a3, er3, hv⟩ : ∃ u a e, takeVal t ((m : Int) + 1) = (u, a, e) := ⟨_, _, _, rfl⟩
          simp only [hv]
          by_cases h2 : er3 = 0
          · subst h2
            obtain ⟨f0, f1, f2, S1, S2⟩ := takeVal_text t _ v a3 hv
            rw [show ((m : Int) + 1).toNat = m + 1 by omega] at S1 S2
            have hb := body_iff t (bodyE ⟨7, u, ⟨#[]⟩, i, v⟩) a3.toNat (by
              unfold bodyE
              rw [if_neg (show ¬ (7 : Int) ≤ 6 by decide), if_pos (show (7 : Int) = 7 from rfl)]
              simp only [data_append, strOf_list]
              conv => lhs; rw [d0, dm, S1]
              simp) (by omega)
            by_cases hq : a3 = t.size ∧ mayE ⟨7, u, ⟨#[]⟩, i, v⟩ = true
            · rw [if_pos ⟨rfl, hq⟩]
              exact ⟨⟨fun _ => ⟨hq.2, hb.2 (by omega)⟩, fun _ => rfl⟩, fun _ => rfl⟩
            · rw [if_neg (fun h => hq h.2)]
              exact ⟨⟨fun h => by (cases h), fun h => absurd ⟨by have := hb.1 h.2; omega, h.1⟩ hq⟩, fun h => by (cases h)⟩
          · rw [if_neg (fun h => h2 h.1)]
            have hm : mayE ⟨7, u, ⟨#[]⟩, i, v⟩ = false := by
              have hz : v = zeroV := takeVal_bad t _ v a3 er3 hv h2
              subst hz
              unfold mayE mayE8
              simp only
              rw [if_neg (by rw [hun]; decide), if_neg (by decide)]
              split
              · rfl
              · rw [if_pos trivial]; exact mayV_zero
            rw [hm]; simp
        · rw [if_neg h7, if_neg h7]
          by_cases h8 : k = 8
          · subst h8
            rw [if_pos rfl]
            have hb := body_iff t (bodyE ⟨8, u, ⟨#[]⟩, i, zeroV⟩) (m + 1) (by
              unfold bodyE
              rw [if_neg (show ¬ (8 : Int) ≤ 6 by decide), if_neg (show ¬ (8 : Int) = 7 by decide)]
              simp only [data_append, strOf_list]
              conv => lhs; rw [d0, dm]
              simp) (by omega)
            have hm : mayE ⟨8, u, ⟨#[]⟩, i, zeroV⟩ = mayE8 8 u ⟨#[]⟩ i 0 0 0 ⟨#[]⟩ := rfl
            by_cases hq : (m : Int) + 1 = t.size ∧ mayE8 8 u ⟨#[]⟩ i 0 0 0 ⟨#[]⟩ = true
            · rw [if_pos hq]
              exact ⟨⟨fun _ => ⟨hq.2, hb.2 (by omega)⟩, fun _ => rfl⟩, fun _ => rfl⟩
            · rw [if_neg hq]
              exact ⟨⟨fun h => by (cases h), fun h => absurd ⟨by have := hb.1 h.2; omega, h.1⟩ hq⟩, fun h => by (cases h)⟩
          · rw [if_neg h8, mayE_hi _ _ _ _ _ (by omega)]; simp
  · have h1 : readP t = (zeroE, false) := by unfold readP; rw [if_neg h]; simp only [hu]; rw [if_pos he]
    have h2 : readR t = zeroE := by unfold readR; rw [if_neg hn]; simp only [hu]; rw [if_pos he]
    rw [h1, h2, mayE_zero]; simp
theorem openS_seal (s t : ByteArray) (h : openS s = (t, 0)) : sealS t = s := by
  unfold openS at h
  split at h
  · simp at h
  · split at h
    · rename_i h2
      injection h with h3 _
      rw [← h3]; exact h2
    · simp at h
theorem sealS_inj (a b : ByteArray) (h : sealS a = sealS b) : a = b := by
  have h1 : (sealS a).data.toList = (sealS b).data.toList := by rw [h]
  have hs : a.size = b.size := by have := congrArg ByteArray.size h; rw [sealS_size, sealS_size] at this; omega
  unfold sealS at h1
  rw [data_append, data_append] at h1
  exact toList_inj.1 (List.append_inj_left h1 (by rw [← size_eq_length, ← size_eq_length, hs]))
theorem dec_both (s : ByteArray) : decP s = decR s := by
  obtain ⟨t, er, ho⟩ : ∃ t er, openS s = (t, er) := ⟨_, _, rfl⟩
  unfold decP decR
  simp only [ho]
  by_cases he : er = 0
  · subst he
    simp only [ne_eq, not_true_eq_false, if_false]
    have hs := openS_seal s t ho
    obtain ⟨h1, h2⟩ := read_both t
    by_cases hr : (readP t).2 = true
    · obtain ⟨h3, h4⟩ := h1.1 hr
      rw [if_pos hr, h2 hr, encE_body _ h3, h4, hs, if_neg (by simp)]
    · rw [if_neg hr, if_pos]
      cases hm : mayE (readR t) with
      | false => rw [encE_no _ hm]; left; decide
      | true =>
        right
        rw [encE_body _ hm]
        intro e
        have e2 : sealS (bodyE (readR t)) = s := toList_inj'.1 e
        rw [← hs] at e2
        exact hr (h1.2 ⟨hm, sealS_inj _ _ e2⟩)
  · rw [if_pos he, if_pos he]
end Sp
end Go.Proofs.YtbpfcjdjhponaaaGreat
namespace Go.Proofs.YtbpfcjdjhponaaaGreat
open Go.RowKit
open Sp
namespace Sp
def unbL (s : ByteArray) : Nat → Int → List Ev → Option (List Ev)
  | 0, _, _ => none
  | f + 1, a, l =>
    if (s.size : Int) ≤ a then some l
    else if (takeV s a 300).2.2 ≠ 0 then none
    else if (decR (takeV s a 300).1).2 ≠ 0 then none
    else unbL s f (takeV s a 300).2.1 (l ++ [(decR (takeV s a 300).1).1])
def cutU (o : Option (List Ev)) : List Ev × Int := match o with | none => ([], 3) | some l => if 100 < l.length then ([], 3) else (l, 0)
def unbE (s : ByteArray) : List Ev × Int := cutU (unbL s (s.size + 1) 0 [])
theorem unbL_end (s : ByteArray) (f : Nat) (a : Int) (l : List Ev) (h : (s.size : Int) ≤ a) : unbL s (f + 1) a l = some l := by unfold unbL; rw [if_pos h]
theorem unbL_bad (s : ByteArray) (f : Nat) (a : Int) (l : List Ev) (t : ByteArray) (to er : Int) (h : ¬ (s.size : Int) ≤ a) (ht : takeV s a 300 = (t, to, er)) (he : er ≠ 0) : unbL s (f + 1) a l = none := by
  unfold unbL; rw [if_neg h, ht]; simp only; rw [if_pos he]
theorem unbL_no (s : ByteArray) (f : Nat) (a : Int) (l : List Ev) (t : ByteArray) (to : Int) (e : Ev) (er : Int) (h : ¬ (s.size : Int) ≤ a) (ht : takeV s a 300 = (t, to, 0)) (hd : decR t = (e, er)) (he : er ≠ 0) : unbL s (f + 1) a l = none := by
  unfold unbL; rw [if_neg h, ht]; simp only; rw [if_neg (by simp), hd, if_pos he]
theorem unbL_yes (s : ByteArray) (f : Nat) (a : Int) (l : List Ev) (t : ByteArray) (to : Int) (e : Ev) (h : ¬ (s.size : Int) ≤ a) (ht : takeV s a 300 = (t, to, 0)) (hd : decR t = (e, 0)) : unbL s (f + 1) a l = unbL s f to (l ++ [e]) := by
  conv => lhs; unfold unbL
  rw [if_neg h, ht]; simp only; rw [if_neg (by simp), hd, if_neg (by simp)]
theorem unbL_long (s : ByteArray) : ∀ (f : Nat) (a : Int) (l : List Ev), 100 < l.length → cutU (unbL s f a l) = ([], 3)
  | 0, _, _, _ => rfl
  | f + 1, a, l, h => by
    unfold unbL
    split
    · show (if 100 < l.length then (([] : List Ev), (3 : Int)) else (l, 0)) = _
      rw [if_pos h]
    · split
      · rfl
      · split
        · rfl
        · exact unbL_long s f _ _ (by rw [List.length_append]; omega)
theorem unbL_full (s : ByteArray) (f : Nat) (a : Int) (l : List Ev) (h : ¬ (s.size : Int) ≤ a) (hl : 100 ≤ l.length) : cutU (unbL s f a l) = ([], 3) := by
  cases f with
  | zero => rfl
  | succ f =>
    unfold unbL
    rw [if_neg h]
    split
    · rfl
    · split
      · rfl
      · exact unbL_long s f _ _ (by rw [List.length_append, List.length_singleton]; omega)
theorem takeV_on (s : ByteArray) (a : Int) (m : Nat) (t : ByteArray) (to : Int) (h : takeV s a m = (t, to, 0)) : 0 ≤ a ∧ a < to ∧ to ≤ s.size ∧ t.size ≤ m := by
  obtain ⟨n, fr, er, hg⟩ : ∃ n fr er, getV s a = (n, fr, er) := ⟨_, _, _, rfl⟩
  obtain ⟨h1, h2, h3, h4⟩ := takeV_size s a m (by rw [h])
  rw [h] at h1 h3 h4
  by_cases he : er = 0
  · subst he
    obtain ⟨g1, g2, g3, g4⟩ := getV_ok s a n fr hg
    have := (takeV_text s a m t to h).2
    have := (getV_text s a n fr hg)
    have hl : 0 < (textV t).size := by rw [size_eq_length]; show 0 < (putV t.size ++ _ : List UInt8).toArray.toList.length; simp only [List.toList_toArray, List.length_append]; have := putV_len_pos t.size; omega
    exact ⟨h2, by omega, h4, h1⟩
  · rw [takeV_err s a m n fr er hg he] at h
    simp only [Prod.mk.injEq] at h
    exact absurd h.2.2 he
end Sp
open Sp
theorem dec_is (s : ByteArray) (e : Ev) (er : Int) (w : World) (hs : s.size ≤ 140737488351232) (h : Hid (decR s = (e, er))) :
    Calls Tryz.prog 15 #[.string s] w fun x w' => x = .returned (.tuple #[evV e, .int .i64 er]) ∧ Below w.heap.size w w' := by
  have := dec_calls s w hs
  rwa [dec_both, h.out] at this
theorem info_evz : (Tryz.prog.info? 29).map (fun i => (i.zero, i.size, i.bytes)) = some (some (.agg #[.int .i64 0, .string ⟨#[]⟩, .string ⟨#[]⟩, .int .i64 0, .int .i64 0, .int .i64 0, .int .i64 0, .string ⟨#[]⟩]), 8, 88) := by kernel_rfl
set_option maxHeartbeats 8000000 in
set_option maxRecDepth 100000 in
theorem unb_calls (s : ByteArray) (w : World) (hs : s.size ≤ 1048576) :
    Calls Tryz.prog 41 #[.string s] w fun e w' => ∃ v, e = .returned (.tuple #[v, .int .i64 (unbE s).2]) ∧ Own enE 8 29 w' w.heap.size v (unbE s).1 ∧ Below w.heap.size w w' := by
  obtain ⟨r, er, hr⟩ : ∃ r er, unbE s = (r, er) := ⟨_, _, rfl⟩
  rw [hr]
  have HR := Lib.hid (show cutU (unbL s (s.size + 1) 0 []) = (r, er) from hr)
  clear hr
  go_enter Tryz.func41, Tryz.ntmps41
  go_wp2
  go_loopw [4, 5] (fun v4 v5 wr => ∃ (m f : Nat) (l : List Ev), v5 = .int .i64 m ∧ m ≤ s.size ∧ s.size < f + m ∧ l.length ≤ m ∧ l.length ≤ 100 ∧ Own enE 8 29 wr w.heap.size v4 l ∧ Below w.heap.size w wr ∧ Hid (cutU (unbL s f m l) = (r, er))) (fun _ v5 _ => (s.size - intOf v5).toNat)
  case atStart => exact ⟨0, s.size + 1, [], rfl, Nat.zero_le _, by omega, Nat.zero_le _, Nat.zero_le _, Own.nil _ _ _ _ _, Below.refl _ _, HR⟩
  case round =>
    clear HR
    obtain ⟨m, f, l, rfl, hm, hf, hlm, hl100, hO, hB, HL⟩ := hrel
    obtain ⟨A, c, rfl, hcl⟩ := hO.slice
    by_cases hlt : m < s.size
    · have hge : ¬ (s.size : Int) ≤ (m : Int) := by omega
      obtain ⟨f, rfl⟩ : ∃ g, f = g + 1 := ⟨f - 1, by omega⟩
      obtain ⟨t, to, et, ht⟩ : ∃ t to et, takeV s m 300 = (t, to, et) := ⟨_, _, _, rfl⟩
      have HT := Lib.hid ht
      by_cases het : et = 0
      · subst het
        obtain ⟨_, t2, t3, t4⟩ := takeV_on s m 300 t to ht
        obtain ⟨p, rfl⟩ := Int.eq_ofNat_of_zero_le (show 0 ≤ to by omega)
        obtain ⟨⟨k, u, o, i, a, q, n, x⟩, ed, hd⟩ : ∃ e ed, decR t = (e, ed) := ⟨_, _, rfl⟩
        have HD := Lib.hid hd
        by_cases hed : ed = 0
        · subst hed
          have HN : Hid (cutU (unbL s f p (l ++ [⟨k, u, o, i, a, q, n, x⟩])) = (r, er)) := by
            show _ = _
            rw [← HL.out, unbL_yes s f m l t p _ hge ht hd]
          by_cases hfull : l.length = 100
          · have HF : Hid (r = [] ∧ er = 3) := by
              have := HL.out
              rw [unbL_full s _ _ l hge (by omega)] at this
              injection this with h1 h2
              exact ⟨h1.symm, h2.symm⟩
            clear ht hd HL HN
            go_wp2_with fail
            refine (varTake_is s m 300 t p 0 _ (by omega) (by omega) (by omega) HT).mono ?_
            rintro e w1 ⟨rfl, rfl⟩
            go_wp2_with fail
            refine (dec_is t _ 0 _ (by omega) HD).mono ?_
            rintro e w1 ⟨rfl, b1⟩
            have hB1 := below_call hB b1
            unfold evV
            clear b1 hB hO
            go_wp2
            go_ret2
            rw [HF.out.1, HF.out.2]
            exact ⟨_, rfl, Own.nil _ _ _ _ _, below_alloc0 hB1 _⟩
          · clear ht hd HL
            go_wp2_with fail
            refine (varTake_is s m 300 t p 0 _ (by omega) (by omega) (by omega) HT).mono ?_
            rintro e w1 ⟨rfl, rfl⟩
            go_wp2_with fail
            refine (dec_is t _ 0 _ (by omega) HD).mono ?_
            rintro e w1 ⟨rfl, b1⟩
            have hB1 := below_call hB b1
            have hO1 := hO.below b1
            have HZZ : Hid ((w1.alloc (.cells #[.int .i64 k, .string u, .string o, .int .i64 i, .int .i64 a, .int .i64 q, .int .i64 n, .string x] 29)).heap.size = w1.heap.size + 1) := Array.size_push ..
            unfold evV
            clear b1 hB hO
            go_wp2_with (at_builtin; go_must (refine Own.append (w0 := w) w.heap.size rfl (.tmp 35) (.tmp 37) 67 29 (.agg #[.int .i64 0, .string ⟨#[]⟩, .string ⟨#[]⟩, .int .i64 0, .int .i64 0, .int .i64 0, .int .i64 0, .string ⟨#[]⟩]) 8 88 rfl Tryz.underlying67 info_evz rfl (by decide) (.slice A l.length c) l ⟨k, u, o, i, a, q, n, x⟩ (enE ⟨k, u, o, i, a, q, n, x⟩) rfl (by rw [HZZ.out]; rfl) rfl rfl (enE_one _) (hO1.alloc _) (below_alloc0 hB1 _) (below_alloc0 hB1 _).size (by omega) (by omega) ?_; intro v2 w2 hO2 hB2 _ _))
            exact ⟨⟨p, f, l ++ [⟨k, u, o, i, a, q, n, x⟩], by go_num, by omega, by omega, by rw [List.length_append, List.length_singleton]; omega, by rw [List.length_append, List.length_singleton]; omega, hO2, hB2, HN⟩, by simp [intOf]; omega⟩
        · have hedb : (ed != 0) = true := by simpa using hed
          have HF : Hid (r = [] ∧ er = 3) := by
            have := HL.out
            rw [unbL_no s f m l t p _ ed hge ht hd hed] at this
            injection this with h1 h2
            exact ⟨h1.symm, h2.symm⟩
          clear ht hd HL hed
          go_wp2_with fail
          refine (varTake_is s m 300 t p 0 _ (by omega) (by omega) (by omega) HT).mono ?_
          rintro e w1 ⟨rfl, rfl⟩
          go_wp2_with fail
          refine (dec_is t _ ed _ (by omega) HD).mono ?_
          rintro e w1 ⟨rfl, b1⟩
          have hB1 := below_call hB b1
          unfold evV
          clear b1 hB hO
          go_wp2
          go_ret2
          rw [HF.out.1, HF.out.2]
          exact ⟨_, rfl, Own.nil _ _ _ _ _, below_alloc0 hB1 _⟩
      · have hetb : (et != 0) = true := by simpa using het
        have HF : Hid (r = [] ∧ er = 3) := by
          have := HL.out
          rw [unbL_bad s f m l t to et hge ht het] at this
          injection this with h1 h2
          exact ⟨h1.symm, h2.symm⟩
        clear ht HL het
        go_wp2_with fail
        refine (varTake_is s m 300 t to et _ (by omega) (by omega) (by omega) HT).mono ?_
        rintro e w1 ⟨rfl, rfl⟩
        go_wp2
        go_ret2
        rw [HF.out.1, HF.out.2]
        exact ⟨_, rfl, Own.nil _ _ _ _ _, hB⟩
    · have hmn : m = s.size := by omega
      subst hmn
      obtain ⟨f, rfl⟩ : ∃ g, f = g + 1 := ⟨f - 1, by omega⟩
      have HE : Hid (cutU (some l) = (r, er)) := by
        show _ = _
        rw [← HL.out, unbL_end s f _ l (by omega)]
      clear HL
      have HF : Hid (r = l ∧ er = 0) := by
        have := HE.out
        unfold cutU at this
        simp only at this
        rw [if_neg (by omega)] at this
        injection this with h1 h2
        exact ⟨h1.symm, h2.symm⟩
      go_wp2
      go_ret2
      rw [HF.out.1, HF.out.2]
      exact ⟨_, rfl, hO, hB⟩
end Go.Proofs.YtbpfcjdjhponaaaGreat
namespace Go.Proofs.YtbpfcjdjhponaaaGreat
open Go.RowKit
open Sp
instance : DecidableEq Sp.Ev := fun a b => decidable_of_iff (a.k = b.k ∧ a.u = b.u ∧ a.o = b.o ∧ a.i = b.i ∧ a.v = b.v) ⟨fun h => by cases a; cases b; simp only at h; obtain ⟨h1, h2, h3, h4, h5⟩ := h; subst h1 h2 h3 h4 h5; rfl, fun h => by subst h; exact ⟨rfl, rfl, rfl, rfl, rfl⟩⟩
abbrev bA : ByteArray := ⟨#[97]⟩
abbrev bBob : ByteArray := ⟨#[98, 111, 98]⟩
abbrev b0 : ByteArray := ⟨#[]⟩
abbrev eX : Ev := ⟨8, bA, b0, 2, 0, 0, 0, b0⟩
abbrev eY : Ev := ⟨5, bA, bBob, 0, 0, 0, 0, b0⟩
abbrev sX : ByteArray := ⟨#[8, 1, 97, 2, 14, 166, 218, 119]⟩
abbrev sY : ByteArray := ⟨#[5, 1, 97, 3, 98, 111, 98, 61, 186, 101, 184]⟩
abbrev sZ : ByteArray := ⟨#[9, 1, 97, 2, 107, 193, 102, 207]⟩
abbrev sM : ByteArray := ⟨#[8, 8, 1, 97, 2, 14, 166, 218, 119, 11, 5, 1, 97, 3, 98, 111, 98, 61, 186, 101, 184]⟩
theorem lv1 : encE eX = (sX, 0) := by decide +kernel
theorem lv2 : encE eY = (sY, 0) := by decide +kernel
theorem lv3 : encE ⟨5, bA, b0, 0, 0, 0, 0, b0⟩ = (b0, 1) := by decide +kernel
theorem lv4 : sealS ⟨#[9, 1, 97, 2]⟩ = sZ := by decide +kernel
theorem lv5 : sealS ⟨#[8, 1, 97, 2]⟩ = sX := by decide +kernel
theorem lv6 : sealS ⟨#[5, 1, 97, 3, 98, 111, 98]⟩ = sY := by decide +kernel
theorem lv7 : decR sY = (eY, 0) := by decide +kernel
theorem lv8 : decR ⟨#[97, 98, 99]⟩ = (zeroE, 2) := by decide +kernel
theorem lv9 : decR sZ = (zeroE, 3) := by decide +kernel
theorem lv10 : batchE [eX, eY] = (sM, 0) := by decide +kernel
theorem lv11 : unbE sM = ([eX, eY], 0) := by decide +kernel
theorem lv12 : unbE ⟨#[120]⟩ = ([], 3) := by decide +kernel
theorem lv13 : foldE ⟨5, ⟨#[65]⟩, ⟨#[66, 111, 98]⟩, 0, 0, 0, 0, b0⟩ = (eY, true) := by decide +kernel
theorem lv14 : mayE8 8 bA b0 2 0 0 0 b0 = true := by decide +kernel
theorem lv15 : mayE8 0 b0 b0 0 0 0 0 b0 = false := by decide +kernel
theorem lv16 : foldV ⟨#[65]⟩ = (bA, true) := by decide +kernel
theorem lv17 : foldV ⟨#[66, 111, 98]⟩ = (bBob, true) := by decide +kernel
theorem ev_y : evV eY = .agg #[.int .i64 5, .string ⟨#[97]⟩, .string ⟨#[98, 111, 98]⟩, .int .i64 0, .int .i64 0, .int .i64 0, .int .i64 0, .string ⟨#[]⟩] := rfl
theorem ev_z : evV zeroE = .agg #[.int .i64 0, .string ⟨#[]⟩, .string ⟨#[]⟩, .int .i64 0, .int .i64 0, .int .i64 0, .int .i64 0, .string ⟨#[]⟩] := rfl
abbrev cX : Obj := .cells #[.int .i64 8, .string ⟨#[97]⟩, .string ⟨#[]⟩, .int .i64 2, .int .i64 0, .int .i64 0, .int .i64 0, .string ⟨#[]⟩] 29
abbrev cY : Obj := .cells #[.int .i64 5, .string ⟨#[97]⟩, .string ⟨#[98, 111, 98]⟩, .int .i64 0, .int .i64 0, .int .i64 0, .int .i64 0, .string ⟨#[]⟩] 29
theorem cells8 {W : World} {g : Nat} {a0 a1 a2 a3 a4 a5 a6 a7 : Value} {T : TypeId} (h : W.heap[g]? = some (.cells #[a0, a1, a2, a3, a4, a5, a6, a7] T)) :
    W.cell? ⟨g, 0, none⟩ = some a0 ∧ W.cell? ⟨g, 1, none⟩ = some a1 ∧ W.cell? ⟨g, 2, none⟩ = some a2 ∧ W.cell? ⟨g, 3, none⟩ = some a3 ∧ W.cell? ⟨g, 4, none⟩ = some a4 ∧ W.cell? ⟨g, 5, none⟩ = some a5 ∧ W.cell? ⟨g, 6, none⟩ = some a6 ∧ W.cell? ⟨g, 7, none⟩ = some a7 ∧ g < W.heap.size :=
  ⟨by simp [World.cell?, h], by simp [World.cell?, h], by simp [World.cell?, h], by simp [World.cell?, h], by simp [World.cell?, h], by simp [World.cell?, h], by simp [World.cell?, h], by simp [World.cell?, h], (Array.getElem?_eq_some_iff.1 h).1⟩
abbrev cZ : Obj := .cells #[.int .i64 0, .string ⟨#[]⟩, .string ⟨#[]⟩, .int .i64 0, .int .i64 0, .int .i64 0, .int .i64 0, .string ⟨#[]⟩] 29
theorem lvS : SzEvs [eX, eY] := by
  intro e he
  simp only [List.mem_cons, List.mem_nil_iff, or_false] at he
  rcases he with rfl | rfl <;> decide
set_option maxHeartbeats 8000000 in
set_option maxRecDepth 100000 in
theorem live23 (w : World) : Calls Tryz.prog 12 #[] w fun e w' => e = .returned (.bool true) ∧ Below w.heap.size w w' := by
  go_enter Tryz.func12, Tryz.ntmps12
  have hx0 : ((w.alloc cX).alloc cY).heap[w.heap.size]? = some cX := halloc (heap_alloc_new w cX) _
  have hy0 : ((w.alloc cX).alloc cY).heap[w.heap.size + 1]? = some cY := by have := heap_alloc_new (w.alloc cX) cY; rwa [show (w.alloc cX).heap.size = w.heap.size + 1 from Array.size_push ..] at this
  go_wp2_with fail
  refine (enc_is 8 bA b0 2 0 0 0 b0 sX 0 _ (by decide) (by decide) (by decide) lv1).mono ?_
  rintro e w1 ⟨rfl, b1⟩
  have B1 := below_call (below_alloc0 (below_alloc0 (Below.refl w.heap.size w) _) _) b1
  have hx1 : w1.heap[w.heap.size]? = some cX := hcall (hx0) b1
  have hy1 : w1.heap[(w.heap.size + 1)]? = some cY := hcall (hy0) b1
  obtain ⟨chx0_1, chx1_1, chx2_1, chx3_1, chx4_1, chx5_1, chx6_1, chx7_1, zhx_1⟩ := cells8 hx1
  obtain ⟨chy0_1, chy1_1, chy2_1, chy3_1, chy4_1, chy5_1, chy6_1, chy7_1, zhy_1⟩ := cells8 hy1
  clear b1
  go_wp2_with fail
  refine (enc_is 5 bA bBob 0 0 0 0 b0 sY 0 _ (by decide) (by decide) (by decide) lv2).mono ?_
  rintro e w2 ⟨rfl, b2⟩
  have B2 := below_call B1 b2
  have hx2 : w2.heap[w.heap.size]? = some cX := hcall (hx1) b2
  have hy2 : w2.heap[(w.heap.size + 1)]? = some cY := hcall (hy1) b2
  obtain ⟨chx0_2, chx1_2, chx2_2, chx3_2, chx4_2, chx5_2, chx6_2, chx7_2, zhx_2⟩ := cells8 hx2
  obtain ⟨chy0_2, chy1_2, chy2_2, chy3_2, chy4_2, chy5_2, chy6_2, chy7_2, zhy_2⟩ := cells8 hy2
  clear b2 B1 hx1 hy1 chx0_1 chx1_1 chx2_1 chx3_1 chx4_1 chx5_1 chx6_1 chx7_1 chy0_1 chy1_1 chy2_1 chy3_1 chy4_1 chy5_1 chy6_1 chy7_1 zhx_1 zhy_1
  go_wp2_with fail
  refine (enc_is 5 bA b0 0 0 0 0 b0 b0 1 _ (by decide) (by decide) (by decide) lv3).mono ?_
  rintro e w3 ⟨rfl, b3⟩
  have B3 := below_call B2 b3
  have hx3 : w3.heap[w.heap.size]? = some cX := hcall (hx2) b3
  have hy3 : w3.heap[(w.heap.size + 1)]? = some cY := hcall (hy2) b3
  obtain ⟨chx0_3, chx1_3, chx2_3, chx3_3, chx4_3, chx5_3, chx6_3, chx7_3, zhx_3⟩ := cells8 hx3
  obtain ⟨chy0_3, chy1_3, chy2_3, chy3_3, chy4_3, chy5_3, chy6_3, chy7_3, zhy_3⟩ := cells8 hy3
  clear b3 B2 hx2 hy2 chx0_2 chx1_2 chx2_2 chx3_2 chx4_2 chx5_2 chx6_2 chx7_2 chy0_2 chy1_2 chy2_2 chy3_2 chy4_2 chy5_2 chy6_2 chy7_2 zhx_2 zhy_2
  go_wp2_with fail
  refine (dec_is sY eY 0 _ (by decide) lv7).mono ?_
  rintro e w4 ⟨rfl, b4⟩
  have B4 := below_call B3 b4
  have hx4 : w4.heap[w.heap.size]? = some cX := hcall (hx3) b4
  have hy4 : w4.heap[(w.heap.size + 1)]? = some cY := hcall (hy3) b4
  obtain ⟨chx0_4, chx1_4, chx2_4, chx3_4, chx4_4, chx5_4, chx6_4, chx7_4, zhx_4⟩ := cells8 hx4
  obtain ⟨chy0_4, chy1_4, chy2_4, chy3_4, chy4_4, chy5_4, chy6_4, chy7_4, zhy_4⟩ := cells8 hy4
  clear b4 B3 hx3 hy3 chx0_3 chx1_3 chx2_3 chx3_3 chx4_3 chx5_3 chx6_3 chx7_3 chy0_3 chy1_3 chy2_3 chy3_3 chy4_3 chy5_3 chy6_3 chy7_3 zhx_3 zhy_3
  rw [ev_y]
  go_wp2_with fail
  refine (dec_is ⟨#[97, 98, 99]⟩ zeroE 2 _ (by decide) lv8).mono ?_
  rintro e w5 ⟨rfl, b5⟩
  have B5 := below_call (below_alloc0 B4 _) b5
  have hx5 : w5.heap[w.heap.size]? = some cX := hcall (halloc (hx4) _) b5
  have hy5 : w5.heap[(w.heap.size + 1)]? = some cY := hcall (halloc (hy4) _) b5
  have hu5 : w5.heap[w4.heap.size]? = some cY := hcall (heap_alloc_new w4 cY) b5
  obtain ⟨chx0_5, chx1_5, chx2_5, chx3_5, chx4_5, chx5_5, chx6_5, chx7_5, zhx_5⟩ := cells8 hx5
  obtain ⟨chy0_5, chy1_5, chy2_5, chy3_5, chy4_5, chy5_5, chy6_5, chy7_5, zhy_5⟩ := cells8 hy5
  obtain ⟨chu0_5, chu1_5, chu2_5, chu3_5, chu4_5, chu5_5, chu6_5, chu7_5, zhu_5⟩ := cells8 hu5
  clear b5 B4 hx4 hy4 chx0_4 chx1_4 chx2_4 chx3_4 chx4_4 chx5_4 chx6_4 chx7_4 chy0_4 chy1_4 chy2_4 chy3_4 chy4_4 chy5_4 chy6_4 chy7_4 zhx_4 zhy_4
  rw [ev_z]
  go_wp2_with fail
  refine ((re_ (refSeal_calls ⟨#[9, 1, 97, 2]⟩ _ (by decide)) (by rw [lv4]) : Calls _ _ _ _ fun e w' => e = .returned (.string sZ) ∧ Below _ _ w')).mono ?_
  rintro e w6 ⟨rfl, b6⟩
  have B6 := below_call (below_alloc0 B5 _) b6
  have hx6 : w6.heap[w.heap.size]? = some cX := hcall (halloc (hx5) _) b6
  have hy6 : w6.heap[(w.heap.size + 1)]? = some cY := hcall (halloc (hy5) _) b6
  have hu6 : w6.heap[w4.heap.size]? = some cY := hcall (halloc (hu5) _) b6
  obtain ⟨chx0_6, chx1_6, chx2_6, chx3_6, chx4_6, chx5_6, chx6_6, chx7_6, zhx_6⟩ := cells8 hx6
  obtain ⟨chy0_6, chy1_6, chy2_6, chy3_6, chy4_6, chy5_6, chy6_6, chy7_6, zhy_6⟩ := cells8 hy6
  obtain ⟨chu0_6, chu1_6, chu2_6, chu3_6, chu4_6, chu5_6, chu6_6, chu7_6, zhu_6⟩ := cells8 hu6
  clear b6 B5 hx5 hy5 hu5 chx0_5 chx1_5 chx2_5 chx3_5 chx4_5 chx5_5 chx6_5 chx7_5 chy0_5 chy1_5 chy2_5 chy3_5 chy4_5 chy5_5 chy6_5 chy7_5 chu0_5 chu1_5 chu2_5 chu3_5 chu4_5 chu5_5 chu6_5 chu7_5 zhx_5 zhy_5 zhu_5
  go_wp2_with fail
  refine (dec_is sZ zeroE 3 _ (by decide) lv9).mono ?_
  rintro e w7 ⟨rfl, b7⟩
  have B7 := below_call B6 b7
  have hx7 : w7.heap[w.heap.size]? = some cX := hcall (hx6) b7
  have hy7 : w7.heap[(w.heap.size + 1)]? = some cY := hcall (hy6) b7
  have hu7 : w7.heap[w4.heap.size]? = some cY := hcall (hu6) b7
  obtain ⟨chx0_7, chx1_7, chx2_7, chx3_7, chx4_7, chx5_7, chx6_7, chx7_7, zhx_7⟩ := cells8 hx7
  obtain ⟨chy0_7, chy1_7, chy2_7, chy3_7, chy4_7, chy5_7, chy6_7, chy7_7, zhy_7⟩ := cells8 hy7
  obtain ⟨chu0_7, chu1_7, chu2_7, chu3_7, chu4_7, chu5_7, chu6_7, chu7_7, zhu_7⟩ := cells8 hu7
  clear b7 B6 hx6 hy6 hu6 chx0_6 chx1_6 chx2_6 chx3_6 chx4_6 chx5_6 chx6_6 chx7_6 chy0_6 chy1_6 chy2_6 chy3_6 chy4_6 chy5_6 chy6_6 chy7_6 chu0_6 chu1_6 chu2_6 chu3_6 chu4_6 chu5_6 chu6_6 chu7_6 zhx_6 zhy_6 zhu_6
  rw [ev_z]
  have hb7 := (Own.lit (e := 29) (base := 0) enE_len (w7.alloc cZ) [eX, eY] #[.int .i64 8, .string ⟨#[97]⟩, .string ⟨#[]⟩, .int .i64 2, .int .i64 0, .int .i64 0, .int .i64 0, .string ⟨#[]⟩, .int .i64 5, .string ⟨#[97]⟩, .string ⟨#[98, 111, 98]⟩, .int .i64 0, .int .i64 0, .int .i64 0, .int .i64 0, .string ⟨#[]⟩] 2 rfl rfl (Nat.zero_le _) (by omega)).row
  rw [show (w7.alloc cZ).heap.size = w7.heap.size + 1 from Array.size_push ..] at hb7
  go_wp2_with fail
  refine ((re_ (batch_calls 2 2 _ [eX, eY] _ hb7 lvS) (by rw [lv10]) : Calls _ _ _ _ fun e w' => e = .returned (.tuple #[.string sM, .int .i64 0]) ∧ Below _ _ w')).mono ?_
  rintro e w8 ⟨rfl, b8⟩
  have B8 := below_call (below_alloc0 (below_alloc0 B7 _) _) b8
  have hx8 : w8.heap[w.heap.size]? = some cX := hcall (halloc (halloc (hx7) _) _) b8
  have hy8 : w8.heap[(w.heap.size + 1)]? = some cY := hcall (halloc (halloc (hy7) _) _) b8
  have hu8 : w8.heap[w4.heap.size]? = some cY := hcall (halloc (halloc (hu7) _) _) b8
  obtain ⟨chx0_8, chx1_8, chx2_8, chx3_8, chx4_8, chx5_8, chx6_8, chx7_8, zhx_8⟩ := cells8 hx8
  obtain ⟨chy0_8, chy1_8, chy2_8, chy3_8, chy4_8, chy5_8, chy6_8, chy7_8, zhy_8⟩ := cells8 hy8
  obtain ⟨chu0_8, chu1_8, chu2_8, chu3_8, chu4_8, chu5_8, chu6_8, chu7_8, zhu_8⟩ := cells8 hu8
  clear b8 B7 hx7 hy7 hu7 chx0_7 chx1_7 chx2_7 chx3_7 chx4_7 chx5_7 chx6_7 chx7_7 chy0_7 chy1_7 chy2_7 chy3_7 chy4_7 chy5_7 chy6_7 chy7_7 chu0_7 chu1_7 chu2_7 chu3_7 chu4_7 chu5_7 chu6_7 chu7_7 zhx_7 zhy_7 zhu_7
  clear hb7
  go_wp2_with fail
  refine (unb_calls sM _ (by decide)).mono ?_
  rintro e w9 ⟨v, rfl, ho, b9⟩
  have B9 := below_call B8 b9
  have hx9 : w9.heap[w.heap.size]? = some cX := hcall (hx8) b9
  have hy9 : w9.heap[(w.heap.size + 1)]? = some cY := hcall (hy8) b9
  have hu9 : w9.heap[w4.heap.size]? = some cY := hcall (hu8) b9
  obtain ⟨chx0_9, chx1_9, chx2_9, chx3_9, chx4_9, chx5_9, chx6_9, chx7_9, zhx_9⟩ := cells8 hx9
  obtain ⟨chy0_9, chy1_9, chy2_9, chy3_9, chy4_9, chy5_9, chy6_9, chy7_9, zhy_9⟩ := cells8 hy9
  obtain ⟨chu0_9, chu1_9, chu2_9, chu3_9, chu4_9, chu5_9, chu6_9, chu7_9, zhu_9⟩ := cells8 hu9
  clear b9 B8 hx8 hy8 hu8 chx0_8 chx1_8 chx2_8 chx3_8 chx4_8 chx5_8 chx6_8 chx7_8 chy0_8 chy1_8 chy2_8 chy3_8 chy4_8 chy5_8 chy6_8 chy7_8 chu0_8 chu1_8 chu2_8 chu3_8 chu4_8 chu5_8 chu6_8 chu7_8 zhx_8 zhy_8 zhu_8
  rw [lv11] at ho
  have hl9 : Row enE 8 w9 v [eX, eY] := ho.row
  obtain ⟨A, m, c, rfl⟩ : ∃ A m c, v = .slice A m c := by obtain ⟨A, c, rfl, _⟩ := hl9; exact ⟨_, _, _, rfl⟩
  clear ho
  rw [lv11]
  go_wp2_with fail
  refine (unb_calls ⟨#[120]⟩ _ (by decide)).mono ?_
  rintro e w10 ⟨v2, rfl, ho, b10⟩
  have B10 := below_call B9 b10
  have hx10 : w10.heap[w.heap.size]? = some cX := hcall (hx9) b10
  have hy10 : w10.heap[(w.heap.size + 1)]? = some cY := hcall (hy9) b10
  have hu10 : w10.heap[w4.heap.size]? = some cY := hcall (hu9) b10
  obtain ⟨chx0_10, chx1_10, chx2_10, chx3_10, chx4_10, chx5_10, chx6_10, chx7_10, zhx_10⟩ := cells8 hx10
  obtain ⟨chy0_10, chy1_10, chy2_10, chy3_10, chy4_10, chy5_10, chy6_10, chy7_10, zhy_10⟩ := cells8 hy10
  obtain ⟨chu0_10, chu1_10, chu2_10, chu3_10, chu4_10, chu5_10, chu6_10, chu7_10, zhu_10⟩ := cells8 hu10
  have hl10 := hl9.below b10
  clear b10 hl9 B9 hx9 hy9 hu9 chx0_9 chx1_9 chx2_9 chx3_9 chx4_9 chx5_9 chx6_9 chx7_9 chy0_9 chy1_9 chy2_9 chy3_9 chy4_9 chy5_9 chy6_9 chy7_9 chu0_9 chu1_9 chu2_9 chu3_9 chu4_9 chu5_9 chu6_9 chu7_9 zhx_9 zhy_9 zhu_9
  rw [lv12]
  clear ho
  go_wp2_with fail
  refine (foldE_w 5 ⟨#[65]⟩ ⟨#[66, 111, 98]⟩ 0 0 0 0 b0 bA bBob true true _ (by decide) (by decide) (by decide) lv16 lv17 (by decide) (by decide)).mono ?_
  rintro e w11 ⟨rfl, b11⟩
  have B11 := below_call B10 b11
  have hx11 : w11.heap[w.heap.size]? = some cX := hcall (hx10) b11
  have hy11 : w11.heap[(w.heap.size + 1)]? = some cY := hcall (hy10) b11
  have hu11 : w11.heap[w4.heap.size]? = some cY := hcall (hu10) b11
  obtain ⟨chx0_11, chx1_11, chx2_11, chx3_11, chx4_11, chx5_11, chx6_11, chx7_11, zhx_11⟩ := cells8 hx11
  obtain ⟨chy0_11, chy1_11, chy2_11, chy3_11, chy4_11, chy5_11, chy6_11, chy7_11, zhy_11⟩ := cells8 hy11
  obtain ⟨chu0_11, chu1_11, chu2_11, chu3_11, chu4_11, chu5_11, chu6_11, chu7_11, zhu_11⟩ := cells8 hu11
  have hl11 := hl10.below b11
  clear b11 hl10 B10 hx10 hy10 hu10 chx0_10 chx1_10 chx2_10 chx3_10 chx4_10 chx5_10 chx6_10 chx7_10 chy0_10 chy1_10 chy2_10 chy3_10 chy4_10 chy5_10 chy6_10 chy7_10 chu0_10 chu1_10 chu2_10 chu3_10 chu4_10 chu5_10 chu6_10 chu7_10 zhx_10 zhy_10 zhu_10
  rw [lv13, ev_y]
  go_wp2_with fail
  refine ((re_ (refSeal_calls ⟨#[8, 1, 97, 2]⟩ _ (by decide)) (by rw [lv5]) : Calls _ _ _ _ fun e w' => e = .returned (.string sX) ∧ Below _ _ w')).mono ?_
  rintro e w12 ⟨rfl, b12⟩
  have B12 := below_call (below_alloc0 B11 _) b12
  have hx12 : w12.heap[w.heap.size]? = some cX := hcall (halloc (hx11) _) b12
  have hy12 : w12.heap[(w.heap.size + 1)]? = some cY := hcall (halloc (hy11) _) b12
  have hu12 : w12.heap[w4.heap.size]? = some cY := hcall (halloc (hu11) _) b12
  have hw12 : w12.heap[w11.heap.size]? = some cY := hcall (heap_alloc_new w11 cY) b12
  obtain ⟨chx0_12, chx1_12, chx2_12, chx3_12, chx4_12, chx5_12, chx6_12, chx7_12, zhx_12⟩ := cells8 hx12
  obtain ⟨chy0_12, chy1_12, chy2_12, chy3_12, chy4_12, chy5_12, chy6_12, chy7_12, zhy_12⟩ := cells8 hy12
  obtain ⟨chu0_12, chu1_12, chu2_12, chu3_12, chu4_12, chu5_12, chu6_12, chu7_12, zhu_12⟩ := cells8 hu12
  obtain ⟨chw0_12, chw1_12, chw2_12, chw3_12, chw4_12, chw5_12, chw6_12, chw7_12, zhw_12⟩ := cells8 hw12
  have hl12 := (hl11.below ((Below.refl _ _).alloc (Nat.le_refl _) _)).below b12
  clear b12 hl11 B11 hx11 hy11 hu11 chx0_11 chx1_11 chx2_11 chx3_11 chx4_11 chx5_11 chx6_11 chx7_11 chy0_11 chy1_11 chy2_11 chy3_11 chy4_11 chy5_11 chy6_11 chy7_11 chu0_11 chu1_11 chu2_11 chu3_11 chu4_11 chu5_11 chu6_11 chu7_11 zhx_11 zhy_11 zhu_11
  go_wp2_with fail
  refine ((re_ (refSeal_calls ⟨#[5, 1, 97, 3, 98, 111, 98]⟩ _ (by decide)) (by rw [lv6]) : Calls _ _ _ _ fun e w' => e = .returned (.string sY) ∧ Below _ _ w')).mono ?_
  rintro e w13 ⟨rfl, b13⟩
  have B13 := below_call B12 b13
  have hx13 : w13.heap[w.heap.size]? = some cX := hcall (hx12) b13
  have hy13 : w13.heap[(w.heap.size + 1)]? = some cY := hcall (hy12) b13
  have hu13 : w13.heap[w4.heap.size]? = some cY := hcall (hu12) b13
  have hw13 : w13.heap[w11.heap.size]? = some cY := hcall (hw12) b13
  obtain ⟨chx0_13, chx1_13, chx2_13, chx3_13, chx4_13, chx5_13, chx6_13, chx7_13, zhx_13⟩ := cells8 hx13
  obtain ⟨chy0_13, chy1_13, chy2_13, chy3_13, chy4_13, chy5_13, chy6_13, chy7_13, zhy_13⟩ := cells8 hy13
  obtain ⟨chu0_13, chu1_13, chu2_13, chu3_13, chu4_13, chu5_13, chu6_13, chu7_13, zhu_13⟩ := cells8 hu13
  obtain ⟨chw0_13, chw1_13, chw2_13, chw3_13, chw4_13, chw5_13, chw6_13, chw7_13, zhw_13⟩ := cells8 hw13
  have hl13 := hl12.below b13
  clear b13 hl12 B12 hx12 hy12 hu12 hw12 chx0_12 chx1_12 chx2_12 chx3_12 chx4_12 chx5_12 chx6_12 chx7_12 chy0_12 chy1_12 chy2_12 chy3_12 chy4_12 chy5_12 chy6_12 chy7_12 chu0_12 chu1_12 chu2_12 chu3_12 chu4_12 chu5_12 chu6_12 chu7_12 chw0_12 chw1_12 chw2_12 chw3_12 chw4_12 chw5_12 chw6_12 chw7_12 zhx_12 zhy_12 zhu_12 zhw_12
  have hb13 := (Own.lit (e := 29) (base := 0) enE_len w13 [eX, eY] #[.int .i64 8, .string ⟨#[97]⟩, .string ⟨#[]⟩, .int .i64 2, .int .i64 0, .int .i64 0, .int .i64 0, .string ⟨#[]⟩, .int .i64 5, .string ⟨#[97]⟩, .string ⟨#[98, 111, 98]⟩, .int .i64 0, .int .i64 0, .int .i64 0, .int .i64 0, .string ⟨#[]⟩] 2 rfl rfl (Nat.zero_le _) (by omega)).row
  go_wp2_with fail
  refine (sameE_calls m c 2 2 _ _ [eX, eY] [eX, eY] _ (hl13.below ((Below.refl _ _).alloc (Nat.le_refl _) _)) hb13).mono ?_
  rintro e w14 ⟨bs, rfl, hs, b14⟩
  have B14 := below_call (below_alloc0 B13 _) b14
  have hx14 : w14.heap[w.heap.size]? = some cX := hcall (halloc (hx13) _) b14
  have hy14 : w14.heap[(w.heap.size + 1)]? = some cY := hcall (halloc (hy13) _) b14
  have hu14 : w14.heap[w4.heap.size]? = some cY := hcall (halloc (hu13) _) b14
  have hw14 : w14.heap[w11.heap.size]? = some cY := hcall (halloc (hw13) _) b14
  obtain ⟨chx0_14, chx1_14, chx2_14, chx3_14, chx4_14, chx5_14, chx6_14, chx7_14, zhx_14⟩ := cells8 hx14
  obtain ⟨chy0_14, chy1_14, chy2_14, chy3_14, chy4_14, chy5_14, chy6_14, chy7_14, zhy_14⟩ := cells8 hy14
  obtain ⟨chu0_14, chu1_14, chu2_14, chu3_14, chu4_14, chu5_14, chu6_14, chu7_14, zhu_14⟩ := cells8 hu14
  obtain ⟨chw0_14, chw1_14, chw2_14, chw3_14, chw4_14, chw5_14, chw6_14, chw7_14, zhw_14⟩ := cells8 hw14
  clear b14 B13 hx13 hy13 hu13 hw13 chx0_13 chx1_13 chx2_13 chx3_13 chx4_13 chx5_13 chx6_13 chx7_13 chy0_13 chy1_13 chy2_13 chy3_13 chy4_13 chy5_13 chy6_13 chy7_13 chu0_13 chu1_13 chu2_13 chu3_13 chu4_13 chu5_13 chu6_13 chu7_13 chw0_13 chw1_13 chw2_13 chw3_13 chw4_13 chw5_13 chw6_13 chw7_13 zhx_13 zhy_13 zhu_13 zhw_13
  obtain rfl : bs = true := hs.2 rfl
  clear hs hl13 hb13
  go_wp2_with fail
  refine ((re_ (mayE_calls 8 bA b0 2 0 0 0 b0 _ (by decide) (by decide) (by decide)) (by rw [lv14]) : Calls _ _ _ _ fun e w' => e = .returned (.bool true) ∧ Below _ _ w')).mono ?_
  rintro e w15 ⟨rfl, b15⟩
  have B15 := below_call B14 b15
  have hx15 : w15.heap[w.heap.size]? = some cX := hcall (hx14) b15
  have hy15 : w15.heap[(w.heap.size + 1)]? = some cY := hcall (hy14) b15
  have hu15 : w15.heap[w4.heap.size]? = some cY := hcall (hu14) b15
  have hw15 : w15.heap[w11.heap.size]? = some cY := hcall (hw14) b15
  obtain ⟨chx0_15, chx1_15, chx2_15, chx3_15, chx4_15, chx5_15, chx6_15, chx7_15, zhx_15⟩ := cells8 hx15
  obtain ⟨chy0_15, chy1_15, chy2_15, chy3_15, chy4_15, chy5_15, chy6_15, chy7_15, zhy_15⟩ := cells8 hy15
  obtain ⟨chu0_15, chu1_15, chu2_15, chu3_15, chu4_15, chu5_15, chu6_15, chu7_15, zhu_15⟩ := cells8 hu15
  obtain ⟨chw0_15, chw1_15, chw2_15, chw3_15, chw4_15, chw5_15, chw6_15, chw7_15, zhw_15⟩ := cells8 hw15
  clear b15 B14 hx14 hy14 hu14 hw14 chx0_14 chx1_14 chx2_14 chx3_14 chx4_14 chx5_14 chx6_14 chx7_14 chy0_14 chy1_14 chy2_14 chy3_14 chy4_14 chy5_14 chy6_14 chy7_14 chu0_14 chu1_14 chu2_14 chu3_14 chu4_14 chu5_14 chu6_14 chu7_14 chw0_14 chw1_14 chw2_14 chw3_14 chw4_14 chw5_14 chw6_14 chw7_14 zhx_14 zhy_14 zhu_14 zhw_14
  go_wp2_with fail
  refine ((re_ (mayE_calls 0 b0 b0 0 0 0 0 b0 _ (by decide) (by decide) (by decide)) (by rw [lv15]) : Calls _ _ _ _ fun e w' => e = .returned (.bool false) ∧ Below _ _ w')).mono ?_
  rintro e w16 ⟨rfl, b16⟩
  have B16 := below_call B15 b16
  have hx16 : w16.heap[w.heap.size]? = some cX := hcall (hx15) b16
  have hy16 : w16.heap[(w.heap.size + 1)]? = some cY := hcall (hy15) b16
  have hu16 : w16.heap[w4.heap.size]? = some cY := hcall (hu15) b16
  have hw16 : w16.heap[w11.heap.size]? = some cY := hcall (hw15) b16
  obtain ⟨chx0_16, chx1_16, chx2_16, chx3_16, chx4_16, chx5_16, chx6_16, chx7_16, zhx_16⟩ := cells8 hx16
  obtain ⟨chy0_16, chy1_16, chy2_16, chy3_16, chy4_16, chy5_16, chy6_16, chy7_16, zhy_16⟩ := cells8 hy16
  obtain ⟨chu0_16, chu1_16, chu2_16, chu3_16, chu4_16, chu5_16, chu6_16, chu7_16, zhu_16⟩ := cells8 hu16
  obtain ⟨chw0_16, chw1_16, chw2_16, chw3_16, chw4_16, chw5_16, chw6_16, chw7_16, zhw_16⟩ := cells8 hw16
  clear b16 B15 hx15 hy15 hu15 hw15 chx0_15 chx1_15 chx2_15 chx3_15 chx4_15 chx5_15 chx6_15 chx7_15 chy0_15 chy1_15 chy2_15 chy3_15 chy4_15 chy5_15 chy6_15 chy7_15 chu0_15 chu1_15 chu2_15 chu3_15 chu4_15 chu5_15 chu6_15 chu7_15 chw0_15 chw1_15 chw2_15 chw3_15 chw4_15 chw5_15 chw6_15 chw7_15 zhx_15 zhy_15 zhu_15 zhw_15
  go_wp2
  go_ret
  exact ⟨rfl, B16⟩
end Go.Proofs.YtbpfcjdjhponaaaGreat
namespace Go.Proofs.YtbpfcjdjhponaaaGreat
open Go.RowKit
open Sp
namespace Sp
theorem byte_of (n : Nat) (h : n < 256) : (UInt8.ofNat n).toNat = n := by simp; omega
theorem getL_put : ∀ (n i m : Nat) (rest : List UInt8), n * 128 ^ i < 18446744073709551616 → i ≤ 9 → (0 < i → 0 < n) → getL (putV n ++ rest) i m = some (some (m + n * 128 ^ i, i + (putV n).length)) := by
  intro n
  induction n using Nat.strongRecOn with
  | ind n ih =>
    intro i m rest hn hi h0
    by_cases hs : n < 128
    · rw [putV_small hs]
      simp only [List.cons_append, List.nil_append, getL, byte_of n (by omega), List.length_cons, List.length_nil]
      rw [if_neg, if_neg (by omega), if_neg (by omega), Nat.mod_eq_of_lt hs]
      rintro ⟨rfl, h1⟩
      omega
    · have hi9 : i < 9 := by
        rcases Nat.lt_or_ge i 9 with h | h
        · exact h
        · obtain rfl : i = 9 := by omega
          omega
      rw [putV_big (by omega)]
      simp only [List.cons_append, getL, byte_of (n % 128 + 128) (by omega), List.length_cons]
      have hp : n / 128 * 128 ^ (i + 1) + n % 128 * 128 ^ i = n * 128 ^ i := by
        rw [Nat.pow_succ, show n / 128 * (128 ^ i * 128) = (n / 128 * 128) * 128 ^ i by rw [Nat.mul_comm (128 ^ i) 128, Nat.mul_assoc], ← Nat.add_mul]
        congr 1; omega
      rw [if_neg (by omega), if_pos (by omega), ih (n / 128) (by omega) (i + 1) _ rest (by omega) (by omega) (by omega)]
      congr 3
      · rw [show (n % 128 + 128) % 128 = n % 128 by omega]; omega
      · omega
theorem getV_put (s : ByteArray) (a n : Nat) (rest : List UInt8) (h : s.data.toList.drop a = putV n ++ rest) (hn : n < 18446744073709551616) : getV s a = (n, (a : Int) + (putV n).length, 0) := by
  have ha : a ≤ s.size := by
    have h1 := congrArg List.length h
    have h2 := putV_len_pos n
    rw [List.length_drop, List.length_append, ← size_eq_length] at h1
    omega
  rw [getV_in s a ha, h, getL_put n 0 0 rest (by simpa using hn) (by omega) (by omega)]
  simp [getR]
theorem textV_list (t : ByteArray) : (textV t).data.toList = putV t.size ++ t.data.toList := rfl
theorem takeV_put (s : ByteArray) (a m : Nat) (t : ByteArray) (rest : List UInt8) (h : s.data.toList.drop a = (textV t).data.toList ++ rest) (hm : t.size ≤ m) (ht : t.size < 18446744073709551616) : takeV s a m = (t, (a : Int) + (textV t).size, 0) := by
  rw [textV_list, List.append_assoc] at h
  have hg := getV_put s a t.size _ h ht
  have hsz : (textV t).size = (putV t.size).length + t.size := by rw [size_eq_length, textV_list, List.length_append, ← size_eq_length]
  have hd : s.data.toList.drop (a + (putV t.size).length) = t.data.toList ++ rest := by rw [← List.drop_drop, h, List.drop_left]
  have hl : (a + (putV t.size).length) + t.size ≤ s.size := by
    have h1 := congrArg List.length hd
    have h2 := congrArg List.length h
    have h3 := putV_len_pos t.size
    rw [List.length_drop, List.length_append, ← size_eq_length, ← size_eq_length] at h1
    rw [List.length_drop, List.length_append, List.length_append, ← size_eq_length, ← size_eq_length] at h2
    omega
  rw [takeV_ok s a m t.size _ hg (by omega) (by omega)]
  have ht2 : ((a : Int) + ((putV t.size).length : Int)).toNat = a + (putV t.size).length := by omega
  rw [ht2, hsz]
  have he : s.extract (a + (putV t.size).length) (a + (putV t.size).length + t.size) = t := by
    rw [← toList_inj, ByteArray.data_extract, Array.toList_extract]
    have : List.extract s.data.toList (a + (putV t.size).length) (a + (putV t.size).length + t.size) = (s.data.toList.drop (a + (putV t.size).length)).take t.size := by simp [List.extract]
    rw [this, hd, size_eq_length, List.take_left]
  rw [he]
  simp only [Prod.mk.injEq, true_and, and_true]
  omega
theorem takeN_put (s : ByteArray) (a : Nat) (t : ByteArray) (rest : List UInt8) (h : s.data.toList.drop a = (textV t).data.toList ++ rest) (hm : t.size ≤ 16) (ht : isName t = true) : takeN s a = (t, (a : Int) + (textV t).size, 0) := by
  have h1 := takeV_put s a 16 t rest h hm (by omega)
  simp only [takeN]
  rw [show takeV s (a : Int) 16 = (t, (a : Int) + (textV t).size, 0) from h1]
  simp [ht]
theorem getD_drop (s : ByteArray) (a : Nat) (b : UInt8) (rest : List UInt8) (h : s.data.toList.drop a = b :: rest) : s.data.toList.getD a 0 = b := by
  have h1 : (s.data.toList.drop a)[0]? = some b := by rw [h]; rfl
  rw [List.getElem?_drop, Nat.add_zero] at h1
  rw [List.getD_eq_getElem?_getD, h1]; rfl
theorem takeVal_put (s : ByteArray) (a : Nat) (k p n : Int) (t : ByteArray) (rest : List UInt8) (hm : mayV k p n t = true) (h : s.data.toList.drop a = (putVal k p n t).1.data.toList ++ rest) : takeVal s a = ((k, p, n, t), (a : Int) + (putVal k p n t).1.size, 0) := by
  obtain ⟨m1, m2, m3, m4, m5, m6, m7, _⟩ := (mayV_iff k p n t).1 hm
  have hp : (putVal k p n t).1 = strOf (valL k p n) ++ strOf (putV n.toNat) ++ textV t := by unfold putVal; rw [if_pos hm]
  rw [hp] at h ⊢
  simp only [data_append, strOf_list, valL, List.append_assoc, List.cons_append, List.nil_append] at h
  have d1 : s.data.toList.drop (a + 1) = UInt8.ofNat (p + 128).toNat :: (putV n.toNat ++ ((textV t).data.toList ++ rest)) := by rw [← List.drop_drop, h]; rfl
  have d2 : s.data.toList.drop (a + 2) = putV n.toNat ++ ((textV t).data.toList ++ rest) := by rw [show a + 2 = (a + 1) + 1 by rfl, ← List.drop_drop, d1]; rfl
  have hg := getV_put s (a + 2) n.toNat _ d2 (by omega)
  have d3 : s.data.toList.drop (a + 2 + (putV n.toNat).length) = (textV t).data.toList ++ rest := by rw [← List.drop_drop, d2, List.drop_left]
  have ht := takeV_put s (a + 2 + (putV n.toNat).length) 32 t rest d3 (by omega) (by omega)
  have hl := congrArg List.length h
  have hpos := putV_len_pos n.toNat
  simp only [List.length_drop, List.length_cons, List.length_append, ← size_eq_length] at hl
  unfold takeVal
  rw [if_neg (by omega), if_neg (by omega)]
  rw [show ((a + 2 : Nat) : Int) = (a : Int) + 2 by omega] at hg
  rw [show ((a + 2 + (putV n.toNat).length : Nat) : Int) = (a : Int) + 2 + ((putV n.toNat).length : Int) by omega, show ((32 : Nat) : Int) = 32 from rfl] at ht
  simp only [hg, ht, Int.toNat_natCast]
  rw [getD_drop s a _ _ h, getD_drop s (a + 1) _ _ d1, byte_of k.toNat (by omega), byte_of (p + 128).toNat (by omega)]
  rw [show ((k.toNat : Nat) : Int) = k by omega, show (((p + 128).toNat : Nat) : Int) - 128 = p by omega, show ((n.toNat : Nat) : Int) = n by omega]
  rw [if_neg (by simp), if_neg (by simp), if_pos hm]
  simp only [Prod.mk.injEq, true_and, and_true, ByteArray.size_append, strOf_size, valL, List.length_cons, List.length_nil]
  omega
end Sp
end Go.Proofs.YtbpfcjdjhponaaaGreat
namespace Go.Proofs.YtbpfcjdjhponaaaGreat
open Go.RowKit
open Sp
namespace Sp
theorem nil_of (t : ByteArray) (h : t.toList = []) : t = ⟨#[]⟩ := toList_inj.1 (show t.data.toList = [] by rw [← ByteArray.toList_eq]; exact h)
theorem mayE_split (e : Ev) (h : mayE e = true) : 1 ≤ e.k ∧ e.k ≤ 8 ∧ isName e.u = true ∧ (e.k ≤ 6 → isName e.o = true ∧ e.i = 0 ∧ e.v = zeroV) ∧ (6 < e.k → e.o = ⟨#[]⟩ ∧ 0 ≤ e.i ∧ e.i < 4) ∧ (e.k = 7 → mayV e.v.1 e.v.2.1 e.v.2.2.1 e.v.2.2.2 = true) ∧ (e.k = 8 → e.v = zeroV) := by
  obtain ⟨k, u, o, i, a, p, n, t⟩ := e
  have hz : isZ a p n t = true → (a, p, n, t) = zeroV := by
    intro hz
    unfold isZ at hz
    simp only [Bool.and_eq_true, decide_eq_true_eq] at hz
    obtain ⟨rfl, rfl, rfl, ht⟩ := hz
    have : t = ⟨#[]⟩ := nil_of t ht
    rw [this]; rfl
  unfold mayE mayE8 at h
  simp only at h ⊢
  split at h
  · cases h
  · rename_i h1
    have hu : isName u = true := by cases hn : isName u with | true => rfl | false => exact absurd (Or.inr (Or.inr hn)) h1
    have hk : 1 ≤ k ∧ k ≤ 8 := by omega
    split at h
    · rename_i h6
      simp only [Bool.and_eq_true, decide_eq_true_eq] at h
      exact ⟨hk.1, hk.2, hu, fun _ => ⟨h.1, h.2.1, hz h.2.2⟩, fun _ => by omega, fun _ => by omega, fun _ => by omega⟩
    · rename_i h6
      split at h
      · cases h
      · rename_i h7
        have ho : o = ⟨#[]⟩ := nil_of o (by
          by_cases h : o.toList = []
          · exact h
          · exact absurd (Or.inl h) h7)
        refine ⟨hk.1, hk.2, hu, fun _ => by omega, fun _ => ⟨ho, by omega, by omega⟩, fun e => ?_, fun e => ?_⟩
        · rw [if_pos e] at h; exact h
        · rw [if_neg (by omega)] at h; exact hz h
theorem byteAt_drop (s : ByteArray) (a : Nat) (k : Int) (rest : List UInt8) (h : s.data.toList.drop a = UInt8.ofNat k.toNat :: rest) (h0 : 0 ≤ k) (h1 : k < 256) : byteAt s a = k := by
  unfold byteAt
  rw [getD_drop s a _ _ h, byte_of k.toNat (by omega)]
  omega
theorem read_back (e : Ev) (h : mayE e = true) : readR (bodyE e) = e := by
  obtain ⟨k1, k8, hu, h6, h7, hv, h8⟩ := mayE_split e h
  obtain ⟨k, u, o, i, v⟩ := e
  simp only at k1 k8 hu h6 h7 hv h8
  have hus := ((isName_iff u).1 hu).2.1
  generalize hb : bodyE ⟨k, u, o, i, v⟩ = b
  have hl : ∃ rest, b.data.toList = UInt8.ofNat k.toNat :: ((textV u).data.toList ++ rest) ∧ (k ≤ 6 → rest = (textV o).data.toList) ∧ (k = 7 → rest = UInt8.ofNat i.toNat :: (putVal v.1 v.2.1 v.2.2.1 v.2.2.2).1.data.toList) ∧ (k = 8 → rest = [UInt8.ofNat i.toNat]) := by
    rw [← hb]
    unfold bodyE
    simp only
    by_cases c6 : k ≤ 6
    · rw [if_pos c6]
      exact ⟨(textV o).data.toList, by simp only [data_append, strOf_list]; simp, fun _ => rfl, fun _ => by omega, fun _ => by omega⟩
    · rw [if_neg c6]
      by_cases c7 : k = 7
      · rw [if_pos c7]
        exact ⟨UInt8.ofNat i.toNat :: (putVal v.1 v.2.1 v.2.2.1 v.2.2.2).1.data.toList, by simp only [data_append, strOf_list]; simp, fun _ => by omega, fun _ => rfl, fun _ => by omega⟩
      · rw [if_neg c7]
        exact ⟨[UInt8.ofNat i.toNat], by simp only [data_append, strOf_list]; simp, fun _ => by omega, fun _ => by omega, fun _ => rfl⟩
  obtain ⟨rest, hd, r6, r7, r8⟩ := hl
  have hd0 : b.data.toList.drop 0 = UInt8.ofNat k.toNat :: ((textV u).data.toList ++ rest) := hd
  have hb0 := byteAt_drop b 0 k _ hd0 (by omega) (by omega)
  have hd1 : b.data.toList.drop 1 = (textV u).data.toList ++ rest := by rw [hd]; rfl
  have hn := takeN_put b 1 u rest hd1 hus hu
  have hd2 : b.data.toList.drop (1 + (textV u).size) = rest := by rw [← List.drop_drop, hd1, size_eq_length, List.drop_left]
  have hne : ¬ b.toList = [] := by
    rw [ByteArray.toList_eq, hd]; simp
  have hto : ((1 : Nat) : Int) + ((textV u).size : Int) = ((1 + (textV u).size : Nat) : Int) := by omega
  rw [hto] at hn
  unfold readR
  rw [if_neg hne]
  simp only [show takeN b (1 : Int) = (u, ((1 + (textV u).size : Nat) : Int), 0) from hn, hb0]
  rw [if_neg (by simp)]
  by_cases c6 : k ≤ 6
  · rw [if_pos c6]
    obtain ⟨ho, hi, hz⟩ := h6 c6
    have hos := ((isName_iff o).1 ho).2.1
    have h2 := takeN_put b (1 + (textV u).size) o [] (by rw [hd2, r6 c6, List.append_nil]) hos ho
    rw [h2, hi, hz]
  · rw [if_neg c6]
    obtain ⟨ho, hi0, hi4⟩ := h7 (by omega)
    have hx : ∃ more, rest = UInt8.ofNat i.toNat :: more := by
      by_cases c7 : k = 7
      · exact ⟨_, r7 c7⟩
      · exact ⟨_, r8 (by omega)⟩
    obtain ⟨more, hmore⟩ := hx
    have hsz : 1 + (textV u).size < b.size := by
      have := congrArg List.length hd2
      rw [hmore, List.length_drop, List.length_cons, ← size_eq_length] at this
      omega
    have hbi := byteAt_drop b (1 + (textV u).size) i more (by rw [hd2, hmore]) hi0 (by omega)
    rw [if_neg (by omega), Int.toNat_natCast, hbi, ho]
    by_cases c7 : k = 7
    · rw [if_pos c7]
      obtain ⟨va, vp, vn, vt⟩ := v
      have h3 : b.data.toList.drop (1 + (textV u).size + 1) = (putVal va vp vn vt).1.data.toList ++ [] := by
        rw [← List.drop_drop, hd2, r7 c7, List.append_nil]; rfl
      have h4 := takeVal_put b (1 + (textV u).size + 1) va vp vn vt [] (hv c7) h3
      rw [show (((1 + (textV u).size : Nat) : Int) + 1) = ((1 + (textV u).size + 1 : Nat) : Int) by omega, h4]
    · rw [if_neg c7, h8 (by omega)]
theorem open_back (b : ByteArray) : openS (sealS b) = (b, 0) := by
  have hz := sealS_size b
  have he : (sealS b).extract 0 ((sealS b).size - 4) = b := by
    rw [← toList_inj, ByteArray.data_extract, Array.toList_extract]
    have : List.extract (sealS b).data.toList 0 ((sealS b).size - 4) = (sealS b).data.toList.take b.size := by rw [hz]; simp [List.extract]
    rw [this]
    unfold sealS
    rw [data_append, size_eq_length, List.take_left]
  unfold openS
  rw [he, if_neg (by omega), if_pos rfl]
theorem dec_back (e : Ev) (h : mayE e = true) : decR (encE e).1 = (e, 0) := by
  have hb := encE_body e h
  unfold decR
  rw [hb]
  simp only [open_back, read_back e h, hb]
  simp
end Sp
end Go.Proofs.YtbpfcjdjhponaaaGreat
namespace Go.Proofs.YtbpfcjdjhponaaaGreat
open Go.RowKit
open Sp
theorem eq_self (k : Int) (u o : ByteArray) (x a p q : Int) (t : ByteArray) (W : World) :
    (binOp .eql 29 (.agg #[.int .i64 k, .string u, .string o, .int .i64 x, .int .i64 a, .int .i64 p, .int .i64 q, .string t]) (.agg #[.int .i64 k, .string u, .string o, .int .i64 x, .int .i64 a, .int .i64 p, .int .i64 q, .string t])).run Tryz.prog W =
      .ok (.bool true) W := by simp [go_sem]
end Go.Proofs.YtbpfcjdjhponaaaGreat
namespace Go.Proofs.YtbpfcjdjhponaaaGreat
open Go.RowKit
open Sp
end Go.Proofs.YtbpfcjdjhponaaaGreat
namespace Go.Proofs.YtbpfcjdjhponaaaGreat
open Go.RowKit
open Sp
namespace Sp
end Sp
end Go.Proofs.YtbpfcjdjhponaaaGreat
namespace Go.Proofs.YtbpfcjdjhponaaaGreat
open Go.RowKit
open Sp
namespace Sp
end Sp
end Go.Proofs.YtbpfcjdjhponaaaGreat
namespace Go.Proofs.YtbpfcjdjhponaaaGreat
open Go.RowKit
open Sp
namespace Sp
theorem lower_name2 (c : UInt8) (h : isNameByte c = true) : lower c = c := by
  rw [isNameByte_nat] at h
  unfold lower
  rw [if_neg (by omega)]
theorem name_all2 (s : ByteArray) (h : isName s = true) : ∀ c ∈ s.data.toList, isNameByte c = true := by
  unfold isName at h
  cases hl : s.data.toList with
  | nil => intro c hc; cases hc
  | cons a l =>
    rw [hl] at h
    simp only [nameL, Bool.and_eq_true, List.all_eq_true, decide_eq_true_eq] at h
    intro c hc
    rcases List.mem_cons.mp hc with rfl | hc
    · exact letter_is _ h.1.1
    · exact h.1.2 c hc
theorem fold_name2 (s : ByteArray) (h : isName s = true) : foldS s = s := by
  have hm : s.data.toList.map lower = s.data.toList := by
    conv => rhs; rw [← List.map_id s.data.toList]
    exact List.map_congr_left fun c hc => lower_name2 c (name_all2 s h c hc)
  unfold foldS
  rw [hm]
theorem fold_may (e : Ev) (h : mayE e = true) : foldE e = (e, true) := by
  obtain ⟨k1, k8, hu, h6, h7, hv, h8⟩ := mayE_split e h
  obtain ⟨k, u, o, i, v⟩ := e
  simp only at k1 k8 hu h6 h7 hv h8
  have hfu : foldV u = (u, true) := by unfold foldV; rw [fold_name2 u hu, if_pos hu]
  by_cases c6 : k ≤ 6
  · obtain ⟨ho, _, _⟩ := h6 c6
    have hfo : foldV o = (o, true) := by unfold foldV; rw [fold_name2 o ho, if_pos ho]
    exact foldE_yes ⟨k, u, o, i, v⟩ u o true true hfu hfo rfl (.inl rfl) h
  · obtain ⟨rfl, _, _⟩ := h7 (by omega)
    have hfo : foldV ⟨#[]⟩ = (⟨#[]⟩, false) := by decide +kernel
    exact foldE_yes ⟨k, u, ⟨#[]⟩, i, v⟩ u ⟨#[]⟩ true false hfu hfo rfl (.inr ((toList_nil_iff _).2 rfl)) h
end Sp
end Go.Proofs.YtbpfcjdjhponaaaGreat
namespace Go.Proofs.YtbpfcjdjhponaaaGreat
open Go.RowKit
open Sp
end Go.Proofs.YtbpfcjdjhponaaaGreat
namespace Go.Proofs.YtbpfcjdjhponaaaGreat
open Go.RowKit
open Sp
theorem Buf.set {w : World} {base g n cap : Nat} {l : List UInt8} (h : Buf w base (.slice (some ⟨g, 0, none⟩) n cap) l) (j : Nat) (hj : j < l.length) (y : UInt8) :
    Buf (w.setCell ⟨g, j, none⟩ (.int .u8 y.toNat)) base (.slice (some ⟨g, 0, none⟩) n cap) (l.set j y) := by
  obtain ⟨g', cap', he, h1, h2, h3, h4, h5, h6, h7⟩ := h
  simp only [Value.slice.injEq, Option.some.injEq, Addr.mk.injEq] at he
  obtain ⟨⟨rfl, _, _⟩, rfl, rfl⟩ := he
  have hb : ∃ cs T fr, w.heap[g]? = some (.cells cs T fr) := by
    have := h5 j hj
    unfold World.cell? at this
    split at this
    · exact ⟨_, _, _, by assumption⟩
    · cases this
  obtain ⟨cs, T, fr, hb⟩ := hb
  have hcs : ∀ i, w.cell? ⟨g, i, none⟩ = cs[i]? := fun i => by simp [World.cell?, hb]
  have hnew : (w.setCell ⟨g, j, none⟩ (.int .u8 y.toNat)).heap[g]? = some (.cells (cs.setIfInBounds j (.int .u8 y.toNat)) T fr) := by
    simp [World.setCell, Array.getElem?_modify, hb]
  have hcn : ∀ i, (w.setCell ⟨g, j, none⟩ (.int .u8 y.toNat)).cell? ⟨g, i, none⟩ = (cs.setIfInBounds j (.int .u8 y.toNat))[i]? := fun i => by simp [World.cell?, hnew]
  have hlj : j < cs.size := by
    have := h5 j hj
    rw [hcs] at this
    exact (Array.getElem?_eq_some_iff.1 this).1
  refine ⟨g, cap, by rw [List.length_set], h1, by rw [List.length_set]; exact h2, h3, by simpa [World.setCell] using h4, fun i hi => ?_, fun i hi => ?_, fun i hi => ?_⟩
  · rw [List.length_set] at hi
    rw [hcn, List.getElem_set]
    by_cases hij : j = i
    · subst hij
      rw [if_pos rfl]
      simp [hlj]
    · rw [if_neg hij, Array.getElem?_setIfInBounds, if_neg hij, ← hcs]
      exact h5 i hi
  · rw [hcn]
    have := h6 i hi
    rw [hcs] at this
    rw [Array.getElem?_setIfInBounds]
    split
    · rfl
    · exact this
  · have := h7 i hi
    simp only [World.frozen?, hb] at this
    simp only [World.frozen?, hnew]
    exact this
end Go.Proofs.YtbpfcjdjhponaaaGreat
namespace Go.Proofs.YtbpfcjdjhponaaaGreat
open Go.RowKit
open Sp
end Go.Proofs.YtbpfcjdjhponaaaGreat
namespace Go.Proofs.YtbpfcjdjhponaaaGreat
open Go.RowKit
open Sp
end Go.Proofs.YtbpfcjdjhponaaaGreat
namespace Go.Proofs.YtbpfcjdjhponaaaGreat
open Go.RowKit
open Sp
theorem foldV_sz (s u : ByteArray) (b : Bool) (h : foldV s = (u, b)) : u.size ≤ s.size := by
  unfold foldV at h
  split at h
  · injection h with h1 h2; rw [← h1, foldS_size]; exact Nat.le_refl _
  · injection h with h1 h2; rw [← h1]; exact Nat.zero_le _
theorem fold_is (k : Int) (u o : ByteArray) (i a p n : Int) (t : ByteArray) (g : Ev) (b : Bool) (w : World) (hu : u.size ≤ 60) (ho : o.size ≤ 60) (ht : t.size ≤ 60) (h : Hid (foldE ⟨k, u, o, i, a, p, n, t⟩ = (g, b))) :
    Calls Tryz.prog 13 #[.agg #[.int .i64 k, .string u, .string o, .int .i64 i, .int .i64 a, .int .i64 p, .int .i64 n, .string t]] w fun e w' => e = .returned (.tuple #[evV g, .bool b]) ∧ Below w.heap.size w w' := by
  obtain ⟨u', bu, hU⟩ : ∃ u' bu, foldV u = (u', bu) := ⟨_, _, rfl⟩
  obtain ⟨o', bo, hO⟩ : ∃ u' bu, foldV o = (u', bu) := ⟨_, _, rfl⟩
  have z1 := foldV_sz _ _ _ hU
  have z2 := foldV_sz _ _ _ hO
  have := foldE_w k u o i a p n t u' o' bu bo w (by omega) (by omega) (by omega) (Lib.hid hU) (Lib.hid hO) (by omega) (by omega)
  rwa [h.out] at this
namespace Sp
theorem back_yes (e : Ev) (h : mayE e = true) : ∃ t : ByteArray, encE e = (t, 0) ∧ t.size ≤ 130 ∧ decR t = (e, 0) ∧ foldE e = (e, true) := by
  obtain ⟨y1, y2⟩ := encE_yes _ h
  obtain ⟨g, er, hg⟩ : ∃ g er, encE e = (g, er) := ⟨_, _, rfl⟩
  have hd := dec_back e h
  rw [hg] at y1 y2 hd
  simp only at y1 y2 hd
  subst y1
  exact ⟨g, hg, y2, hd, fold_may e h⟩
end Sp
end Go.Proofs.YtbpfcjdjhponaaaGreat
namespace Go.Proofs.YtbpfcjdjhponaaaGreat
open Go.RowKit
namespace Sp
theorem getRo_fit {l : List En} (h : mayRo l = true) (u o : ByteArray) : fitI (getRo l u o) (getRo l o u) = true := by
  by_cases h1 : o ∈ ofRo l u
  · exact (of_back h h1).2
  · have h2 : ¬ u ∈ ofRo l o := fun h3 => h1 (of_back h h3).1
    have n1 : getRo l u o = noI := getRo_none (getK_none.2 fun x hx e => h1 (ofRo_mem.2 ⟨x, hx, congrArg Prod.fst e, congrArg Prod.snd e⟩))
    have n2 : getRo l o u = noI := getRo_none (getK_none.2 fun x hx e => h2 (ofRo_mem.2 ⟨x, hx, congrArg Prod.fst e, congrArg Prod.snd e⟩))
    rw [n1, n2]
    rfl
theorem actI_one {a b : It} {k : Int} (hf : fitI a b = true) (h1 : 1 ≤ k) (h6 : k ≤ 6) : (actI a b k).2.2 ≠ 1 := by
  have hk : k = 1 ∨ k = 2 ∨ k = 3 ∨ k = 4 ∨ k = 5 ∨ k = 6 := by omega
  unfold actI
  rw [if_neg (by rw [hf]; simp)]
  rcases hk with rfl | rfl | rfl | rfl | rfl | rfl
  all_goals simp
  all_goals (repeat' split)
  all_goals simp
theorem apply_arg {l : List En} {s : List Se} {k : Int} {u o : ByteArray} {i a p q : Int} {t : ByteArray} {r : Sta} {er : Int} (hm : mayT (l, s) = true) (he : mayE ⟨k, u, o, i, (a, p, q, t)⟩ = true)
    (h : applyT (l, s) ⟨k, u, o, i, (a, p, q, t)⟩ = (r, er)) (h1 : er = 1) : u = o := by
  obtain ⟨k1, k8, hu, hlo, hhi, h7, h8⟩ := mayE_split _ he
  have hm' : mayRo l = true ∧ maySe s = true := by unfold mayT at hm; rwa [Bool.and_eq_true] at hm
  unfold applyT at h
  rw [if_neg (by rw [hm]; simp)] at h
  simp only at h hu hlo hhi h7 h8 k1 k8
  subst h1
  split at h
  · rename_i hk
    have hh : (doRo l k u o).2 = 1 := congrArg Prod.snd h
    obtain ⟨ho, -, -⟩ := hlo hk.2
    by_cases e : u = o
    · exact e
    · exfalso
      have hok : okDo l k u o = true := by
        unfold okDo
        simp only [Bool.and_eq_true, Bool.not_eq_true', decide_eq_true_eq, decide_eq_false_iff_not]
        exact ⟨hm'.1, hu, ho, e, hk.1, hk.2⟩
      unfold doRo at hh
      rw [if_neg (by rw [hok]; simp)] at hh
      have h3 := actI_one (getRo_fit hm'.1 u o) hk.1 hk.2
      simp only at hh
      split at hh
      · exact h3 hh
      · split at hh
        · simp at hh
        · simp at hh
  · rename_i hk
    split at h
    · rename_i hk7
      have hh : (putSe s ⟨u, i, (a, p, q, t)⟩).2 = 1 := congrArg Prod.snd h
      exfalso
      have hone : oneS ⟨u, i, (a, p, q, t)⟩ = true := by
        unfold oneS
        simp only [Bool.and_eq_true, decide_eq_true_eq]
        exact ⟨hu, (hhi (by omega)).2.1, (hhi (by omega)).2.2, h7 hk7⟩
      unfold putSe at hh
      rw [if_neg (by rw [hm'.2, hone]; simp)] at hh
      split at hh
      · simp at hh
      · split at hh
        · simp at hh
        · simp at hh
    · rename_i hk7
      have hk8 : k = 8 := by omega
      rw [if_pos hk8] at h
      have hh : (dropSe s (u, i)).2 = 1 := congrArg Prod.snd h
      exfalso
      unfold dropSe at hh
      rw [if_neg (by rw [hm'.2]; simp)] at hh
      split at hh
      · simp at hh
      · simp at hh
end Sp
end Go.Proofs.YtbpfcjdjhponaaaGreat
namespace Go.Proofs.YtbpfcjdjhponaaaGreat
open Go.RowKit
structure Kept (P : World → Prop) : Prop where
  below : ∀ {w w1 : World}, P w → Below w.heap.size w w1 → P w1
  drew : ∀ {w : World}, P w → P w.drew
theorem Kept.row {α : Type} {enc : α → List Value} {k : Nat} {v : Value} {xs : List α} : Kept (fun w => Row enc k w v xs) := ⟨fun h b => h.below b, fun h => h⟩
theorem Kept.own {α : Type} {enc : α → List Value} {k : Nat} {e : TypeId} {base : Nat} {v : Value} {xs : List α} : Kept (fun w => Own enc k e w base v xs) := ⟨fun h b => h.below b, fun h => h⟩
theorem Kept.heap {g : Nat} {o : Obj} : Kept (fun w => w.heap[g]? = some o) := ⟨fun h b => hcall h b, fun h => h⟩
theorem Kept.cell {a : Addr} {v : Value} : Kept (fun w => w.cell? a = some v) := ⟨fun h b => cell_below b h, fun h => h⟩
theorem Kept.from_ {w0 : World} : Kept (fun w => Below w0.heap.size w0 w) := ⟨fun h b => below_call h b, fun h => h.drew⟩
theorem Kept.lt {n : Nat} : Kept (fun w => n < w.heap.size) := ⟨fun h b => Nat.lt_of_lt_of_le h b.size, fun h => h⟩
theorem Kept.and {P Q : World → Prop} (h : Kept P) (k : Kept Q) : Kept (fun w => P w ∧ Q w) := ⟨fun x b => ⟨h.below x.1 b, k.below x.2 b⟩, fun x => ⟨h.drew x.1, k.drew x.2⟩⟩
theorem Kept.alloc {P : World → Prop} (h : Kept P) {w : World} (x : P w) (o : Obj) : P (w.alloc o) := h.below x (below_box o)
theorem Kept.pack {Q : World → Prop} (h : Kept Q) {w : World} (hq : Q w) : ∃ P : World → Prop, P w ∧ Kept P ∧ ∀ w', P w' → Q w' := ⟨Q, hq, h, fun _ h => h⟩
end Go.Proofs.YtbpfcjdjhponaaaGreat
namespace Go.Proofs.YtbpfcjdjhponaaaGreat
open Go.RowKit
open Sp
theorem fold_zero {e g : Ev} (h : foldE e = (g, false)) : g = zeroE := by
  unfold foldE at h
  simp only at h
  split at h
  · injection h with h1 h2
    exact h1.symm
  · injection h with h1 h2
    cases h2
theorem fold_yes {k : Int} {u o : ByteArray} {i a p q : Int} {t : ByteArray} {k' : Int} {u' o' : ByteArray} {i' a' p' q' : Int} {t' : ByteArray} (h : foldE ⟨k, u, o, i, (a, p, q, t)⟩ = (⟨k', u', o', i', (a', p', q', t')⟩, true)) :
    mayE ⟨k', u', o', i', (a', p', q', t')⟩ = true ∧ u'.size ≤ u.size ∧ o'.size ≤ o.size ∧ t'.size ≤ t.size := by
  unfold foldE at h
  simp only at h
  split at h
  · injection h with h1 h2
    cases h2
  · rename_i hn
    injection h with h1 h2
    rw [h1] at hn
    injection h1 with e1 e2 e3 e4 e5
    simp only [Prod.mk.injEq] at e5
    refine ⟨?_, ?_, ?_, ?_⟩
    · cases hm : mayE ⟨k', u', o', i', (a', p', q', t')⟩ with
      | true => rfl
      | false => exact absurd (.inr (.inr hm)) hn
    · rw [← e2]; exact foldV_sz u _ _ (Prod.eta (foldV u)).symm
    · rw [← e3]; exact foldV_sz o _ _ (Prod.eta (foldV o)).symm
    · rw [e5.2.2.2]; exact Nat.le_refl _
theorem short_60 {k : Int} {u o : ByteArray} {i a p q : Int} {t : ByteArray} (h : shortE ⟨k, u, o, i, (a, p, q, t)⟩ = true) : u.size ≤ 60 ∧ o.size ≤ 60 ∧ t.size ≤ 60 := by
  unfold shortE at h
  simp only [Bool.and_eq_true, decide_eq_true_eq] at h
  exact ⟨by omega, by omega, h.2.2⟩
set_option maxHeartbeats 32000000 in
set_option maxRecDepth 100000 in
theorem applies23_walk (n c : Nat) (A : Option Addr) (l : List En) (m d : Nat) (B : Option Addr) (s : List Se) (e : Evt) (w : World)
    (hl : Row enEn 7 w (.slice A n c) l) (hz : SzE l) (hs : Row enSe 6 w (.slice B m d) s) (hy : SzEs s) (he : OkEv e) :
    Calls Tryz.prog 3 #[agT A n c B m d, vaEv e] w fun x w' => x = .returned (.bool true) ∧ Below w.heap.size w w' := by
  obtain ⟨k, u, o, i, ⟨a, p, q, t⟩⟩ := e
  have hq : u.size ≤ 9223372036854775807 ∧ o.size ≤ 9223372036854775807 ∧ t.size ≤ 9223372036854775807 := by simp only [OkEv, maxLen] at he; exact he
  clear he
  have EA := Lib.hid hl.len_eq
  have D0 := below_alloc0 (below_box (w := w) (bxT A n c B m d)) (bxEv k u o i a p q t)
  have T0 := heap_alloc_new (w.alloc (bxT A n c B m d)) (bxEv k u o i a p q t)
  simp only [size_alloc] at T0
  obtain ⟨P, K, KP, KO⟩ := Kept.pack (Q := fun w' => Row enEn 7 w' (.slice A n c) l ∧ Row enSe 6 w' (.slice B m d) s ∧ w'.heap[w.heap.size]? = some (bxT A n c B m d) ∧ w'.heap[w.heap.size + 1]? = some (bxEv k u o i a p q t) ∧ Below w.heap.size w w') (Kept.row.and (Kept.row.and (Kept.heap.and (Kept.heap.and Kept.from_)))) (w := (w.alloc (bxT A n c B m d)).alloc (bxEv k u o i a p q t)) ⟨hl.below D0, hs.below D0, halloc (heap_alloc_new w (bxT A n c B m d)) (bxEv k u o i a p q t), T0, D0⟩
  clear hl hs D0 T0
  cases h : fewT (l, s) with
  | false =>
    have H1 := Lib.hid h
    clear h
    go_enter Tryz.func3, Tryz.ntmps3
    obtain ⟨hl, hs, S0, E0, D⟩ := KO _ K
    obtain ⟨s0, s1, sz⟩ := cellsT S0
    obtain ⟨e0, e1, e2, e3, e4, e5, e6, e7, ez⟩ := cellsEv k u o i a p q t E0
    go_wp2_with fail
    with_reducible refine (FewT_is n c A l m d B s _ hl hs hz hy false H1).mono ?_
    rintro e w1 ⟨rfl, b⟩
    replace K := KP.below K b
    clear b s0 s1 sz e0 e1 e2 e3 e4 e5 e6 e7 ez hl hs S0 E0 D
    go_wp2_with fail
    with_reducible refine (live23 _).mono ?_
    rintro e z9 ⟨rfl, b⟩
    replace K := KP.below K b
    obtain ⟨-, -, -, -, D⟩ := KO _ K
    go_wp2
    go_ret
    exact ⟨rfl, D⟩
  | true =>
  obtain ⟨zl, zs, zn, zm⟩ := fewT_sz h
  have H1 := Lib.hid h
  clear h
  have hn : n ≤ 900 := by have := EA.out; omega
  have hn1 : n ≤ 100000 := by omega
  cases h : mayT (l, s) with
  | false =>
    have H2 := Lib.hid h
    clear h
    go_enter Tryz.func3, Tryz.ntmps3
    obtain ⟨hl, hs, S0, E0, D⟩ := KO _ K
    obtain ⟨s0, s1, sz⟩ := cellsT S0
    obtain ⟨e0, e1, e2, e3, e4, e5, e6, e7, ez⟩ := cellsEv k u o i a p q t E0
    go_wp2_with fail
    with_reducible refine (FewT_is n c A l m d B s _ hl hs hz hy true H1).mono ?_
    rintro e w1 ⟨rfl, b⟩
    replace K := KP.below K b
    clear b s0 s1 sz e0 e1 e2 e3 e4 e5 e6 e7 ez hl hs S0 E0 D
    obtain ⟨hl, hs, S0, E0, D⟩ := KO _ K
    obtain ⟨s0, s1, sz⟩ := cellsT S0
    obtain ⟨e0, e1, e2, e3, e4, e5, e6, e7, ez⟩ := cellsEv k u o i a p q t E0
    go_wp2_with fail
    with_reducible refine (refMayT_is n c A l m d B s _ hl hs zl zs hn1 false H2).mono ?_
    rintro e w2 ⟨rfl, b⟩
    replace K := KP.below K b
    clear b s0 s1 sz e0 e1 e2 e3 e4 e5 e6 e7 ez hl hs S0 E0 D
    go_wp2_with fail
    with_reducible refine (live23 _).mono ?_
    rintro e z9 ⟨rfl, b⟩
    replace K := KP.below K b
    obtain ⟨-, -, -, -, D⟩ := KO _ K
    go_wp2
    go_ret
    exact ⟨rfl, D⟩
  | true =>
  have HM := Lib.hid h
  have H2 := Lib.hid h
  clear h
  cases h : shortE ⟨k, u, o, i, (a, p, q, t)⟩ with
  | false =>
    have H3 := Lib.hid h
    clear h
    go_enter Tryz.func3, Tryz.ntmps3
    obtain ⟨hl, hs, S0, E0, D⟩ := KO _ K
    obtain ⟨s0, s1, sz⟩ := cellsT S0
    obtain ⟨e0, e1, e2, e3, e4, e5, e6, e7, ez⟩ := cellsEv k u o i a p q t E0
    go_wp2_with fail
    with_reducible refine (FewT_is n c A l m d B s _ hl hs hz hy true H1).mono ?_
    rintro e w1 ⟨rfl, b⟩
    replace K := KP.below K b
    clear b s0 s1 sz e0 e1 e2 e3 e4 e5 e6 e7 ez hl hs S0 E0 D
    obtain ⟨hl, hs, S0, E0, D⟩ := KO _ K
    obtain ⟨s0, s1, sz⟩ := cellsT S0
    obtain ⟨e0, e1, e2, e3, e4, e5, e6, e7, ez⟩ := cellsEv k u o i a p q t E0
    go_wp2_with fail
    with_reducible refine (refMayT_is n c A l m d B s _ hl hs zl zs hn1 true H2).mono ?_
    rintro e w2 ⟨rfl, b⟩
    replace K := KP.below K b
    clear b s0 s1 sz e0 e1 e2 e3 e4 e5 e6 e7 ez hl hs S0 E0 D
    obtain ⟨hl, hs, S0, E0, D⟩ := KO _ K
    obtain ⟨s0, s1, sz⟩ := cellsT S0
    obtain ⟨e0, e1, e2, e3, e4, e5, e6, e7, ez⟩ := cellsEv k u o i a p q t E0
    go_wp2_with fail
    with_reducible refine (Short_is k u o i a p q t false _ hq.1 hq.2.1 hq.2.2 H3).mono ?_
    rintro e w3 ⟨rfl, b⟩
    replace K := KP.below K b
    clear b s0 s1 sz e0 e1 e2 e3 e4 e5 e6 e7 ez hl hs S0 E0 D
    go_wp2_with fail
    with_reducible refine (live23 _).mono ?_
    rintro e z9 ⟨rfl, b⟩
    replace K := KP.below K b
    obtain ⟨-, -, -, -, D⟩ := KO _ K
    go_wp2
    go_ret
    exact ⟨rfl, D⟩
  | true =>
  obtain ⟨hu, ho, ht⟩ := short_60 h
  have H3 := Lib.hid h
  clear h
  obtain ⟨⟨k', u', o', i', ⟨a', p', q', t'⟩⟩, fb, hf⟩ : ∃ g b, foldE ⟨k, u, o, i, (a, p, q, t)⟩ = (g, b) := ⟨_, _, rfl⟩
  have HF := Lib.hid hf
  cases fb with
  | false =>
    have HZ : Hid ((⟨k', u', o', i', (a', p', q', t')⟩ : Ev) = zeroE) := fold_zero hf
    clear hf
    injection HZ.out with z1 z2 z3 z4 z5
    simp only [zeroV, Prod.mk.injEq] at z5
    obtain ⟨z5, z6, z7, z8⟩ := z5
    subst z1 z2 z3 z4 z5 z6 z7 z8
    have NS := eq_self 0 ⟨#[]⟩ ⟨#[]⟩ 0 0 0 0 ⟨#[]⟩
    go_enter Tryz.func3, Tryz.ntmps3
    obtain ⟨hl, hs, S0, E0, D⟩ := KO _ K
    obtain ⟨s0, s1, sz⟩ := cellsT S0
    obtain ⟨e0, e1, e2, e3, e4, e5, e6, e7, ez⟩ := cellsEv k u o i a p q t E0
    go_wp2_with fail
    with_reducible refine (FewT_is n c A l m d B s _ hl hs hz hy true H1).mono ?_
    rintro e w1 ⟨rfl, b⟩
    replace K := KP.below K b
    clear b s0 s1 sz e0 e1 e2 e3 e4 e5 e6 e7 ez hl hs S0 E0 D
    obtain ⟨hl, hs, S0, E0, D⟩ := KO _ K
    obtain ⟨s0, s1, sz⟩ := cellsT S0
    obtain ⟨e0, e1, e2, e3, e4, e5, e6, e7, ez⟩ := cellsEv k u o i a p q t E0
    go_wp2_with fail
    with_reducible refine (refMayT_is n c A l m d B s _ hl hs zl zs hn1 true H2).mono ?_
    rintro e w2 ⟨rfl, b⟩
    replace K := KP.below K b
    clear b s0 s1 sz e0 e1 e2 e3 e4 e5 e6 e7 ez hl hs S0 E0 D
    obtain ⟨hl, hs, S0, E0, D⟩ := KO _ K
    obtain ⟨s0, s1, sz⟩ := cellsT S0
    obtain ⟨e0, e1, e2, e3, e4, e5, e6, e7, ez⟩ := cellsEv k u o i a p q t E0
    go_wp2_with fail
    with_reducible refine (Short_is k u o i a p q t true _ hq.1 hq.2.1 hq.2.2 H3).mono ?_
    rintro e w3 ⟨rfl, b⟩
    replace K := KP.below K b
    clear b s0 s1 sz e0 e1 e2 e3 e4 e5 e6 e7 ez hl hs S0 E0 D
    obtain ⟨hl, hs, S0, E0, D⟩ := KO _ K
    obtain ⟨s0, s1, sz⟩ := cellsT S0
    obtain ⟨e0, e1, e2, e3, e4, e5, e6, e7, ez⟩ := cellsEv k u o i a p q t E0
    go_wp2_with fail
    with_reducible refine (fold_is k u o i a p q t _ false _ hu ho ht HF).mono ?_
    rintro e w4 ⟨rfl, b⟩
    replace K := KP.below K b
    clear b s0 s1 sz e0 e1 e2 e3 e4 e5 e6 e7 ez hl hs S0 E0 D
    rw [show evV ⟨0, ⟨#[]⟩, ⟨#[]⟩, 0, (0, 0, 0, ⟨#[]⟩)⟩ = .agg #[.int .i64 0, .string ⟨#[]⟩, .string ⟨#[]⟩, .int .i64 0, .int .i64 0, .int .i64 0, .int .i64 0, .string ⟨#[]⟩] from rfl]
    replace K := KP.alloc K (bxEv 0 ⟨#[]⟩ ⟨#[]⟩ 0 0 0 0 ⟨#[]⟩)
    have hf := heap_alloc_new w4 (bxEv 0 ⟨#[]⟩ ⟨#[]⟩ 0 0 0 0 ⟨#[]⟩)
    obtain ⟨d0, d1, d2, d3, d4, d5, d6, d7, dz⟩ := cellsEv _ _ _ _ _ _ _ _ hf
    go_wp2_with fail
    with_reducible refine (live23 _).mono ?_
    rintro e z9 ⟨rfl, b⟩
    replace K := KP.below K b
    obtain ⟨-, -, -, -, D⟩ := KO _ K
    go_wp2
    go_ret
    exact ⟨rfl, D⟩
  | true =>
    obtain ⟨hmE, hu1, ho1, ht1⟩ := fold_yes hf
    clear hf
    obtain ⟨x, hx1, hx2, hx3, hx4⟩ := back_yes _ hmE
    have X1 := Lib.hid hx1
    have X3 := Lib.hid hx3
    clear hx1 hx3 hx4
    obtain ⟨⟨rE, rS⟩, er, hap⟩ : ∃ r e, applyT (l, s) ⟨k', u', o', i', (a', p', q', t')⟩ = (r, e) := ⟨_, _, rfl⟩
    have HAP := Lib.hid hap
    have HER := Lib.hid (fun h1 : er = 1 => apply_arg HM.out hmE hap h1)
    clear hap hmE
    have NS := eq_self k' u' o' i' a' p' q' t'
    go_enter Tryz.func3, Tryz.ntmps3
    obtain ⟨hl, hs, S0, E0, D⟩ := KO _ K
    obtain ⟨s0, s1, sz⟩ := cellsT S0
    obtain ⟨e0, e1, e2, e3, e4, e5, e6, e7, ez⟩ := cellsEv k u o i a p q t E0
    go_wp2_with fail
    with_reducible refine (FewT_is n c A l m d B s _ hl hs hz hy true H1).mono ?_
    rintro e w1 ⟨rfl, b⟩
    replace K := KP.below K b
    clear b s0 s1 sz e0 e1 e2 e3 e4 e5 e6 e7 ez hl hs S0 E0 D
    obtain ⟨hl, hs, S0, E0, D⟩ := KO _ K
    obtain ⟨s0, s1, sz⟩ := cellsT S0
    obtain ⟨e0, e1, e2, e3, e4, e5, e6, e7, ez⟩ := cellsEv k u o i a p q t E0
    go_wp2_with fail
    with_reducible refine (refMayT_is n c A l m d B s _ hl hs zl zs hn1 true H2).mono ?_
    rintro e w2 ⟨rfl, b⟩
    replace K := KP.below K b
    clear b s0 s1 sz e0 e1 e2 e3 e4 e5 e6 e7 ez hl hs S0 E0 D
    obtain ⟨hl, hs, S0, E0, D⟩ := KO _ K
    obtain ⟨s0, s1, sz⟩ := cellsT S0
    obtain ⟨e0, e1, e2, e3, e4, e5, e6, e7, ez⟩ := cellsEv k u o i a p q t E0
    go_wp2_with fail
    with_reducible refine (Short_is k u o i a p q t true _ hq.1 hq.2.1 hq.2.2 H3).mono ?_
    rintro e w3 ⟨rfl, b⟩
    replace K := KP.below K b
    clear b s0 s1 sz e0 e1 e2 e3 e4 e5 e6 e7 ez hl hs S0 E0 D
    obtain ⟨hl, hs, S0, E0, D⟩ := KO _ K
    obtain ⟨s0, s1, sz⟩ := cellsT S0
    obtain ⟨e0, e1, e2, e3, e4, e5, e6, e7, ez⟩ := cellsEv k u o i a p q t E0
    go_wp2_with fail
    with_reducible refine (fold_is k u o i a p q t ⟨k', u', o', i', (a', p', q', t')⟩ true _ hu ho ht HF).mono ?_
    rintro e w4 ⟨rfl, b⟩
    replace K := KP.below K b
    clear b s0 s1 sz e0 e1 e2 e3 e4 e5 e6 e7 ez hl hs S0 E0 D
    rw [show evV ⟨k', u', o', i', (a', p', q', t')⟩ = .agg #[.int .i64 k', .string u', .string o', .int .i64 i', .int .i64 a', .int .i64 p', .int .i64 q', .string t'] from rfl]
    obtain ⟨P1, K1, KP1, KO1⟩ := Kept.pack (Q := fun w' => P w' ∧ w'.heap[w4.heap.size]? = some (bxEv k' u' o' i' a' p' q' t')) (KP.and Kept.heap) (w := w4.alloc (bxEv k' u' o' i' a' p' q' t')) ⟨KP.alloc K _, heap_alloc_new _ _⟩
    clear K KP
    obtain ⟨-, hf⟩ := KO1 _ K1
    obtain ⟨d0, d1, d2, d3, d4, d5, d6, d7, dz⟩ := cellsEv k' u' o' i' a' p' q' t' hf
    go_wp2_with fail
    with_reducible refine (enc_is k' u' o' i' a' p' q' t' x 0 _ (by omega) (by omega) (by omega) X1).mono ?_
    rintro e w5 ⟨rfl, b⟩
    replace K1 := KP1.below K1 b
    clear b hf d0 d1 d2 d3 d4 d5 d6 d7 dz
    go_wp2_with fail
    with_reducible refine (dec_is x ⟨k', u', o', i', (a', p', q', t')⟩ 0 _ (by omega) X3).mono ?_
    rintro e w6 ⟨rfl, b⟩
    replace K1 := KP1.below K1 b
    clear b
    rw [show evV ⟨k', u', o', i', (a', p', q', t')⟩ = .agg #[.int .i64 k', .string u', .string o', .int .i64 i', .int .i64 a', .int .i64 p', .int .i64 q', .string t'] from rfl]
    obtain ⟨P2, K2, KP2, KO2⟩ := Kept.pack (Q := fun w' => P1 w' ∧ w'.heap[w6.heap.size]? = some (bxEv k' u' o' i' a' p' q' t')) (KP1.and Kept.heap) (w := w6.alloc (bxEv k' u' o' i' a' p' q' t')) ⟨KP1.alloc K1 _, heap_alloc_new _ _⟩
    clear K1 KP1
    obtain ⟨hp, hg⟩ := KO2 _ K2
    obtain ⟨hp, hf⟩ := KO1 _ hp
    obtain ⟨hl, hs, S0, E0, D⟩ := KO _ hp
    obtain ⟨s0, s1, sz⟩ := cellsT S0
    obtain ⟨d0, d1, d2, d3, d4, d5, d6, d7, dz⟩ := cellsEv k' u' o' i' a' p' q' t' hf
    go_wp2_with fail
    refine (ApplyT_is n c A l m d B s _ hl hs zl zs hn k' u' o' i' a' p' q' t' (by omega) (by omega) (by omega) er (rE, rS) HAP).mono ?_
    rintro e w7 ⟨fA, fn, fc, fB, fm, fd, rfl, fl, fs, b, -, -⟩
    replace K2 := KP2.below K2 b
    clear b hp hl hs S0 E0 D s0 s1 sz d0 d1 d2 d3 d4 d5 d6 d7 dz hf hg
    obtain ⟨P3, K3, KP3, KO3⟩ := Kept.pack (Q := fun w' => P2 w' ∧ w'.heap[w7.heap.size]? = some (bxT fA fn fc fB fm fd) ∧ Row enEn 7 w' (.slice fA fn fc) rE ∧ Row enSe 6 w' (.slice fB fm fd) rS) (KP2.and (Kept.heap.and (Kept.row.and Kept.row))) (w := w7.alloc (bxT fA fn fc fB fm fd)) ⟨KP2.alloc K2 _, heap_alloc_new _ _, fl.below (below_box _), fs.below (below_box _)⟩
    clear K2 KP2 fl fs
    obtain ⟨hp, -⟩ := KO3 _ K3
    obtain ⟨hp, hg⟩ := KO2 _ hp
    obtain ⟨hp, hf⟩ := KO1 _ hp
    obtain ⟨hl, hs, S0, E0, D⟩ := KO _ hp
    obtain ⟨s0, s1, sz⟩ := cellsT S0
    obtain ⟨d0, d1, d2, d3, d4, d5, d6, d7, dz⟩ := cellsEv k' u' o' i' a' p' q' t' hg
    go_wp2_with fail
    refine (ApplyT_is n c A l m d B s _ hl hs zl zs hn k' u' o' i' a' p' q' t' (by omega) (by omega) (by omega) er (rE, rS) HAP).mono ?_
    rintro e w8 ⟨gA, gn, gc, gB, gm, gd, rfl, gl, gs, b, -, -⟩
    replace K3 := KP3.below K3 b
    clear b hp hl hs S0 E0 D s0 s1 sz d0 d1 d2 d3 d4 d5 d6 d7 dz hf hg
    obtain ⟨P4, K4, KP4, KO4⟩ := Kept.pack (Q := fun w' => P3 w' ∧ w'.heap[w8.heap.size]? = some (bxT gA gn gc gB gm gd) ∧ Row enEn 7 w' (.slice gA gn gc) rE ∧ Row enSe 6 w' (.slice gB gm gd) rS) (KP3.and (Kept.heap.and (Kept.row.and Kept.row))) (w := w8.alloc (bxT gA gn gc gB gm gd)) ⟨KP3.alloc K3 _, heap_alloc_new _ _, gl.below (below_box _), gs.below (below_box _)⟩
    clear K3 KP3 gl gs
    obtain ⟨hp, G0, gl, gs⟩ := KO4 _ K4
    obtain ⟨hp, F0, fl, fs⟩ := KO3 _ hp
    obtain ⟨hp, hg⟩ := KO2 _ hp
    obtain ⟨hp, hf⟩ := KO1 _ hp
    obtain ⟨f0, f1, fz⟩ := cellsT F0
    obtain ⟨g0, g1, gz⟩ := cellsT G0
    obtain ⟨d0, d1, d2, d3, d4, d5, d6, d7, dz⟩ := cellsEv k' u' o' i' a' p' q' t' hf
    obtain ⟨c0, c1, c2, c3, c4, c5, c6, c7, cz⟩ := cellsEv k' u' o' i' a' p' q' t' hg
    go_wp2_with fail
    with_reducible refine (SameT_is fn fc fA rE fm fd fB rS gn gc gA rE gm gd gB rS _ fl fs gl gs true (Lib.hid (decide_eq_true rfl))).mono ?_
    rintro e w9 ⟨rfl, b⟩
    replace K4 := KP4.below K4 b
    clear b hp G0 gl gs F0 fl fs hg hf f0 f1 fz g0 g1 gz d0 d1 d2 d3 d4 d5 d6 d7 dz c0 c1 c2 c3 c4 c5 c6 c7 cz
    obtain ⟨hp, -⟩ := KO4 _ K4
    obtain ⟨hp, -⟩ := KO3 _ hp
    obtain ⟨hp, hg⟩ := KO2 _ hp
    obtain ⟨hp, hf⟩ := KO1 _ hp
    obtain ⟨d0, d1, d2, d3, d4, d5, d6, d7, dz⟩ := cellsEv k' u' o' i' a' p' q' t' hf
    by_cases her : er = 1
    · have hue := HER.out her
      have hub : (u'.toList == o'.toList) = true := by rw [hue]; exact beq_self_eq_true _
      subst her
      clear HER hue HAP
      go_wp2_with fail
      with_reducible refine (live23 _).mono ?_
      rintro e z9 ⟨rfl, b⟩
      replace K4 := KP4.below K4 b
      obtain ⟨hp, -⟩ := KO4 _ K4
      obtain ⟨hp, -⟩ := KO3 _ hp
      obtain ⟨hp, -⟩ := KO2 _ hp
      obtain ⟨hp, -⟩ := KO1 _ hp
      obtain ⟨-, -, -, -, D⟩ := KO _ hp
      go_wp2
      go_ret
      exact ⟨rfl, D⟩
    · have her1 : (er == 1) = false := by simpa using her
      clear HER HAP
      go_wp2_with fail
      with_reducible refine (live23 _).mono ?_
      rintro e z9 ⟨rfl, b⟩
      replace K4 := KP4.below K4 b
      obtain ⟨hp, -⟩ := KO4 _ K4
      obtain ⟨hp, -⟩ := KO3 _ hp
      obtain ⟨hp, -⟩ := KO2 _ hp
      obtain ⟨hp, -⟩ := KO1 _ hp
      obtain ⟨-, -, -, -, D⟩ := KO _ hp
      go_wp2
      go_ret
      exact ⟨rfl, D⟩
end Go.Proofs.YtbpfcjdjhponaaaGreat
