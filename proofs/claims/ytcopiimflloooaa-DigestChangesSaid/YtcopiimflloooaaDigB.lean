/-
Plain: a table that is put is taken, and what is taken is what was put.
-/
import Derived.Test.YtcopiimflloooaaDigA
import Derived.Test.YtcopiimflloooaaTkT
set_option linter.unusedVariables false
set_option linter.unusedSimpArgs false
namespace Go.Proofs.Ytcopiimflloooaa
open Go.RowKit
open Sp
namespace Sp
def rowB (x : Sn) : List UInt8 := (textV x.c).data.toList ++ (putVal x.v.1 x.v.2.1 x.v.2.2.1 x.v.2.2.2).1.data.toList
theorem rowOk_iff (x : Sn) : rowOk x = true ↔ isName x.c = true ∧ mayV x.v.1 x.v.2.1 x.v.2.2.1 x.v.2.2.2 = true := by unfold rowOk; rw [Bool.and_eq_true]
theorem rowsT_put (s : ByteArray) : ∀ (t : List Sn) (a : Nat) (acc : List Sn) (rest : List UInt8), (∀ x ∈ t, rowOk x = true) → s.data.toList.drop a = t.flatMap rowB ++ rest →
    rowsT s t.length a acc = (acc ++ t, ((a + (t.flatMap rowB).length : Nat) : Int), 0)
  | [], a, acc, rest, _, _ => by simp [rowsT]
  | x :: t, a, acc, rest, h, hd => by
    obtain ⟨h1, h2⟩ := (rowOk_iff x).1 (h x List.mem_cons_self)
    have hsz := ((isName_iff x.c).1 h1).2.1
    rw [List.flatMap_cons] at hd
    unfold rowB at hd
    rw [List.append_assoc, List.append_assoc] at hd
    have e1 := Tk.takeN_put s a x.c _ hd hsz h1
    have d2 : s.data.toList.drop (a + (textV x.c).size) = (putVal x.v.1 x.v.2.1 x.v.2.2.1 x.v.2.2.2).1.data.toList ++ (t.flatMap rowB ++ rest) := by
      rw [← List.drop_drop, hd, size_eq_length, List.drop_left]; rfl
    have e2 := Tk.takeVal_put s (a + (textV x.c).size) _ _ _ _ _ h2 d2
    have d3 : s.data.toList.drop (a + (textV x.c).size + (putVal x.v.1 x.v.2.1 x.v.2.2.1 x.v.2.2.2).1.size) = t.flatMap rowB ++ rest := by
      rw [← List.drop_drop, d2, size_eq_length (putVal _ _ _ _).1, List.drop_left]
    have e3 := rowsT_put s t _ (acc ++ [x]) rest (fun y hy => h y (List.mem_cons_of_mem _ hy)) d3
    rw [List.length_cons]
    unfold rowsT
    rw [e1]
    simp only
    rw [if_neg (by simp), show (a : Int) + ((textV x.c).size : Int) = ((a + (textV x.c).size : Nat) : Int) by omega, e2]
    simp only
    rw [if_neg (by simp), show ((a + (textV x.c).size : Nat) : Int) + ((putVal x.v.1 x.v.2.1 x.v.2.2.1 x.v.2.2.2).1.size : Int) = ((a + (textV x.c).size + (putVal x.v.1 x.v.2.1 x.v.2.2.1 x.v.2.2.2).1.size : Nat) : Int) by omega]
    rw [show acc ++ [(⟨x.c, x.v.1, x.v.2.1, x.v.2.2.1, x.v.2.2.2⟩ : Sn)] = acc ++ [x] from rfl, e3]
    simp only [List.append_assoc, List.cons_append, List.nil_append, Prod.mk.injEq, true_and, and_true, List.flatMap_cons, List.length_append, rowB, ← size_eq_length]
    omega
theorem putT_ok {t : List Sn} (h : mayT t = true) : putT t = (strOf (putV t.length ++ t.flatMap rowB), true) := by unfold putT; rw [if_pos h]; rfl
theorem putT_no {t : List Sn} (h : mayT t = false) : putT t = (⟨#[]⟩, false) := by unfold putT; rw [if_neg (by rw [h]; decide)]
theorem takeT_put (s : ByteArray) (t : List Sn) (a : Nat) (rest : List UInt8) (h : mayT t = true) (hd : s.data.toList.drop a = (putT t).1.data.toList ++ rest) : takeT s a = (t, (a : Int) + ((putT t).1.size : Int), 0) := by
  obtain ⟨h1, h2, _⟩ := (mayT_iff t).1 h
  rw [putT_ok h] at hd ⊢
  simp only [strOf_list, List.append_assoc] at hd
  have e1 := Tk.getV_put s a t.length _ hd (by omega)
  have d2 : s.data.toList.drop (a + (putV t.length).length) = t.flatMap rowB ++ rest := by rw [← List.drop_drop, hd, List.drop_left]
  have e2 := rowsT_put s t _ [] rest h2 d2
  unfold takeT
  rw [e1]
  simp only
  rw [if_neg (by simp), if_neg (by omega), show (a : Int) + ((putV t.length).length : Int) = ((a + (putV t.length).length : Nat) : Int) by omega, e2]
  simp only [List.nil_append]
  rw [if_neg (by simp), if_pos h]
  simp only [Prod.mk.injEq, true_and, and_true, strOf_size, List.length_append]
  omega
theorem putT_inj {t u : List Sn} (ht : mayT t = true) (hu : mayT u = true) (h : (putT t).1 = (putT u).1) : t = u := by
  have h1 := takeT_put (putT t).1 t 0 [] ht (by simp)
  have h2 := takeT_put (putT t).1 u 0 [] hu (by rw [h]; simp)
  rw [h1] at h2
  injection h2
theorem putVal_pos (a p n : Int) (t : ByteArray) (h : mayV a p n t = true) : 0 < (putVal a p n t).1.size := by
  unfold putVal
  rw [if_pos h]
  simp only [ByteArray.size_append, strOf_size, valL, List.length_cons, List.length_nil]
  omega
theorem rowsT_text (s : ByteArray) : ∀ (n : Nat) (a : Int) (acc r : List Sn) (to : Int), rowsT s n a acc = (r, to, 0) → 0 ≤ a →
    ∃ t, r = acc ++ t ∧ t.length = n ∧ s.data.toList.drop a.toNat = t.flatMap rowB ++ s.data.toList.drop to.toNat ∧ to.toNat = a.toNat + (t.flatMap rowB).length ∧ 0 ≤ to
  | 0, a, acc, r, to, h, ha => by
    simp only [rowsT, Prod.mk.injEq, and_true] at h
    obtain ⟨rfl, rfl⟩ := h
    exact ⟨[], by simp, rfl, by simp, by simp, ha⟩
  | n + 1, a, acc, r, to, h, ha => by
    unfold rowsT at h
    obtain ⟨c, f, er, hc⟩ : ∃ c f er, takeN s a = (c, f, er) := ⟨_, _, _, rfl⟩
    rw [hc] at h
    simp only at h
    split at h
    · simp only [Prod.mk.injEq] at h
      exact absurd h.2.2 (by assumption)
    · rename_i he
      have he' : er = 0 := by simpa using he
      subst he'
      obtain ⟨v, g, er, hv⟩ : ∃ v g er, takeVal s f = (v, g, er) := ⟨_, _, _, rfl⟩
      rw [hv] at h
      simp only at h
      split at h
      · simp only [Prod.mk.injEq] at h
        exact absurd h.2.2 (by assumption)
      · rename_i he
        have he' : er = 0 := by simpa using he
        subst he'
        obtain ⟨t1, t2⟩ := Tk.takeN_text s a c f hc
        obtain ⟨v1, v2, v3, v4, v5⟩ := Tk.takeVal_text s f v g hv
        have hpos := putVal_pos _ _ _ _ v1
        obtain ⟨t, r1, r2, r3, r4, r5⟩ := rowsT_text s n g _ r to h (by omega)
        refine ⟨⟨c, v⟩ :: t, by rw [r1]; simp, by rw [List.length_cons, r2], ?_, ?_, r5⟩
        · rw [t1, v4, r3, List.flatMap_cons]
          simp [rowB]
        · rw [List.flatMap_cons, List.length_append, rowB, List.length_append, ← size_eq_length, ← size_eq_length]
          simp only
          omega
theorem takeT_text (s w0 : ByteArray) (w : List Sn) (to : Int) (h : takeT s 0 = (w, to, 0)) : mayT w = true ∧ 0 ≤ to ∧ to ≤ s.size ∧ (putT w).1 = s.extract 0 to.toNat := by
  unfold takeT at h
  obtain ⟨n, f, er, hg⟩ : ∃ n f er, getV s 0 = (n, f, er) := ⟨_, _, _, rfl⟩
  rw [hg] at h
  simp only at h
  split at h
  · simp only [Prod.mk.injEq] at h
    exact absurd h.2.2 (by assumption)
  · rename_i he
    have he' : er = 0 := by simpa using he
    subst he'
    split at h
    · simp only [Prod.mk.injEq] at h
      exact absurd h.2.2 (by decide)
    · obtain ⟨r, g, er, hr⟩ : ∃ r g er, rowsT s n f [] = (r, g, er) := ⟨_, _, _, rfl⟩
      rw [hr] at h
      simp only at h
      split at h
      · simp only [Prod.mk.injEq] at h
        exact absurd h.2.2 (by assumption)
      · rename_i he
        have he' : er = 0 := by simpa using he
        subst he'
        split at h
        · rename_i hm
          simp only [Prod.mk.injEq, and_true] at h
          obtain ⟨rfl, rfl⟩ := h
          obtain ⟨g1, g2⟩ := Tk.getV_text s 0 n f hg
          have g3 := getV_ok s 0 n f hg
          obtain ⟨t, r1, r2, r3, r4, r5⟩ := rowsT_text s n f [] r g hr (by omega)
          rw [List.nil_append] at r1
          subst r1
          have hall : s.data.toList = (putT r).1.data.toList ++ s.data.toList.drop g.toNat := by
            have : s.data.toList = s.data.toList.drop (0 : Int).toNat := rfl
            conv => lhs; rw [this, g1, r3]
            rw [putT_ok hm, strOf_list, r2, List.append_assoc]
          have hgs : g.toNat = (putT r).1.data.toList.length := by
            rw [putT_ok hm, strOf_list, List.length_append, r2]
            simp only [Int.toNat_zero] at g2
            omega
          have hle : g.toNat ≤ s.size := by
            have := congrArg List.length hall
            rw [List.length_append, List.length_drop, ← size_eq_length, ← hgs] at this
            omega
          refine ⟨hm, r5, by omega, ?_⟩
          rw [← toList_inj, ByteArray.data_extract, Array.toList_extract]
          have e : List.extract s.data.toList 0 g.toNat = s.data.toList.take g.toNat := by simp [List.extract]
          rw [e, hgs]
          conv => rhs; rw [hall]
          rw [List.take_left]
        · simp only [Prod.mk.injEq] at h
          exact absurd h.2.2 (by decide)
theorem rowsT_bad (s : ByteArray) : ∀ (n : Nat) (a : Int) (acc r : List Sn) (to er : Int), rowsT s n a acc = (r, to, er) → er ≠ 0 → r = [] ∧ to = 0
  | 0, a, acc, r, to, er, h, he => by
    simp only [rowsT, Prod.mk.injEq] at h
    exact absurd h.2.2.symm he
  | n + 1, a, acc, r, to, er, h, he => by
    unfold rowsT at h
    simp only at h
    split at h
    · simp only [Prod.mk.injEq] at h; exact ⟨h.1.symm, h.2.1.symm⟩
    · split at h
      · simp only [Prod.mk.injEq] at h; exact ⟨h.1.symm, h.2.1.symm⟩
      · exact rowsT_bad s n _ _ r to er h he
theorem takeT_bad (s : ByteArray) (a : Int) (w : List Sn) (to er : Int) (h : takeT s a = (w, to, er)) (he : er ≠ 0) : w = [] ∧ to = 0 := by
  unfold takeT at h
  simp only at h
  split at h
  · simp only [Prod.mk.injEq] at h; exact ⟨h.1.symm, h.2.1.symm⟩
  · split at h
    · simp only [Prod.mk.injEq] at h; exact ⟨h.1.symm, h.2.1.symm⟩
    · split at h
      · simp only [Prod.mk.injEq] at h; exact ⟨h.1.symm, h.2.1.symm⟩
      · split at h
        · simp only [Prod.mk.injEq] at h; exact absurd h.2.2.symm he
        · simp only [Prod.mk.injEq] at h; exact ⟨h.1.symm, h.2.1.symm⟩
theorem takeT_len (s : ByteArray) (a : Int) (w : List Sn) (to er : Int) (h : takeT s a = (w, to, er)) : w.length ≤ 32 := by
  by_cases he : er = 0
  · subst he
    unfold takeT at h
    simp only at h
    split at h
    · simp only [Prod.mk.injEq] at h; rw [← h.1]; simp
    · split at h
      · simp only [Prod.mk.injEq] at h; rw [← h.1]; simp
      · split at h
        · simp only [Prod.mk.injEq] at h; rw [← h.1]; simp
        · split at h
          · rename_i hm
            simp only [Prod.mk.injEq] at h
            rw [← h.1]
            exact ((mayT_iff _).1 hm).1
          · simp only [Prod.mk.injEq] at h; rw [← h.1]; simp
  · rw [(takeT_bad s a w to er h he).1]; simp
end Sp
end Go.Proofs.Ytcopiimflloooaa
