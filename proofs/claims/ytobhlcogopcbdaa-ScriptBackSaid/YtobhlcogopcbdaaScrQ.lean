/-
Layer 23: events as one text.
-/
import Derived.Test.YtobhlcogopcbdaaScrP
set_option linter.unusedVariables false
set_option linter.unusedSimpArgs false
namespace Go.Proofs.Ytobhlcogopcbdaa
open Go.RowKit
namespace Sp
def txE (e : Ev) : List UInt8 := (textV (encE e).1).data.toList
def batchE (l : List Ev) : ByteArray × Int := if 100 < l.length then (⟨#[]⟩, 1) else if l.all mayE then (strOf (l.flatMap txE), 0) else (⟨#[]⟩, 1)
end Sp
open Sp
theorem encE_yes (e : Ev) (h : mayE e = true) : (encE e).2 = 0 ∧ (encE e).1.size ≤ 130 := by
  have hz := mayE8_sz _ _ _ _ _ _ _ _ h
  have h1 := textV_size e.u (by omega)
  have h2 := textV_size e.o (by omega)
  have h3 := putVal_size e.v.1 e.v.2.1 e.v.2.2.1 e.v.2.2.2
  unfold encE encE8
  rw [if_neg (by rw [show mayE8 _ _ _ _ _ _ _ _ = true from h]; simp)]
  refine ⟨rfl, ?_⟩
  simp only [sealS_size]
  split
  · simp only [ByteArray.size_append, strOf_size, List.length_cons, List.length_nil]; omega
  · split <;> (simp only [ByteArray.size_append, strOf_size, List.length_cons, List.length_nil]; omega)
theorem encE_no (e : Ev) (h : mayE e = false) : encE e = (⟨#[]⟩, 1) := by
  unfold encE encE8
  rw [if_pos (by rw [show mayE8 _ _ _ _ _ _ _ _ = false from h]; simp)]
theorem txE_len (e : Ev) (h : mayE e = true) : (txE e).length ≤ 140 := by
  unfold txE
  have h1 := (encE_yes e h).2
  have h2 := textV_size (encE e).1 (by omega)
  rw [← size_eq_length]; omega
theorem txs_len (l : List Ev) : ∀ i, (∀ j (h : j < l.length), j < i → mayE l[j] = true) → ((l.take i).flatMap txE).length ≤ 140 * i
  | 0, _ => by simp
  | i + 1, h => by
    have ih := txs_len l i (fun j hj hji => h j hj (by omega))
    by_cases hi : i < l.length
    · rw [List.take_succ_eq_append_getElem hi, List.flatMap_append, List.length_append]
      have := txE_len l[i] (h i hi (by omega))
      simp only [List.flatMap_cons, List.flatMap_nil, List.append_nil]
      omega
    · rw [List.take_of_length_le (by omega)]
      rw [List.take_of_length_le (by omega)] at ih
      omega
theorem txs_succ (l : List Ev) (i : Nat) (h : i < l.length) : (l.take (i + 1)).flatMap txE = (l.take i).flatMap txE ++ txE l[i] := by
  rw [List.take_succ_eq_append_getElem h, List.flatMap_append]; simp
theorem batch_big (l : List Ev) (h : 100 < l.length) : batchE l = (⟨#[]⟩, 1) := by unfold batchE; rw [if_pos h]
theorem batch_no (l : List Ev) (i : Nat) (h : i < l.length) (hm : mayE l[i] = false) : batchE l = (⟨#[]⟩, 1) := by
  unfold batchE
  split
  · rfl
  · rw [if_neg]
    intro ha
    rw [List.all_eq_true] at ha
    rw [ha _ (List.getElem_mem h)] at hm
    cases hm
theorem batch_yes (l : List Ev) (h : l.length ≤ 100) (hm : ∀ j (h : j < l.length), j < l.length → mayE l[j] = true) : batchE l = (strOf (l.flatMap txE), 0) := by
  unfold batchE
  rw [if_neg (by omega), if_pos]
  rw [List.all_eq_true]
  intro e he
  obtain ⟨j, hj, rfl⟩ := List.getElem_of_mem he
  exact hm j hj hj
theorem refEnc_is (k : Int) (u o : ByteArray) (i a p n : Int) (t q : ByteArray) (er : Int) (w : World) (hu : u.size ≤ 140737488351232) (ho : o.size ≤ 140737488351232) (ht : t.size ≤ 140737488351232) (h : Hid (encE ⟨k, u, o, i, a, p, n, t⟩ = (q, er))) :
    Calls Try.prog 61 #[.agg #[.int .i64 k, .string u, .string o, .int .i64 i, .int .i64 a, .int .i64 p, .int .i64 n, .string t]] w fun e w' => e = .returned (.tuple #[.string q, .int .i64 er]) ∧ Below w.heap.size w w' := by
  have := refEnc_calls k u o i a p n t w hu ho ht
  rw [show encE8 k u o i a p n t = (q, er) from h.out] at this
  exact this
theorem enc_is (k : Int) (u o : ByteArray) (i a p n : Int) (t q : ByteArray) (er : Int) (w : World) (hu : u.size ≤ 140737488351232) (ho : o.size ≤ 140737488351232) (ht : t.size ≤ 140737488351232) (h : Hid (encE ⟨k, u, o, i, a, p, n, t⟩ = (q, er))) :
    Calls Try.prog 40 #[.agg #[.int .i64 k, .string u, .string o, .int .i64 i, .int .i64 a, .int .i64 p, .int .i64 n, .string t]] w fun e w' => e = .returned (.tuple #[.string q, .int .i64 er]) ∧ Below w.heap.size w w' := by
  have := enc_calls k u o i a p n t w hu ho ht
  rw [show encE8 k u o i a p n t = (q, er) from h.out] at this
  exact this

def SzE (l : List Ev) : Prop := ∀ e ∈ l, e.u.size ≤ 140737488351232 ∧ e.o.size ≤ 140737488351232 ∧ e.v.2.2.2.size ≤ 140737488351232

set_option maxHeartbeats 8000000 in
set_option maxRecDepth 100000 in
theorem refBatch_calls (n c : Nat) (A : Option Addr) (l : List Ev) (w : World) (hl : Row enE 8 w (.slice A n c) l) (hz : SzE l) :
    Calls Try.prog 39 #[.slice A n c] w fun e w' => e = .returned (.tuple #[.string (batchE l).1, .int .i64 (batchE l).2]) ∧ Below w.heap.size w w' := by
  have EA := Lib.hid hl.len_eq
  have HZ := Lib.hid hz
  clear hz
  obtain ⟨r, er, hr⟩ : ∃ r er, batchE l = (r, er) := ⟨_, _, rfl⟩
  rw [hr]
  have HR := Lib.hid hr
  clear hr
  by_cases hm : 100 < (n : Int)
  · have HF : Hid (r = ⟨#[]⟩ ∧ er = 1) := by
      have := HR.out
      rw [batch_big l (by have := EA.out; omega)] at this
      injection this with h1 h2
      exact ⟨h1.symm, h2.symm⟩
    go_enter Try.func39, Try.ntmps39
    go_wp2
    go_ret2
    rw [HF.out.1, HF.out.2]
    exact ⟨rfl, Below.refl _ _⟩
  · have hm' : (n : Int) ≤ 100 := by omega
    clear hm
    go_enter Try.func39, Try.ntmps39
    go_wp2
    go_loopw [4, 5] (fun v4 v5 wr => ∃ i : Nat, v5 = .int .i64 i ∧ i ≤ n ∧ (∃ q, v4 = .string q ∧ Hid (strOf ((l.take i).flatMap txE) = q) ∧ q.size ≤ 14000) ∧ Below w.heap.size w wr ∧ Hid (∀ j (h : j < l.length), j < i → mayE l[j] = true)) (fun _ v5 _ => (n - intOf v5).toNat)
    case atStart => exact ⟨0, rfl, Nat.zero_le _, ⟨_, rfl, rfl, by decide⟩, Below.refl _ _, fun j h hj => absurd hj (by omega)⟩
    case round =>
      obtain ⟨i, rfl, hi, ⟨q, rfl, HQ, zq⟩, hB, HT⟩ := hrel
      by_cases hlt : i < n
      · have hil : i < l.length := by have := EA.out; omega
        obtain ⟨⟨k, u, o, x, a, p, m, t⟩, he⟩ : ∃ e, l[i] = e := ⟨_, rfl⟩
        obtain ⟨z1, z2, z3⟩ := HZ.out l[i] (List.getElem_mem _)
        rw [he] at z1 z2 z3
        simp only at z1 z2 z3
        obtain ⟨ad, rfl, c0, c1, c2, c3, c4, c5, c6, c7⟩ := row_ev (hl.below hB) i hil k u o x a p m t he
        have HE := Lib.hid he
        clear he
        cases hb : mayE ⟨k, u, o, x, a, p, m, t⟩ with
        | true =>
          obtain ⟨y1, y2⟩ := encE_yes _ hb
          obtain ⟨g, eg, hg⟩ : ∃ g eg, encE ⟨k, u, o, x, a, p, m, t⟩ = (g, eg) := ⟨_, _, rfl⟩
          rw [hg] at y1 y2
          simp only at y1 y2
          subst y1
          obtain ⟨tx, htx⟩ : ∃ tx, textV g = tx := ⟨_, rfl⟩
          have ztx : tx.size ≤ 140 := by rw [← htx]; have := textV_size g (by omega); omega
          have HTX : Hid (strOf ((l.take (i + 1)).flatMap txE) = q ++ tx) := by
            show _ = _
            rw [txs_succ l i hil, HE.out, ← HQ.out]
            show strOf (_ ++ (textV (encE ⟨k, u, o, x, a, p, m, t⟩).1).data.toList) = _
            rw [hg, ← strOf_append, strOf_toList, htx]
          have HM : Hid (∀ j (h : j < l.length), j < i + 1 → mayE l[j] = true) := fun j h hj => by
            rcases Nat.lt_or_ge j i with h' | h'
            · exact HT.out j h h'
            · obtain rfl : j = i := by omega
              rw [HE.out]; exact hb
          have hz1 : (q ++ tx).size ≤ 14000 := by
            rw [← HTX.out, strOf_size]
            have := txs_len l (i + 1) HM.out
            omega
          have HG := Lib.hid hg
          have HX := Lib.hid htx
          clear hb hg htx
          go_wp2_with fail
          refine (refEnc_is k u o x a p m t g 0 _ z1 z2 z3 HG).mono ?_
          rintro e w1 ⟨rfl, b1⟩
          have hB1 := below_call hB b1
          clear c0 c1 c2 c3 c4 c5 c6 c7 b1 hB
          go_wp2_with fail
          refine (refText_w g tx _ (by omega) HX).mono ?_
          rintro e w2 ⟨rfl, b2⟩
          have hB2 := below_call hB1 b2
          clear b2 hB1
          go_wp2
          exact ⟨⟨i + 1, by go_num, by omega, ⟨_, rfl, HTX, hz1⟩, hB2, HM⟩, by simp [intOf]; omega⟩
        | false =>
          have HF : Hid (r = ⟨#[]⟩ ∧ er = 1) := by
            have := HR.out
            rw [batch_no l i hil (by rw [HE.out]; exact hb)] at this
            injection this with h1 h2
            exact ⟨h1.symm, h2.symm⟩
          have HG := Lib.hid (encE_no _ hb)
          clear hb
          go_wp2_with fail
          refine (refEnc_is k u o x a p m t ⟨#[]⟩ 1 _ z1 z2 z3 HG).mono ?_
          rintro e w1 ⟨rfl, b1⟩
          have hB1 := below_call hB b1
          clear c0 c1 c2 c3 c4 c5 c6 c7 b1 hB
          go_wp2
          go_ret2
          rw [HF.out.1, HF.out.2]
          exact ⟨rfl, hB1⟩
      · have hin : i = n := by omega
        subst hin
        have HF : Hid (r = q ∧ er = 0) := by
          have := HR.out
          rw [batch_yes l (by have := EA.out; omega) (fun j h _ => HT.out j h (by rw [EA.out]; exact h))] at this
          injection this with h1 h2
          refine ⟨?_, h2.symm⟩
          rw [← h1, ← HQ.out, List.take_of_length_le (by rw [EA.out]; exact Nat.le_refl _)]
        go_wp2
        go_ret2
        rw [HF.out.1, HF.out.2]
        exact ⟨rfl, hB⟩
end Go.Proofs.Ytobhlcogopcbdaa
