/-
Layer 23: events as one text, by the program.
-/
import Derived.Test.YtobhlcogopcbdaaScrQ
set_option linter.unusedVariables false
set_option linter.unusedSimpArgs false
namespace Go.Proofs.Ytobhlcogopcbdaa
open Go.RowKit
open Sp
set_option maxHeartbeats 8000000 in
set_option maxRecDepth 100000 in
theorem batch_calls (n c : Nat) (A : Option Addr) (l : List Ev) (w : World) (hl : Row enE 8 w (.slice A n c) l) (hz : SzE l) :
    Calls Try.prog 38 #[.slice A n c] w fun e w' => e = .returned (.tuple #[.string (batchE l).1, .int .i64 (batchE l).2]) ∧ Below w.heap.size w w' := by
  have EA := Lib.hid hl.len_eq
  have HZ := Lib.hid hz
  clear hz
  obtain ⟨r, er, hr⟩ : ∃ r er, batchE l = (r, er) := ⟨_, _, rfl⟩
  rw [hr]
  have HR := Lib.hid hr
  clear hr
  by_cases hm : 100 < (n : Int)
  · have HF : Hid (r = ⟨#[]⟩ ∧ er = 1) := by
      have := HR.out
      rw [batch_big l (by have := EA.out; omega)] at this
      injection this with h1 h2
      exact ⟨h1.symm, h2.symm⟩
    go_enter Try.func38, Try.ntmps38
    go_wp2
    go_ret2
    rw [HF.out.1, HF.out.2]
    exact ⟨rfl, Below.refl _ _⟩
  · have hm' : (n : Int) ≤ 100 := by omega
    clear hm
    go_enter Try.func38, Try.ntmps38
    go_wp2
    go_loopw [14] (fun v14 wr => ∃ i : Nat, v14 = .int .i64 i ∧ i ≤ n ∧ Bld w.heap.size w.heap.size ((l.take i).flatMap txE) wr ∧ Below w.heap.size w wr ∧ Hid (∀ j (h : j < l.length), j < i → mayE l[j] = true)) (fun v14 _ => (n - intOf v14).toNat)
    case atStart => exact ⟨0, rfl, Nat.zero_le _, Bld.fresh w, below_box _, fun j h hj => absurd hj (by omega)⟩
    case round =>
      obtain ⟨i, rfl, hi, hb, hB, HT⟩ := hrel
      by_cases hlt : i < n
      · have hil : i < l.length := by have := EA.out; omega
        obtain ⟨⟨k, u, o, x, a, p, m, t⟩, he⟩ : ∃ e, l[i] = e := ⟨_, rfl⟩
        obtain ⟨z1, z2, z3⟩ := HZ.out l[i] (List.getElem_mem _)
        rw [he] at z1 z2 z3
        simp only at z1 z2 z3
        obtain ⟨ad, rfl, c0, c1, c2, c3, c4, c5, c6, c7⟩ := row_ev (hl.below hB) i hil k u o x a p m t he
        have HE := Lib.hid he
        clear he
        have hBx := below_alloc0 hB (.cells #[.int .i64 k, .string u, .string o, .int .i64 x, .int .i64 a, .int .i64 p, .int .i64 m, .string t] 44)
        have hbx := hb.below (below_box (.cells #[.int .i64 k, .string u, .string o, .int .i64 x, .int .i64 a, .int .i64 p, .int .i64 m, .string t] 44))
        cases hb' : mayE ⟨k, u, o, x, a, p, m, t⟩ with
        | true =>
          obtain ⟨y1, y2⟩ := encE_yes _ hb'
          obtain ⟨g, eg, hg⟩ : ∃ g eg, encE ⟨k, u, o, x, a, p, m, t⟩ = (g, eg) := ⟨_, _, rfl⟩
          rw [hg] at y1 y2
          simp only at y1 y2
          subst y1
          obtain ⟨tx, htx⟩ : ∃ tx, textV g = tx := ⟨_, rfl⟩
          have ztx : tx.size ≤ 140 := by rw [← htx]; have := textV_size g (by omega); omega
          have HTX : Hid ((l.take (i + 1)).flatMap txE = (l.take i).flatMap txE ++ tx.data.toList) := by
            show _ = _
            rw [txs_succ l i hil, HE.out]
            show _ ++ (textV (encE ⟨k, u, o, x, a, p, m, t⟩).1).data.toList = _
            rw [hg, htx]
          have HM : Hid (∀ j (h : j < l.length), j < i + 1 → mayE l[j] = true) := fun j h hj => by
            rcases Nat.lt_or_ge j i with h' | h'
            · exact HT.out j h h'
            · obtain rfl : j = i := by omega
              rw [HE.out]; exact hb'
          have zl := txs_len l i HT.out
          have HG := Lib.hid hg
          have HX := Lib.hid htx
          clear hb' hg htx
          go_wp2_with fail
          refine (enc_is k u o x a p m t g 0 _ z1 z2 z3 HG).mono ?_
          rintro e w1 ⟨rfl, b1⟩
          have hB1 := below_call hBx b1
          have hb1 := hbx.below b1
          clear c0 c1 c2 c3 c4 c5 c6 c7 b1 hB hBx hbx hb
          go_wp2_with fail
          refine (varText_w g tx _ (by omega) HX).mono ?_
          rintro e w2 ⟨rfl, b2⟩
          have hB2 := below_call hB1 b2
          have hb2 := hb1.below b2
          clear b2 hB1 hb1
          go_wp2_with fail
          refine (bldStr w.heap.size w.heap.size _ tx _ hb2 (by omega) hB2.size).mono ?_
          rintro e w3 ⟨rfl, hb3, b3, _⟩
          have hB3 := hB2.trans b3
          rw [← HTX.out] at hb3
          clear b3 hB2 hb2 zl
          go_wp2
          exact ⟨⟨i + 1, by go_num, by omega, hb3, hB3, HM⟩, by simp [intOf]; omega⟩
        | false =>
          have HF : Hid (r = ⟨#[]⟩ ∧ er = 1) := by
            have := HR.out
            rw [batch_no l i hil (by rw [HE.out]; exact hb')] at this
            injection this with h1 h2
            exact ⟨h1.symm, h2.symm⟩
          have HG := Lib.hid (encE_no _ hb')
          clear hb'
          go_wp2_with fail
          refine (enc_is k u o x a p m t ⟨#[]⟩ 1 _ z1 z2 z3 HG).mono ?_
          rintro e w1 ⟨rfl, b1⟩
          have hB1 := below_call hBx b1
          clear c0 c1 c2 c3 c4 c5 c6 c7 b1 hB hBx hbx hb
          go_wp2
          go_ret2
          rw [HF.out.1, HF.out.2]
          exact ⟨rfl, hB1⟩
      · have hin : i = n := by omega
        subst hin
        have HF : Hid (strOf ((l.take i).flatMap txE) = r ∧ er = 0) := by
          have := HR.out
          rw [batch_yes l (by have := EA.out; omega) (fun j h _ => HT.out j h (by rw [EA.out]; exact h))] at this
          injection this with h1 h2
          refine ⟨?_, h2.symm⟩
          rw [← h1, List.take_of_length_le (by rw [EA.out]; exact Nat.le_refl _)]
        go_wp2_with fail
        refine (bldString w.heap.size w.heap.size _ _ hb hB.size).mono ?_
        rw [HF.out.1]
        rintro e w1 ⟨rfl, _, b1, _⟩
        have hB1 := hB.trans b1
        clear b1 hB hb
        go_wp2
        go_ret2
        rw [HF.out.2]
        exact ⟨rfl, hB1⟩
end Go.Proofs.Ytobhlcogopcbdaa
