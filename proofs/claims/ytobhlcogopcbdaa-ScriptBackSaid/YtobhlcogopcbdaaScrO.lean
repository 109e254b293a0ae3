/-
Layer 23: rows of events; few events, of short texts; two rows alike.
-/
import Derived.Test.YtobhlcogopcbdaaScrN
set_option linter.unusedVariables false
set_option linter.unusedSimpArgs false
namespace Go.Proofs.Ytobhlcogopcbdaa
open Go.RowKit
namespace Sp
def shortE (e : Ev) : Bool := decide ((e.u.size : Int) ≤ 40) && (decide ((e.o.size : Int) ≤ 40) && decide ((e.v.2.2.2.size : Int) ≤ 60))
def eventsE (l : List Ev) (most : Int) : Bool := decide ((l.length : Int) ≤ most) && l.all shortE
end Sp
open Sp
def enE (e : Ev) : List Value := [.int .i64 e.k, .string e.u, .string e.o, .int .i64 e.i, .int .i64 e.v.1, .int .i64 e.v.2.1, .int .i64 e.v.2.2.1, .string e.v.2.2.2]
theorem enE_len (e : Ev) : (enE e).length = 8 := rfl
theorem enE_one (e : Ev) : ∀ u ∈ enE e, u.oneCell' = true := by intro u hu; simp only [enE, List.mem_cons, List.mem_nil_iff, or_false] at hu; rcases hu with rfl | rfl | rfl | rfl | rfl | rfl | rfl | rfl <;> rfl

set_option maxHeartbeats 4000000 in
set_option maxRecDepth 100000 in
theorem short_calls (k : Int) (u o : ByteArray) (i a p n : Int) (t : ByteArray) (w : World) (hu : u.size ≤ 9223372036854775807) (ho : o.size ≤ 9223372036854775807) (ht : t.size ≤ 9223372036854775807) :
    Calls Try.prog 43 #[.agg #[.int .i64 k, .string u, .string o, .int .i64 i, .int .i64 a, .int .i64 p, .int .i64 n, .string t]] w fun e w' => e = .returned (.bool (shortE ⟨k, u, o, i, a, p, n, t⟩)) ∧ Below w.heap.size w w' := by
  go_enter Try.func43, Try.ntmps43
  go_wp2
  all_goals (try go_ret)
  all_goals (refine ⟨ret_bool ?_, below_box _⟩)
  all_goals (unfold shortE)
  all_goals (try (simp_all; done))
  all_goals (try (simp_all; omega))

theorem row_ev {W : World} {A : Option Addr} {n c : Nat} {l : List Ev} (h : Row enE 8 W (.slice A n c) l) (i : Nat) (hi : i < l.length) (k : Int) (u o : ByteArray) (x a p m : Int) (t : ByteArray) (he : l[i] = ⟨k, u, o, x, a, p, m, t⟩) :
    ∃ ad, A = some ad ∧ W.cell? (ad.add (i * 8)) = some (.int .i64 k) ∧ W.cell? ⟨(ad.add (i * 8)).block, (ad.add (i * 8)).off + 1, none⟩ = some (.string u) ∧ W.cell? ⟨(ad.add (i * 8)).block, (ad.add (i * 8)).off + 2, none⟩ = some (.string o) ∧ W.cell? ⟨(ad.add (i * 8)).block, (ad.add (i * 8)).off + 3, none⟩ = some (.int .i64 x) ∧ W.cell? ⟨(ad.add (i * 8)).block, (ad.add (i * 8)).off + 4, none⟩ = some (.int .i64 a) ∧ W.cell? ⟨(ad.add (i * 8)).block, (ad.add (i * 8)).off + 5, none⟩ = some (.int .i64 p) ∧ W.cell? ⟨(ad.add (i * 8)).block, (ad.add (i * 8)).off + 6, none⟩ = some (.int .i64 m) ∧ W.cell? ⟨(ad.add (i * 8)).block, (ad.add (i * 8)).off + 7, none⟩ = some (.string t) := by
  obtain ⟨ad, e, hc⟩ := h.get enE_len i hi
  rw [he] at hc
  exact ⟨ad, e, hc 0 (by omega), hc 1 (by omega), hc 2 (by omega), hc 3 (by omega), hc 4 (by omega), hc 5 (by omega), hc 6 (by omega), hc 7 (by omega)⟩

set_option maxHeartbeats 4000000 in
set_option maxRecDepth 100000 in
theorem events_calls (n c : Nat) (A : Option Addr) (l : List Ev) (most : Int) (w : World) (hl : Row enE 8 w (.slice A n c) l) (hz : ∀ e ∈ l, e.u.size ≤ 9223372036854775807 ∧ e.o.size ≤ 9223372036854775807 ∧ e.v.2.2.2.size ≤ 9223372036854775807) :
    Calls Try.prog 37 #[.slice A n c, .int .i64 most] w fun e w' => e = .returned (.bool (eventsE l most)) ∧ Below w.heap.size w w' := by
  have EA := Lib.hid hl.len_eq
  have hnl : n ≤ 9223372036854775807 := by rw [EA.out]; exact hl.len
  obtain ⟨r, hr⟩ : ∃ r, eventsE l most = r := ⟨_, rfl⟩
  rw [hr]
  have HR := Lib.hid hr
  clear hr
  by_cases hm : most < (n : Int)
  · have HF : Hid (r = false) := by
      show _ = _
      rw [← HR.out]; unfold eventsE; rw [decide_eq_false (by rw [← EA.out]; omega)]; rfl
    go_enter Try.func37, Try.ntmps37
    go_wp2
    go_ret
    rw [HF.out]
    exact ⟨rfl, Below.refl _ _⟩
  · have hm' : (n : Int) ≤ most := by omega
    clear hm
    have HZ := Lib.hid hz
    clear hz
    go_enter Try.func37, Try.ntmps37
    go_wp2
    go_loopw [5] (fun v5 wr => ∃ i : Nat, v5 = .int .i64 i ∧ i ≤ n ∧ Below w.heap.size w wr ∧ Hid (∀ j (h : j < l.length), j < i → shortE l[j] = true)) (fun v5 _ => (n - intOf v5).toNat)
    case atStart => exact ⟨0, rfl, Nat.zero_le _, Below.refl _ _, fun j h hj => absurd hj (by omega)⟩
    case round =>
      obtain ⟨i, rfl, hi, hB, HT⟩ := hrel
      by_cases hlt : i < n
      · have hil : i < l.length := by have := EA.out; omega
        obtain ⟨⟨k, u, o, x, a, p, m, t⟩, he⟩ : ∃ e, l[i] = e := ⟨_, rfl⟩
        obtain ⟨z1, z2, z3⟩ := HZ.out l[i] (List.getElem_mem _)
        rw [he] at z1 z2 z3
        simp only at z1 z2 z3
        obtain ⟨ad, rfl, c0, c1, c2, c3, c4, c5, c6, c7⟩ := row_ev (hl.below hB) i hil k u o x a p m t he
        have HE := Lib.hid he
        clear he
        obtain ⟨b, hb⟩ : ∃ b, shortE ⟨k, u, o, x, a, p, m, t⟩ = b := ⟨_, rfl⟩
        have HB := Lib.hid hb
        clear hb
        go_wp2_with fail
        refine (re_ (short_calls k u o x a p m t _ z1 z2 z3) (ret_bool HB.out)).mono ?_
        rintro e w1 ⟨rfl, b1⟩
        have hB1 := below_call hB b1
        clear c0 c1 c2 c3 c4 c5 c6 c7 b1 hB
        cases b with
        | true =>
          go_wp2
          exact ⟨⟨i + 1, by go_num, by omega, hB1, fun j h hj => by
            rcases Nat.lt_or_ge j i with h' | h'
            · exact HT.out j h h'
            · obtain rfl : j = i := by omega
              rw [HE.out]; exact HB.out⟩, by simp [intOf]; omega⟩
        | false =>
          have HF : Hid (r = false) := by
            show _ = _
            rw [← HR.out]; unfold eventsE
            rw [Bool.and_eq_false_iff]; right
            rw [List.all_eq_false]
            exact ⟨l[i], List.getElem_mem _, by rw [HE.out, HB.out]; exact Bool.false_ne_true⟩
          go_wp2
          go_ret
          rw [HF.out]
          exact ⟨rfl, hB1⟩
      · have hin : i = n := by omega
        subst hin
        have HF : Hid (r = true) := by
          show _ = _
          rw [← HR.out]; unfold eventsE
          rw [Bool.and_eq_true]
          refine ⟨decide_eq_true (by rw [← EA.out]; exact hm'), ?_⟩
          rw [List.all_eq_true]
          intro e he
          obtain ⟨j, hj, rfl⟩ := List.getElem_of_mem he
          exact HT.out j hj (by rw [EA.out]; exact hj)
        go_wp2
        go_ret
        rw [HF.out]
        exact ⟨rfl, hB⟩
end Go.Proofs.Ytobhlcogopcbdaa
