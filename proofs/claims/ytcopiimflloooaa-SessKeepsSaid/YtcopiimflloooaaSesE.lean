/-
Contracts: the place of a session; whether sessions may be; whose they are.
-/
import Derived.Test.YtcopiimflloooaaSesC
import Derived.Test.YtcopiimflloooaaSesA
set_option linter.unusedVariables false
set_option linter.unusedSimpArgs false
namespace Go.Proofs.Ytcopiimflloooaa
open Go.RowKit
open Sp
theorem eqlK (u : ByteArray) (i : Int) (u' : ByteArray) (i' : Int) (W : World) :
    (binOp .eql 70 (agK u i) (agK u' i')).run Try.prog W = .ok (.bool (decide (((u, i) : SeK) = (u', i')))) W := by
  have e : decide (((u, i) : SeK) = (u', i')) = (u.toList == u'.toList && (i == i')) := by
    rw [Bool.eq_iff_iff, decide_eq_true_eq]
    simp only [Bool.and_eq_true, beq_iff_eq, toList_inj', Prod.mk.injEq]
  rw [e]
  cases h0 : u.toList == u'.toList
  · simp [go_sem, h0]
  cases h1 : i == i' <;> simp [go_sem, h0, h1]
abbrev bxK (u : ByteArray) (i : Int) : Obj := .cells #[.string u, .int .i64 i] 70
set_option maxHeartbeats 8000000 in
set_option maxRecDepth 100000 in
theorem find1_calls (u : ByteArray) (i a p n : Int) (t : ByteArray) (g : Nat) (ku : ByteArray) (ki : Int) (w : World) (hg : w.heap[g]? = some (bxK ku ki)) :
    Calls Try.prog 92 #[ag6 u i a p n t, .pointer (some ⟨g, 0, none⟩)] w fun e w' => e = .returned (.bool (decide (keySe ⟨u, i, a, p, n, t⟩ = (ku, ki)))) ∧ Below w.heap.size w w' := by
  have hgl : g < w.heap.size := (Array.getElem?_eq_some_iff.1 hg).1
  have k0 : w.cell? ⟨g, 0, none⟩ = some (.string ku) := by simp [World.cell?, hg]
  have k1 : w.cell? ⟨g, 1, none⟩ = some (.int .i64 ki) := by simp [World.cell?, hg]
  have hB := below_box (w := w) (bxSe u i a p n t)
  have h0 := heap_alloc_new w (bxSe u i a p n t)
  obtain ⟨c0, c1, c2, c3, c4, c5, hz⟩ := cellsSe u i a p n t h0
  have j0 := cell_below hB k0
  have j1 := cell_below hB k1
  have hE := eqlK u i ku ki
  clear hg k0 k1
  go_enter Try.func92, Try.ntmps92
  go_wp2_with fail
  go_region_held3 (fun w' => w'.cell? ⟨w.heap.size, 0, none⟩ = some (.string u) ∧ w'.cell? ⟨w.heap.size, 1, none⟩ = some (.int .i64 i) ∧ w'.cell? ⟨w.heap.size, 2, none⟩ = some (.int .i64 a) ∧ w'.cell? ⟨w.heap.size, 3, none⟩ = some (.int .i64 p) ∧ w'.cell? ⟨w.heap.size, 4, none⟩ = some (.int .i64 n) ∧ w'.cell? ⟨w.heap.size, 5, none⟩ = some (.string t) ∧ w'.cell? ⟨g, 0, none⟩ = some (.string ku) ∧ w'.cell? ⟨g, 1, none⟩ = some (.int .i64 ki)) (first | exact ⟨c0, c1, c2, c3, c4, c5, j0, j1⟩ | exact ⟨cell_below hbx c0, cell_below hbx c1, cell_below hbx c2, cell_below hbx c3, cell_below hbx c4, cell_below hbx c5, cell_below hbx j0, cell_below hbx j1⟩) ((go_at_call 49; refine (of_calls u i a p n t _).mono ?_; rintro e wx ⟨rfl, hbx⟩))
  have hBx := below_call (w1 := (w.alloc (bxSe u i a p n t)).drew) hB.drew hbx
  clear hbx
  go_wp2
  go_ret
  exact ⟨ret_bool (by rw [Bool.eq_iff_iff]; simp [keySe]), hBx⟩
set_option maxHeartbeats 8000000 in
set_option maxRecDepth 100000 in
theorem idxFind_calls (n c : Nat) (A : Option Addr) (l : List Se) (g : Nat) (ku : ByteArray) (ki : Int) (w : World) (hl : Row enSe 6 w (.slice A n c) l) (hg : w.heap[g]? = some (bxK ku ki)) :
    Calls Try.prog 86 #[.slice A n c, .func (.func 92) #[] #[.pointer (some ⟨g, 0, none⟩)]] w fun e w' => e = .returned (.int .i64 (idxI (l.findIdx? (fun s => decide (keySe s = (ku, ki)))))) ∧ Below w.heap.size w w' := by
  have EA := Lib.hid hl.len_eq
  have hnl : n ≤ 9223372036854775807 := by rw [EA.out]; exact hl.len
  obtain ⟨r, hr⟩ : ∃ r, idxI (l.findIdx? (fun s => decide (keySe s = (ku, ki)))) = r := ⟨_, rfl⟩
  rw [hr]
  have HR := Lib.hid hr
  clear hr
  go_enter Try.func86, Try.ntmps86
  go_wp2
  go_loopw [8] (fun v8 wr => ∃ i : Nat, v8 = .int .i64 i ∧ i ≤ n ∧ Below w.heap.size w wr ∧ Hid (∀ j (h : j < l.length), j < i → ((fun s => decide (keySe s = (ku, ki)))) l[j] = false)) (fun v8 _ => (n - intOf v8).toNat)
  case atStart => exact ⟨0, rfl, Nat.zero_le _, Below.refl _ _, fun j _ h => absurd h (by omega)⟩
  case round =>
    obtain ⟨i, rfl, hi, hB, HT⟩ := hrel
    by_cases hlt : i < n
    · have hil : i < l.length := by have := EA.out; omega
      obtain ⟨⟨a_, b_, c_, d_, e_, f_⟩, he⟩ : ∃ e, l[i] = e := ⟨_, rfl⟩
      obtain ⟨ad, rfl, c0, c1, c2, c3, c4, c5⟩ := rowSe (hl.below hB) i hil a_ b_ c_ d_ e_ f_ he
      have HE := Lib.hid he
      clear he
      obtain ⟨b, hb⟩ : ∃ b, ((fun s => decide (keySe s = (ku, ki)))) ⟨a_, b_, c_, d_, e_, f_⟩ = b := ⟨_, rfl⟩
      have HB := Lib.hid hb
      clear hb
      go_wp2_with fail
      refine (re_ (find1_calls a_ b_ c_ d_ e_ f_ g ku ki _ (hcall hg hB)) (ret_bool HB.out)).mono ?_
      rintro e w1 ⟨rfl, b1⟩
      have hB1 := below_call hB b1
      clear c0 c1 c2 c3 c4 c5 b1 hB
      cases b with
      | true =>
        have HF : Hid (r = (i : Int)) := by
          show _ = _
          rw [← HR.out, idx_at _ l i hil HT.out (by rw [HE.out]; exact HB.out)]; rfl
        go_wp2
        go_ret
        rw [HF.out]
        exact ⟨rfl, hB1⟩
      | false =>
        go_wp2
        exact ⟨⟨i + 1, by go_num, by omega, hB1, fun j h hj => by
          rcases Nat.lt_or_ge j i with h' | h'
          · exact HT.out j h h'
          · obtain rfl : j = i := by omega
            rw [HE.out]; exact HB.out⟩, by simp [intOf]; omega⟩
    · have hin : i = n := by omega
      subst hin
      have HF : Hid (r = -1) := by
        show _ = _
        rw [← HR.out, idx_no _ l (fun j hj => HT.out j hj (by rw [EA.out]; exact hj))]; rfl
      go_wp2
      go_ret
      rw [HF.out]
      exact ⟨rfl, hB⟩
def SzSe (l : List Se) : Prop := ∀ s ∈ l, s.u.size ≤ 140737488351232 ∧ s.v.2.2.2.size ≤ 140737488351232
set_option maxHeartbeats 8000000 in
set_option maxRecDepth 100000 in
theorem idxOdd_calls (n c : Nat) (A : Option Addr) (l : List Se)  (w : World) (hl : Row enSe 6 w (.slice A n c) l) (hz : SzSe l) :
    Calls Try.prog 86 #[.slice A n c, .func (.func 52) #[] #[]] w fun e w' => e = .returned (.int .i64 (idxI (l.findIdx? (fun s => !oneS s)))) ∧ Below w.heap.size w w' := by
  have EA := Lib.hid hl.len_eq
  have hnl : n ≤ 9223372036854775807 := by rw [EA.out]; exact hl.len
  obtain ⟨r, hr⟩ : ∃ r, idxI (l.findIdx? (fun s => !oneS s)) = r := ⟨_, rfl⟩
  rw [hr]
  have HR := Lib.hid hr
  clear hr
  have HZ := Lib.hid hz
  clear hz
  go_enter Try.func86, Try.ntmps86
  go_wp2
  go_loopw [8] (fun v8 wr => ∃ i : Nat, v8 = .int .i64 i ∧ i ≤ n ∧ Below w.heap.size w wr ∧ Hid (∀ j (h : j < l.length), j < i → ((fun s => !oneS s)) l[j] = false)) (fun v8 _ => (n - intOf v8).toNat)
  case atStart => exact ⟨0, rfl, Nat.zero_le _, Below.refl _ _, fun j _ h => absurd h (by omega)⟩
  case round =>
    obtain ⟨i, rfl, hi, hB, HT⟩ := hrel
    by_cases hlt : i < n
    · have hil : i < l.length := by have := EA.out; omega
      obtain ⟨z1, z2⟩ := HZ.out l[i] (List.getElem_mem _)
      obtain ⟨⟨a_, b_, c_, d_, e_, f_⟩, he⟩ : ∃ e, l[i] = e := ⟨_, rfl⟩
      rw [he] at z1 z2
      simp only at z1 z2
      obtain ⟨ad, rfl, c0, c1, c2, c3, c4, c5⟩ := rowSe (hl.below hB) i hil a_ b_ c_ d_ e_ f_ he
      have HE := Lib.hid he
      clear he
      obtain ⟨b, hb⟩ : ∃ b, ((fun s => !oneS s)) ⟨a_, b_, c_, d_, e_, f_⟩ = b := ⟨_, rfl⟩
      have HB := Lib.hid hb
      clear hb
      go_wp2_with fail
      refine (re_ (oddS_calls a_ b_ c_ d_ e_ f_ _ z1 z2) (ret_bool HB.out)).mono ?_
      rintro e w1 ⟨rfl, b1⟩
      have hB1 := below_call hB b1
      clear c0 c1 c2 c3 c4 c5 b1 hB
      cases b with
      | true =>
        have HF : Hid (r = (i : Int)) := by
          show _ = _
          rw [← HR.out, idx_at _ l i hil HT.out (by rw [HE.out]; exact HB.out)]; rfl
        go_wp2
        go_ret
        rw [HF.out]
        exact ⟨rfl, hB1⟩
      | false =>
        go_wp2
        exact ⟨⟨i + 1, by go_num, by omega, hB1, fun j h hj => by
          rcases Nat.lt_or_ge j i with h' | h'
          · exact HT.out j h h'
          · obtain rfl : j = i := by omega
            rw [HE.out]; exact HB.out⟩, by simp [intOf]; omega⟩
    · have hin : i = n := by omega
      subst hin
      have HF : Hid (r = -1) := by
        show _ = _
        rw [← HR.out, idx_no _ l (fun j hj => HT.out j hj (by rw [EA.out]; exact hj))]; rfl
      go_wp2
      go_ret
      rw [HF.out]
      exact ⟨rfl, hB⟩
set_option maxHeartbeats 8000000 in
set_option maxRecDepth 100000 in
theorem containsOdd9_calls (n c : Nat) (A : Option Addr) (l : List Se)  (w : World) (hl : Row enSe 6 w (.slice A n c) l) (hz : SzSe l) :
    Calls Try.prog 51 #[.slice A n c, .func (.func 52) #[] #[]] w fun e w' => e = .returned (.bool (l.any (fun s => !oneS s))) ∧ Below w.heap.size w w' := by
  have hb := idx_any (fun s => !oneS s) l
  obtain ⟨r, hr⟩ : ∃ r, idxI (l.findIdx? (fun s => !oneS s)) = r := ⟨_, rfl⟩
  have HC := idxOdd_calls n c A l  w hl hz
  rw [hr] at HC hb
  have HB := Lib.hid hb
  clear hb hr
  go_enter Try.func51, Try.ntmps51
  go_wp2_with fail
  refine HC.mono ?_
  rintro e w1 ⟨rfl, b1⟩
  go_wp2
  go_ret
  exact ⟨ret_bool (by rw [← HB.out]), b1⟩
set_option maxHeartbeats 8000000 in
set_option maxRecDepth 100000 in
theorem find_calls (n c : Nat) (A : Option Addr) (l : List Se) (ku : ByteArray) (ki : Int) (w : World) (hl : Row enSe 6 w (.slice A n c) l) :
    Calls Try.prog 57 #[.slice A n c, agK ku ki] w fun e w' => e = .returned (.tuple #[.int .i64 (idxI (idxSe l (ku, ki))), .bool (decide (0 ≤ idxI (idxSe l (ku, ki))))]) ∧ Below w.heap.size w w' := by
  obtain ⟨r, hr⟩ : ∃ r, idxI (idxSe l (ku, ki)) = r := ⟨_, rfl⟩
  have hb := below_box (w := w) (bxK ku ki)
  have HC := idxFind_calls n c A l w.heap.size ku ki _ (hl.below hb) (heap_alloc_new w (bxK ku ki))
  rw [show l.findIdx? (fun s => decide (keySe s = (ku, ki))) = idxSe l (ku, ki) from rfl] at HC
  rw [hr] at HC ⊢
  clear hr
  have hmf : ∀ W : World, (Instr.makeFunc (.func 92) #[] #[.pointer (some ⟨w.heap.size, 0, none⟩)]).run Try.prog W = .ok (.func (.func 92) #[] #[.pointer (some ⟨w.heap.size, 0, none⟩)]) W := fun W => by kernel_rfl
  go_enter Try.func57, Try.ntmps57
  go_wp2_with fail
  refine HC.mono ?_
  rintro e w1 ⟨rfl, b1⟩
  have B1 := below_call hb b1
  clear b1 hb
  go_wp2
  go_ret2
  exact ⟨rfl, B1⟩
end Go.Proofs.Ytcopiimflloooaa
