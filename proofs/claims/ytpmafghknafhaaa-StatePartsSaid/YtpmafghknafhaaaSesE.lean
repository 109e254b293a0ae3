/-
Contracts: keys of sessions, how they stand, whether a session may be.
Sessions: two rows of them alike, by the document.
Contracts: the place of a session; whether sessions may be; whose they are.
Contracts: the sessions of a user, and whose there are.
Contracts: whether sessions may be, by the program and by the document; the place of one; few of them.
Contract: whether sessions may be, by the document.
-/
import Derived.Test.YtpmafghknafhaaaSeSt
import Derived.Test.YtpmafghknafhaaaWk
import Derived.Test.YtpmafghknafhaaaLaw03a
import Derived.Test.YtpmafghknafhaaaValB
import Derived.Deep.QuietTactic
import Derived.BigQuiet
import Derived.Deep.RegionHeld3
import Derived.Test.YtpmafghknafhaaaSesA
import Derived.Test.YtpmafghknafhaaaMergeB
import Derived.Test.YtpmafghknafhaaaRefList
set_option linter.unusedVariables false
set_option linter.unusedSimpArgs false
namespace Go.Proofs.Ytpmafghknafhaaa
open Go.RowKit
open Sp
abbrev ag6 (u : ByteArray) (i a p n : Int) (t : ByteArray) : Value := .agg #[.string u, .int .i64 i, .int .i64 a, .int .i64 p, .int .i64 n, .string t]
abbrev agK (u : ByteArray) (i : Int) : Value := .agg #[.string u, .int .i64 i]
set_option maxHeartbeats 4000000 in
set_option maxRecDepth 100000 in
theorem of_calls (u : ByteArray) (i a p n : Int) (t : ByteArray) (w : World) :
    Calls Try.prog 96 #[ag6 u i a p n t] w fun e w' => e = .returned (agK u i) ∧ Below w.heap.size w w' := by
  go_enter Try.func96, Try.ntmps96
  go_wp2
  exact bodyPost_ret (v := agK u i) (by simp [results, Try.results96, go_sem]) rfl ⟨rfl, below_alloc0 (below_alloc0 (Below.refl _ _) _) _⟩
set_option maxHeartbeats 8000000 in
set_option maxRecDepth 100000 in
theorem ahead_calls (u : ByteArray) (i : Int) (u' : ByteArray) (i' : Int) (w : World) :
    Calls Try.prog 97 #[agK u i, agK u' i'] w fun e w' => e = .returned (.bool (ltSe (u, i) (u', i'))) ∧ Below w.heap.size w w' := by
  obtain ⟨b, hb⟩ : ∃ b, less u u' = b := ⟨_, rfl⟩
  have HL := Lib.hid hb
  obtain ⟨r, hr⟩ : ∃ r, ltSe (u, i) (u', i') = r := ⟨_, rfl⟩
  rw [hr]
  unfold ltSe at hr
  simp only [hb] at hr
  have HR := Lib.hid hr
  clear hb hr
  go_enter Try.func97, Try.ntmps97
  go_wp2_with (go_at_call 69; refine (Less_is _ u u' b HL).mono ?_; rintro e w1 ⟨rfl, b1⟩; obtain ⟨hc, hf⟩ := bcell b1; have hz : w.heap.size + 1 < w1.heap.size := (by have := b1.size; simp at this; omega); have B1 := below_call (below_alloc0 (below_alloc0 (Below.refl _ _) _) _) b1; clear b1)
  all_goals (try go_ret)
  all_goals (refine ⟨ret_bool ?_, by assumption⟩)
  all_goals (have hr := HR.out; clear HR HL)
  all_goals (subst hr)
  all_goals (try (simp_all; done))
  all_goals (simp_all [toList_inj'])
set_option maxHeartbeats 8000000 in
set_option maxRecDepth 100000 in
theorem oddS_calls (u : ByteArray) (i a p n : Int) (t : ByteArray) (w : World) (hu : u.size ≤ 140737488351232) (ht : t.size ≤ 140737488351232) :
    Calls Try.prog 93 #[ag6 u i a p n t] w fun e w' => e = .returned (.bool (!oneS ⟨u, i, a, p, n, t⟩)) ∧ Below w.heap.size w w' := by
  go_enter Try.func93, Try.ntmps93
  go_wp2_with (first | (go_at_call 35; refine (Is_calls _ _ (by assumption)).mono ?_; rintro e w2 ⟨rfl, b2⟩; have B2 := below_call (by first | assumption | exact below_box _) b2; obtain ⟨hc2, hf2⟩ := bcell b2; have hz2 : w.heap.size < w2.heap.size := Nat.lt_of_lt_of_le (by first | assumption | simp) b2.size; clear b2) | (go_at_call 114; refine (may_calls _ _ _ _ _ (by assumption)).mono ?_; rintro e w1 ⟨rfl, b1⟩; have B2 := below_call (by first | assumption | exact below_box _) b1))
  all_goals (try go_ret)
  all_goals (refine ⟨ret_bool ?_, by first | assumption | exact below_box _⟩)
  all_goals (unfold oneS)
  all_goals (try (simp_all; done))
  all_goals (try (simp_all; omega))
end Go.Proofs.Ytpmafghknafhaaa
set_option linter.unusedVariables false
set_option linter.unusedSimpArgs false
namespace Go.Proofs.Ytpmafghknafhaaa
open Go.RowKit
open Sp
end Go.Proofs.Ytpmafghknafhaaa
set_option linter.unusedVariables false
set_option linter.unusedSimpArgs false
namespace Go.Proofs.Ytpmafghknafhaaa
open Go.RowKit
open Sp
theorem eqlK (u : ByteArray) (i : Int) (u' : ByteArray) (i' : Int) (W : World) :
    (binOp .eql 122 (agK u i) (agK u' i')).run Try.prog W = .ok (.bool (decide (((u, i) : SeK) = (u', i')))) W := by
  have e : decide (((u, i) : SeK) = (u', i')) = (u.toList == u'.toList && (i == i')) := by
    rw [Bool.eq_iff_iff, decide_eq_true_eq]
    simp only [Bool.and_eq_true, beq_iff_eq, toList_inj', Prod.mk.injEq]
  rw [e]
  cases h0 : u.toList == u'.toList
  · simp [go_sem, h0]
  cases h1 : i == i' <;> simp [go_sem, h0, h1]
abbrev bxK (u : ByteArray) (i : Int) : Obj := .cells #[.string u, .int .i64 i] 122
set_option maxHeartbeats 8000000 in
set_option maxRecDepth 100000 in
theorem find1_calls (u : ByteArray) (i a p n : Int) (t : ByteArray) (g : Nat) (ku : ByteArray) (ki : Int) (w : World) (hg : w.heap[g]? = some (bxK ku ki)) :
    Calls Try.prog 116 #[ag6 u i a p n t, .pointer (some ⟨g, 0, none⟩)] w fun e w' => e = .returned (.bool (decide (keySe ⟨u, i, a, p, n, t⟩ = (ku, ki)))) ∧ Below w.heap.size w w' := by
  have hgl : g < w.heap.size := (Array.getElem?_eq_some_iff.1 hg).1
  have k0 : w.cell? ⟨g, 0, none⟩ = some (.string ku) := by simp [World.cell?, hg]
  have k1 : w.cell? ⟨g, 1, none⟩ = some (.int .i64 ki) := by simp [World.cell?, hg]
  have hB := below_box (w := w) (bxSe u i a p n t)
  have h0 := heap_alloc_new w (bxSe u i a p n t)
  obtain ⟨c0, c1, c2, c3, c4, c5, hz⟩ := cellsSe u i a p n t h0
  have j0 := cell_below hB k0
  have j1 := cell_below hB k1
  have hE := eqlK u i ku ki
  clear hg k0 k1
  go_enter Try.func116, Try.ntmps116
  go_wp2_with fail
  go_region_held3 (fun w' => w'.cell? ⟨w.heap.size, 0, none⟩ = some (.string u) ∧ w'.cell? ⟨w.heap.size, 1, none⟩ = some (.int .i64 i) ∧ w'.cell? ⟨w.heap.size, 2, none⟩ = some (.int .i64 a) ∧ w'.cell? ⟨w.heap.size, 3, none⟩ = some (.int .i64 p) ∧ w'.cell? ⟨w.heap.size, 4, none⟩ = some (.int .i64 n) ∧ w'.cell? ⟨w.heap.size, 5, none⟩ = some (.string t) ∧ w'.cell? ⟨g, 0, none⟩ = some (.string ku) ∧ w'.cell? ⟨g, 1, none⟩ = some (.int .i64 ki)) (first | exact ⟨c0, c1, c2, c3, c4, c5, j0, j1⟩ | exact ⟨cell_below hbx c0, cell_below hbx c1, cell_below hbx c2, cell_below hbx c3, cell_below hbx c4, cell_below hbx c5, cell_below hbx j0, cell_below hbx j1⟩) ((go_at_call 96; refine (of_calls u i a p n t _).mono ?_; rintro e wx ⟨rfl, hbx⟩))
  have hBx := below_call (w1 := (w.alloc (bxSe u i a p n t)).drew) hB.drew hbx
  clear hbx
  go_wp2
  go_ret
  exact ⟨ret_bool (by rw [Bool.eq_iff_iff]; simp [keySe]), hBx⟩
set_option maxHeartbeats 8000000 in
set_option maxRecDepth 100000 in
theorem idxFind_calls (n c : Nat) (A : Option Addr) (l : List Se) (g : Nat) (ku : ByteArray) (ki : Int) (w : World) (hl : Row enSe 6 w (.slice A n c) l) (hg : w.heap[g]? = some (bxK ku ki)) :
    Calls Try.prog 115 #[.slice A n c, .func (.func 116) #[] #[.pointer (some ⟨g, 0, none⟩)]] w fun e w' => e = .returned (.int .i64 (idxI (l.findIdx? (fun s => decide (keySe s = (ku, ki)))))) ∧ Below w.heap.size w w' := by
  have EA := Lib.hid hl.len_eq
  have hnl : n ≤ 9223372036854775807 := by rw [EA.out]; exact hl.len
  obtain ⟨r, hr⟩ : ∃ r, idxI (l.findIdx? (fun s => decide (keySe s = (ku, ki)))) = r := ⟨_, rfl⟩
  rw [hr]
  have HR := Lib.hid hr
  clear hr
  go_enter Try.func115, Try.ntmps115
  go_wp2
  go_loopw [8] (fun v8 wr => ∃ i : Nat, v8 = .int .i64 i ∧ i ≤ n ∧ Below w.heap.size w wr ∧ Hid (∀ j (h : j < l.length), j < i → ((fun s => decide (keySe s = (ku, ki)))) l[j] = false)) (fun v8 _ => (n - intOf v8).toNat)
  case atStart => exact ⟨0, rfl, Nat.zero_le _, Below.refl _ _, fun j _ h => absurd h (by omega)⟩
  case round =>
    obtain ⟨i, rfl, hi, hB, HT⟩ := hrel
    by_cases hlt : i < n
    · have hil : i < l.length := by have := EA.out; omega
      obtain ⟨⟨a_, b_, c_, d_, e_, f_⟩, he⟩ : ∃ e, l[i] = e := ⟨_, rfl⟩
      obtain ⟨ad, rfl, c0, c1, c2, c3, c4, c5⟩ := rowSe (hl.below hB) i hil a_ b_ c_ d_ e_ f_ he
      have HE := Lib.hid he
      clear he
      obtain ⟨b, hb⟩ : ∃ b, ((fun s => decide (keySe s = (ku, ki)))) ⟨a_, b_, c_, d_, e_, f_⟩ = b := ⟨_, rfl⟩
      have HB := Lib.hid hb
      clear hb
      go_wp2_with fail
      refine (re_ (find1_calls a_ b_ c_ d_ e_ f_ g ku ki _ (hcall hg hB)) (ret_bool HB.out)).mono ?_
      rintro e w1 ⟨rfl, b1⟩
      have hB1 := below_call hB b1
      clear c0 c1 c2 c3 c4 c5 b1 hB
      cases b with
      | true =>
        have HF : Hid (r = (i : Int)) := by
          show _ = _
          rw [← HR.out, idx_at _ l i hil HT.out (by rw [HE.out]; exact HB.out)]; rfl
        go_wp2
        go_ret
        rw [HF.out]
        exact ⟨rfl, hB1⟩
      | false =>
        go_wp2
        exact ⟨⟨i + 1, by go_num, by omega, hB1, fun j h hj => by
          rcases Nat.lt_or_ge j i with h' | h'
          · exact HT.out j h h'
          · obtain rfl : j = i := by omega
            rw [HE.out]; exact HB.out⟩, by simp [intOf]; omega⟩
    · have hin : i = n := by omega
      subst hin
      have HF : Hid (r = -1) := by
        show _ = _
        rw [← HR.out, idx_no _ l (fun j hj => HT.out j hj (by rw [EA.out]; exact hj))]; rfl
      go_wp2
      go_ret
      rw [HF.out]
      exact ⟨rfl, hB⟩
def SzSe (l : List Se) : Prop := ∀ s ∈ l, s.u.size ≤ 140737488351232 ∧ s.v.2.2.2.size ≤ 140737488351232
set_option maxHeartbeats 8000000 in
set_option maxRecDepth 100000 in
theorem idxOdd_calls (n c : Nat) (A : Option Addr) (l : List Se)  (w : World) (hl : Row enSe 6 w (.slice A n c) l) (hz : SzSe l) :
    Calls Try.prog 115 #[.slice A n c, .func (.func 93) #[] #[]] w fun e w' => e = .returned (.int .i64 (idxI (l.findIdx? (fun s => !oneS s)))) ∧ Below w.heap.size w w' := by
  have EA := Lib.hid hl.len_eq
  have hnl : n ≤ 9223372036854775807 := by rw [EA.out]; exact hl.len
  obtain ⟨r, hr⟩ : ∃ r, idxI (l.findIdx? (fun s => !oneS s)) = r := ⟨_, rfl⟩
  rw [hr]
  have HR := Lib.hid hr
  clear hr
  have HZ := Lib.hid hz
  clear hz
  go_enter Try.func115, Try.ntmps115
  go_wp2
  go_loopw [8] (fun v8 wr => ∃ i : Nat, v8 = .int .i64 i ∧ i ≤ n ∧ Below w.heap.size w wr ∧ Hid (∀ j (h : j < l.length), j < i → ((fun s => !oneS s)) l[j] = false)) (fun v8 _ => (n - intOf v8).toNat)
  case atStart => exact ⟨0, rfl, Nat.zero_le _, Below.refl _ _, fun j _ h => absurd h (by omega)⟩
  case round =>
    obtain ⟨i, rfl, hi, hB, HT⟩ := hrel
    by_cases hlt : i < n
    · have hil : i < l.length := by have := EA.out; omega
      obtain ⟨z1, z2⟩ := HZ.out l[i] (List.getElem_mem _)
      obtain ⟨⟨a_, b_, c_, d_, e_, f_⟩, he⟩ : ∃ e, l[i] = e := ⟨_, rfl⟩
      rw [he] at z1 z2
      simp only at z1 z2
      obtain ⟨ad, rfl, c0, c1, c2, c3, c4, c5⟩ := rowSe (hl.below hB) i hil a_ b_ c_ d_ e_ f_ he
      have HE := Lib.hid he
      clear he
      obtain ⟨b, hb⟩ : ∃ b, ((fun s => !oneS s)) ⟨a_, b_, c_, d_, e_, f_⟩ = b := ⟨_, rfl⟩
      have HB := Lib.hid hb
      clear hb
      go_wp2_with fail
      refine (re_ (oddS_calls a_ b_ c_ d_ e_ f_ _ z1 z2) (ret_bool HB.out)).mono ?_
      rintro e w1 ⟨rfl, b1⟩
      have hB1 := below_call hB b1
      clear c0 c1 c2 c3 c4 c5 b1 hB
      cases b with
      | true =>
        have HF : Hid (r = (i : Int)) := by
          show _ = _
          rw [← HR.out, idx_at _ l i hil HT.out (by rw [HE.out]; exact HB.out)]; rfl
        go_wp2
        go_ret
        rw [HF.out]
        exact ⟨rfl, hB1⟩
      | false =>
        go_wp2
        exact ⟨⟨i + 1, by go_num, by omega, hB1, fun j h hj => by
          rcases Nat.lt_or_ge j i with h' | h'
          · exact HT.out j h h'
          · obtain rfl : j = i := by omega
            rw [HE.out]; exact HB.out⟩, by simp [intOf]; omega⟩
    · have hin : i = n := by omega
      subst hin
      have HF : Hid (r = -1) := by
        show _ = _
        rw [← HR.out, idx_no _ l (fun j hj => HT.out j hj (by rw [EA.out]; exact hj))]; rfl
      go_wp2
      go_ret
      rw [HF.out]
      exact ⟨rfl, hB⟩
set_option maxHeartbeats 8000000 in
set_option maxRecDepth 100000 in
theorem containsOdd9_calls (n c : Nat) (A : Option Addr) (l : List Se)  (w : World) (hl : Row enSe 6 w (.slice A n c) l) (hz : SzSe l) :
    Calls Try.prog 100 #[.slice A n c, .func (.func 93) #[] #[]] w fun e w' => e = .returned (.bool (l.any (fun s => !oneS s))) ∧ Below w.heap.size w w' := by
  have hb := idx_any (fun s => !oneS s) l
  obtain ⟨r, hr⟩ : ∃ r, idxI (l.findIdx? (fun s => !oneS s)) = r := ⟨_, rfl⟩
  have HC := idxOdd_calls n c A l  w hl hz
  rw [hr] at HC hb
  have HB := Lib.hid hb
  clear hb hr
  go_enter Try.func100, Try.ntmps100
  go_wp2_with fail
  refine HC.mono ?_
  rintro e w1 ⟨rfl, b1⟩
  go_wp2
  go_ret
  exact ⟨ret_bool (by rw [← HB.out]), b1⟩
set_option maxHeartbeats 8000000 in
set_option maxRecDepth 100000 in
theorem find_calls (n c : Nat) (A : Option Addr) (l : List Se) (ku : ByteArray) (ki : Int) (w : World) (hl : Row enSe 6 w (.slice A n c) l) :
    Calls Try.prog 95 #[.slice A n c, agK ku ki] w fun e w' => e = .returned (.tuple #[.int .i64 (idxI (idxSe l (ku, ki))), .bool (decide (0 ≤ idxI (idxSe l (ku, ki))))]) ∧ Below w.heap.size w w' := by
  obtain ⟨r, hr⟩ : ∃ r, idxI (idxSe l (ku, ki)) = r := ⟨_, rfl⟩
  have hb := below_box (w := w) (bxK ku ki)
  have HC := idxFind_calls n c A l w.heap.size ku ki _ (hl.below hb) (heap_alloc_new w (bxK ku ki))
  rw [show l.findIdx? (fun s => decide (keySe s = (ku, ki))) = idxSe l (ku, ki) from rfl] at HC
  rw [hr] at HC ⊢
  clear hr
  have hmf : ∀ W : World, (Instr.makeFunc (.func 116) #[] #[.pointer (some ⟨w.heap.size, 0, none⟩)]).run Try.prog W = .ok (.func (.func 116) #[] #[.pointer (some ⟨w.heap.size, 0, none⟩)]) W := fun W => by kernel_rfl
  go_enter Try.func95, Try.ntmps95
  go_wp2_with fail
  refine HC.mono ?_
  rintro e w1 ⟨rfl, b1⟩
  have B1 := below_call hb b1
  clear b1 hb
  go_wp2
  go_ret2
  exact ⟨rfl, B1⟩
end Go.Proofs.Ytpmafghknafhaaa
set_option linter.unusedVariables false
set_option linter.unusedSimpArgs false
namespace Go.Proofs.Ytpmafghknafhaaa
open Go.RowKit
open Sp
end Go.Proofs.Ytpmafghknafhaaa
set_option linter.unusedVariables false
set_option linter.unusedSimpArgs false
namespace Go.Proofs.Ytpmafghknafhaaa
open Go.RowKit
open Sp
namespace Sp
theorem adjS_no (l : List Se) (i : Nat) (h : i + 1 < l.length) (hn : ltSe (keySe l[i]) (keySe l[i + 1]) = false) : adjS l = false := by
  rw [← Bool.not_eq_true, adjS_iff]
  intro h'
  rw [h' i h] at hn
  cases hn
def fewSe (l : List Se) : Bool := decide (l.length ≤ 50) && l.all fun s => decide (s.u.size ≤ 40) && decide (s.v.2.2.2.size ≤ 60)
end Sp
set_option maxHeartbeats 8000000 in
set_option maxRecDepth 100000 in
theorem May9_calls (n c : Nat) (A : Option Addr) (l : List Se) (w : World) (hl : Row enSe 6 w (.slice A n c) l) (hz : SzSe l) :
    Calls Try.prog 84 #[.slice A n c] w fun e w' => e = .returned (.bool (maySe l)) ∧ Below w.heap.size w w' := by
  have EA := Lib.hid hl.len_eq
  have hnl : n ≤ 9223372036854775807 := by rw [EA.out]; exact hl.len
  obtain ⟨r, hr⟩ : ∃ r, maySe l = r := ⟨_, rfl⟩
  rw [hr]
  unfold maySe at hr
  have HR := Lib.hid hr
  have HZ := Lib.hid hz
  clear hr hz
  go_enter Try.func84, Try.ntmps84
  go_wp2
  go_loopw [3] (fun v3 wr => ∃ i : Nat, v3 = .int .i64 i ∧ 1 ≤ i ∧ (i ≤ n ∨ i = 1) ∧ Below w.heap.size w wr ∧ Hid (∀ j (h : j + 1 < l.length), j + 1 < i → ltSe (keySe l[j]) (keySe l[j + 1]) = true)) (fun v3 _ => (n - intOf v3).toNat)
  case atStart => exact ⟨1, rfl, by omega, .inr rfl, Below.refl _ _, fun j _ h => absurd h (by omega)⟩
  case round =>
    obtain ⟨i, rfl, h1i, hi, hB, HT⟩ := hrel
    by_cases hlt : i < n
    · obtain ⟨q, hq⟩ : ∃ q, q = i - 1 := ⟨_, rfl⟩
      have hqi : q + 1 = i := by omega
      have hil : i < l.length := by have := EA.out; omega
      have hql : q < l.length := by omega
      obtain ⟨⟨a_, b_, c_, d_, e_, f_⟩, he⟩ : ∃ e, l[q] = e := ⟨_, rfl⟩
      obtain ⟨⟨a', b', c', d', e', f'⟩, he'⟩ : ∃ e, l[i] = e := ⟨_, rfl⟩
      obtain ⟨ad, rfl, c0, c1, c2, c3, c4, c5⟩ := rowSe (hl.below hB) q hql a_ b_ c_ d_ e_ f_ he
      obtain ⟨d0, d1, d2, d3, d4, d5⟩ := rowsSe (hl.below hB) i hil a' b' c' d' e' f' he'
      obtain ⟨b, hb⟩ : ∃ b, ltSe (a_, b_) (a', b') = b := ⟨_, rfl⟩
      have HB := Lib.hid hb
      have HADJ : Hid (∃ h : q + 1 < l.length, ltSe (keySe l[q]) (keySe l[q + 1]) = b) := by
        subst hqi
        exact ⟨hil, by rw [he, he', ← hb]; rfl⟩
      have hw : IntKind.i64.wrap ((i : Int) - 1) = ((q : Nat) : Int) := by
        have : (i : Int) - 1 = (q : Int) := by omega
        rw [this, IntKind.wrap_i64]; omega
      have x1 : (0 : Int) ≤ (q : Int) := by omega
      have x2 : (q : Int) < (n : Int) := by omega
      have x3 : (0 : Int) ≤ (i : Int) := by omega
      have x4 : (i : Int) < (n : Int) := by omega
      have hD : Below w.heap.size w wr.drew := hB.drew
      have HQI := Lib.hid hqi
      clear hb he he' hq hqi
      go_wp2_with fail
      go_region_held3 (fun w' => w'.cell? (ad.add (q * 6)) = some (.string a_) ∧ w'.cell? ⟨(ad.add (q * 6)).block, (ad.add (q * 6)).off + 1, none⟩ = some (.int .i64 b_) ∧ w'.cell? ⟨(ad.add (q * 6)).block, (ad.add (q * 6)).off + 2, none⟩ = some (.int .i64 c_) ∧ w'.cell? ⟨(ad.add (q * 6)).block, (ad.add (q * 6)).off + 3, none⟩ = some (.int .i64 d_) ∧ w'.cell? ⟨(ad.add (q * 6)).block, (ad.add (q * 6)).off + 4, none⟩ = some (.int .i64 e_) ∧ w'.cell? ⟨(ad.add (q * 6)).block, (ad.add (q * 6)).off + 5, none⟩ = some (.string f_) ∧ w'.cell? (ad.add (i * 6)) = some (.string a') ∧ w'.cell? ⟨(ad.add (i * 6)).block, (ad.add (i * 6)).off + 1, none⟩ = some (.int .i64 b') ∧ w'.cell? ⟨(ad.add (i * 6)).block, (ad.add (i * 6)).off + 2, none⟩ = some (.int .i64 c') ∧ w'.cell? ⟨(ad.add (i * 6)).block, (ad.add (i * 6)).off + 3, none⟩ = some (.int .i64 d') ∧ w'.cell? ⟨(ad.add (i * 6)).block, (ad.add (i * 6)).off + 4, none⟩ = some (.int .i64 e') ∧ w'.cell? ⟨(ad.add (i * 6)).block, (ad.add (i * 6)).off + 5, none⟩ = some (.string f')) (exact ⟨c0, c1, c2, c3, c4, c5, d0, d1, d2, d3, d4, d5⟩) (((first | (go_at_call 96; refine (of_calls _ _ _ _ _ _ _).mono ?_) | (go_at_call 97; refine (re_ (ahead_calls a_ b_ a' b' _) (ret_bool HB.out)).mono ?_)); rintro e wx ⟨rfl, hbx⟩; replace hD := below_call hD hbx; replace c0 := cell_below hbx c0; replace c1 := cell_below hbx c1; replace c2 := cell_below hbx c2; replace c3 := cell_below hbx c3; replace c4 := cell_below hbx c4; replace c5 := cell_below hbx c5; replace d0 := cell_below hbx d0; replace d1 := cell_below hbx d1; replace d2 := cell_below hbx d2; replace d3 := cell_below hbx d3; replace d4 := cell_below hbx d4; replace d5 := cell_below hbx d5; clear hbx))
      all_goals
        clear c0 c1 c2 c3 c4 c5 d0 d1 d2 d3 d4 d5
        cases b with
        | true =>
          have HT2 : Hid (∀ j (h : j + 1 < l.length), j + 1 < i + 1 → ltSe (keySe l[j]) (keySe l[j + 1]) = true) := fun j h hj => by
            rcases Nat.lt_or_ge (j + 1) i with h' | h'
            · exact HT.out j h h'
            · obtain rfl : j = q := by have := HQI.out; omega
              exact HADJ.out.2
          go_wp2
          exact ⟨⟨i + 1, by go_num, by omega, .inl (by omega), hD, HT2⟩, by simp [intOf]; omega⟩
        | false =>
          have HF : Hid (r = false) := by
            show _ = _
            rw [← HR.out, adjS_no l q HADJ.out.1 HADJ.out.2]
            simp
          go_wp2
          go_ret
          rw [HF.out]
          exact ⟨rfl, hD⟩
    · have HT2 : Hid (adjS l = true) := (adjS_iff l).2 fun j h => HT.out j h (by have := EA.out; omega)
      obtain ⟨o, ho⟩ : ∃ o, l.all oneS = o := ⟨_, rfl⟩
      have HC := containsOdd9_calls n c A l wr (hl.below hB) HZ.out
      have ho2 : l.any (fun s => !oneS s) = !o := by
        rw [← ho, Bool.eq_iff_iff, Bool.not_eq_true', List.any_eq_true]
        constructor
        · rintro ⟨x, hx, h⟩
          rw [List.all_eq_false]
          exact ⟨x, hx, by simpa using h⟩
        · intro h
          rw [List.all_eq_false] at h
          obtain ⟨x, hx, h⟩ := h
          exact ⟨x, hx, by simpa using h⟩
      rw [ho2] at HC
      have HO := Lib.hid ho
      clear ho ho2
      by_cases hm : (n : Int) ≤ 32
      · have HF : Hid (r = o) := by
          show _ = _
          rw [← HR.out, HO.out, HT2.out, decide_eq_true (by have := EA.out; omega)]
          simp
        go_wp2_with fail
        refine HC.mono ?_
        rintro e w1 ⟨rfl, b1⟩
        go_wp2
        go_ret
        exact ⟨ret_bool (by rw [HF.out]), below_call hB b1⟩
      · have HF : Hid (r = false) := by
          show _ = _
          rw [← HR.out, decide_eq_false (by have := EA.out; omega)]
          rfl
        have hm2 : 32 < (n : Int) := by omega
        clear hm
        go_wp2
        go_ret
        rw [HF.out]
        exact ⟨rfl, hB⟩
end Go.Proofs.Ytpmafghknafhaaa
set_option linter.unusedVariables false
set_option linter.unusedSimpArgs false
namespace Go.Proofs.Ytpmafghknafhaaa
open Go.RowKit
open Sp
end Go.Proofs.Ytpmafghknafhaaa
