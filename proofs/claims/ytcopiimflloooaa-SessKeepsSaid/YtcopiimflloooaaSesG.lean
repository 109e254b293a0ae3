/-
Contracts: whether sessions may be, by the program and by the document; the place of one; few of them.
-/
import Derived.Test.YtcopiimflloooaaSesF
set_option linter.unusedVariables false
set_option linter.unusedSimpArgs false
namespace Go.Proofs.Ytcopiimflloooaa
open Go.RowKit
open Sp
namespace Sp
theorem adjS_no (l : List Se) (i : Nat) (h : i + 1 < l.length) (hn : ltSe (keySe l[i]) (keySe l[i + 1]) = false) : adjS l = false := by
  rw [← Bool.not_eq_true, adjS_iff]
  intro h'
  rw [h' i h] at hn
  cases hn
def fewSe (l : List Se) : Bool := decide (l.length ≤ 50) && l.all fun s => decide (s.u.size ≤ 40) && decide (s.v.2.2.2.size ≤ 60)
end Sp
set_option maxHeartbeats 8000000 in
set_option maxRecDepth 100000 in
theorem place_calls (n c : Nat) (A : Option Addr) (l : List Se) (q : ByteArray) (z : Int) (w : World) (hl : Row enSe 6 w (.slice A n c) l) :
    Calls Try.prog 59 #[.slice A n c, .string q, .int .i64 z] w fun e w' => e = .returned (.int .i64 (idxI (idxSe l (q, z)))) ∧ Below w.heap.size w w' := by
  have EA := Lib.hid hl.len_eq
  have hnl : n ≤ 9223372036854775807 := by rw [EA.out]; exact hl.len
  obtain ⟨r, hr⟩ : ∃ r, idxI (idxSe l (q, z)) = r := ⟨_, rfl⟩
  rw [hr]
  unfold idxSe at hr
  have HR := Lib.hid hr
  clear hr
  go_enter Try.func59, Try.ntmps59
  go_wp2
  go_loopw [7] (fun v8 wr => ∃ i : Nat, v8 = .int .i64 i ∧ i ≤ n ∧ Below w.heap.size w wr ∧ Hid (∀ j (h : j < l.length), j < i → (fun s => decide (keySe s = (q, z))) l[j] = false)) (fun v8 _ => (n - intOf v8).toNat)
  case atStart => exact ⟨0, rfl, Nat.zero_le _, Below.refl _ _, fun j _ h => absurd h (by omega)⟩
  case round =>
    obtain ⟨i, rfl, hi, hB, HT⟩ := hrel
    by_cases hlt : i < n
    · have hil : i < l.length := by have := EA.out; omega
      obtain ⟨⟨a_, b_, c_, d_, e_, f_⟩, he⟩ : ∃ e, l[i] = e := ⟨_, rfl⟩
      obtain ⟨ad, rfl, c0, c1, c2, c3, c4, c5⟩ := rowSe (hl.below hB) i hil a_ b_ c_ d_ e_ f_ he
      have HE := Lib.hid he
      clear he
      have hno : ¬ (a_ = q ∧ b_ = z) → Hid (∀ j (h : j < l.length), j < i + 1 → (fun s => decide (keySe s = (q, z))) l[j] = false) := fun hn => fun j h hj => by
        rcases Nat.lt_or_ge j i with h' | h'
        · exact HT.out j h h'
        · obtain rfl : j = i := by omega
          rw [HE.out]
          exact decide_eq_false fun e => hn ⟨congrArg Prod.fst e, congrArg Prod.snd e⟩
      by_cases hq : a_ = q
      · by_cases hz : b_ = z
        · have HF : Hid (r = (i : Int)) := by
            show _ = _
            rw [← HR.out, idx_at _ l i hil HT.out (by rw [HE.out, hq, hz]; exact decide_eq_true rfl)]; rfl
          clear hno
          replace hq := hq.symm
          replace hz := hz.symm
          subst hq hz
          go_wp2
          go_ret
          rw [HF.out]
          exact ⟨rfl, hB⟩
        · have HN := hno (fun h => hz h.2)
          have hz2 : (b_ == z) = false := by simpa using hz
          clear hno
          replace hq := hq.symm
          subst hq
          go_wp2
          exact ⟨⟨i + 1, by go_num, by omega, hB, HN⟩, by simp [intOf]; omega⟩
      · have HN := hno (fun h => hq h.1)
        have hne2 : (a_.toList == q.toList) = false := by simpa [toList_inj'] using hq
        have hne3 : ¬ a_.toList = q.toList := by simpa [toList_inj'] using hq
        clear hno hq
        go_wp2
        exact ⟨⟨i + 1, by go_num, by omega, hB, HN⟩, by simp [intOf]; omega⟩
    · have hin : i = n := by omega
      subst hin
      have HF : Hid (r = -1) := by
        show _ = _
        rw [← HR.out, idx_no _ l (fun j hj => HT.out j hj (by rw [EA.out]; exact hj))]; rfl
      go_wp2
      go_ret
      rw [HF.out]
      exact ⟨rfl, hB⟩
set_option maxHeartbeats 8000000 in
set_option maxRecDepth 100000 in
theorem few9_calls (n c : Nat) (A : Option Addr) (l : List Se) (w : World) (hl : Row enSe 6 w (.slice A n c) l) (hz : ∀ s ∈ l, s.u.size ≤ 9223372036854775807 ∧ s.v.2.2.2.size ≤ 9223372036854775807) :
    Calls Try.prog 15 #[.slice A n c] w fun e w' => e = .returned (.bool (fewSe l)) ∧ Below w.heap.size w w' := by
  have EA := Lib.hid hl.len_eq
  have hnl : n ≤ 9223372036854775807 := by rw [EA.out]; exact hl.len
  obtain ⟨r, hr⟩ : ∃ r, fewSe l = r := ⟨_, rfl⟩
  rw [hr]
  unfold fewSe at hr
  have HR := Lib.hid hr
  have HZ := Lib.hid hz
  clear hr hz
  by_cases hm : 50 < (n : Int)
  · have HF : Hid (r = false) := by
      show _ = _
      rw [← HR.out, decide_eq_false (by rw [← EA.out]; omega)]; rfl
    go_enter Try.func15, Try.ntmps15
    go_wp2
    go_ret
    rw [HF.out]
    exact ⟨rfl, Below.refl _ _⟩
  · have hm' : (n : Int) ≤ 50 := by omega
    clear hm
    go_enter Try.func15, Try.ntmps15
    go_wp2
    go_loopw [3] (fun v3 wr => ∃ i : Nat, v3 = .int .i64 i ∧ i ≤ n ∧ Below w.heap.size w wr ∧ Hid (∀ j (h : j < l.length), j < i → (decide (l[j].u.size ≤ 40) && decide (l[j].v.2.2.2.size ≤ 60)) = true)) (fun v3 _ => (n - intOf v3).toNat)
    case atStart => exact ⟨0, rfl, Nat.zero_le _, Below.refl _ _, fun j _ h => absurd h (by omega)⟩
    case round =>
      obtain ⟨i, rfl, hi, hB, HT⟩ := hrel
      by_cases hlt : i < n
      · have hil : i < l.length := by have := EA.out; omega
        obtain ⟨z1, z2⟩ := HZ.out l[i] (List.getElem_mem _)
        obtain ⟨⟨a_, b_, c_, d_, e_, f_⟩, he⟩ : ∃ e, l[i] = e := ⟨_, rfl⟩
        rw [he] at z1 z2
        simp only at z1 z2
        obtain ⟨ad, rfl, c0, c1, c2, c3, c4, c5⟩ := rowSe (hl.below hB) i hil a_ b_ c_ d_ e_ f_ he
        have HE := Lib.hid he
        clear he
        by_cases hq : a_.size ≤ 40 ∧ f_.size ≤ 60
        · have HN : Hid (∀ j (h : j < l.length), j < i + 1 → (decide (l[j].u.size ≤ 40) && decide (l[j].v.2.2.2.size ≤ 60)) = true) := fun j h hj => by
            rcases Nat.lt_or_ge j i with h' | h'
            · exact HT.out j h h'
            · obtain rfl : j = i := by omega
              rw [HE.out]
              simp only
              rw [decide_eq_true hq.1, decide_eq_true hq.2]; rfl
          have h1 : ((a_.size : Nat) : Int) ≤ 40 := by omega
          have h2 : ((f_.size : Nat) : Int) ≤ 60 := by omega
          clear hq
          go_wp2
          exact ⟨⟨i + 1, by go_num, by omega, hB, HN⟩, by simp [intOf]; omega⟩
        · have HF : Hid (r = false) := by
            show _ = _
            rw [← HR.out, Bool.and_eq_false_iff]
            right
            rw [List.all_eq_false]
            refine ⟨l[i], List.getElem_mem _, ?_⟩
            rw [HE.out]
            simp only [Bool.and_eq_true, decide_eq_true_eq]
            exact hq
          by_cases h1 : ((a_.size : Nat) : Int) ≤ 40
          · have h2 : 60 < ((f_.size : Nat) : Int) := by omega
            clear hq
            go_wp2
            go_ret
            rw [HF.out]
            exact ⟨rfl, hB⟩
          · have h2 : 40 < ((a_.size : Nat) : Int) := by omega
            clear hq h1
            go_wp2
            go_ret
            rw [HF.out]
            exact ⟨rfl, hB⟩
      · have hin : i = n := by omega
        subst hin
        have HF : Hid (r = true) := by
          show _ = _
          rw [← HR.out, Bool.and_eq_true]
          refine ⟨decide_eq_true (by rw [← EA.out]; omega), ?_⟩
          rw [List.all_eq_true]
          intro e he
          obtain ⟨j, hj, rfl⟩ := List.getElem_of_mem he
          exact HT.out j hj (by rw [EA.out]; exact hj)
        go_wp2
        go_ret
        rw [HF.out]
        exact ⟨rfl, hB⟩
set_option maxHeartbeats 8000000 in
set_option maxRecDepth 100000 in
theorem May9_calls (n c : Nat) (A : Option Addr) (l : List Se) (w : World) (hl : Row enSe 6 w (.slice A n c) l) (hz : SzSe l) :
    Calls Try.prog 17 #[.slice A n c] w fun e w' => e = .returned (.bool (maySe l)) ∧ Below w.heap.size w w' := by
  have EA := Lib.hid hl.len_eq
  have hnl : n ≤ 9223372036854775807 := by rw [EA.out]; exact hl.len
  obtain ⟨r, hr⟩ : ∃ r, maySe l = r := ⟨_, rfl⟩
  rw [hr]
  unfold maySe at hr
  have HR := Lib.hid hr
  have HZ := Lib.hid hz
  clear hr hz
  go_enter Try.func17, Try.ntmps17
  go_wp2
  go_loopw [3] (fun v3 wr => ∃ i : Nat, v3 = .int .i64 i ∧ 1 ≤ i ∧ (i ≤ n ∨ i = 1) ∧ Below w.heap.size w wr ∧ Hid (∀ j (h : j + 1 < l.length), j + 1 < i → ltSe (keySe l[j]) (keySe l[j + 1]) = true)) (fun v3 _ => (n - intOf v3).toNat)
  case atStart => exact ⟨1, rfl, by omega, .inr rfl, Below.refl _ _, fun j _ h => absurd h (by omega)⟩
  case round =>
    obtain ⟨i, rfl, h1i, hi, hB, HT⟩ := hrel
    by_cases hlt : i < n
    · obtain ⟨q, hq⟩ : ∃ q, q = i - 1 := ⟨_, rfl⟩
      have hqi : q + 1 = i := by omega
      have hil : i < l.length := by have := EA.out; omega
      have hql : q < l.length := by omega
      obtain ⟨⟨a_, b_, c_, d_, e_, f_⟩, he⟩ : ∃ e, l[q] = e := ⟨_, rfl⟩
      obtain ⟨⟨a', b', c', d', e', f'⟩, he'⟩ : ∃ e, l[i] = e := ⟨_, rfl⟩
      obtain ⟨ad, rfl, c0, c1, c2, c3, c4, c5⟩ := rowSe (hl.below hB) q hql a_ b_ c_ d_ e_ f_ he
      obtain ⟨d0, d1, d2, d3, d4, d5⟩ := rowsSe (hl.below hB) i hil a' b' c' d' e' f' he'
      obtain ⟨b, hb⟩ : ∃ b, ltSe (a_, b_) (a', b') = b := ⟨_, rfl⟩
      have HB := Lib.hid hb
      have HADJ : Hid (∃ h : q + 1 < l.length, ltSe (keySe l[q]) (keySe l[q + 1]) = b) := by
        subst hqi
        exact ⟨hil, by rw [he, he', ← hb]; rfl⟩
      have hw : IntKind.i64.wrap ((i : Int) - 1) = ((q : Nat) : Int) := by
        have : (i : Int) - 1 = (q : Int) := by omega
        rw [this, IntKind.wrap_i64]; omega
      have x1 : (0 : Int) ≤ (q : Int) := by omega
      have x2 : (q : Int) < (n : Int) := by omega
      have x3 : (0 : Int) ≤ (i : Int) := by omega
      have x4 : (i : Int) < (n : Int) := by omega
      have hD : Below w.heap.size w wr.drew := hB.drew
      have HQI := Lib.hid hqi
      clear hb he he' hq hqi
      go_wp2_with fail
      go_region_held3 (fun w' => w'.cell? (ad.add (q * 6)) = some (.string a_) ∧ w'.cell? ⟨(ad.add (q * 6)).block, (ad.add (q * 6)).off + 1, none⟩ = some (.int .i64 b_) ∧ w'.cell? ⟨(ad.add (q * 6)).block, (ad.add (q * 6)).off + 2, none⟩ = some (.int .i64 c_) ∧ w'.cell? ⟨(ad.add (q * 6)).block, (ad.add (q * 6)).off + 3, none⟩ = some (.int .i64 d_) ∧ w'.cell? ⟨(ad.add (q * 6)).block, (ad.add (q * 6)).off + 4, none⟩ = some (.int .i64 e_) ∧ w'.cell? ⟨(ad.add (q * 6)).block, (ad.add (q * 6)).off + 5, none⟩ = some (.string f_) ∧ w'.cell? (ad.add (i * 6)) = some (.string a') ∧ w'.cell? ⟨(ad.add (i * 6)).block, (ad.add (i * 6)).off + 1, none⟩ = some (.int .i64 b') ∧ w'.cell? ⟨(ad.add (i * 6)).block, (ad.add (i * 6)).off + 2, none⟩ = some (.int .i64 c') ∧ w'.cell? ⟨(ad.add (i * 6)).block, (ad.add (i * 6)).off + 3, none⟩ = some (.int .i64 d') ∧ w'.cell? ⟨(ad.add (i * 6)).block, (ad.add (i * 6)).off + 4, none⟩ = some (.int .i64 e') ∧ w'.cell? ⟨(ad.add (i * 6)).block, (ad.add (i * 6)).off + 5, none⟩ = some (.string f')) (exact ⟨c0, c1, c2, c3, c4, c5, d0, d1, d2, d3, d4, d5⟩) (((first | (go_at_call 49; refine (of_calls _ _ _ _ _ _ _).mono ?_) | (go_at_call 50; refine (re_ (ahead_calls a_ b_ a' b' _) (ret_bool HB.out)).mono ?_)); rintro e wx ⟨rfl, hbx⟩; replace hD := below_call hD hbx; replace c0 := cell_below hbx c0; replace c1 := cell_below hbx c1; replace c2 := cell_below hbx c2; replace c3 := cell_below hbx c3; replace c4 := cell_below hbx c4; replace c5 := cell_below hbx c5; replace d0 := cell_below hbx d0; replace d1 := cell_below hbx d1; replace d2 := cell_below hbx d2; replace d3 := cell_below hbx d3; replace d4 := cell_below hbx d4; replace d5 := cell_below hbx d5; clear hbx))
      all_goals
        clear c0 c1 c2 c3 c4 c5 d0 d1 d2 d3 d4 d5
        cases b with
        | true =>
          have HT2 : Hid (∀ j (h : j + 1 < l.length), j + 1 < i + 1 → ltSe (keySe l[j]) (keySe l[j + 1]) = true) := fun j h hj => by
            rcases Nat.lt_or_ge (j + 1) i with h' | h'
            · exact HT.out j h h'
            · obtain rfl : j = q := by have := HQI.out; omega
              exact HADJ.out.2
          go_wp2
          exact ⟨⟨i + 1, by go_num, by omega, .inl (by omega), hD, HT2⟩, by simp [intOf]; omega⟩
        | false =>
          have HF : Hid (r = false) := by
            show _ = _
            rw [← HR.out, adjS_no l q HADJ.out.1 HADJ.out.2]
            simp
          go_wp2
          go_ret
          rw [HF.out]
          exact ⟨rfl, hD⟩
    · have HT2 : Hid (adjS l = true) := (adjS_iff l).2 fun j h => HT.out j h (by have := EA.out; omega)
      obtain ⟨o, ho⟩ : ∃ o, l.all oneS = o := ⟨_, rfl⟩
      have HC := containsOdd9_calls n c A l wr (hl.below hB) HZ.out
      have ho2 : l.any (fun s => !oneS s) = !o := by
        rw [← ho, Bool.eq_iff_iff, Bool.not_eq_true', List.any_eq_true]
        constructor
        · rintro ⟨x, hx, h⟩
          rw [List.all_eq_false]
          exact ⟨x, hx, by simpa using h⟩
        · intro h
          rw [List.all_eq_false] at h
          obtain ⟨x, hx, h⟩ := h
          exact ⟨x, hx, by simpa using h⟩
      rw [ho2] at HC
      have HO := Lib.hid ho
      clear ho ho2
      by_cases hm : (n : Int) ≤ 32
      · have HF : Hid (r = o) := by
          show _ = _
          rw [← HR.out, HO.out, HT2.out, decide_eq_true (by have := EA.out; omega)]
          simp
        go_wp2_with fail
        refine HC.mono ?_
        rintro e w1 ⟨rfl, b1⟩
        go_wp2
        go_ret
        exact ⟨ret_bool (by rw [HF.out]), below_call hB b1⟩
      · have HF : Hid (r = false) := by
          show _ = _
          rw [← HR.out, decide_eq_false (by have := EA.out; omega)]
          rfl
        have hm2 : 32 < (n : Int) := by omega
        clear hm
        go_wp2
        go_ret
        rw [HF.out]
        exact ⟨rfl, hB⟩
end Go.Proofs.Ytcopiimflloooaa
