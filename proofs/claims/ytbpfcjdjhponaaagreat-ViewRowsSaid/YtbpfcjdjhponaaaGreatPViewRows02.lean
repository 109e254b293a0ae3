import Derived.Deep.QuietTactic
import Derived.BigQuiet
import Derived.Deep.RegionHeld3
import Derived.Test.YtbpfcjdjhponaaaGreatProg
import Derived.RegionTactic
import Derived.Test.YtbpfcjdjhponaaaGreatPViewRows01
set_option linter.unusedVariables false
set_option linter.unusedSimpArgs false
set_option linter.unusedSectionVars false
namespace Go.Proofs.YtbpfcjdjhponaaaGreat
open Go.RowKit
open Sp
abbrev ag6 (u : ByteArray) (i a p n : Int) (t : ByteArray) : Value := .agg #[.string u, .int .i64 i, .int .i64 a, .int .i64 p, .int .i64 n, .string t]
abbrev agK (u : ByteArray) (i : Int) : Value := .agg #[.string u, .int .i64 i]
set_option maxHeartbeats 4000000 in
set_option maxRecDepth 100000 in
theorem of_calls (u : ByteArray) (i a p n : Int) (t : ByteArray) (w : World) :
    Calls Tryz.prog 108 #[ag6 u i a p n t] w fun e w' => e = .returned (agK u i) ∧ Below w.heap.size w w' := by
  go_enter Tryz.func108, Tryz.ntmps108
  go_wp2
  exact bodyPost_ret (v := agK u i) (by simp [results, Tryz.results108, go_sem]) rfl ⟨rfl, below_alloc0 (below_alloc0 (Below.refl _ _) _) _⟩
set_option maxHeartbeats 8000000 in
set_option maxRecDepth 100000 in
theorem ahead_calls (u : ByteArray) (i : Int) (u' : ByteArray) (i' : Int) (w : World) :
    Calls Tryz.prog 109 #[agK u i, agK u' i'] w fun e w' => e = .returned (.bool (ltSe (u, i) (u', i'))) ∧ Below w.heap.size w w' := by
  obtain ⟨b, hb⟩ : ∃ b, less u u' = b := ⟨_, rfl⟩
  have HL := Lib.hid hb
  obtain ⟨r, hr⟩ : ∃ r, ltSe (u, i) (u', i') = r := ⟨_, rfl⟩
  rw [hr]
  unfold ltSe at hr
  simp only [hb] at hr
  have HR := Lib.hid hr
  clear hb hr
  go_enter Tryz.func109, Tryz.ntmps109
  go_wp2_with (go_at_call 76; refine (Less_is _ u u' b HL).mono ?_; rintro e w1 ⟨rfl, b1⟩; obtain ⟨hc, hf⟩ := bcell b1; have hz : w.heap.size + 1 < w1.heap.size := (by have := b1.size; simp at this; omega); have B1 := below_call (below_alloc0 (below_alloc0 (Below.refl _ _) _) _) b1; clear b1)
  all_goals (try go_ret)
  all_goals (refine ⟨ret_bool ?_, by assumption⟩)
  all_goals (have hr := HR.out; clear HR HL)
  all_goals (subst hr)
  all_goals (try (simp_all; done))
  all_goals (simp_all [toList_inj'])
set_option maxHeartbeats 8000000 in
set_option maxRecDepth 100000 in
theorem oddS_calls (u : ByteArray) (i a p n : Int) (t : ByteArray) (w : World) (hu : u.size ≤ 140737488351232) (ht : t.size ≤ 140737488351232) :
    Calls Tryz.prog 105 #[ag6 u i a p n t] w fun e w' => e = .returned (.bool (!oneS ⟨u, i, a, p, n, t⟩)) ∧ Below w.heap.size w w' := by
  go_enter Tryz.func105, Tryz.ntmps105
  go_wp2_with (first | (go_at_call 74; refine (Is_calls _ _ (by assumption)).mono ?_; rintro e w2 ⟨rfl, b2⟩; have B2 := below_call (by first | assumption | exact below_box _) b2; obtain ⟨hc2, hf2⟩ := bcell b2; have hz2 : w.heap.size < w2.heap.size := Nat.lt_of_lt_of_le (by first | assumption | simp) b2.size; clear b2) | (go_at_call 75; refine (may_calls _ _ _ _ _ (by assumption)).mono ?_; rintro e w1 ⟨rfl, b1⟩; have B2 := below_call (by first | assumption | exact below_box _) b1))
  all_goals (try go_ret)
  all_goals (refine ⟨ret_bool ?_, by first | assumption | exact below_box _⟩)
  all_goals (unfold oneS)
  all_goals (try (simp_all; done))
  all_goals (try (simp_all; omega))
set_option maxHeartbeats 8000000 in
set_option maxRecDepth 100000 in
theorem refOne_calls (u : ByteArray) (i a p n : Int) (t : ByteArray) (w : World) (hu : u.size ≤ 140737488351232) (ht : t.size ≤ 140737488351232) :
    Calls Tryz.prog 86 #[ag6 u i a p n t] w fun e w' => e = .returned (.bool (oneS ⟨u, i, a, p, n, t⟩)) ∧ Below w.heap.size w w' := by
  go_enter Tryz.func86, Tryz.ntmps86
  go_wp2_with (first | (go_at_call 80; refine (refIs_calls _ _ (by assumption)).mono ?_; rintro e w2 ⟨rfl, rfl⟩) | (go_at_call 132; refine (refMay_calls _ _ _ _ _ (by assumption)).mono ?_; rintro e w1 ⟨rfl, b1⟩; have B2 := below_call (below_box _) b1))
  all_goals (try go_ret)
  all_goals (refine ⟨ret_bool ?_, by first | assumption | exact below_box _⟩)
  all_goals (unfold oneS)
  all_goals (try (simp_all; done))
  all_goals (try (simp_all; omega))
set_option maxHeartbeats 8000000 in
set_option maxRecDepth 100000 in
theorem refAheadS_calls (u : ByteArray) (i a p n : Int) (t u' : ByteArray) (i' a' p' n' : Int) (t' : ByteArray) (w : World) :
    Calls Tryz.prog 87 #[ag6 u i a p n t, ag6 u' i' a' p' n' t'] w fun e w' => e = .returned (.bool (ltSe (u, i) (u', i'))) ∧ Below w.heap.size w w' := by
  obtain ⟨b, hb⟩ : ∃ b, less u u' = b := ⟨_, rfl⟩
  have HL := Lib.hid hb
  obtain ⟨r, hr⟩ : ∃ r, ltSe (u, i) (u', i') = r := ⟨_, rfl⟩
  rw [hr]
  unfold ltSe at hr
  simp only [hb] at hr
  have HR := Lib.hid hr
  clear hb hr
  go_enter Tryz.func87, Tryz.ntmps87
  go_wp2_with (go_at_call 131; refine (refLess_is _ u u' b HL).mono ?_; rintro e w1 ⟨rfl, rfl⟩)
  all_goals (try go_ret)
  all_goals (refine ⟨ret_bool ?_, below_alloc0 (below_alloc0 (Below.refl _ _) _) _⟩)
  all_goals (have hr := HR.out; clear HR HL)
  all_goals (subst hr)
  all_goals (try (simp_all; done))
  all_goals (simp_all [toList_inj'])
end Go.Proofs.YtbpfcjdjhponaaaGreat
namespace Go.Proofs.YtbpfcjdjhponaaaGreat
open Go.RowKit
open Sp
end Go.Proofs.YtbpfcjdjhponaaaGreat
namespace Go.Proofs.YtbpfcjdjhponaaaGreat
open Go.RowKit
open Sp
def SzSe (l : List Se) : Prop := ∀ s ∈ l, s.u.size ≤ 140737488351232 ∧ s.v.2.2.2.size ≤ 140737488351232
set_option maxHeartbeats 8000000 in
set_option maxRecDepth 100000 in
theorem idxOdd_calls (n c : Nat) (A : Option Addr) (l : List Se)  (w : World) (hl : Row enSe 6 w (.slice A n c) l) (hz : SzSe l) :
    Calls Tryz.prog 154 #[.slice A n c, .func (.func 105) #[] #[]] w fun e w' => e = .returned (.int .i64 (idxI (l.findIdx? (fun s => !oneS s)))) ∧ Below w.heap.size w w' := by
  have EA := Lib.hid hl.len_eq
  have hnl : n ≤ 9223372036854775807 := by rw [EA.out]; exact hl.len
  obtain ⟨r, hr⟩ : ∃ r, idxI (l.findIdx? (fun s => !oneS s)) = r := ⟨_, rfl⟩
  rw [hr]
  have HR := Lib.hid hr
  clear hr
  have HZ := Lib.hid hz
  clear hz
  go_enter Tryz.func154, Tryz.ntmps154
  go_wp2
  go_loopw [8] (fun v8 wr => ∃ i : Nat, v8 = .int .i64 i ∧ i ≤ n ∧ Below w.heap.size w wr ∧ Hid (∀ j (h : j < l.length), j < i → ((fun s => !oneS s)) l[j] = false)) (fun v8 _ => (n - intOf v8).toNat)
  case atStart => exact ⟨0, rfl, Nat.zero_le _, Below.refl _ _, fun j _ h => absurd h (by omega)⟩
  case round =>
    obtain ⟨i, rfl, hi, hB, HT⟩ := hrel
    by_cases hlt : i < n
    · have hil : i < l.length := by have := EA.out; omega
      obtain ⟨z1, z2⟩ := HZ.out l[i] (List.getElem_mem _)
      obtain ⟨⟨a_, b_, c_, d_, e_, f_⟩, he⟩ : ∃ e, l[i] = e := ⟨_, rfl⟩
      rw [he] at z1 z2
      simp only at z1 z2
      obtain ⟨ad, rfl, c0, c1, c2, c3, c4, c5⟩ := rowSe (hl.below hB) i hil a_ b_ c_ d_ e_ f_ he
      have HE := Lib.hid he
      clear he
      obtain ⟨b, hb⟩ : ∃ b, ((fun s => !oneS s)) ⟨a_, b_, c_, d_, e_, f_⟩ = b := ⟨_, rfl⟩
      have HB := Lib.hid hb
      clear hb
      go_wp2_with fail
      refine (re_ (oddS_calls a_ b_ c_ d_ e_ f_ _ z1 z2) (ret_bool HB.out)).mono ?_
      rintro e w1 ⟨rfl, b1⟩
      have hB1 := below_call hB b1
      clear c0 c1 c2 c3 c4 c5 b1 hB
      cases b with
      | true =>
        have HF : Hid (r = (i : Int)) := by
          show _ = _
          rw [← HR.out, idx_at _ l i hil HT.out (by rw [HE.out]; exact HB.out)]; rfl
        go_wp2
        go_ret
        rw [HF.out]
        exact ⟨rfl, hB1⟩
      | false =>
        go_wp2
        exact ⟨⟨i + 1, by go_num, by omega, hB1, fun j h hj => by
          rcases Nat.lt_or_ge j i with h' | h'
          · exact HT.out j h h'
          · obtain rfl : j = i := by omega
            rw [HE.out]; exact HB.out⟩, by simp [intOf]; omega⟩
    · have hin : i = n := by omega
      subst hin
      have HF : Hid (r = -1) := by
        show _ = _
        rw [← HR.out, idx_no _ l (fun j hj => HT.out j hj (by rw [EA.out]; exact hj))]; rfl
      go_wp2
      go_ret
      rw [HF.out]
      exact ⟨rfl, hB⟩
set_option maxHeartbeats 8000000 in
set_option maxRecDepth 100000 in
theorem containsOdd9_calls (n c : Nat) (A : Option Addr) (l : List Se)  (w : World) (hl : Row enSe 6 w (.slice A n c) l) (hz : SzSe l) :
    Calls Tryz.prog 141 #[.slice A n c, .func (.func 105) #[] #[]] w fun e w' => e = .returned (.bool (l.any (fun s => !oneS s))) ∧ Below w.heap.size w w' := by
  have hb := idx_any (fun s => !oneS s) l
  obtain ⟨r, hr⟩ : ∃ r, idxI (l.findIdx? (fun s => !oneS s)) = r := ⟨_, rfl⟩
  have HC := idxOdd_calls n c A l  w hl hz
  rw [hr] at HC hb
  have HB := Lib.hid hb
  clear hb hr
  go_enter Tryz.func141, Tryz.ntmps141
  go_wp2_with fail
  refine HC.mono ?_
  rintro e w1 ⟨rfl, b1⟩
  go_wp2
  go_ret
  exact ⟨ret_bool (by rw [← HB.out]), b1⟩
end Go.Proofs.YtbpfcjdjhponaaaGreat
namespace Go.Proofs.YtbpfcjdjhponaaaGreat
open Go.RowKit
open Sp
set_option maxHeartbeats 8000000 in
set_option maxRecDepth 100000 in
theorem Of9_calls (n c : Nat) (A : Option Addr) (l : List Se) (q : ByteArray) (w : World) (hl : Row enSe 6 w (.slice A n c) l) (hn : n ≤ 100000) :
    Calls Tryz.prog 64 #[.slice A n c, .string q] w fun e w' => ∃ v, e = .returned v ∧ Own enSe 6 99 w' w.heap.size v (l.filter (fun s => decide (s.u = q))) ∧ Below w.heap.size w w' := by
  have EA := Lib.hid hl.len_eq
  go_enter Tryz.func64, Tryz.ntmps64
  go_wp2
  go_loopw [5, 10] (fun vo vc wr => ∃ (i : Nat) (ys : List Se), vc = .int .i64 i ∧ i ≤ n ∧ ys.length ≤ i ∧ Hid (((l.take i).filter (fun s => decide (s.u = q))) = ys) ∧ Own enSe 6 99 wr w.heap.size vo ys ∧ Below w.heap.size w wr) (fun _ vc _ => (n - intOf vc).toNat)
  case atStart => exact ⟨0, [], rfl, Nat.zero_le _, Nat.le_refl _, rfl, Own.nil _ _ _ _ _, Below.refl _ _⟩
  case round =>
    obtain ⟨i, ys, rfl, hi, hys, HT, hO, hB⟩ := hrel
    by_cases hlt : i < n
    · have hil : i < l.length := by have := EA.out; omega
      obtain ⟨⟨a_, b_, c_, d_, e_, f_⟩, he⟩ : ∃ e, l[i] = e := ⟨_, rfl⟩
      obtain ⟨ad, rfl, c0, c1, c2, c3, c4, c5⟩ := rowSe (hl.below hB) i hil a_ b_ c_ d_ e_ f_ he
      have HE := Lib.hid he
      clear he
      by_cases hq : a_ = q
      · replace hq := hq.symm
        subst hq
        have HT2 : Hid (((l.take (i + 1)).filter (fun s => decide (s.u = q))) = ys ++ [⟨q, b_, c_, d_, e_, f_⟩]) := by
          show _ = _
          rw [List.take_succ_eq_append_getElem hil, HE.out, List.filter_append, HT.out]
          congr 1; simp
        have hO1 := hO.alloc (bxSe q b_ c_ d_ e_ f_)
        have hB1 := below_alloc0 hB (bxSe q b_ c_ d_ e_ f_)
        have HZ1 : Hid ((wr.alloc (bxSe q b_ c_ d_ e_ f_)).heap.size = wr.heap.size + 1) := size_alloc _ _
        go_wp2_with (at_builtin; refine Own.append (w0 := w) w.heap.size rfl (.tmp 18) (.tmp 20) 23 99 zvSe 6 64 rfl Tryz.underlying23 infoSe rfl (by decide) _ ys ⟨q, b_, c_, d_, e_, f_⟩ (enSe ⟨q, b_, c_, d_, e_, f_⟩) rfl (by rw [HZ1.out]; rfl) rfl rfl (enSe_one _) hO1 hB1 hB1.size (by omega) (by omega) ?_; intro v2 w2 hO2 hB2 _ _)
        exact ⟨⟨i + 1, ys ++ [⟨q, b_, c_, d_, e_, f_⟩], by go_num, by omega, by rw [List.length_append]; simp only [List.length_cons, List.length_nil]; omega, HT2, hO2, hB2⟩, by simp [intOf]; omega⟩
      · have hne : ¬ a_ = q := hq
        have hne2 : (a_.toList == q.toList) = false := by simpa [toList_inj'] using hne
        have hne3 : ¬ a_.toList = q.toList := by simpa [toList_inj'] using hne
        clear hq
        have HT2 : Hid (((l.take (i + 1)).filter (fun s => decide (s.u = q))) = ys) := by
          show _ = _
          rw [List.take_succ_eq_append_getElem hil, HE.out, List.filter_append, HT.out]
          simp [hne]
        have hO1 := hO.alloc (bxSe a_ b_ c_ d_ e_ f_)
        have hB1 := below_alloc0 hB (bxSe a_ b_ c_ d_ e_ f_)
        go_wp2
        exact ⟨⟨i + 1, ys, by go_num, by omega, by omega, HT2, hO1, hB1⟩, by simp [intOf]; omega⟩
    · have hin : i = n := by omega
      subst hin
      have HF : Hid ((l.filter (fun s => decide (s.u = q))) = ys) := by
        show _ = _
        have := HT.out
        rwa [List.take_of_length_le (by rw [EA.out]; exact Nat.le_refl _)] at this
      go_wp2
      go_ret
      rw [HF.out]
      exact ⟨_, rfl, hO, hB⟩
end Go.Proofs.YtbpfcjdjhponaaaGreat
namespace Go.Proofs.YtbpfcjdjhponaaaGreat
open Go.RowKit
open Sp
namespace Sp
theorem adjS_no (l : List Se) (i : Nat) (h : i + 1 < l.length) (hn : ltSe (keySe l[i]) (keySe l[i + 1]) = false) : adjS l = false := by
  rw [← Bool.not_eq_true, adjS_iff]
  intro h'
  rw [h' i h] at hn
  cases hn
def fewSe (l : List Se) : Bool := decide (l.length ≤ 50) && l.all fun s => decide (s.u.size ≤ 40) && decide (s.v.2.2.2.size ≤ 60)
end Sp
set_option maxHeartbeats 8000000 in
set_option maxRecDepth 100000 in
theorem place_calls (n c : Nat) (A : Option Addr) (l : List Se) (q : ByteArray) (z : Int) (w : World) (hl : Row enSe 6 w (.slice A n c) l) :
    Calls Tryz.prog 160 #[.slice A n c, .string q, .int .i64 z] w fun e w' => e = .returned (.int .i64 (idxI (idxSe l (q, z)))) ∧ Below w.heap.size w w' := by
  have EA := Lib.hid hl.len_eq
  have hnl : n ≤ 9223372036854775807 := by rw [EA.out]; exact hl.len
  obtain ⟨r, hr⟩ : ∃ r, idxI (idxSe l (q, z)) = r := ⟨_, rfl⟩
  rw [hr]
  unfold idxSe at hr
  have HR := Lib.hid hr
  clear hr
  go_enter Tryz.func160, Tryz.ntmps160
  go_wp2
  go_loopw [7] (fun v8 wr => ∃ i : Nat, v8 = .int .i64 i ∧ i ≤ n ∧ Below w.heap.size w wr ∧ Hid (∀ j (h : j < l.length), j < i → (fun s => decide (keySe s = (q, z))) l[j] = false)) (fun v8 _ => (n - intOf v8).toNat)
  case atStart => exact ⟨0, rfl, Nat.zero_le _, Below.refl _ _, fun j _ h => absurd h (by omega)⟩
  case round =>
    obtain ⟨i, rfl, hi, hB, HT⟩ := hrel
    by_cases hlt : i < n
    · have hil : i < l.length := by have := EA.out; omega
      obtain ⟨⟨a_, b_, c_, d_, e_, f_⟩, he⟩ : ∃ e, l[i] = e := ⟨_, rfl⟩
      obtain ⟨ad, rfl, c0, c1, c2, c3, c4, c5⟩ := rowSe (hl.below hB) i hil a_ b_ c_ d_ e_ f_ he
      have HE := Lib.hid he
      clear he
      have hno : ¬ (a_ = q ∧ b_ = z) → Hid (∀ j (h : j < l.length), j < i + 1 → (fun s => decide (keySe s = (q, z))) l[j] = false) := fun hn => fun j h hj => by
        rcases Nat.lt_or_ge j i with h' | h'
        · exact HT.out j h h'
        · obtain rfl : j = i := by omega
          rw [HE.out]
          exact decide_eq_false fun e => hn ⟨congrArg Prod.fst e, congrArg Prod.snd e⟩
      by_cases hq : a_ = q
      · by_cases hz : b_ = z
        · have HF : Hid (r = (i : Int)) := by
            show _ = _
            rw [← HR.out, idx_at _ l i hil HT.out (by rw [HE.out, hq, hz]; exact decide_eq_true rfl)]; rfl
          clear hno
          replace hq := hq.symm
          replace hz := hz.symm
          subst hq hz
          go_wp2
          go_ret
          rw [HF.out]
          exact ⟨rfl, hB⟩
        · have HN := hno (fun h => hz h.2)
          have hz2 : (b_ == z) = false := by simpa using hz
          clear hno
          replace hq := hq.symm
          subst hq
          go_wp2
          exact ⟨⟨i + 1, by go_num, by omega, hB, HN⟩, by simp [intOf]; omega⟩
      · have HN := hno (fun h => hq h.1)
        have hne2 : (a_.toList == q.toList) = false := by simpa [toList_inj'] using hq
        have hne3 : ¬ a_.toList = q.toList := by simpa [toList_inj'] using hq
        clear hno hq
        go_wp2
        exact ⟨⟨i + 1, by go_num, by omega, hB, HN⟩, by simp [intOf]; omega⟩
    · have hin : i = n := by omega
      subst hin
      have HF : Hid (r = -1) := by
        show _ = _
        rw [← HR.out, idx_no _ l (fun j hj => HT.out j hj (by rw [EA.out]; exact hj))]; rfl
      go_wp2
      go_ret
      rw [HF.out]
      exact ⟨rfl, hB⟩
set_option maxHeartbeats 8000000 in
set_option maxRecDepth 100000 in
theorem few9_calls (n c : Nat) (A : Option Addr) (l : List Se) (w : World) (hl : Row enSe 6 w (.slice A n c) l) (hz : ∀ s ∈ l, s.u.size ≤ 9223372036854775807 ∧ s.v.2.2.2.size ≤ 9223372036854775807) :
    Calls Tryz.prog 36 #[.slice A n c] w fun e w' => e = .returned (.bool (fewSe l)) ∧ Below w.heap.size w w' := by
  have EA := Lib.hid hl.len_eq
  have hnl : n ≤ 9223372036854775807 := by rw [EA.out]; exact hl.len
  obtain ⟨r, hr⟩ : ∃ r, fewSe l = r := ⟨_, rfl⟩
  rw [hr]
  unfold fewSe at hr
  have HR := Lib.hid hr
  have HZ := Lib.hid hz
  clear hr hz
  by_cases hm : 50 < (n : Int)
  · have HF : Hid (r = false) := by
      show _ = _
      rw [← HR.out, decide_eq_false (by rw [← EA.out]; omega)]; rfl
    go_enter Tryz.func36, Tryz.ntmps36
    go_wp2
    go_ret
    rw [HF.out]
    exact ⟨rfl, Below.refl _ _⟩
  · have hm' : (n : Int) ≤ 50 := by omega
    clear hm
    go_enter Tryz.func36, Tryz.ntmps36
    go_wp2
    go_loopw [3] (fun v3 wr => ∃ i : Nat, v3 = .int .i64 i ∧ i ≤ n ∧ Below w.heap.size w wr ∧ Hid (∀ j (h : j < l.length), j < i → (decide (l[j].u.size ≤ 40) && decide (l[j].v.2.2.2.size ≤ 60)) = true)) (fun v3 _ => (n - intOf v3).toNat)
    case atStart => exact ⟨0, rfl, Nat.zero_le _, Below.refl _ _, fun j _ h => absurd h (by omega)⟩
    case round =>
      obtain ⟨i, rfl, hi, hB, HT⟩ := hrel
      by_cases hlt : i < n
      · have hil : i < l.length := by have := EA.out; omega
        obtain ⟨z1, z2⟩ := HZ.out l[i] (List.getElem_mem _)
        obtain ⟨⟨a_, b_, c_, d_, e_, f_⟩, he⟩ : ∃ e, l[i] = e := ⟨_, rfl⟩
        rw [he] at z1 z2
        simp only at z1 z2
        obtain ⟨ad, rfl, c0, c1, c2, c3, c4, c5⟩ := rowSe (hl.below hB) i hil a_ b_ c_ d_ e_ f_ he
        have HE := Lib.hid he
        clear he
        by_cases hq : a_.size ≤ 40 ∧ f_.size ≤ 60
        · have HN : Hid (∀ j (h : j < l.length), j < i + 1 → (decide (l[j].u.size ≤ 40) && decide (l[j].v.2.2.2.size ≤ 60)) = true) := fun j h hj => by
            rcases Nat.lt_or_ge j i with h' | h'
            · exact HT.out j h h'
            · obtain rfl : j = i := by omega
              rw [HE.out]
              simp only
              rw [decide_eq_true hq.1, decide_eq_true hq.2]; rfl
          have h1 : ((a_.size : Nat) : Int) ≤ 40 := by omega
          have h2 : ((f_.size : Nat) : Int) ≤ 60 := by omega
          clear hq
          go_wp2
          exact ⟨⟨i + 1, by go_num, by omega, hB, HN⟩, by simp [intOf]; omega⟩
        · have HF : Hid (r = false) := by
            show _ = _
            rw [← HR.out, Bool.and_eq_false_iff]
            right
            rw [List.all_eq_false]
            refine ⟨l[i], List.getElem_mem _, ?_⟩
            rw [HE.out]
            simp only [Bool.and_eq_true, decide_eq_true_eq]
            exact hq
          by_cases h1 : ((a_.size : Nat) : Int) ≤ 40
          · have h2 : 60 < ((f_.size : Nat) : Int) := by omega
            clear hq
            go_wp2
            go_ret
            rw [HF.out]
            exact ⟨rfl, hB⟩
          · have h2 : 40 < ((a_.size : Nat) : Int) := by omega
            clear hq h1
            go_wp2
            go_ret
            rw [HF.out]
            exact ⟨rfl, hB⟩
      · have hin : i = n := by omega
        subst hin
        have HF : Hid (r = true) := by
          show _ = _
          rw [← HR.out, Bool.and_eq_true]
          refine ⟨decide_eq_true (by rw [← EA.out]; omega), ?_⟩
          rw [List.all_eq_true]
          intro e he
          obtain ⟨j, hj, rfl⟩ := List.getElem_of_mem he
          exact HT.out j hj (by rw [EA.out]; exact hj)
        go_wp2
        go_ret
        rw [HF.out]
        exact ⟨rfl, hB⟩
set_option maxHeartbeats 8000000 in
set_option maxRecDepth 100000 in
theorem May9_calls (n c : Nat) (A : Option Addr) (l : List Se) (w : World) (hl : Row enSe 6 w (.slice A n c) l) (hz : SzSe l) :
    Calls Tryz.prog 95 #[.slice A n c] w fun e w' => e = .returned (.bool (maySe l)) ∧ Below w.heap.size w w' := by
  have EA := Lib.hid hl.len_eq
  have hnl : n ≤ 9223372036854775807 := by rw [EA.out]; exact hl.len
  obtain ⟨r, hr⟩ : ∃ r, maySe l = r := ⟨_, rfl⟩
  rw [hr]
  unfold maySe at hr
  have HR := Lib.hid hr
  have HZ := Lib.hid hz
  clear hr hz
  go_enter Tryz.func95, Tryz.ntmps95
  go_wp2
  go_loopw [3] (fun v3 wr => ∃ i : Nat, v3 = .int .i64 i ∧ 1 ≤ i ∧ (i ≤ n ∨ i = 1) ∧ Below w.heap.size w wr ∧ Hid (∀ j (h : j + 1 < l.length), j + 1 < i → ltSe (keySe l[j]) (keySe l[j + 1]) = true)) (fun v3 _ => (n - intOf v3).toNat)
  case atStart => exact ⟨1, rfl, by omega, .inr rfl, Below.refl _ _, fun j _ h => absurd h (by omega)⟩
  case round =>
    obtain ⟨i, rfl, h1i, hi, hB, HT⟩ := hrel
    by_cases hlt : i < n
    · obtain ⟨q, hq⟩ : ∃ q, q = i - 1 := ⟨_, rfl⟩
      have hqi : q + 1 = i := by omega
      have hil : i < l.length := by have := EA.out; omega
      have hql : q < l.length := by omega
      obtain ⟨⟨a_, b_, c_, d_, e_, f_⟩, he⟩ : ∃ e, l[q] = e := ⟨_, rfl⟩
      obtain ⟨⟨a', b', c', d', e', f'⟩, he'⟩ : ∃ e, l[i] = e := ⟨_, rfl⟩
      obtain ⟨ad, rfl, c0, c1, c2, c3, c4, c5⟩ := rowSe (hl.below hB) q hql a_ b_ c_ d_ e_ f_ he
      obtain ⟨d0, d1, d2, d3, d4, d5⟩ := rowsSe (hl.below hB) i hil a' b' c' d' e' f' he'
      obtain ⟨b, hb⟩ : ∃ b, ltSe (a_, b_) (a', b') = b := ⟨_, rfl⟩
      have HB := Lib.hid hb
      have HADJ : Hid (∃ h : q + 1 < l.length, ltSe (keySe l[q]) (keySe l[q + 1]) = b) := by
        subst hqi
        exact ⟨hil, by rw [he, he', ← hb]; rfl⟩
      have hw : IntKind.i64.wrap ((i : Int) - 1) = ((q : Nat) : Int) := by
        have : (i : Int) - 1 = (q : Int) := by omega
        rw [this, IntKind.wrap_i64]; omega
      have x1 : (0 : Int) ≤ (q : Int) := by omega
      have x2 : (q : Int) < (n : Int) := by omega
      have x3 : (0 : Int) ≤ (i : Int) := by omega
      have x4 : (i : Int) < (n : Int) := by omega
      have hD : Below w.heap.size w wr.drew := hB.drew
      have HQI := Lib.hid hqi
      clear hb he he' hq hqi
      go_wp2_with fail
      go_region_held3 (fun w' => w'.cell? (ad.add (q * 6)) = some (.string a_) ∧ w'.cell? ⟨(ad.add (q * 6)).block, (ad.add (q * 6)).off + 1, none⟩ = some (.int .i64 b_) ∧ w'.cell? ⟨(ad.add (q * 6)).block, (ad.add (q * 6)).off + 2, none⟩ = some (.int .i64 c_) ∧ w'.cell? ⟨(ad.add (q * 6)).block, (ad.add (q * 6)).off + 3, none⟩ = some (.int .i64 d_) ∧ w'.cell? ⟨(ad.add (q * 6)).block, (ad.add (q * 6)).off + 4, none⟩ = some (.int .i64 e_) ∧ w'.cell? ⟨(ad.add (q * 6)).block, (ad.add (q * 6)).off + 5, none⟩ = some (.string f_) ∧ w'.cell? (ad.add (i * 6)) = some (.string a') ∧ w'.cell? ⟨(ad.add (i * 6)).block, (ad.add (i * 6)).off + 1, none⟩ = some (.int .i64 b') ∧ w'.cell? ⟨(ad.add (i * 6)).block, (ad.add (i * 6)).off + 2, none⟩ = some (.int .i64 c') ∧ w'.cell? ⟨(ad.add (i * 6)).block, (ad.add (i * 6)).off + 3, none⟩ = some (.int .i64 d') ∧ w'.cell? ⟨(ad.add (i * 6)).block, (ad.add (i * 6)).off + 4, none⟩ = some (.int .i64 e') ∧ w'.cell? ⟨(ad.add (i * 6)).block, (ad.add (i * 6)).off + 5, none⟩ = some (.string f')) (exact ⟨c0, c1, c2, c3, c4, c5, d0, d1, d2, d3, d4, d5⟩) (((first | (go_at_call 108; refine (of_calls _ _ _ _ _ _ _).mono ?_) | (go_at_call 109; refine (re_ (ahead_calls a_ b_ a' b' _) (ret_bool HB.out)).mono ?_)); rintro e wx ⟨rfl, hbx⟩; replace hD := below_call hD hbx; replace c0 := cell_below hbx c0; replace c1 := cell_below hbx c1; replace c2 := cell_below hbx c2; replace c3 := cell_below hbx c3; replace c4 := cell_below hbx c4; replace c5 := cell_below hbx c5; replace d0 := cell_below hbx d0; replace d1 := cell_below hbx d1; replace d2 := cell_below hbx d2; replace d3 := cell_below hbx d3; replace d4 := cell_below hbx d4; replace d5 := cell_below hbx d5; clear hbx))
      all_goals
        clear c0 c1 c2 c3 c4 c5 d0 d1 d2 d3 d4 d5
        cases b with
        | true =>
          have HT2 : Hid (∀ j (h : j + 1 < l.length), j + 1 < i + 1 → ltSe (keySe l[j]) (keySe l[j + 1]) = true) := fun j h hj => by
            rcases Nat.lt_or_ge (j + 1) i with h' | h'
            · exact HT.out j h h'
            · obtain rfl : j = q := by have := HQI.out; omega
              exact HADJ.out.2
          go_wp2
          exact ⟨⟨i + 1, by go_num, by omega, .inl (by omega), hD, HT2⟩, by simp [intOf]; omega⟩
        | false =>
          have HF : Hid (r = false) := by
            show _ = _
            rw [← HR.out, adjS_no l q HADJ.out.1 HADJ.out.2]
            simp
          go_wp2
          go_ret
          rw [HF.out]
          exact ⟨rfl, hD⟩
    · have HT2 : Hid (adjS l = true) := (adjS_iff l).2 fun j h => HT.out j h (by have := EA.out; omega)
      obtain ⟨o, ho⟩ : ∃ o, l.all oneS = o := ⟨_, rfl⟩
      have HC := containsOdd9_calls n c A l wr (hl.below hB) HZ.out
      have ho2 : l.any (fun s => !oneS s) = !o := by
        rw [← ho, Bool.eq_iff_iff, Bool.not_eq_true', List.any_eq_true]
        constructor
        · rintro ⟨x, hx, h⟩
          rw [List.all_eq_false]
          exact ⟨x, hx, by simpa using h⟩
        · intro h
          rw [List.all_eq_false] at h
          obtain ⟨x, hx, h⟩ := h
          exact ⟨x, hx, by simpa using h⟩
      rw [ho2] at HC
      have HO := Lib.hid ho
      clear ho ho2
      by_cases hm : (n : Int) ≤ 32
      · have HF : Hid (r = o) := by
          show _ = _
          rw [← HR.out, HO.out, HT2.out, decide_eq_true (by have := EA.out; omega)]
          simp
        go_wp2_with fail
        refine HC.mono ?_
        rintro e w1 ⟨rfl, b1⟩
        go_wp2
        go_ret
        exact ⟨ret_bool (by rw [HF.out]), below_call hB b1⟩
      · have HF : Hid (r = false) := by
          show _ = _
          rw [← HR.out, decide_eq_false (by have := EA.out; omega)]
          rfl
        have hm2 : 32 < (n : Int) := by omega
        clear hm
        go_wp2
        go_ret
        rw [HF.out]
        exact ⟨rfl, hB⟩
end Go.Proofs.YtbpfcjdjhponaaaGreat
namespace Go.Proofs.YtbpfcjdjhponaaaGreat
open Go.RowKit
open Sp
set_option maxHeartbeats 16000000 in
set_option maxRecDepth 100000 in
theorem refMay9_calls (n c : Nat) (A : Option Addr) (l : List Se) (w : World) (hl : Row enSe 6 w (.slice A n c) l) (hz : SzSe l) :
    Calls Tryz.prog 38 #[.slice A n c] w fun e w' => e = .returned (.bool (maySe l)) ∧ Below w.heap.size w w' := by
  have EA := Lib.hid hl.len_eq
  have hnl : n ≤ 9223372036854775807 := by rw [EA.out]; exact hl.len
  obtain ⟨r, hr⟩ : ∃ r, maySe l = r := ⟨_, rfl⟩
  rw [hr]
  have HR := Lib.hid hr
  have HZ := Lib.hid hz
  clear hr hz
  by_cases hm : 32 < (n : Int)
  · have HF : Hid (r = false) := by
      show _ = _
      rw [← HR.out]
      unfold maySe
      rw [decide_eq_false (by rw [← EA.out]; omega)]; rfl
    go_enter Tryz.func38, Tryz.ntmps38
    go_wp2
    go_ret
    rw [HF.out]
    exact ⟨rfl, Below.refl _ _⟩
  have hm' : (n : Int) ≤ 32 := by omega
  clear hm
  go_enter Tryz.func38, Tryz.ntmps38
  go_wp2
  go_loopw [3] (fun v3 wr => ∃ i : Nat, v3 = .int .i64 i ∧ i ≤ n ∧ Below w.heap.size w wr ∧ Hid ((∀ j (h : j < l.length), j < i → oneS l[j] = true) ∧ ∀ j (h : j + 1 < l.length), j + 1 < i → ltSe (keySe l[j]) (keySe l[j + 1]) = true)) (fun v3 _ => (n - intOf v3).toNat)
  case atStart => exact ⟨0, rfl, Nat.zero_le _, Below.refl _ _, fun j _ h => absurd h (by omega), fun j _ h => absurd h (by omega)⟩
  case round =>
    obtain ⟨i, rfl, hi, hB, HT⟩ := hrel
    by_cases hlt : i < n
    · have hil : i < l.length := by have := EA.out; omega
      obtain ⟨z1, z2⟩ := HZ.out l[i] (List.getElem_mem _)
      obtain ⟨⟨a', b', c', d', e', f'⟩, he'⟩ : ∃ e, l[i] = e := ⟨_, rfl⟩
      rw [he'] at z1 z2
      simp only at z1 z2
      obtain ⟨ad, rfl, d0, d1, d2, d3, d4, d5⟩ := rowSe (hl.below hB) i hil a' b' c' d' e' f' he'
      obtain ⟨o, ho⟩ : ∃ o, oneS ⟨a', b', c', d', e', f'⟩ = o := ⟨_, rfl⟩
      have HO := Lib.hid ho
      have HLO : Hid (oneS l[i] = o) := by show _ = _; rw [he']; exact ho
      have hD : Below w.heap.size w wr.drew := hB.drew
      have x3 : (0 : Int) ≤ (i : Int) := by omega
      have x4 : (i : Int) < (n : Int) := by omega
      clear ho
      cases o with
      | false =>
        have HF : Hid (r = false) := by
          show _ = _
          rw [← HR.out, ← Bool.not_eq_true, maySe_iff]
          rintro ⟨_, h2, _⟩
          have h3 := HLO.out
          rw [h2 l[i] (List.getElem_mem _)] at h3
          cases h3
        clear he'
        · go_wp2_with fail
          refine wp_region_held_drew (S := fun w' => w'.cell? (ad.add (i * 6)) = some (.string a') ∧ w'.cell? ⟨(ad.add (i * 6)).block, (ad.add (i * 6)).off + 1, none⟩ = some (.int .i64 b') ∧ w'.cell? ⟨(ad.add (i * 6)).block, (ad.add (i * 6)).off + 2, none⟩ = some (.int .i64 c') ∧ w'.cell? ⟨(ad.add (i * 6)).block, (ad.add (i * 6)).off + 3, none⟩ = some (.int .i64 d') ∧ w'.cell? ⟨(ad.add (i * 6)).block, (ad.add (i * 6)).off + 4, none⟩ = some (.int .i64 e') ∧ w'.cell? ⟨(ad.add (i * 6)).block, (ad.add (i * 6)).off + 5, none⟩ = some (.string f')) (by kernel_rfl) ⟨d0, d1, d2, d3, d4, d5⟩ (fun hHeld => ?_)
          refine wpAnyH_take (i := 0) (v := ?vx1) rfl (by kernel_rfl) (by kernel_rfl) (by kernel_rfl) (fun _ _ _ h => h) (Or.inl ⟨by rfl, ?hyx1⟩) (by assumption) ?restx1
          case hyx1 => (intro w hSw; (try dsimp only at hSw); go_simp; (try (first | with_reducible rfl | rw [if_neg (by omega)])))
          try simp only [Act.put, zA, zB, zC, zD, zE, zF]
          refine wpAnyH_take (i := 1) (v := ?vx2) rfl (by kernel_rfl) (by kernel_rfl) (by kernel_rfl) (fun _ _ _ h => h) (Or.inl ⟨by rfl, ?hyx2⟩) (by assumption) ?restx2
          case hyx2 => (intro w hSw; (try dsimp only at hSw); go_simp; (try (first | with_reducible rfl | rw [if_neg (by omega)])))
          try simp only [Act.put, zA, zB, zC, zD, zE, zF]
          refine wpAnyH_take (i := 2) (v := ?vx3) rfl (by kernel_rfl) (by kernel_rfl) (by kernel_rfl) (fun _ _ _ h => h) (Or.inl ⟨by rfl, ?hyx3⟩) (by assumption) ?restx3
          case hyx3 => (intro w hSw; (try dsimp only at hSw); go_simp; (try (first | with_reducible rfl | rw [if_neg (by omega)])))
          try simp only [Act.put, zA, zB, zC, zD, zE, zF]
          refine wpAnyH_take (i := 3) (v := ?vx4) rfl (by kernel_rfl) (by kernel_rfl) (by kernel_rfl) (fun _ _ _ h => h) (Or.inl ⟨by rfl, ?hyx4⟩) (by assumption) ?restx4
          case hyx4 => (intro w hSw; (try dsimp only at hSw); go_simp; (try (first | with_reducible rfl | rw [if_neg (by omega)])))
          try simp only [Act.put, zA, zB, zC, zD, zE, zF]
          refine wpAnyH_ready (rs := [4]) (by kernel_rfl) (by simp) ?_
          refine AllReadyH.cons rfl (fun K hK => ?_) ?_
          · go_simp
            go_at_call 86
            refine (re_ (refOne_calls a' b' c' d' e' f' _ z1 z2) (ret_bool HO.out)).mono ?_
            rintro e wx ⟨rfl, hbx⟩
            replace hD := below_call hD hbx
            replace d0 := cell_below hbx d0
            replace d1 := cell_below hbx d1
            replace d2 := cell_below hbx d2
            replace d3 := cell_below hbx d3
            replace d4 := cell_below hbx d4
            replace d5 := cell_below hbx d5
            clear hbx
            refine hK.out _ _ (by (try dsimp only); (exact ⟨d0, d1, d2, d3, d4, d5⟩)) (fun hHeld => ?_)
            clear hK K
            try simp only [Act.put, zA, zB, zC, zD, zE, zF]
            refine wpAnyH_take (i := 5) (v := ?vx5) rfl (by kernel_rfl) (by kernel_rfl) (by kernel_rfl) (fun _ _ _ h => h) (Or.inl ⟨by rfl, ?hyx5⟩) (by assumption) ?restx5
            case hyx5 => (intro w hSw; (try dsimp only at hSw); go_simp; (try (first | with_reducible rfl | rw [if_neg (by omega)])))
            try simp only [Act.put, zA, zB, zC, zD, zE, zF]
            refine wpAnyH_take (i := 6) (v := ?vx6) rfl (by kernel_rfl) (by kernel_rfl) (by kernel_rfl) (fun _ _ _ h => h) (Or.inl ⟨by rfl, ?hyx6⟩) (by assumption) ?restx6
            case hyx6 => (intro w hSw; (try dsimp only at hSw); go_simp; (try (first | with_reducible rfl | rw [if_neg (by omega)])))
            try simp only [Act.put, zA, zB, zC, zD, zE, zF]
            refine wpAnyH_take (i := 7) (v := undef) rfl (by kernel_rfl) (by kernel_rfl) (by kernel_rfl) (fun _ _ _ h => h) (Or.inr ⟨by rfl, rfl⟩) (by assumption) ?_
            try simp only [Act.put, zA, zB, zC, zD, zE, zF]
            refine wpAnyH_take (i := 8) (v := undef) rfl (by kernel_rfl) (by kernel_rfl) (by kernel_rfl) (fun _ _ _ h => h) (Or.inr ⟨by rfl, rfl⟩) (by assumption) ?_
            try simp only [Act.put, zA, zB, zC, zD, zE, zF]
            refine wpAnyH_take (i := 9) (v := undef) rfl (by kernel_rfl) (by kernel_rfl) (by kernel_rfl) (fun _ _ _ h => h) (Or.inr ⟨by rfl, rfl⟩) (by assumption) ?_
            try simp only [Act.put, zA, zB, zC, zD, zE, zF]
            refine wpAnyH_take (i := 10) (v := undef) rfl (by kernel_rfl) (by kernel_rfl) (by kernel_rfl) (fun _ _ _ h => h) (Or.inr ⟨by rfl, rfl⟩) (by assumption) ?_
            try simp only [Act.put, zA, zB, zC, zD, zE, zF]
            refine wpAnyH_take (i := 11) (v := undef) rfl (by kernel_rfl) (by kernel_rfl) (by kernel_rfl) (fun _ _ _ h => h) (Or.inr ⟨by rfl, rfl⟩) (by assumption) ?_
            try simp only [Act.put, zA, zB, zC, zD, zE, zF]
            refine wpAnyH_take (i := 12) (v := undef) rfl (by kernel_rfl) (by kernel_rfl) (by kernel_rfl) (fun _ _ _ h => h) (Or.inr ⟨by rfl, rfl⟩) (by assumption) ?_
            try simp only [Act.put, zA, zB, zC, zD, zE, zF]
            refine wpAnyH_take (i := 13) (v := undef) rfl (by kernel_rfl) (by kernel_rfl) (by kernel_rfl) (fun _ _ _ h => h) (Or.inr ⟨by rfl, rfl⟩) (by assumption) ?_
            try simp only [Act.put, zA, zB, zC, zD, zE, zF]
            refine wpAnyH_take (i := 14) (v := undef) rfl (by kernel_rfl) (by kernel_rfl) (by kernel_rfl) (fun _ _ _ h => h) (Or.inr ⟨by rfl, rfl⟩) (by assumption) ?_
            try simp only [Act.put, zA, zB, zC, zD, zE, zF]
            refine wpAnyH_take (i := 15) (v := undef) rfl (by kernel_rfl) (by kernel_rfl) (by kernel_rfl) (fun _ _ _ h => h) (Or.inr ⟨by rfl, rfl⟩) (by assumption) ?_
            try simp only [Act.put, zA, zB, zC, zD, zE, zF]
            refine wpAnyH_take (i := 16) (v := undef) rfl (by kernel_rfl) (by kernel_rfl) (by kernel_rfl) (fun _ _ _ h => h) (Or.inr ⟨by rfl, rfl⟩) (by assumption) ?_
            try simp only [Act.put, zA, zB, zC, zD, zE, zF]
            refine wpAnyH_take (i := 17) (v := undef) rfl (by kernel_rfl) (by kernel_rfl) (by kernel_rfl) (fun _ _ _ h => h) (Or.inr ⟨by rfl, rfl⟩) (by assumption) ?_
            try simp only [Act.put, zA, zB, zC, zD, zE, zF]
            refine wpAnyH_take (i := 18) (v := undef) rfl (by kernel_rfl) (by kernel_rfl) (by kernel_rfl) (fun _ _ _ h => h) (Or.inr ⟨by rfl, rfl⟩) (by assumption) ?_
            try simp only [Act.put, zA, zB, zC, zD, zE, zF]
            refine wpAnyH_take (i := 19) (v := undef) rfl (by kernel_rfl) (by kernel_rfl) (by kernel_rfl) (fun _ _ _ h => h) (Or.inr ⟨by rfl, rfl⟩) (by assumption) ?_
            try simp only [Act.put, zA, zB, zC, zD, zE, zF]
            refine wpAnyH_take (i := 20) (v := undef) rfl (by kernel_rfl) (by kernel_rfl) (by kernel_rfl) (fun _ _ _ h => h) (Or.inr ⟨by rfl, rfl⟩) (by assumption) ?_
            try simp only [Act.put, zA, zB, zC, zD, zE, zF]
            refine wpAnyH_take (i := 21) (v := undef) rfl (by kernel_rfl) (by kernel_rfl) (by kernel_rfl) (fun _ _ _ h => h) (Or.inr ⟨by rfl, rfl⟩) (by assumption) ?_
            try simp only [Act.put, zA, zB, zC, zD, zE, zF]
            refine wpAnyH_take (i := 22) (v := ?vx22) rfl (by kernel_rfl) (by kernel_rfl) (by kernel_rfl) (fun _ _ _ h => h) (Or.inl ⟨by rfl, ?hyx22⟩) (by assumption) ?restx22
            case hyx22 => (intro w hSw; (try dsimp only at hSw); go_simp; (try (first | with_reducible rfl | rw [if_neg (by omega)])))
            try simp only [Act.put, zA, zB, zC, zD, zE, zF]
            refine wpAnyH_done (by kernel_rfl) ?_ _
            go_wp2
            go_ret
            rw [HF.out]
            exact ⟨rfl, hD⟩
          exact AllReadyH.nil
      | true =>
        by_cases hi0 : i = 0
        · have HN : Hid ((∀ j (h : j < l.length), j < i + 1 → oneS l[j] = true) ∧ ∀ j (h : j + 1 < l.length), j + 1 < i + 1 → ltSe (keySe l[j]) (keySe l[j + 1]) = true) := by
            refine ⟨fun j h hj => ?_, fun j h hj => absurd hj (by omega)⟩
            obtain rfl : j = i := by omega
            exact HLO.out
          have hg1 : decide ((0 : Int) < (i : Int)) = false := by simpa using hi0
          have hg2 : decide (0 < i) = false := by simpa using hi0
          clear hi0 he'
          · go_wp2_with fail
            refine wp_region_held_drew (S := fun w' => w'.cell? (ad.add (i * 6)) = some (.string a') ∧ w'.cell? ⟨(ad.add (i * 6)).block, (ad.add (i * 6)).off + 1, none⟩ = some (.int .i64 b') ∧ w'.cell? ⟨(ad.add (i * 6)).block, (ad.add (i * 6)).off + 2, none⟩ = some (.int .i64 c') ∧ w'.cell? ⟨(ad.add (i * 6)).block, (ad.add (i * 6)).off + 3, none⟩ = some (.int .i64 d') ∧ w'.cell? ⟨(ad.add (i * 6)).block, (ad.add (i * 6)).off + 4, none⟩ = some (.int .i64 e') ∧ w'.cell? ⟨(ad.add (i * 6)).block, (ad.add (i * 6)).off + 5, none⟩ = some (.string f')) (by kernel_rfl) ⟨d0, d1, d2, d3, d4, d5⟩ (fun hHeld => ?_)
            refine wpAnyH_take (i := 0) (v := ?vz1) rfl (by kernel_rfl) (by kernel_rfl) (by kernel_rfl) (fun _ _ _ h => h) (Or.inl ⟨by rfl, ?hyz1⟩) (by assumption) ?restz1
            case hyz1 => (intro w hSw; (try dsimp only at hSw); go_simp; (try (first | with_reducible rfl | rw [if_neg (by omega)])))
            try simp only [Act.put, zA, zB, zC, zD, zE, zF]
            refine wpAnyH_take (i := 1) (v := ?vz2) rfl (by kernel_rfl) (by kernel_rfl) (by kernel_rfl) (fun _ _ _ h => h) (Or.inl ⟨by rfl, ?hyz2⟩) (by assumption) ?restz2
            case hyz2 => (intro w hSw; (try dsimp only at hSw); go_simp; (try (first | with_reducible rfl | rw [if_neg (by omega)])))
            try simp only [Act.put, zA, zB, zC, zD, zE, zF]
            refine wpAnyH_take (i := 2) (v := ?vz3) rfl (by kernel_rfl) (by kernel_rfl) (by kernel_rfl) (fun _ _ _ h => h) (Or.inl ⟨by rfl, ?hyz3⟩) (by assumption) ?restz3
            case hyz3 => (intro w hSw; (try dsimp only at hSw); go_simp; (try (first | with_reducible rfl | rw [if_neg (by omega)])))
            try simp only [Act.put, zA, zB, zC, zD, zE, zF]
            refine wpAnyH_take (i := 3) (v := ?vz4) rfl (by kernel_rfl) (by kernel_rfl) (by kernel_rfl) (fun _ _ _ h => h) (Or.inl ⟨by rfl, ?hyz4⟩) (by assumption) ?restz4
            case hyz4 => (intro w hSw; (try dsimp only at hSw); go_simp; (try (first | with_reducible rfl | rw [if_neg (by omega)])))
            try simp only [Act.put, zA, zB, zC, zD, zE, zF]
            refine wpAnyH_ready (rs := [4]) (by kernel_rfl) (by simp) ?_
            refine AllReadyH.cons rfl (fun K hK => ?_) ?_
            · go_simp
              go_at_call 86
              refine (re_ (refOne_calls a' b' c' d' e' f' _ z1 z2) (ret_bool HO.out)).mono ?_
              rintro e wx ⟨rfl, hbx⟩
              replace hD := below_call hD hbx
              replace d0 := cell_below hbx d0
              replace d1 := cell_below hbx d1
              replace d2 := cell_below hbx d2
              replace d3 := cell_below hbx d3
              replace d4 := cell_below hbx d4
              replace d5 := cell_below hbx d5
              clear hbx
              refine hK.out _ _ (by (try dsimp only); (exact ⟨d0, d1, d2, d3, d4, d5⟩)) (fun hHeld => ?_)
              clear hK K
              try simp only [Act.put, zA, zB, zC, zD, zE, zF]
              refine wpAnyH_take (i := 5) (v := ?vz5) rfl (by kernel_rfl) (by kernel_rfl) (by kernel_rfl) (fun _ _ _ h => h) (Or.inl ⟨by rfl, ?hyz5⟩) (by assumption) ?restz5
              case hyz5 => (intro w hSw; (try dsimp only at hSw); go_simp; (try (first | with_reducible rfl | rw [if_neg (by omega)])))
              try simp only [Act.put, zA, zB, zC, zD, zE, zF]
              refine wpAnyH_take (i := 6) (v := ?vz6) rfl (by kernel_rfl) (by kernel_rfl) (by kernel_rfl) (fun _ _ _ h => h) (Or.inl ⟨by rfl, ?hyz6⟩) (by assumption) ?restz6
              case hyz6 => (intro w hSw; (try dsimp only at hSw); go_simp; (try (first | with_reducible rfl | rw [if_neg (by omega)])))
              try simp only [Act.put, zA, zB, zC, zD, zE, zF]
              refine wpAnyH_take (i := 7) (v := ?vz7) rfl (by kernel_rfl) (by kernel_rfl) (by kernel_rfl) (fun _ _ _ h => h) (Or.inl ⟨by rfl, ?hyz7⟩) (by assumption) ?restz7
              case hyz7 => (intro w hSw; (try dsimp only at hSw); go_simp; (try (first | with_reducible rfl | rw [if_neg (by omega)])))
              try simp only [Act.put, zA, zB, zC, zD, zE, zF]
              refine wpAnyH_take (i := 8) (v := ?vz8) rfl (by kernel_rfl) (by kernel_rfl) (by kernel_rfl) (fun _ _ _ h => h) (Or.inl ⟨by rfl, ?hyz8⟩) (by assumption) ?restz8
              case hyz8 => (intro w hSw; (try dsimp only at hSw); go_simp; (try (first | with_reducible rfl | rw [if_neg (by omega)])))
              try simp only [Act.put, zA, zB, zC, zD, zE, zF]
              refine wpAnyH_take (i := 9) (v := ?vz9) rfl (by kernel_rfl) (by kernel_rfl) (by kernel_rfl) (fun _ _ _ h => h) (Or.inl ⟨by rfl, ?hyz9⟩) (by assumption) ?restz9
              case hyz9 => (intro w hSw; (try dsimp only at hSw); go_simp; (try (first | with_reducible rfl | rw [if_neg (by omega)])))
              try simp only [Act.put, zA, zB, zC, zD, zE, zF]
              refine wpAnyH_take (i := 10) (v := undef) rfl (by kernel_rfl) (by kernel_rfl) (by kernel_rfl) (fun _ _ _ h => h) (Or.inr ⟨by rfl, rfl⟩) (by assumption) ?_
              try simp only [Act.put, zA, zB, zC, zD, zE, zF]
              refine wpAnyH_take (i := 11) (v := undef) rfl (by kernel_rfl) (by kernel_rfl) (by kernel_rfl) (fun _ _ _ h => h) (Or.inr ⟨by rfl, rfl⟩) (by assumption) ?_
              try simp only [Act.put, zA, zB, zC, zD, zE, zF]
              refine wpAnyH_take (i := 12) (v := undef) rfl (by kernel_rfl) (by kernel_rfl) (by kernel_rfl) (fun _ _ _ h => h) (Or.inr ⟨by rfl, rfl⟩) (by assumption) ?_
              try simp only [Act.put, zA, zB, zC, zD, zE, zF]
              refine wpAnyH_take (i := 13) (v := undef) rfl (by kernel_rfl) (by kernel_rfl) (by kernel_rfl) (fun _ _ _ h => h) (Or.inr ⟨by rfl, rfl⟩) (by assumption) ?_
              try simp only [Act.put, zA, zB, zC, zD, zE, zF]
              refine wpAnyH_take (i := 14) (v := undef) rfl (by kernel_rfl) (by kernel_rfl) (by kernel_rfl) (fun _ _ _ h => h) (Or.inr ⟨by rfl, rfl⟩) (by assumption) ?_
              try simp only [Act.put, zA, zB, zC, zD, zE, zF]
              refine wpAnyH_take (i := 15) (v := undef) rfl (by kernel_rfl) (by kernel_rfl) (by kernel_rfl) (fun _ _ _ h => h) (Or.inr ⟨by rfl, rfl⟩) (by assumption) ?_
              try simp only [Act.put, zA, zB, zC, zD, zE, zF]
              refine wpAnyH_take (i := 16) (v := undef) rfl (by kernel_rfl) (by kernel_rfl) (by kernel_rfl) (fun _ _ _ h => h) (Or.inr ⟨by rfl, rfl⟩) (by assumption) ?_
              try simp only [Act.put, zA, zB, zC, zD, zE, zF]
              refine wpAnyH_take (i := 17) (v := undef) rfl (by kernel_rfl) (by kernel_rfl) (by kernel_rfl) (fun _ _ _ h => h) (Or.inr ⟨by rfl, rfl⟩) (by assumption) ?_
              try simp only [Act.put, zA, zB, zC, zD, zE, zF]
              refine wpAnyH_take (i := 18) (v := undef) rfl (by kernel_rfl) (by kernel_rfl) (by kernel_rfl) (fun _ _ _ h => h) (Or.inr ⟨by rfl, rfl⟩) (by assumption) ?_
              try simp only [Act.put, zA, zB, zC, zD, zE, zF]
              refine wpAnyH_take (i := 19) (v := undef) rfl (by kernel_rfl) (by kernel_rfl) (by kernel_rfl) (fun _ _ _ h => h) (Or.inr ⟨by rfl, rfl⟩) (by assumption) ?_
              try simp only [Act.put, zA, zB, zC, zD, zE, zF]
              refine wpAnyH_take (i := 20) (v := undef) rfl (by kernel_rfl) (by kernel_rfl) (by kernel_rfl) (fun _ _ _ h => h) (Or.inr ⟨by rfl, rfl⟩) (by assumption) ?_
              try simp only [Act.put, zA, zB, zC, zD, zE, zF]
              refine wpAnyH_take (i := 21) (v := ?vz21) rfl (by kernel_rfl) (by kernel_rfl) (by kernel_rfl) (fun _ _ _ h => h) (Or.inl ⟨by rfl, ?hyz21⟩) (by assumption) ?restz21
              case hyz21 => (intro w hSw; (try dsimp only at hSw); go_simp; (try (first | with_reducible rfl | rw [if_neg (by omega)])))
              try simp only [Act.put, zA, zB, zC, zD, zE, zF]
              refine wpAnyH_take (i := 22) (v := ?vz22) rfl (by kernel_rfl) (by kernel_rfl) (by kernel_rfl) (fun _ _ _ h => h) (Or.inl ⟨by rfl, ?hyz22⟩) (by assumption) ?restz22
              case hyz22 => (intro w hSw; (try dsimp only at hSw); go_simp; (try (first | with_reducible rfl | rw [if_neg (by omega)])))
              try simp only [Act.put, zA, zB, zC, zD, zE, zF]
              refine wpAnyH_done (by kernel_rfl) ?_ _
              go_wp2
              exact ⟨⟨i + 1, by go_num, by omega, hD, HN⟩, by simp [intOf]; omega⟩
            exact AllReadyH.nil
        · obtain ⟨q, hq⟩ : ∃ q, q = i - 1 := ⟨_, rfl⟩
          have hqi : q + 1 = i := by omega
          have hql : q < l.length := by omega
          obtain ⟨⟨a_, b_, c_, d_, e_, f_⟩, he⟩ : ∃ e, l[q] = e := ⟨_, rfl⟩
          obtain ⟨c0, c1, c2, c3, c4, c5⟩ := rowsSe (hl.below hB) q hql a_ b_ c_ d_ e_ f_ he
          obtain ⟨b, hb⟩ : ∃ b, ltSe (a_, b_) (a', b') = b := ⟨_, rfl⟩
          have HB := Lib.hid hb
          have HADJ : Hid (∃ h : q + 1 < l.length, ltSe (keySe l[q]) (keySe l[q + 1]) = b) := by
            subst hqi
            exact ⟨hil, by rw [he, he', ← hb]; rfl⟩
          have hw : IntKind.i64.wrap ((i : Int) - 1) = ((q : Nat) : Int) := by
            have : (i : Int) - 1 = (q : Int) := by omega
            rw [this, IntKind.wrap_i64]; omega
          have x1 : (0 : Int) ≤ (q : Int) := by omega
          have x2 : (q : Int) < (n : Int) := by omega
          have hg : 0 < i := by omega
          have hg3 : (0 : Int) < (i : Int) := by omega
          have HQI := Lib.hid hqi
          clear hb he he' hq hqi hi0
          go_wp2_with fail
          go_region_held3 (fun w' => w'.cell? (ad.add (q * 6)) = some (.string a_) ∧ w'.cell? ⟨(ad.add (q * 6)).block, (ad.add (q * 6)).off + 1, none⟩ = some (.int .i64 b_) ∧ w'.cell? ⟨(ad.add (q * 6)).block, (ad.add (q * 6)).off + 2, none⟩ = some (.int .i64 c_) ∧ w'.cell? ⟨(ad.add (q * 6)).block, (ad.add (q * 6)).off + 3, none⟩ = some (.int .i64 d_) ∧ w'.cell? ⟨(ad.add (q * 6)).block, (ad.add (q * 6)).off + 4, none⟩ = some (.int .i64 e_) ∧ w'.cell? ⟨(ad.add (q * 6)).block, (ad.add (q * 6)).off + 5, none⟩ = some (.string f_) ∧ w'.cell? (ad.add (i * 6)) = some (.string a') ∧ w'.cell? ⟨(ad.add (i * 6)).block, (ad.add (i * 6)).off + 1, none⟩ = some (.int .i64 b') ∧ w'.cell? ⟨(ad.add (i * 6)).block, (ad.add (i * 6)).off + 2, none⟩ = some (.int .i64 c') ∧ w'.cell? ⟨(ad.add (i * 6)).block, (ad.add (i * 6)).off + 3, none⟩ = some (.int .i64 d') ∧ w'.cell? ⟨(ad.add (i * 6)).block, (ad.add (i * 6)).off + 4, none⟩ = some (.int .i64 e') ∧ w'.cell? ⟨(ad.add (i * 6)).block, (ad.add (i * 6)).off + 5, none⟩ = some (.string f')) (exact ⟨c0, c1, c2, c3, c4, c5, d0, d1, d2, d3, d4, d5⟩) (((first | (go_at_call 86; refine (re_ (refOne_calls a' b' c' d' e' f' _ z1 z2) (ret_bool HO.out)).mono ?_) | (go_at_call 87; refine (re_ (refAheadS_calls a_ b_ c_ d_ e_ f_ a' b' c' d' e' f' _) (ret_bool HB.out)).mono ?_)); rintro e wx ⟨rfl, hbx⟩; replace hD := below_call hD hbx; replace c0 := cell_below hbx c0; replace c1 := cell_below hbx c1; replace c2 := cell_below hbx c2; replace c3 := cell_below hbx c3; replace c4 := cell_below hbx c4; replace c5 := cell_below hbx c5; replace d0 := cell_below hbx d0; replace d1 := cell_below hbx d1; replace d2 := cell_below hbx d2; replace d3 := cell_below hbx d3; replace d4 := cell_below hbx d4; replace d5 := cell_below hbx d5; clear hbx))
          all_goals
            clear c0 c1 c2 c3 c4 c5 d0 d1 d2 d3 d4 d5
            cases b with
            | true =>
              have HN : Hid ((∀ j (h : j < l.length), j < i + 1 → oneS l[j] = true) ∧ ∀ j (h : j + 1 < l.length), j + 1 < i + 1 → ltSe (keySe l[j]) (keySe l[j + 1]) = true) := by
                refine ⟨fun j h hj => ?_, fun j h hj => ?_⟩
                · rcases Nat.lt_or_ge j i with h' | h'
                  · exact HT.out.1 j h h'
                  · obtain rfl : j = i := by omega
                    exact HLO.out
                · rcases Nat.lt_or_ge (j + 1) i with h' | h'
                  · exact HT.out.2 j h h'
                  · obtain rfl : j = q := by have := HQI.out; omega
                    exact HADJ.out.2
              go_wp2
              exact ⟨⟨i + 1, by go_num, by omega, hD, HN⟩, by simp [intOf]; omega⟩
            | false =>
              have HF : Hid (r = false) := by
                show _ = _
                rw [← HR.out]
                unfold maySe
                rw [adjS_no l q HADJ.out.1 HADJ.out.2]
                simp
              go_wp2
              go_ret
              rw [HF.out]
              exact ⟨rfl, hD⟩
    · have hin : i = n := by omega
      subst hin
      have HF : Hid (r = true) := by
        show _ = _
        rw [← HR.out, maySe_iff]
        refine ⟨by have := EA.out; omega, fun s hs => ?_, fun j h => HT.out.2 j h (by have := EA.out; omega)⟩
        obtain ⟨j, hj, rfl⟩ := List.getElem_of_mem hs
        exact HT.out.1 j hj (by have := EA.out; omega)
      go_wp2
      go_ret
      rw [HF.out]
      exact ⟨rfl, hB⟩
end Go.Proofs.YtbpfcjdjhponaaaGreat
namespace Go.Proofs.YtbpfcjdjhponaaaGreat
open Go.RowKit
namespace Held
def lst (n : Nat) (o : List Nat) (k : Nat) : Array Bool := (o.take k).foldl (fun L i => L.setIfInBounds i true) (Array.replicate n false)
theorem lst_succ (n : Nat) (o : List Nat) (k i : Nat) (h : o[k]? = some i) : (lst n o k).setIfInBounds i true = lst n o (k + 1) := by
  unfold lst
  rw [List.take_add_one, h, List.foldl_append]
  rfl
def okAt (ops : Array Oper) (o : List Nat) (k : Nat) : Bool :=
  match o[k]? with
  | some i => Region.free .any ops (lst ops.size o k) i && (Region.ready .any ops (lst ops.size o k)).contains i
  | none => false
section
variable {P : Program} {ops : Array Oper} {Q : Exit → Act → World → Prop} {S : World → Prop}
theorem start {ops0 : Array Oper} {id : Nat} {a : Act} {w : World} (o : List Nat) (n : Nat) (he : ops0 = ops) (hn : ops.size = n) (hm : P.follows .mixedOrders = true) (hS : S w.drew)
    (h : S w.drew → wpAnyH P .any ops Q S n (lst n o 0) a w.drew) : (Code.region id ops0 true).wp P Q a w := by
  subst he
  refine wp_region_held_drew hm hS fun hs => ?_
  rw [hn]
  exact h hs
theorem take {o : List Nat} {n k i : Nat} {oi : Oper} {v : Value} {fuel : Nat} {a : Act} {w : World} (hns : Region.noSelect ops = true) (h2 : okAt ops o k = true) (hn : ops.size = n) (hk : o[k]? = some i) (hi : ops.toList[i]? = some oi)
    (hQ : ∀ c a w, Q (.panic c) (a.put oi.dst v) w → Q (.panic c) a w) (hy : YieldsIf P ops S oi v a) (hS : S w)
    (h : wpAnyH P .any ops Q S fuel (lst n o (k + 1)) (a.put oi.dst v) w) : wpAnyH P .any ops Q S (fuel + 1) (lst n o k) a w := by
  subst hn
  unfold okAt at h2
  rw [hk] at h2
  simp only [Bool.and_eq_true] at h2
  refine wpAnyH_take (by simpa using hi) hns h2.1 h2.2 hQ hy hS ?_
  rw [lst_succ _ _ _ _ hk]
  exact h
theorem only {o : List Nat} {n k i : Nat} {oi : Oper} {fuel : Nat} {a : Act} {w : World} (hr : Region.ready .any ops (lst n o k) = [i]) (hk : o[k]? = some i) (hi : ops.toList[i]? = some oi) (hw : Region.wanted oi (yielded ops a.tmps) = true)
    (h : ∀ K' : Act → World → Prop, Shut (∀ a w, S w → (S w → wpAnyH P .any ops Q S fuel (lst n o (k + 1)) a w) → K' a w) → Oper.wp P oi a w K' Q) : wpAnyH P .any ops Q S (fuel + 1) (lst n o k) a w := by
  refine wpAnyH_ready hr (by simp) (AllReadyH.cons (by simpa using hi) (fun K hK => ?_) AllReadyH.nil)
  rw [if_pos hw]
  refine h K ?_
  rw [lst_succ _ _ _ _ hk] at hK
  exact hK
end
end Held
end Go.Proofs.YtbpfcjdjhponaaaGreat
namespace Go.Proofs.YtbpfcjdjhponaaaGreat
namespace Held
def find (n : Nat) : Code → Option (Array Oper)
  | .region id ops _ => if id == n then some ops else none
  | .seq a b => match find n a with
    | some x => some x
    | none => find n b
  | .cond _ a b => match find n a with
    | some x => some x
    | none => find n b
  | .block _ b => find n b
  | .loop b => find n b
  | .scope b => find n b
  | .rangeFunc _ _ _ b => find n b
  | _ => none
def inBody (n : Nat) : Option Code → Array Oper
  | some c => (find n c).getD #[]
  | none => #[]
end Held
end Go.Proofs.YtbpfcjdjhponaaaGreat
namespace Go.Proofs.YtbpfcjdjhponaaaGreat
namespace Held
structure Reg (ops : Array Oper) (o : List Nat) (n : Nat) (ks : List Nat) : Prop where
  siz : ops.size = n
  nos : Region.noSelect ops = true
  ok : (ks.all fun k => okAt ops o k) = true
theorem tk {P : Program} {ops : Array Oper} {Q : Exit → Act → World → Prop} {S : World → Prop} {o ks : List Nat} {n k i : Nat} {oi : Oper} {v : Value} {fuel : Nat} {a : Act} {w : World} (R : Reg ops o n ks) (h2 : ks.contains k = true) (hk : o[k]? = some i) (hi : ops.toList[i]? = some oi)
    (hQ : ∀ c a w, Q (.panic c) (a.put oi.dst v) w → Q (.panic c) a w) (hS : S w) (hy : YieldsIf P ops S oi v a)
    (h : wpAnyH P .any ops Q S fuel (lst n o (k + 1)) (a.put oi.dst v) w) : wpAnyH P .any ops Q S (fuel + 1) (lst n o k) a w :=
  take R.nos (List.all_eq_true.1 R.ok k (by simpa using h2)) R.siz hk hi hQ hy hS h
theorem tu {P : Program} {ops : Array Oper} {Q : Exit → Act → World → Prop} {S : World → Prop} {o ks : List Nat} {n k i : Nat} {oi : Oper} {fuel : Nat} {a : Act} {w : World} (R : Reg ops o n ks)
    (h : wpAnyH P .any ops Q S fuel (lst n o (k + 1)) (a.put oi.dst undef) w) (h2 : ks.contains k = true := by exact rfl) (hk : o[k]? = some i := by exact rfl) (hi : ops.toList[i]? = some oi := by exact rfl)
    (hQ : ∀ c a w, Q (.panic c) (a.put oi.dst undef) w → Q (.panic c) a w := by exact fun _ _ _ h => h) (hS : S w := by assumption) (hy : Region.wanted oi (yielded ops a.tmps) = false := by kernel_rfl) : wpAnyH P .any ops Q S (fuel + 1) (lst n o k) a w :=
  tk R h2 hk hi hQ hS (.inr ⟨hy, rfl⟩) h
theorem tw {P : Program} {ops : Array Oper} {Q : Exit → Act → World → Prop} {S : World → Prop} {o ks : List Nat} {n k i : Nat} {oi : Oper} {v : Value} {fuel : Nat} {a : Act} {w : World} (R : Reg ops o n ks)
    (h : wpAnyH P .any ops Q S fuel (lst n o (k + 1)) (a.put oi.dst v) w) (h2 : ks.contains k = true := by exact rfl) (hk : o[k]? = some i := by exact rfl) (hi : ops.toList[i]? = some oi := by exact rfl)
    (hQ : ∀ c a w, Q (.panic c) (a.put oi.dst v) w → Q (.panic c) a w := by exact fun _ _ _ h => h) (hS : S w := by assumption) (hw : Region.wanted oi (yielded ops a.tmps) = true := by kernel_rfl)
    (hy : ∀ w, S w → (execOp a.eval oi).run P w = .ok (.value v) w := by (intro w hSw; (try dsimp only at hSw); go_simp; (try (first | with_reducible rfl | rw [if_neg (by omega)])))) : wpAnyH P .any ops Q S (fuel + 1) (lst n o k) a w :=
  tk R h2 hk hi hQ hS (.inl ⟨hw, hy⟩) h
end Held
end Go.Proofs.YtbpfcjdjhponaaaGreat
namespace Go.Proofs.YtbpfcjdjhponaaaGreat
open Go.RowKit
open Sp
theorem betR_cmp (ai ap as_ bi bp bs : Int) (h : ¬ (ap = bp ∧ as_ = bs)) : betR ai ap as_ bi bp bs = decide (0 < cmpL [ap, as_, 0] [bp, bs, 0]) := by
  unfold betR cmpL cmpL cmpL cmpL Lib.compareInt
  by_cases h1 : ap = bp
  · have h2 : ¬ as_ = bs := fun e => h ⟨h1, e⟩
    subst h1
    rcases Int.lt_trichotomy as_ bs with h3 | h3 | h3
    · simp [h3, h2, Int.not_lt.2 (Int.le_of_lt h3)]
    · exact absurd h3 h2
    · simp [h3, h2, Int.not_lt.2 (Int.le_of_lt h3)]
  · rcases Int.lt_trichotomy ap bp with h3 | h3 | h3
    · simp [h3, h1, Int.not_lt.2 (Int.le_of_lt h3)]
    · exact absurd h3 h1
    · simp [h3, h1, Int.not_lt.2 (Int.le_of_lt h3)]
set_option maxHeartbeats 4000000 in
set_option maxRecDepth 100000 in
theorem bSlot_calls (u : ByteArray) (i a p n : Int) (t : ByteArray) (w : World) :
    Calls Tryz.prog 162 #[ag6 u i a p n t] w fun e w' => e = .returned (slotV i p n) ∧ Below w.heap.size w w' := by
  go_enter Tryz.func162, Tryz.ntmps162
  go_wp2
  exact bodyPost_ret (v := slotV i p n) (by simp [results, Tryz.results162, go_sem]) rfl ⟨rfl, below_alloc0 (below_alloc0 (Below.refl _ _) _) _⟩
theorem rank_arr : Tryz.prog.underlying 200 = some (.array 3 3) := Tryz.underlying200
abbrev bxSl (i p s : Int) (T : TypeId) : Obj := .cells #[.int .i64 i, .int .i64 p, .int .i64 s, .int .i64 0] T
noncomputable def opsheb : Array Oper := Held.inBody 2 Tryz.f161.body
def ordheb : List Nat := [0, 1, 2, 3, 4, 5, 6]
set_option maxRecDepth 100000 in
theorem rgheb : Held.Reg opsheb ordheb 7 [0, 1, 2, 3, 5, 6] := ⟨by kernel_rfl, by kernel_rfl, by kernel_rfl⟩
set_option maxHeartbeats 8000000 in
set_option maxRecDepth 100000 in
theorem hBetter_calls (ai ap as_ bi bp bs : Int) (w : World) :
    Calls Tryz.prog 161 #[slotV ai ap as_, slotV bi bp bs] w fun e w' => e = .returned (.bool (betR ai ap as_ bi bp bs)) ∧ Below w.heap.size w w' := by
  have hN := neqRank rank_arr ap as_ 0 bp bs 0
  by_cases h : ap = bp ∧ as_ = bs
  · obtain ⟨rfl, rfl⟩ := h
    go_enter Tryz.func161, Tryz.ntmps161
    go_wp2
    go_ret
    exact ⟨ret_bool (by rw [betR_id]), below_alloc0 (below_alloc0 (Below.refl _ _) _) _⟩
  · have hB := betR_cmp ai ap as_ bi bp bs h
    have hb : (!(ap == bp && (as_ == bs && (0 : Int) == 0))) = true := by
      simp only [beq_self_eq_true, Bool.and_true, Bool.not_eq_true', Bool.and_eq_false_iff, beq_eq_false_iff_ne]
      by_cases h1 : ap = bp
      · exact .inr fun e => h ⟨h1, e⟩
      · exact .inl h1
    have HB := Lib.hid hB
    clear h hB
    rw [hb] at hN
    have hg0 := hcall (heap_alloc_new w (bxSl ai ap as_ 202)) (below_alloc0 (Below.refl _ _) (bxSl bi bp bs 202))
    have hg1 := heap_alloc_new (w.alloc (bxSl ai ap as_ 202)) (bxSl bi bp bs 202)
    rw [size_alloc] at hg1
    go_enter Tryz.func161, Tryz.ntmps161
    go_wp2_with fail
    replace hg0 : (((w.alloc (bxSl ai ap as_ 202)).alloc (bxSl bi bp bs 202)).drew).heap[w.heap.size]? = _ := hg0
    replace hg1 : (((w.alloc (bxSl ai ap as_ 202)).alloc (bxSl bi bp bs 202)).drew).heap[w.heap.size + 1]? = _ := hg1
    refine Held.start (ops := opsheb) (S := fun w' => True) ordheb 7 (by kernel_rfl) rgheb.siz (by kernel_rfl) trivial (fun hHeld => ?_)
    iterate 4
      refine Held.tw rgheb ?_
      try simp only [Act.put, zA, zB, zC, zD, zE, zF]
    refine Held.only (k := 4) (i := 4) (by kernel_rfl) (by kernel_rfl) rfl (by kernel_rfl) (fun K hK => ?_)
    go_simp
    go_at_call 177
    with_reducible refine (cmpInts_calls _ _ 3 3 3 [ap, as_, 0] [bp, bs, 0] _ (row3 hg0) (row3 hg1) (by omega)).mono ?_
    rintro e w1 ⟨rfl, b⟩
    obtain ⟨r, hr⟩ : ∃ r, cmpL [ap, as_, 0] [bp, bs, 0] = r := ⟨_, rfl⟩
    rw [hr] at HB ⊢
    have HR := Lib.hid hr
    clear hr
    have D := below_call (below_alloc0 (below_alloc0 (Below.refl _ _) _) _).drew b
    clear b hg0 hg1
    refine hK.out _ _ (by (try dsimp only); (try trivial)) (fun hHeld => ?_)
    clear hK K
    try simp only [Act.put, zA, zB, zC, zD, zE, zF]
    iterate 2
      refine Held.tw rgheb ?_
      try simp only [Act.put, zA, zB, zC, zD, zE, zF]
    refine wpAnyH_done (by kernel_rfl) ?_ _
    go_wp2
    go_ret
    exact ⟨ret_bool HB.out.symm, D⟩
end Go.Proofs.YtbpfcjdjhponaaaGreat
namespace Go.Proofs.YtbpfcjdjhponaaaGreat
open Go.RowKit
open Sp
theorem frozenG {w : World} {g : Nat} {cs : Array Value} {T : TypeId} (h : w.heap[g]? = some (.cells cs T (0, 0))) (k : Nat) : w.frozen? ⟨g, k, none⟩ = false := by simp [World.frozen?, h]
theorem setAt6 {w : World} {g : Nat} {cs : Array Value} {T : TypeId} {fr : Nat × Nat} (h : w.heap[g]? = some (.cells cs T fr)) (k : Nat) (v : Value) : (w.setCell ⟨g, k, none⟩ v).heap[g]? = some (.cells (cs.setIfInBounds k v) T fr) := by
  simp [World.setCell, Array.getElem?_modify, h]
theorem set6Se {w : World} {g : Nat} {u : ByteArray} {i a p q : Int} {t : ByteArray} (h : w.heap[g]? = some (bxSe u i a p q t)) (u' : ByteArray) (i' a' p' q' : Int) (t' : ByteArray) : ((((((w.setCell ⟨g, 0, none⟩ (.string u')).setCell ⟨g, 1, none⟩ (.int .i64 i')).setCell ⟨g, 2, none⟩ (.int .i64 a')).setCell ⟨g, 3, none⟩ (.int .i64 p')).setCell ⟨g, 4, none⟩ (.int .i64 q')).setCell ⟨g, 5, none⟩ (.string t')).heap[g]? = some (bxSe u' i' a' p' q' t') := by
  exact setAt6 (setAt6 (setAt6 (setAt6 (setAt6 (setAt6 h 0 _) 1 _) 2 _) 3 _) 4 _) 5 _
theorem keep6 {w : World} {g k : Nat} {o : Option Obj} (h : w.heap[k]? = o) (hk : g ≠ k) (v0 v1 v2 v3 v4 v5 : Value) : ((((((w.setCell ⟨g, 0, none⟩ v0).setCell ⟨g, 1, none⟩ v1).setCell ⟨g, 2, none⟩ v2).setCell ⟨g, 3, none⟩ v3).setCell ⟨g, 4, none⟩ v4).setCell ⟨g, 5, none⟩ v5).heap[k]? = o := by
  simp [World.setCell, Array.getElem?_modify, h, hk]
theorem below6 {B : Nat} {a w : World} {g : Nat} (h : Below B a w) (hg : B ≤ g) (v0 v1 v2 v3 v4 v5 : Value) : Below B a ((((((w.setCell ⟨g, 0, none⟩ v0).setCell ⟨g, 1, none⟩ v1).setCell ⟨g, 2, none⟩ v2).setCell ⟨g, 3, none⟩ v3).setCell ⟨g, 4, none⟩ v4).setCell ⟨g, 5, none⟩ v5) :=
  bset (bset (bset (bset (bset (bset h g 0 v0 hg) g 1 v1 hg) g 2 v2 hg) g 3 v3 hg) g 4 v4 hg) g 5 v5 hg
theorem addZ6 (ad : Addr) : ad.add (0 * 6) = ad := by unfold Addr.add; split <;> simp_all
theorem row_cap {α : Type} {enc : α → List Value} {k : Nat} {w : World} {A : Option Addr} {n c : Nat} {xs : List α} (h : Row enc k w (.slice A n c) xs) : n ≤ c := by
  have hn := h.len_eq
  obtain ⟨A', c', he, h1, -⟩ := h
  injection he with e1 e2 e3
  omega
noncomputable def opsbba : Array Oper := Held.inBody 7 Tryz.f115.body
def ordbba : List Nat := [0, 2, 1, 3, 4]
set_option maxRecDepth 100000 in
theorem rgbba : Held.Reg opsbba ordbba 5 [0, 1] := ⟨by kernel_rfl, by kernel_rfl, by kernel_rfl⟩
set_option maxHeartbeats 16000000 in
set_option maxRecDepth 100000 in
theorem bBest_calls (n c : Nat) (A : Option Addr) (l : List Se) (w : World) (hl : Row enSe 6 w (.slice A n c) l) :
    Calls Tryz.prog 115 #[.slice A n c] w fun e w' => e = .returned (.tuple #[vaSe (bestL l).1, .bool (bestL l).2]) ∧ Below w.heap.size w w' := by
  have EA := Lib.hid hl.len_eq
  match l, hl with
  | [], hl =>
    have hn0 : n = 0 := EA.out
    subst hn0
    go_enter Tryz.func115, Tryz.ntmps115
    go_wp2_with fail
    exact bodyPost_ret (v := .tuple #[ag6 ⟨#[]⟩ 0 0 0 0 ⟨#[]⟩, .bool false]) (by simp [results, Tryz.results115, go_sem]) rfl ⟨rfl, below_alloc0 (Below.refl _ _) _⟩
  | ⟨u0, i0, (a0, p0, q0, t0)⟩ :: l, hl =>
    have hn : n = l.length + 1 := EA.out
    have hn63 : n ≤ 9223372036854775807 := by have := hl.len; simp only [List.length_cons] at this; omega
    obtain ⟨ad, rfl, c0, c1, c2, c3, c4, c5⟩ := rowSe hl 0 (by simp) u0 i0 a0 p0 q0 t0 rfl
    rw [addZ6] at c0 c1 c2 c3 c4 c5
    have hB := below_box (w := w) (bxSe ⟨#[]⟩ 0 0 0 0 ⟨#[]⟩)
    replace c0 := cell_below hB c0
    replace c1 := cell_below hB c1
    replace c2 := cell_below hB c2
    replace c3 := cell_below hB c3
    replace c4 := cell_below hB c4
    replace c5 := cell_below hB c5
    have hr := hl.drop enSe_len 1 (by omega)
    have hnc : n ≤ c := row_cap hl
    have x1 : (1 : Int) ≤ (n : Int) := by omega
    have x2 : (n : Int) ≤ (c : Int) := by omega
    have hne : ¬ (n : Int) = 0 := by omega
    have hrow : ∃ (X : Addr) (cr : Nat), Row enSe 6 w (.slice (some X) (n - 1) cr) l ∧ (c = 1 → X = ad ∧ cr = 0) ∧ (¬ c = 1 → X = ⟨ad.block, ad.off + 6, none⟩ ∧ cr = c - 1) := by
      by_cases hc : c = 1
      · rw [if_pos hc] at hr
        exact ⟨_, _, hr, fun _ => ⟨rfl, by omega⟩, fun h => absurd hc h⟩
      · rw [if_neg hc] at hr
        exact ⟨_, _, hr, fun h => absurd h hc, fun _ => ⟨by simp [Addr.add], rfl⟩⟩
    obtain ⟨X, cr, hr, hX1, hX2⟩ := hrow
    obtain ⟨m, hm⟩ : ∃ m, n - 1 = m := ⟨_, rfl⟩
    rw [hm] at hr
    have EM := Lib.hid hr.len_eq
    have hm63 : m ≤ 9223372036854775807 := by omega
    have HX1 := Lib.hid hX1
    have HX2 := Lib.hid hX2
    have HM := Lib.hid hm
    have HN := Lib.hid hn
    have hf : ((w.alloc (bxSe ⟨#[]⟩ 0 0 0 0 ⟨#[]⟩)).alloc (bxSe u0 i0 a0 p0 q0 t0)).heap[w.heap.size + 1]? = some (bxSe u0 i0 a0 p0 q0 t0) := by
      have := heap_alloc_new (w.alloc (bxSe ⟨#[]⟩ 0 0 0 0 ⟨#[]⟩)) (bxSe u0 i0 a0 p0 q0 t0)
      rwa [size_alloc] at this
    have hg := hcall (heap_alloc_new w (bxSe ⟨#[]⟩ 0 0 0 0 ⟨#[]⟩)) (below_alloc0 (Below.refl _ _) (bxSe u0 i0 a0 p0 q0 t0))
    have D := below_alloc0 (below_alloc0 (Below.refl w.heap.size w) (bxSe ⟨#[]⟩ 0 0 0 0 ⟨#[]⟩)) (bxSe u0 i0 a0 p0 q0 t0)
    obtain ⟨g, hgg⟩ : ∃ g, w.heap.size = g := ⟨_, rfl⟩
    obtain ⟨W0, hW0⟩ : ∃ W0, (w.alloc (bxSe ⟨#[]⟩ 0 0 0 0 ⟨#[]⟩)).alloc (bxSe u0 i0 a0 p0 q0 t0) = W0 := ⟨_, rfl⟩
    clear hn hnc hm hX1 hX2 hB
    go_enter Tryz.func115, Tryz.ntmps115
    go_wp2_with fail
    case' inl => obtain ⟨rfl, rfl⟩ := HX1.out (by first | assumption | omega)
    case' inr => obtain ⟨hXe, rfl⟩ := HX2.out (by first | assumption | omega); rw [← hXe]; clear hXe
    all_goals
      rw [HM.out]
      rw [hgg] at hf hg
      rw [hW0] at hf hg D
      try rw [hgg]
      try rw [hW0]
      clear hW0 HX1 HX2 c0 c1 c2 c3 c4 c5 HM x1 x2 hne
    all_goals
      go_loopw [17] (fun v17 wr => ∃ (k : Nat) (u : ByteArray) (i a p q : Int) (t : ByteArray), v17 = .int .i64 k ∧ k ≤ m ∧ Hid (bestSe ⟨u0, i0, (a0, p0, q0, t0)⟩ (l.take k) = ⟨u, i, (a, p, q, t)⟩) ∧ wr.heap[g + 1]? = some (bxSe u i a p q t) ∧ wr.heap[g]? = some (bxSe ⟨#[]⟩ 0 0 0 0 ⟨#[]⟩) ∧ Below w.heap.size w wr) (fun v17 _ => (m - intOf v17).toNat)
      case atStart => exact ⟨0, u0, i0, a0, p0, q0, t0, rfl, Nat.zero_le _, rfl, hf, hg, D⟩
      case round =>
        clear hf hg D
        obtain ⟨k, u, i, a, p, q, t, rfl, hk, HB, hf, hg, D⟩ := hrel
        by_cases hkm : k < m
        · have hkl : k < l.length := by have := EM.out; omega
          obtain ⟨⟨u', i', a', p', q', t'⟩, he⟩ : ∃ e, l[k] = e := ⟨_, rfl⟩
          obtain ⟨c0, c1, c2, c3, c4, c5⟩ := rowsSe (hr.below D) k hkl u' i' a' p' q' t' he
          have HE : Hid (bestSe ⟨u0, i0, (a0, p0, q0, t0)⟩ (l.take (k + 1)) = if betR i' p' q' i p q then ⟨u', i', (a', p', q', t')⟩ else ⟨u, i, (a, p, q, t)⟩) := by
            show _ = _
            rw [List.take_succ_eq_append_getElem hkl, bestSe_snoc, he, HB.out]
            rfl
          clear he
          have bb := below_box (w := wr) (bxSe u' i' a' p' q' t')
          have hh := heap_alloc_new wr (bxSe u' i' a' p' q' t')
          replace hf := hcall hf bb
          replace hg := hcall hg bb
          replace D := below_call D bb
          clear bb
          obtain ⟨f0, f1, f2, f3, f4, f5, fz⟩ := cellsSe u i a p q t hf
          obtain ⟨h0, h1, h2, h3, h4, h5, hz⟩ := cellsSe u' i' a' p' q' t' hh
          have x3 : (0 : Int) ≤ (k : Int) := by omega
          have x4 : (k : Int) < (m : Int) := by omega
          obtain ⟨s, hss⟩ : ∃ s, wr.heap.size = s := ⟨_, rfl⟩
          go_wp2_with fail
          rw [hss] at h0 h1 h2 h3 h4 h5 hh
          try rw [hss]
          replace hf : (wr.alloc (bxSe u' i' a' p' q' t')).drew.heap[g + 1]? = _ := hf
          replace hg : (wr.alloc (bxSe u' i' a' p' q' t')).drew.heap[g]? = _ := hg
          replace hh : (wr.alloc (bxSe u' i' a' p' q' t')).drew.heap[s]? = _ := hh
          replace D : Below w.heap.size w (wr.alloc (bxSe u' i' a' p' q' t')).drew := D.drew
          replace f0 : (wr.alloc (bxSe u' i' a' p' q' t')).drew.cell? _ = _ := f0
          replace f1 : (wr.alloc (bxSe u' i' a' p' q' t')).drew.cell? _ = _ := f1
          replace f2 : (wr.alloc (bxSe u' i' a' p' q' t')).drew.cell? _ = _ := f2
          replace f3 : (wr.alloc (bxSe u' i' a' p' q' t')).drew.cell? _ = _ := f3
          replace f4 : (wr.alloc (bxSe u' i' a' p' q' t')).drew.cell? _ = _ := f4
          replace f5 : (wr.alloc (bxSe u' i' a' p' q' t')).drew.cell? _ = _ := f5
          replace h0 : (wr.alloc (bxSe u' i' a' p' q' t')).drew.cell? _ = _ := h0
          replace h1 : (wr.alloc (bxSe u' i' a' p' q' t')).drew.cell? _ = _ := h1
          replace h2 : (wr.alloc (bxSe u' i' a' p' q' t')).drew.cell? _ = _ := h2
          replace h3 : (wr.alloc (bxSe u' i' a' p' q' t')).drew.cell? _ = _ := h3
          replace h4 : (wr.alloc (bxSe u' i' a' p' q' t')).drew.cell? _ = _ := h4
          replace h5 : (wr.alloc (bxSe u' i' a' p' q' t')).drew.cell? _ = _ := h5
          refine Held.start (ops := opsbba) (S := fun w' => w'.cell? ⟨g + 1, 0, none⟩ = some (.string u) ∧ w'.cell? ⟨g + 1, 1, none⟩ = some (.int .i64 i) ∧ w'.cell? ⟨g + 1, 2, none⟩ = some (.int .i64 a) ∧ w'.cell? ⟨g + 1, 3, none⟩ = some (.int .i64 p) ∧ w'.cell? ⟨g + 1, 4, none⟩ = some (.int .i64 q) ∧ w'.cell? ⟨g + 1, 5, none⟩ = some (.string t) ∧ w'.cell? ⟨s, 0, none⟩ = some (.string u') ∧ w'.cell? ⟨s, 1, none⟩ = some (.int .i64 i') ∧ w'.cell? ⟨s, 2, none⟩ = some (.int .i64 a') ∧ w'.cell? ⟨s, 3, none⟩ = some (.int .i64 p') ∧ w'.cell? ⟨s, 4, none⟩ = some (.int .i64 q') ∧ w'.cell? ⟨s, 5, none⟩ = some (.string t')) ordbba 5 (by kernel_rfl) rgbba.siz (by kernel_rfl) ⟨f0,f1,f2,f3,f4,f5,h0,h1,h2,h3,h4,h5⟩ (fun hHeld => ?_)
          iterate 2
            refine Held.tw rgbba ?_
            try simp only [Act.put, zA, zB, zC, zD, zE, zF]
          refine Held.only (k := 2) (i := 1) (by kernel_rfl) (by kernel_rfl) rfl (by kernel_rfl) (fun K hK => ?_)
          go_simp
          go_at_call 162
          with_reducible refine (bSlot_calls u' i' a' p' q' t' _).mono ?_
          rintro e y1 ⟨rfl, b⟩
          replace hf := hcall hf b
          replace hg := hcall hg b
          replace hh := hcall hh b
          replace D := below_call D b
          replace f0 := cell_below b f0
          replace f1 := cell_below b f1
          replace f2 := cell_below b f2
          replace f3 := cell_below b f3
          replace f4 := cell_below b f4
          replace f5 := cell_below b f5
          replace h0 := cell_below b h0
          replace h1 := cell_below b h1
          replace h2 := cell_below b h2
          replace h3 := cell_below b h3
          replace h4 := cell_below b h4
          replace h5 := cell_below b h5
          clear b
          refine hK.out _ _ (by (try dsimp only); (exact ⟨f0,f1,f2,f3,f4,f5,h0,h1,h2,h3,h4,h5⟩)) (fun hHeld => ?_)
          clear hK K
          try simp only [Act.put, zA, zB, zC, zD, zE, zF]
          refine Held.only (k := 3) (i := 3) (by kernel_rfl) (by kernel_rfl) rfl (by kernel_rfl) (fun K hK => ?_)
          go_simp
          go_at_call 162
          with_reducible refine (bSlot_calls u i a p q t _).mono ?_
          rintro e y2 ⟨rfl, b⟩
          replace hf := hcall hf b
          replace hg := hcall hg b
          replace hh := hcall hh b
          replace D := below_call D b
          replace f0 := cell_below b f0
          replace f1 := cell_below b f1
          replace f2 := cell_below b f2
          replace f3 := cell_below b f3
          replace f4 := cell_below b f4
          replace f5 := cell_below b f5
          replace h0 := cell_below b h0
          replace h1 := cell_below b h1
          replace h2 := cell_below b h2
          replace h3 := cell_below b h3
          replace h4 := cell_below b h4
          replace h5 := cell_below b h5
          clear b
          refine hK.out _ _ (by (try dsimp only); (exact ⟨f0,f1,f2,f3,f4,f5,h0,h1,h2,h3,h4,h5⟩)) (fun hHeld => ?_)
          clear hK K
          try simp only [Act.put, zA, zB, zC, zD, zE, zF]
          refine Held.only (k := 4) (i := 4) (by kernel_rfl) (by kernel_rfl) rfl (by kernel_rfl) (fun K hK => ?_)
          go_simp
          go_at_call 161
          with_reducible refine (hBetter_calls i' p' q' i p q _).mono ?_
          rintro e y3 ⟨rfl, b⟩
          replace hf := hcall hf b
          replace hg := hcall hg b
          replace hh := hcall hh b
          replace D := below_call D b
          replace f0 := cell_below b f0
          replace f1 := cell_below b f1
          replace f2 := cell_below b f2
          replace f3 := cell_below b f3
          replace f4 := cell_below b f4
          replace f5 := cell_below b f5
          replace h0 := cell_below b h0
          replace h1 := cell_below b h1
          replace h2 := cell_below b h2
          replace h3 := cell_below b h3
          replace h4 := cell_below b h4
          replace h5 := cell_below b h5
          clear b
          refine hK.out _ _ (by (try dsimp only); (exact ⟨f0,f1,f2,f3,f4,f5,h0,h1,h2,h3,h4,h5⟩)) (fun hHeld => ?_)
          clear hK K
          try simp only [Act.put, zA, zB, zC, zD, zE, zF]
          refine wpAnyH_done (by kernel_rfl) ?_ _
          obtain ⟨r, hr'⟩ : ∃ r, betR i' p' q' i p q = r := ⟨_, rfl⟩
          rw [hr'] at HE
          try rw [hr']
          clear hr'
          have fz : g + 1 < y3.heap.size := (Array.getElem?_eq_some_iff.1 hf).1
          have fr := frozenG hf
          cases r
          · go_wp2
            exact ⟨⟨k + 1, u, i, a, p, q, t, by go_num, by omega, HE, hf, hg, D⟩, by simp [intOf]; omega⟩
          · go_wp2_with fail
            exact ⟨⟨k + 1, u', i', a', p', q', t', by go_num, by omega, HE, set6Se hf u' i' a' p' q' t', keep6 hg (by omega) _ _ _ _ _ _, below6 D (by omega) _ _ _ _ _ _⟩, by simp [intOf]; omega⟩
        · have hkm2 : k = m := by omega
          subst hkm2
          obtain ⟨f0, f1, f2, f3, f4, f5, fz⟩ := cellsSe u i a p q t hf
          obtain ⟨g0, g1, g2, g3, g4, g5, gz⟩ := cellsSe _ _ _ _ _ _ hg
          have fr := frozenG hg
          have HF : Hid ((bestL (⟨u0, i0, (a0, p0, q0, t0)⟩ :: l)) = (⟨u, i, (a, p, q, t)⟩, true)) := by
            show _ = _
            have := HB.out
            rw [List.take_of_length_le (Nat.le_of_eq EM.out.symm)] at this
            unfold bestL
            simp only [this]
          go_wp2_with fail
          exact bodyPost_ret (v := .tuple #[ag6 u i a p q t, .bool true]) (by simp [results, Tryz.results115, go_sem, World.cell?, World.setCell, Array.getElem?_modify, hg]) rfl ⟨by rw [HF.out], below6 D (by omega) _ _ _ _ _ _⟩
end Go.Proofs.YtbpfcjdjhponaaaGreat
namespace Go.Proofs.YtbpfcjdjhponaaaGreat
open Go.RowKit
open Sp
theorem keep1 {w : World} {g k i : Nat} {v : Value} {o : Option Obj} (h : w.heap[k]? = o) (hk : g ≠ k) : (w.setCell ⟨g, i, none⟩ v).heap[k]? = o := by
  simp [World.setCell, Array.getElem?_modify, hk, h]
abbrev bxPv (a p q : Int) (t : ByteArray) : Obj := .cells #[.int .i64 a, .int .i64 p, .int .i64 q, .string t] 27
theorem cellsPv {W : World} {g : Nat} {a p q : Int} {t : ByteArray} (h : W.heap[g]? = some (bxPv a p q t)) : W.cell? ⟨g, 0, none⟩ = some (.int .i64 a) ∧ W.cell? ⟨g, 1, none⟩ = some (.int .i64 p) ∧ W.cell? ⟨g, 2, none⟩ = some (.int .i64 q) ∧ W.cell? ⟨g, 3, none⟩ = some (.string t) ∧ g < W.heap.size :=
  ⟨by simp [World.cell?, h], by simp [World.cell?, h], by simp [World.cell?, h], by simp [World.cell?, h], (Array.getElem?_eq_some_iff.1 h).1⟩
theorem below4 {B : Nat} {a w : World} {g : Nat} (h : Below B a w) (hg : B ≤ g) (v0 v1 v2 v3 : Value) : Below B a ((((w.setCell ⟨g, 0, none⟩ v0).setCell ⟨g, 1, none⟩ v1).setCell ⟨g, 2, none⟩ v2).setCell ⟨g, 3, none⟩ v3) :=
  bset (bset (bset (bset h g 0 v0 hg) g 1 v1 hg) g 2 v2 hg) g 3 v3 hg
set_option maxHeartbeats 16000000 in
set_option maxRecDepth 100000 in
theorem bValue_calls (n c : Nat) (A : Option Addr) (l : List Se) (a p q : Int) (t : ByteArray) (b : Bool) (w : World) (hl : Row enSe 6 w (.slice A n c) l) (hv : Hid (viewL l = ((a, p, q, t), b))) :
    Calls Tryz.prog 63 #[.slice A n c] w fun e w' => e = .returned (.tuple #[.agg #[.int .i64 a, .int .i64 p, .int .i64 q, .string t], .bool b]) ∧ Below w.heap.size w w' := by
  have EA := Lib.hid hl.len_eq
  have hn63 : n ≤ 9223372036854775807 := by have := hl.len; have := EA.out; omega
  have hB := below_box (w := w) (bxPv 0 0 0 ⟨#[]⟩)
  have hg := heap_alloc_new w (bxPv 0 0 0 ⟨#[]⟩)
  have hl1 := hl.below hB
  obtain ⟨g, hgg⟩ : ∃ g, w.heap.size = g := ⟨_, rfl⟩
  obtain ⟨W0, hW0⟩ : ∃ W0, w.alloc (bxPv 0 0 0 ⟨#[]⟩) = W0 := ⟨_, rfl⟩
  go_enter Tryz.func63, Tryz.ntmps63
  go_wp2_with fail
  rw [hW0] at hl1 hg hB
  rw [hgg] at hg
  try rw [hgg]
  try rw [hW0]
  clear hW0
  go_at_call 115
  with_reducible refine (bBest_calls n c A l _ hl1).mono ?_
  rintro e w1 ⟨rfl, b1⟩
  obtain ⟨⟨⟨u1, i1, a1, p1, q1, t1⟩, y⟩, hy⟩ : ∃ r, bestL l = r := ⟨_, rfl⟩
  have HV : Hid (showL a1 l = a) ∧ Hid (p1 = p) ∧ Hid (q1 = q) ∧ Hid (t1 = t) ∧ Hid (y = b) := by
    have := hv.out
    unfold viewL at this
    rw [hy] at this
    simp only [Prod.mk.injEq] at this
    obtain ⟨⟨h1, h2, h3, h4⟩, h5⟩ := this
    exact ⟨h1, h2, h3, h4, h5⟩
  obtain ⟨HA, HP, HQ, HT, HY⟩ := HV
  rw [hy]
  clear hy
  have D := below_call hB b1
  replace hg := hcall hg b1
  clear b1
  have hs := heap_alloc_new w1 (bxSe u1 i1 a1 p1 q1 t1)
  have bs := below_box (w := w1) (bxSe u1 i1 a1 p1 q1 t1)
  have hz := heap_alloc_new (w1.alloc (bxSe u1 i1 a1 p1 q1 t1)) (bxPv a1 p1 q1 t1)
  have bz := below_box (w := w1.alloc (bxSe u1 i1 a1 p1 q1 t1)) (bxPv a1 p1 q1 t1)
  rw [size_alloc] at hz
  have hgz := (Array.getElem?_eq_some_iff.1 hg).1
  replace hg := hcall (hcall hg bs) bz
  replace D := below_call (below_call D bs) bz
  obtain ⟨s0, s1, s2, s3, s4, s5, sz⟩ := cellsSe u1 i1 a1 p1 q1 t1 hs
  clear bs bz hs
  obtain ⟨s, hss⟩ : ∃ s, w1.heap.size = s := ⟨_, rfl⟩
  obtain ⟨W1, hW1⟩ : ∃ W1, (w1.alloc (bxSe u1 i1 a1 p1 q1 t1)).alloc (bxPv a1 p1 q1 t1) = W1 := ⟨_, rfl⟩
  have hgs : g < s := by omega
  go_wp2_with fail
  rw [hss] at hz
  rw [hW1] at hz hg D
  try rw [hss]
  try rw [hW1]
  clear hW1 hl1 s0 s1 s2 s3 s4 s5 sz hgz
  go_loopw [18] (fun v18 wr => ∃ (k : Nat) (m : Int), v18 = .int .i64 k ∧ k ≤ n ∧ Hid (showL a1 (l.take k) = m) ∧ wr.heap[s + 1]? = some (bxPv m p1 q1 t1) ∧ wr.heap[g]? = some (bxPv 0 0 0 ⟨#[]⟩) ∧ Below w.heap.size w wr) (fun v18 _ => (n - intOf v18).toNat)
  case atStart => exact ⟨0, a1, rfl, Nat.zero_le _, rfl, hz, hg, D⟩
  case round =>
    clear hz hg D
    obtain ⟨k, m, rfl, hk, HM, hz, hg, D⟩ := hrel
    by_cases hkn : k < n
    · have hkl : k < l.length := by have := EA.out; omega
      obtain ⟨⟨u', i', a', p', q', t'⟩, he⟩ : ∃ e, l[k] = e := ⟨_, rfl⟩
      obtain ⟨ad, rfl, c0, c1, c2, c3, c4, c5⟩ := rowSe (hl.below D) k hkl u' i' a' p' q' t' he
      have HM2 : Hid (showL a1 (l.take (k + 1)) = max m a') := by
        show _ = _
        rw [List.take_succ_eq_append_getElem hkl, showL_snoc, HM.out, he]
      clear he
      obtain ⟨f0, f1, f2, f3, fz⟩ := cellsPv hz
      have fr := frozenG hz
      have x3 : (0 : Int) ≤ (k : Int) := by omega
      have x4 : (k : Int) < (n : Int) := by omega
      have bb := below_box (w := wr) (bxSe u' i' a' p' q' t')
      have hh := heap_alloc_new wr (bxSe u' i' a' p' q' t')
      replace c0 := c0
      have hz1 := hcall hz bb
      obtain ⟨h0, h1, h2, h3, h4, h5, hhz⟩ := cellsSe u' i' a' p' q' t' hh
      obtain ⟨f0', f1', f2', f3', fz'⟩ := cellsPv hz1
      have fr' := frozenG hz1
      have hg1 := hcall hg bb
      have D1 := below_call D bb
      go_wp2_with fail
      exact ⟨⟨k + 1, max m a', by go_num, by omega, HM2, halloc (setAt6 hz 0 _) _, halloc (keep1 hg (by omega)) _, below_alloc0 (bset D (s + 1) 0 _ (by omega)) _⟩, by simp [intOf]; omega⟩
    · have hkn2 : k = n := by omega
      subst hkn2
      obtain ⟨f0, f1, f2, f3, fz⟩ := cellsPv hz
      obtain ⟨g0, g1, g2, g3, gz⟩ := cellsPv hg
      have fr := frozenG hg
      have HF : Hid (m = a) := by
        show _ = _
        rw [← HA.out, ← HM.out, List.take_of_length_le (Nat.le_of_eq EA.out.symm)]
      go_wp2_with fail
      exact bodyPost_ret (v := .tuple #[.agg #[.int .i64 m, .int .i64 p1, .int .i64 q1, .string t1], .bool y]) (by simp [results, Tryz.results63, go_sem, World.cell?, World.setCell, Array.getElem?_modify, hg]) rfl ⟨by rw [HF.out, HP.out, HQ.out, HT.out, HY.out], below4 D (by omega) _ _ _ _⟩
end Go.Proofs.YtbpfcjdjhponaaaGreat
namespace Go.Proofs.YtbpfcjdjhponaaaGreat
namespace Sp
structure Evt where
  k : Int
  u : ByteArray
  o : ByteArray
  i : Int
  v : Int × Int × Int × ByteArray
instance : DecidableEq Evt := fun a b => decidable_of_iff (a.k = b.k ∧ a.u = b.u ∧ a.o = b.o ∧ a.i = b.i ∧ a.v = b.v) ⟨fun h => by cases a; cases b; simp only at h; obtain ⟨h1, h2, h3, h4, h5⟩ := h; subst h1 h2 h3 h4 h5; rfl, fun h => by subst h; exact ⟨rfl, rfl, rfl, rfl, rfl⟩⟩
abbrev Sta := List En × List Se
def mayT (s : Sta) : Bool := mayRo s.1 && maySe s.2
def applyT (s : Sta) (e : Evt) : Sta × Int :=
  if mayT s = false then (s, 1)
  else if 1 ≤ e.k ∧ e.k ≤ 6 then (((doRo s.1 e.k e.u e.o).1, s.2), (doRo s.1 e.k e.u e.o).2)
  else if e.k = 7 then ((s.1, (putSe s.2 ⟨e.u, e.i, e.v⟩).1), (putSe s.2 ⟨e.u, e.i, e.v⟩).2)
  else if e.k = 8 then ((s.1, (dropSe s.2 (e.u, e.i)).1), (dropSe s.2 (e.u, e.i)).2)
  else (s, 1)
def allT : Sta → List Evt → Sta × List Int
  | s, [] => (s, [])
  | s, e :: l => ((allT (applyT s e).1 l).1, (applyT s e).2 :: (allT (applyT s e).1 l).2)
theorem dropSe_err {l m : List Se} {k : SeK} {e : Int} (h : dropSe l k = (m, e)) (he : e ≠ 0) : m = l := by
  unfold dropSe at h
  split at h
  · injection h with h1 h2; exact h1.symm
  · split at h
    · injection h with h1 h2; exact absurd h2.symm he
    · injection h with h1 h2; exact h1.symm
theorem allT_app (s : Sta) (l m : List Evt) : allT s (l ++ m) = ((allT (allT s l).1 m).1, (allT s l).2 ++ (allT (allT s l).1 m).2) := by
  induction l generalizing s with
  | nil => rfl
  | cons e l ih => simp only [List.cons_append, allT, ih]
theorem allT_snoc (s : Sta) (l : List Evt) (e : Evt) : allT s (l ++ [e]) = ((applyT (allT s l).1 e).1, (allT s l).2 ++ [(applyT (allT s l).1 e).2]) := by rw [allT_app]; rfl
end Sp
end Go.Proofs.YtbpfcjdjhponaaaGreat
namespace Go.Proofs.YtbpfcjdjhponaaaGreat
open Go.RowKit
open Sp
def enEv (x : Evt) : List Value := [.int .i64 x.k, .string x.u, .string x.o, .int .i64 x.i, .int .i64 x.v.1, .int .i64 x.v.2.1, .int .i64 x.v.2.2.1, .string x.v.2.2.2]
theorem enEv_len (x : Evt) : (enEv x).length = 8 := rfl
abbrev bxEv (a_ : Int) (b_ : ByteArray) (c_ : ByteArray) (d_ : Int) (e_ : Int) (f_ : Int) (g_ : Int) (h_ : ByteArray) : Obj := .cells #[.int .i64 a_, .string b_, .string c_, .int .i64 d_, .int .i64 e_, .int .i64 f_, .int .i64 g_, .string h_] 29
theorem rowEv {W : World} {A : Option Addr} {n c : Nat} {l : List Evt} (h : Row enEv 8 W (.slice A n c) l) (i : Nat) (hi : i < l.length) (a_ : Int) (b_ : ByteArray) (c_ : ByteArray) (d_ : Int) (e_ : Int) (f_ : Int) (g_ : Int) (h_ : ByteArray) (he : l[i] = ⟨a_, b_, c_, d_, e_, f_, g_, h_⟩) :
    ∃ ad, A = some ad ∧ W.cell? (ad.add (i * 8)) = some (.int .i64 a_) ∧ W.cell? ⟨(ad.add (i * 8)).block, (ad.add (i * 8)).off + 1, none⟩ = some (.string b_) ∧ W.cell? ⟨(ad.add (i * 8)).block, (ad.add (i * 8)).off + 2, none⟩ = some (.string c_) ∧ W.cell? ⟨(ad.add (i * 8)).block, (ad.add (i * 8)).off + 3, none⟩ = some (.int .i64 d_) ∧ W.cell? ⟨(ad.add (i * 8)).block, (ad.add (i * 8)).off + 4, none⟩ = some (.int .i64 e_) ∧ W.cell? ⟨(ad.add (i * 8)).block, (ad.add (i * 8)).off + 5, none⟩ = some (.int .i64 f_) ∧ W.cell? ⟨(ad.add (i * 8)).block, (ad.add (i * 8)).off + 6, none⟩ = some (.int .i64 g_) ∧ W.cell? ⟨(ad.add (i * 8)).block, (ad.add (i * 8)).off + 7, none⟩ = some (.string h_) := by
  obtain ⟨ad, e, hc⟩ := h.get enEv_len i hi
  rw [he] at hc
  exact ⟨ad, e, hc 0 (by omega), hc 1 (by omega), hc 2 (by omega), hc 3 (by omega), hc 4 (by omega), hc 5 (by omega), hc 6 (by omega), hc 7 (by omega)⟩
theorem rowsEv {W : World} {ad : Addr} {n c : Nat} {l : List Evt} (h : Row enEv 8 W (.slice (some ad) n c) l) (i : Nat) (hi : i < l.length) (a_ : Int) (b_ : ByteArray) (c_ : ByteArray) (d_ : Int) (e_ : Int) (f_ : Int) (g_ : Int) (h_ : ByteArray) (he : l[i] = ⟨a_, b_, c_, d_, e_, f_, g_, h_⟩) :
    W.cell? (ad.add (i * 8)) = some (.int .i64 a_) ∧ W.cell? ⟨(ad.add (i * 8)).block, (ad.add (i * 8)).off + 1, none⟩ = some (.string b_) ∧ W.cell? ⟨(ad.add (i * 8)).block, (ad.add (i * 8)).off + 2, none⟩ = some (.string c_) ∧ W.cell? ⟨(ad.add (i * 8)).block, (ad.add (i * 8)).off + 3, none⟩ = some (.int .i64 d_) ∧ W.cell? ⟨(ad.add (i * 8)).block, (ad.add (i * 8)).off + 4, none⟩ = some (.int .i64 e_) ∧ W.cell? ⟨(ad.add (i * 8)).block, (ad.add (i * 8)).off + 5, none⟩ = some (.int .i64 f_) ∧ W.cell? ⟨(ad.add (i * 8)).block, (ad.add (i * 8)).off + 6, none⟩ = some (.int .i64 g_) ∧ W.cell? ⟨(ad.add (i * 8)).block, (ad.add (i * 8)).off + 7, none⟩ = some (.string h_) := by
  obtain ⟨ad', e, hc⟩ := rowEv h i hi a_ b_ c_ d_ e_ f_ g_ h_ he
  injection e with e
  subst e
  exact hc
theorem cellsEv {W : World} {g : Nat} (a_ : Int) (b_ : ByteArray) (c_ : ByteArray) (d_ : Int) (e_ : Int) (f_ : Int) (g_ : Int) (h_ : ByteArray) (h : W.heap[g]? = some (bxEv a_ b_ c_ d_ e_ f_ g_ h_)) :
    W.cell? ⟨g, 0, none⟩ = some (.int .i64 a_) ∧ W.cell? ⟨g, 1, none⟩ = some (.string b_) ∧ W.cell? ⟨g, 2, none⟩ = some (.string c_) ∧ W.cell? ⟨g, 3, none⟩ = some (.int .i64 d_) ∧ W.cell? ⟨g, 4, none⟩ = some (.int .i64 e_) ∧ W.cell? ⟨g, 5, none⟩ = some (.int .i64 f_) ∧ W.cell? ⟨g, 6, none⟩ = some (.int .i64 g_) ∧ W.cell? ⟨g, 7, none⟩ = some (.string h_) ∧ g < W.heap.size :=
  ⟨by simp [World.cell?, h], by simp [World.cell?, h], by simp [World.cell?, h], by simp [World.cell?, h], by simp [World.cell?, h], by simp [World.cell?, h], by simp [World.cell?, h], by simp [World.cell?, h], (Array.getElem?_eq_some_iff.1 h).1⟩
end Go.Proofs.YtbpfcjdjhponaaaGreat
namespace Go.Proofs.YtbpfcjdjhponaaaGreat
open Go.RowKit
open Sp
abbrev vaIt (x : It) : Value := .agg #[.bool x.to, .bool x.fr, .bool x.ou, .bool x.in_, .bool x.bl]
set_option maxHeartbeats 8000000 in
set_option maxRecDepth 100000 in
theorem eqlIt (a_ b_ c_ d_ e_ a_' b_' c_' d_' e_' : Bool) (W : World) :
    (binOp .eql 103 (.agg #[.bool a_, .bool b_, .bool c_, .bool d_, .bool e_]) (.agg #[.bool a_', .bool b_', .bool c_', .bool d_', .bool e_'])).run Tryz.prog W = .ok (.bool ((a_ == a_' && (b_ == b_' && (c_ == c_' && (d_ == d_' && (e_ == e_'))))))) W := by
  cases h0 : a_ == a_'
  · simp [go_sem, h0]
  cases h1 : b_ == b_'
  · simp [go_sem, h0, h1]
  cases h2 : c_ == c_'
  · simp [go_sem, h0, h1, h2]
  cases h3 : d_ == d_'
  · simp [go_sem, h0, h1, h2, h3]
  cases h4 : e_ == e_' <;> simp [go_sem, h0, h1, h2, h3, h4]
theorem eqvIt (a_ b_ c_ d_ e_ a_' b_' c_' d_' e_' : Bool) : (a_ == a_' && (b_ == b_' && (c_ == c_' && (d_ == d_' && (e_ == e_'))))) = decide ((⟨a_, b_, c_, d_, e_⟩ : It) = ⟨a_', b_', c_', d_', e_'⟩) := by
  rw [Bool.eq_iff_iff, decide_eq_true_eq]
  simp only [Bool.and_eq_true, beq_iff_eq, It.mk.injEq]
end Go.Proofs.YtbpfcjdjhponaaaGreat
namespace Go.Proofs.YtbpfcjdjhponaaaGreat
open Go.RowKit
open Sp
abbrev agI (a b c d e : Bool) : Value := .agg #[.bool a, .bool b, .bool c, .bool d, .bool e]
abbrev agP (a b c d e a' b' c' d' e' : Bool) : Value := .agg #[.bool a, .bool b, .bool c, .bool d, .bool e, .bool a', .bool b', .bool c', .bool d', .bool e']
set_option maxHeartbeats 8000000 in
set_option maxRecDepth 100000 in
theorem blocked_calls (a b c d e a' b' c' d' e' : Bool) (w : World) :
    Calls Tryz.prog 127 #[agP a b c d e a' b' c' d' e'] w fun x w' => x = .returned (.bool (e || e')) ∧ Below w.heap.size w w' := by
  have hB := below_box (w := w) (.cells #[.bool a, .bool b, .bool c, .bool d, .bool e, .bool a', .bool b', .bool c', .bool d', .bool e'] 169)
  go_enter Tryz.func127, Tryz.ntmps127
  cases e <;> cases e'
  all_goals go_wp2
  all_goals go_ret
  all_goals exact ⟨rfl, hB⟩
set_option maxHeartbeats 8000000 in
set_option maxRecDepth 100000 in
theorem refMayI_calls (a b c d e a' b' c' d' e' : Bool) (w : World) :
    Calls Tryz.prog 84 #[agI a b c d e, agI a' b' c' d' e'] w fun x w' => x = .returned (.bool (fitI ⟨a, b, c, d, e⟩ ⟨a', b', c', d', e'⟩)) ∧ Below w.heap.size w w' := by
  go_enter Tryz.func84, Tryz.ntmps84
  go_wp2
  all_goals (try go_ret)
  all_goals (refine ⟨ret_bool ?_, by first | assumption | exact below_alloc0 (below_box _) _⟩)
  all_goals (unfold fitI)
  all_goals (simp_all)
set_option maxHeartbeats 8000000 in
set_option maxRecDepth 100000 in
theorem fits_calls (a b c d e a' b' c' d' e' : Bool) (w : World) :
    Calls Tryz.prog 148 #[agP a b c d e a' b' c' d' e'] w fun x w' => x = .returned (.bool (fitI ⟨a, b, c, d, e⟩ ⟨a', b', c', d', e'⟩)) ∧ Below w.heap.size w w' := by
  go_enter Tryz.func148, Tryz.ntmps148
  go_wp2_with fail
  go_region
  all_goals go_wp2
  all_goals (try go_ret)
  all_goals (refine ⟨ret_bool ?_, ?_⟩)
  all_goals (first | exact (below_alloc0 (below_alloc0 (below_box _) _) _).drew | exact below_alloc0 (below_alloc0 (below_box _) _) _ | skip)
  all_goals (unfold fitI)
  all_goals (simp_all)
set_option maxHeartbeats 8000000 in
set_option maxRecDepth 100000 in
theorem MayI_calls (a b c d e a' b' c' d' e' : Bool) (w : World) :
    Calls Tryz.prog 140 #[agI a b c d e, agI a' b' c' d' e'] w fun x w' => x = .returned (.bool (fitI ⟨a, b, c, d, e⟩ ⟨a', b', c', d', e'⟩)) ∧ Below w.heap.size w w' := by
  have hB := below_alloc0 (below_box (w := w) (.cells #[.bool a, .bool b, .bool c, .bool d, .bool e] 103)) (.cells #[.bool a', .bool b', .bool c', .bool d', .bool e'] 103)
  obtain ⟨r, hr⟩ : ∃ r, fitI ⟨a, b, c, d, e⟩ ⟨a', b', c', d', e'⟩ = r := ⟨_, rfl⟩
  rw [hr]
  have HR := Lib.hid hr
  clear hr
  go_enter Tryz.func140, Tryz.ntmps140
  go_wp2_with fail
  with_reducible refine (re_ (fits_calls a b c d e a' b' c' d' e' _) (ret_bool HR.out)).mono ?_
  rintro x w1 ⟨rfl, b1⟩
  go_wp2
  go_ret
  exact ⟨rfl, below_call hB b1⟩
set_option maxHeartbeats 8000000 in
set_option maxRecDepth 100000 in
theorem EmptyI_calls (a b c d e : Bool) (w : World) :
    Calls Tryz.prog 100 #[agI a b c d e] w fun x w' => x = .returned (.bool (emptyI ⟨a, b, c, d, e⟩)) ∧ Below w.heap.size w w' := by
  have hB := below_box (w := w) (.cells #[.bool a, .bool b, .bool c, .bool d, .bool e] 103)
  have hc := eqlIt a b c d e false false false false false
  rw [eqvIt] at hc
  go_enter Tryz.func100, Tryz.ntmps100
  go_wp2
  go_ret
  exact ⟨ret_bool (by cases a <;> cases b <;> cases c <;> cases d <;> cases e <;> rfl), hB⟩
set_option maxHeartbeats 8000000 in
set_option maxRecDepth 100000 in
theorem refEmptyI_calls (a b c d e : Bool) (w : World) :
    Calls Tryz.prog 85 #[agI a b c d e] w fun x w' => x = .returned (.bool (emptyI ⟨a, b, c, d, e⟩)) ∧ Below w.heap.size w w' := by
  have hB := below_box (w := w) (.cells #[.bool a, .bool b, .bool c, .bool d, .bool e] 103)
  have hc := eqlIt a b c d e false false false false false
  rw [eqvIt] at hc
  go_enter Tryz.func85, Tryz.ntmps85
  go_wp2
  go_ret
  exact ⟨ret_bool (by cases a <;> cases b <;> cases c <;> cases d <;> cases e <;> rfl), hB⟩
set_option maxHeartbeats 8000000 in
set_option maxRecDepth 100000 in
theorem SeesI_calls (a b c d e a' b' c' d' e' : Bool) (w : World) :
    Calls Tryz.prog 77 #[agI a b c d e, agI a' b' c' d' e'] w fun x w' => x = .returned (.bool (seesI ⟨a, b, c, d, e⟩ ⟨a', b', c', d', e'⟩)) ∧ Below w.heap.size w w' := by
  unfold seesI
  cases a with
  | false =>
    go_enter Tryz.func77, Tryz.ntmps77
    go_wp2
    go_ret
    exact ⟨rfl, below_alloc0 (below_box _) _⟩
  | true =>
    obtain ⟨r, hr⟩ : ∃ r, (e || e') = r := ⟨_, rfl⟩
    have hR : (!e && !e') = !r := by rw [← hr]; cases e <;> cases e' <;> rfl
    have HR := Lib.hid hr
    rw [show (true && (!e && !e')) = !r by rw [hR]; rfl]
    clear hr hR
    go_enter Tryz.func77, Tryz.ntmps77
    go_wp2_with fail
    with_reducible refine (re_ (blocked_calls true b c d e a' b' c' d' e' _) (ret_bool HR.out)).mono ?_
    rintro x w1 ⟨rfl, b1⟩
    go_wp2
    go_ret
    exact ⟨rfl, below_call (below_alloc0 (below_box _) _) b1⟩
end Go.Proofs.YtbpfcjdjhponaaaGreat
namespace Go.Proofs.YtbpfcjdjhponaaaGreat
open Go.RowKit
open Sp
end Go.Proofs.YtbpfcjdjhponaaaGreat
