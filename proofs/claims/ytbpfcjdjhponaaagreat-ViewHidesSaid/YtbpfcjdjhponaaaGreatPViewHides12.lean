import Derived.Deep.QuietTactic
import Derived.BigQuiet
import Derived.Test.YtbpfcjdjhponaaaGreatProg
import Derived.Deep.RegionLaw
import Derived.Deep.AppendLies
import Derived.Test.YtbpfcjdjhponaaaGreatPViewHides11
set_option linter.unusedVariables false
set_option linter.unusedSimpArgs false
namespace Go.Proofs.YtbpfcjdjhponaaaGreat
open Go.RowKit
open Sp
set_option maxHeartbeats 8000000 in
set_option maxRecDepth 100000 in
theorem sameSn (n c n2 c2 : Nat) (A B : Option Addr) (l m : List Sn) (w : World) (hl : Row enSn 5 w (.slice A n c) l) (hm : Row enSn 5 w (.slice B n2 c2) m) :
    Calls Tryz.prog 21 #[.slice A n c, .slice B n2 c2] w fun e w' => e = .returned (.bool (decide (l = m))) ∧ Below w.heap.size w w' := by
  have EA := Lib.hid hl.len_eq
  have EB := Lib.hid hm.len_eq
  have hnl : n ≤ 9223372036854775807 := by rw [EA.out]; exact hl.len
  obtain ⟨r, hr⟩ : ∃ r, decide (l = m) = r := ⟨_, rfl⟩
  rw [hr]
  have HR := Lib.hid hr
  clear hr
  by_cases hn : n = n2
  · subst hn
    go_enter Tryz.func21, Tryz.ntmps21
    go_wp2
    go_loopw [5] (fun v5 wr => ∃ i : Nat, v5 = .int .i64 i ∧ i ≤ n ∧ Below w.heap.size w wr ∧ Hid (l.take i = m.take i)) (fun v5 _ => (n - intOf v5).toNat)
    case atStart => exact ⟨0, rfl, Nat.zero_le _, Below.refl _ _, rfl⟩
    case round =>
      obtain ⟨i, rfl, hi, hB, HT⟩ := hrel
      by_cases hlt : i < n
      · have hil : i < l.length := by have := EA.out; omega
        have him : i < m.length := by have := EB.out; omega
        obtain ⟨⟨a_, b_, c_, d_, e_⟩, he⟩ : ∃ e, l[i] = e := ⟨_, rfl⟩
        obtain ⟨⟨a_', b_', c_', d_', e_'⟩, he'⟩ : ∃ e, m[i] = e := ⟨_, rfl⟩
        obtain ⟨ad, rfl, c0, c1, c2, c3, c4⟩ := rowSn (hl.below hB) i hil a_ b_ c_ d_ e_ he
        obtain ⟨bd, rfl, d0, d1, d2, d3, d4⟩ := rowSn (hm.below hB) i him a_' b_' c_' d_' e_' he'
        have HE := Lib.hid he
        have HE' := Lib.hid he'
        clear he he'
        have x1 : (0 : Int) ≤ (i : Int) := by omega
        have x2 : (i : Int) < (n : Int) := by omega
        have hcmp := neqSn a_ b_ c_ d_ e_ a_' b_' c_' d_' e_'
        rw [eqvSn] at hcmp
        obtain ⟨b, hb⟩ : ∃ b, decide ((⟨a_, b_, c_, d_, e_⟩ : Sn) = ⟨a_', b_', c_', d_', e_'⟩) = b := ⟨_, rfl⟩
        rw [hb] at hcmp
        have HB := Lib.hid hb
        clear hb
        cases b with
        | true =>
          have HEQ : Hid (l[i] = m[i]) := by show _ = _; rw [HE.out, HE'.out]; exact of_decide_eq_true HB.out
          go_wp2_with fail
          go_region
          have hB1 : Below w.heap.size w wr.drew := hB.drew
          go_wp2
          exact ⟨⟨i + 1, by go_num, by omega, hB1, by show _ = _; rw [List.take_succ_eq_append_getElem hil, List.take_succ_eq_append_getElem him, HT.out, HEQ.out]⟩, by simp [intOf]; omega⟩
        | false =>
          have HNE : Hid (r = false) := by
            show _ = _
            rw [← HR.out]
            refine decide_eq_false fun h => ?_
            subst h
            exact of_decide_eq_false HB.out (by rw [← HE.out, ← HE'.out])
          go_wp2_with fail
          go_region
          have hB1 : Below w.heap.size w wr.drew := hB.drew
          go_wp2
          go_ret
          rw [HNE.out]
          exact ⟨rfl, hB1⟩
      · have hin : i = n := by omega
        subst hin
        have HEQ : Hid (r = true) := by
          show _ = _
          rw [← HR.out]
          have h1 : l.take i = l := List.take_of_length_le (by rw [EA.out]; exact Nat.le_refl _)
          have h2 : m.take i = m := List.take_of_length_le (by rw [EB.out]; exact Nat.le_refl _)
          refine decide_eq_true ?_
          rw [← h1, ← h2]; exact HT.out
        go_wp2
        go_ret
        rw [HEQ.out]
        exact ⟨rfl, hB⟩
  · have HNE : Hid (r = false) := by
      show _ = _
      rw [← HR.out]
      refine decide_eq_false fun h => ?_
      have h1 := EA.out
      have h2 := EB.out
      rw [h] at h1
      omega
    have hnb : ((n : Int) == (n2 : Int)) = false := by simpa using (by omega : ¬ (n : Int) = n2)
    clear hn
    go_enter Tryz.func21, Tryz.ntmps21
    go_wp2
    go_ret
    rw [HNE.out]
    exact ⟨rfl, Below.refl _ _⟩
set_option maxHeartbeats 8000000 in
set_option maxRecDepth 100000 in
theorem sameCh (n c n2 c2 : Nat) (A B : Option Addr) (l m : List Ch) (w : World) (hl : Row enCh 6 w (.slice A n c) l) (hm : Row enCh 6 w (.slice B n2 c2) m) :
    Calls Tryz.prog 27 #[.slice A n c, .slice B n2 c2] w fun e w' => e = .returned (.bool (decide (l = m))) ∧ Below w.heap.size w w' := by
  have EA := Lib.hid hl.len_eq
  have EB := Lib.hid hm.len_eq
  have hnl : n ≤ 9223372036854775807 := by rw [EA.out]; exact hl.len
  obtain ⟨r, hr⟩ : ∃ r, decide (l = m) = r := ⟨_, rfl⟩
  rw [hr]
  have HR := Lib.hid hr
  clear hr
  by_cases hn : n = n2
  · subst hn
    go_enter Tryz.func27, Tryz.ntmps27
    go_wp2
    go_loopw [5] (fun v5 wr => ∃ i : Nat, v5 = .int .i64 i ∧ i ≤ n ∧ Below w.heap.size w wr ∧ Hid (l.take i = m.take i)) (fun v5 _ => (n - intOf v5).toNat)
    case atStart => exact ⟨0, rfl, Nat.zero_le _, Below.refl _ _, rfl⟩
    case round =>
      obtain ⟨i, rfl, hi, hB, HT⟩ := hrel
      by_cases hlt : i < n
      · have hil : i < l.length := by have := EA.out; omega
        have him : i < m.length := by have := EB.out; omega
        obtain ⟨⟨a_, b_, c_, d_, e_, f_⟩, he⟩ : ∃ e, l[i] = e := ⟨_, rfl⟩
        obtain ⟨⟨a_', b_', c_', d_', e_', f_'⟩, he'⟩ : ∃ e, m[i] = e := ⟨_, rfl⟩
        obtain ⟨ad, rfl, c0, c1, c2, c3, c4, c5⟩ := rowCh (hl.below hB) i hil a_ b_ c_ d_ e_ f_ he
        obtain ⟨bd, rfl, d0, d1, d2, d3, d4, d5⟩ := rowCh (hm.below hB) i him a_' b_' c_' d_' e_' f_' he'
        have HE := Lib.hid he
        have HE' := Lib.hid he'
        clear he he'
        have x1 : (0 : Int) ≤ (i : Int) := by omega
        have x2 : (i : Int) < (n : Int) := by omega
        have hcmp := neqCh a_ b_ c_ d_ e_ f_ a_' b_' c_' d_' e_' f_'
        rw [eqvCh] at hcmp
        obtain ⟨b, hb⟩ : ∃ b, decide ((⟨a_, b_, c_, d_, e_, f_⟩ : Ch) = ⟨a_', b_', c_', d_', e_', f_'⟩) = b := ⟨_, rfl⟩
        rw [hb] at hcmp
        have HB := Lib.hid hb
        clear hb
        cases b with
        | true =>
          have HEQ : Hid (l[i] = m[i]) := by show _ = _; rw [HE.out, HE'.out]; exact of_decide_eq_true HB.out
          go_wp2_with fail
          go_region
          have hB1 : Below w.heap.size w wr.drew := hB.drew
          go_wp2
          exact ⟨⟨i + 1, by go_num, by omega, hB1, by show _ = _; rw [List.take_succ_eq_append_getElem hil, List.take_succ_eq_append_getElem him, HT.out, HEQ.out]⟩, by simp [intOf]; omega⟩
        | false =>
          have HNE : Hid (r = false) := by
            show _ = _
            rw [← HR.out]
            refine decide_eq_false fun h => ?_
            subst h
            exact of_decide_eq_false HB.out (by rw [← HE.out, ← HE'.out])
          go_wp2_with fail
          go_region
          have hB1 : Below w.heap.size w wr.drew := hB.drew
          go_wp2
          go_ret
          rw [HNE.out]
          exact ⟨rfl, hB1⟩
      · have hin : i = n := by omega
        subst hin
        have HEQ : Hid (r = true) := by
          show _ = _
          rw [← HR.out]
          have h1 : l.take i = l := List.take_of_length_le (by rw [EA.out]; exact Nat.le_refl _)
          have h2 : m.take i = m := List.take_of_length_le (by rw [EB.out]; exact Nat.le_refl _)
          refine decide_eq_true ?_
          rw [← h1, ← h2]; exact HT.out
        go_wp2
        go_ret
        rw [HEQ.out]
        exact ⟨rfl, hB⟩
  · have HNE : Hid (r = false) := by
      show _ = _
      rw [← HR.out]
      refine decide_eq_false fun h => ?_
      have h1 := EA.out
      have h2 := EB.out
      rw [h] at h1
      omega
    have hnb : ((n : Int) == (n2 : Int)) = false := by simpa using (by omega : ¬ (n : Int) = n2)
    clear hn
    go_enter Tryz.func27, Tryz.ntmps27
    go_wp2
    go_ret
    rw [HNE.out]
    exact ⟨rfl, Below.refl _ _⟩
end Go.Proofs.YtbpfcjdjhponaaaGreat
namespace Go.Proofs.YtbpfcjdjhponaaaGreat
open Go.RowKit
open Sp
namespace Sp
theorem getT_at (l : List Sn) (q : ByteArray) (i : Nat) (hi : i < l.length) (h : ∀ j (hj : j < l.length), j < i → l[j].c ≠ q) (hq : l[i].c = q) : getT l q = (l[i].v, true) := by
  have e : getK Sn.c l q = some l[i] := by
    unfold getK
    rw [List.find?_eq_some_iff_getElem]
    exact ⟨decide_eq_true hq, i, hi, rfl, fun j hj => by simpa using h j (by omega) hj⟩
  unfold getT
  rw [e]
theorem getT_no (l : List Sn) (q : ByteArray) (h : ∀ j (hj : j < l.length), l[j].c ≠ q) : getT l q = ((0, 0, 0, ⟨#[]⟩), false) := by
  have e : getK Sn.c l q = none := by
    unfold getK
    rw [List.find?_eq_none]
    intro x hx
    obtain ⟨j, hj, rfl⟩ := List.getElem_of_mem hx
    simpa using h j hj
  unfold getT
  rw [e]
end Sp
theorem bodyPost_vt {P : Program} {fn : Func} {R : Ending → World → Prop} {a : Act} {w : World} {p u : Tmp} {ty : TypeId} (h : fn.results = #[.cell p ty, .tmp u]) (g : Nat) (t : TypeId) (cs : Array Value) (fr : Nat × Nat) (d : TypeDesc)
    (hp : a.tmps.getD p undef = .pointer (some ⟨g, 0, none⟩)) (hg : w.heap[g]? = some (.cells cs t fr))
    (hu : P.underlying ty = some d) (hd : (match d with | .struct _ | .array _ _ => true | _ => false) = true) (hi : (P.info? ty).map (·.size) = some cs.size)
    (hde : a.defers = []) (hR : R (.returned (.tuple #[.agg cs, a.tmps.getD u undef])) w) : bodyPost P fn R .ret a w := by
  refine bodyPost_ret ?_ hde hR
  have hp' : a.tmps[p]?.getD undef = .pointer (some ⟨g, 0, none⟩) := by simpa using hp
  simp [results, h, hp', asAddr, run_loadVar_row w g t ty cs fr d hg hu hd hi]
abbrev bxV (a p n : Int) (t : ByteArray) : Obj := .cells #[.int .i64 a, .int .i64 p, .int .i64 n, .string t] 27
theorem vopen {W : World} {g : Nat} {a p n : Int} {t : ByteArray} (h : W.heap[g]? = some (bxV a p n t)) : (W.cell? ⟨g, 0, none⟩ = some (.int .i64 a) ∧ W.cell? ⟨g, 1, none⟩ = some (.int .i64 p) ∧ W.cell? ⟨g, 2, none⟩ = some (.int .i64 n) ∧ W.cell? ⟨g, 3, none⟩ = some (.string t)) ∧
    (W.frozen? ⟨g, 0, none⟩ = false ∧ W.frozen? ⟨g, 1, none⟩ = false ∧ W.frozen? ⟨g, 2, none⟩ = false ∧ W.frozen? ⟨g, 3, none⟩ = false) ∧ g < W.heap.size :=
  ⟨⟨by simp [World.cell?, h], by simp [World.cell?, h], by simp [World.cell?, h], by simp [World.cell?, h]⟩, ⟨by simp [World.frozen?, h], by simp [World.frozen?, h], by simp [World.frozen?, h], by simp [World.frozen?, h]⟩, (Array.getElem?_eq_some_iff.1 h).1⟩
set_option maxHeartbeats 8000000 in
set_option maxRecDepth 100000 in
theorem contactsT_calls (n c : Nat) (A : Option Addr) (l : List Sn)  (w : World) (hl : Row enSn 5 w (.slice A n c) l) (hn : n ≤ 100000) :
    Calls Tryz.prog 120 #[.slice A n c] w fun e w' => ∃ v, e = .returned v ∧ Own enS 1 9 w' w.heap.size v (l.map Sn.c) ∧ Below w.heap.size w w' := by
  have EA := Lib.hid hl.len_eq
  go_enter Tryz.func120, Tryz.ntmps120
  go_wp2
  go_loopw [3, 8] (fun vo vc wr => ∃ (i : Nat) (ys : List ByteArray), vc = .int .i64 i ∧ i ≤ n ∧ ys.length ≤ i ∧ Hid (((l.take i).map Sn.c) = ys) ∧ Own enS 1 9 wr w.heap.size vo ys ∧ Below w.heap.size w wr) (fun _ vc _ => (n - intOf vc).toNat)
  case atStart => exact ⟨0, [], rfl, Nat.zero_le _, Nat.le_refl _, rfl, Own.nil _ _ _ _ _, Below.refl _ _⟩
  case round =>
    obtain ⟨i, ys, rfl, hi, hys, HT, hO, hB⟩ := hrel
    by_cases hlt : i < n
    · have hil : i < l.length := by have := EA.out; omega
      obtain ⟨⟨a_, b_, c_, d_, e_⟩, he⟩ : ∃ e, l[i] = e := ⟨_, rfl⟩
      obtain ⟨ad, rfl, c0, c1, c2, c3, c4⟩ := rowSn (hl.below hB) i hil a_ b_ c_ d_ e_ he
      have HE := Lib.hid he
      clear he
      have HT2 : Hid (((l.take (i + 1)).map Sn.c) = ys ++ [a_]) := by
        show _ = _
        rw [List.take_succ_eq_append_getElem hil, HE.out, List.map_append, HT.out]
        rfl
      have hO1 := hO.alloc (bxSn a_ b_ c_ d_ e_)
      have hB1 := below_alloc0 hB (bxSn a_ b_ c_ d_ e_)
      have HZ1 : Hid ((wr.alloc (bxSn a_ b_ c_ d_ e_)).heap.size = wr.heap.size + 1) := size_alloc _ _
      go_wp2_with (at_builtin; refine Own.append (w0 := w) w.heap.size rfl (.tmp 12) (.tmp 15) 51 9 (.string ⟨#[]⟩) 1 16 rfl Tryz.underlying51 info_str rfl (by decide) _ ys a_ [.string a_] rfl (by rw [HZ1.out]; rfl) rfl rfl (enS_one _) hO1 hB1 hB1.size (by omega) (by omega) ?_; intro v2 w2 hO2 hB2 _ _)
      exact ⟨⟨i + 1, ys ++ [a_], by go_num, by omega, by rw [List.length_append]; simp only [List.length_cons, List.length_nil]; omega, HT2, hO2, hB2⟩, by simp [intOf]; omega⟩
    · have hin : i = n := by omega
      subst hin
      have HF : Hid ((l.map Sn.c) = ys) := by
        show _ = _
        have := HT.out
        rwa [List.take_of_length_le (by rw [EA.out]; exact Nat.le_refl _)] at this
      go_wp2
      go_ret
      rw [HF.out]
      exact ⟨_, rfl, hO, hB⟩
set_option maxHeartbeats 8000000 in
set_option maxRecDepth 100000 in
theorem GetT_calls (n c : Nat) (A : Option Addr) (l : List Sn) (q : ByteArray) (w : World) (hl : Row enSn 5 w (.slice A n c) l) :
    Calls Tryz.prog 31 #[.slice A n c, .string q] w fun e w' => e = .returned (.tuple #[encV (getT l q).1, .bool (getT l q).2]) ∧ Below w.heap.size w w' := by
  have EA := Lib.hid hl.len_eq
  have hnl : n ≤ 9223372036854775807 := by rw [EA.out]; exact hl.len
  go_enter Tryz.func31, Tryz.ntmps31
  go_wp2
  go_loopw [10] (fun vc wr => ∃ (i : Nat), vc = .int .i64 i ∧ i ≤ n ∧ Below w.heap.size w wr ∧ wr.heap[w.heap.size]? = some (bxV 0 0 0 ⟨#[]⟩) ∧ Hid (∀ j (h : j < l.length), j < i → l[j].c ≠ q)) (fun vc _ => (n - intOf vc).toNat)
  case atStart => exact ⟨0, rfl, Nat.zero_le _, below_box _, heap_alloc_new w _, fun j _ h => absurd h (by omega)⟩
  case round =>
    obtain ⟨i, rfl, hi, hB, HX, HT⟩ := hrel
    by_cases hlt : i < n
    · have hil : i < l.length := by have := EA.out; omega
      obtain ⟨⟨a_, b_, c_, d_, e_⟩, he⟩ : ∃ e, l[i] = e := ⟨_, rfl⟩
      obtain ⟨ad, rfl, c0, c1, c2, c3, c4⟩ := rowSn (hl.below hB) i hil a_ b_ c_ d_ e_ he
      have HX1 := halloc HX (bxSn a_ b_ c_ d_ e_)
      have hB1 := below_alloc0 hB (bxSn a_ b_ c_ d_ e_)
      by_cases hq : a_ = q
      · have HF : Hid (getT l q = ((b_, c_, d_, e_), true)) := by
          show _ = _
          rw [getT_at l q i hil HT.out (by rw [he]; exact hq), he]
        clear he HT
        replace hq := hq.symm
        subst hq
        obtain ⟨⟨o0, o1, o2, o3⟩, ⟨f0, f1, f2, f3⟩, og⟩ := vopen HX1
        go_wp2
        (try simp only [Exit.inBlock, Exit.then])
        refine bodyPost_vt rfl w.heap.size 27 #[.int .i64 b_, .int .i64 c_, .int .i64 d_, .string e_] (0, 0) _ rfl ?_ Tryz.underlying27 rfl info_val rfl ⟨?_, ?_⟩
        · simp [World.setCell, Array.getElem?_modify, HX1]
        · rw [HF.out]; rfl
        · exact (((hB1.setCell (p := ⟨w.heap.size, 0, none⟩) (Nat.le_refl _) _).setCell (p := ⟨w.heap.size, 1, none⟩) (Nat.le_refl _) _).setCell (p := ⟨w.heap.size, 2, none⟩) (Nat.le_refl _) _).setCell (p := ⟨w.heap.size, 3, none⟩) (Nat.le_refl _) _
      · have HN : Hid (∀ j (h : j < l.length), j < i + 1 → l[j].c ≠ q) := fun j h hj => by
          rcases Nat.lt_or_ge j i with h' | h'
          · exact HT.out j h h'
          · obtain rfl : j = i := by omega
            rw [he]; exact hq
        have hne2 : (a_.toList == q.toList) = false := by simpa [toList_inj'] using hq
        have hne3 : ¬ a_.toList = q.toList := by simpa [toList_inj'] using hq
        clear hq he
        go_wp2
        exact ⟨⟨i + 1, by go_num, by omega, hB1, HX1, HN⟩, by simp [intOf]; omega⟩
    · have hin : i = n := by omega
      subst hin
      have HF : Hid (getT l q = ((0, 0, 0, ⟨#[]⟩), false)) := by
        show _ = _
        exact getT_no l q fun j hj => HT.out j hj (by rw [EA.out]; exact hj)
      have HX1 := HX
      have hB1 := hB
      clear HT
      obtain ⟨⟨o0, o1, o2, o3⟩, ⟨f0, f1, f2, f3⟩, og⟩ := vopen HX1
      go_wp2
      (try simp only [Exit.inBlock, Exit.then])
      refine bodyPost_vt rfl w.heap.size 27 #[.int .i64 0, .int .i64 0, .int .i64 0, .string ⟨#[]⟩] (0, 0) _ rfl ?_ Tryz.underlying27 rfl info_val rfl ⟨?_, ?_⟩
      · simp [World.setCell, Array.getElem?_modify, HX1]
      · rw [HF.out]; rfl
      · exact (((hB1.setCell (p := ⟨w.heap.size, 0, none⟩) (Nat.le_refl _) _).setCell (p := ⟨w.heap.size, 1, none⟩) (Nat.le_refl _) _).setCell (p := ⟨w.heap.size, 2, none⟩) (Nat.le_refl _) _).setCell (p := ⟨w.heap.size, 3, none⟩) (Nat.le_refl _) _
end Go.Proofs.YtbpfcjdjhponaaaGreat
namespace Go.Proofs.YtbpfcjdjhponaaaGreat
open Go.RowKit
open Sp
end Go.Proofs.YtbpfcjdjhponaaaGreat
namespace Go.Proofs.YtbpfcjdjhponaaaGreat
open Go.RowKit
open Sp
end Go.Proofs.YtbpfcjdjhponaaaGreat
namespace Go.Proofs.YtbpfcjdjhponaaaGreat
open Go.RowKit
open Sp
end Go.Proofs.YtbpfcjdjhponaaaGreat
namespace Go.Proofs.YtbpfcjdjhponaaaGreat
open Go.RowKit
open Sp
end Go.Proofs.YtbpfcjdjhponaaaGreat
namespace Go.Proofs.YtbpfcjdjhponaaaGreat
open Go.RowKit
open Sp
theorem getT_is (n c : Nat) (A : Option Addr) (l : List Sn) (q : ByteArray) (w : World) (x y z : Int) (t : ByteArray) (b : Bool) (hl : Row enSn 5 w (.slice A n c) l) (h : Hid (getT l q = ((x, y, z, t), b))) :
    Calls Tryz.prog 31 #[.slice A n c, .string q] w fun e w' => e = .returned (.tuple #[.agg #[.int .i64 x, .int .i64 y, .int .i64 z, .string t], .bool b]) ∧ Below w.heap.size w w' := by
  have := GetT_calls n c A l q w hl
  rw [h.out] at this
  exact this
theorem chopen {W : World} {g : Nat} {c : ByteArray} {o : Bool} {a p n : Int} {t : ByteArray} (h : W.heap[g]? = some (bxCh c o a p n t)) : (W.cell? ⟨g, 0, none⟩ = some (.string c) ∧ W.cell? ⟨g, 1, none⟩ = some (.bool o) ∧ W.cell? ⟨g, 2, none⟩ = some (.int .i64 a) ∧ W.cell? ⟨g, 3, none⟩ = some (.int .i64 p) ∧ W.cell? ⟨g, 4, none⟩ = some (.int .i64 n) ∧ W.cell? ⟨g, 5, none⟩ = some (.string t)) ∧
    (W.frozen? ⟨g, 0, none⟩ = false ∧ W.frozen? ⟨g, 1, none⟩ = false ∧ W.frozen? ⟨g, 2, none⟩ = false ∧ W.frozen? ⟨g, 3, none⟩ = false ∧ W.frozen? ⟨g, 4, none⟩ = false ∧ W.frozen? ⟨g, 5, none⟩ = false) ∧ g < W.heap.size :=
  ⟨⟨by simp [World.cell?, h], by simp [World.cell?, h], by simp [World.cell?, h], by simp [World.cell?, h], by simp [World.cell?, h], by simp [World.cell?, h]⟩, ⟨by simp [World.frozen?, h], by simp [World.frozen?, h], by simp [World.frozen?, h], by simp [World.frozen?, h], by simp [World.frozen?, h], by simp [World.frozen?, h]⟩, (Array.getElem?_eq_some_iff.1 h).1⟩
abbrev putCh (w : World) (g : Nat) (x y z : Int) (t : ByteArray) (b : Bool) : World := ((((w.setCell ⟨g, 2, none⟩ (.int .i64 x)).setCell ⟨g, 3, none⟩ (.int .i64 y)).setCell ⟨g, 4, none⟩ (.int .i64 z)).setCell ⟨g, 5, none⟩ (.string t)).setCell ⟨g, 1, none⟩ (.bool b)
theorem putCh_at {w : World} {g : Nat} {u : ByteArray} (x y z : Int) (t : ByteArray) (b : Bool) (h : w.heap[g]? = some (bxCh u false 0 0 0 ⟨#[]⟩)) : (putCh w g x y z t b).heap[g]? = some (bxCh u b x y z t) := by
  simp [putCh, World.setCell, Array.getElem?_modify, h]
theorem putCh_ne {w : World} {g k : Nat} (x y z : Int) (t : ByteArray) (b : Bool) (hk : k ≠ g) : (putCh w g x y z t b).heap[k]? = w.heap[k]? := by
  simp [putCh, World.setCell, Array.getElem?_modify, Ne.symm hk]
theorem putCh_below {B : Nat} {a w : World} (h : Below B a w) (g : Nat) (hg : B ≤ g) (x y z : Int) (t : ByteArray) (b : Bool) : Below B a (putCh w g x y z t b) := bset (bset (bset (bset (bset h g 2 _ hg) g 3 _ hg) g 4 _ hg) g 5 _ hg) g 1 _ hg
abbrev twoCh (w : World) (u : ByteArray) : World := (w.alloc (bxCh u false 0 0 0 ⟨#[]⟩)).alloc (bxCh u false 0 0 0 ⟨#[]⟩)
theorem twoCh_1 (w : World) (u : ByteArray) : (twoCh w u).heap[w.heap.size]? = some (bxCh u false 0 0 0 ⟨#[]⟩) := halloc (heap_alloc_new w _) _
theorem twoCh_2 (w : World) (u : ByteArray) : (twoCh w u).heap[w.heap.size + 1]? = some (bxCh u false 0 0 0 ⟨#[]⟩) := by
  have h := heap_alloc_new (w.alloc (bxCh u false 0 0 0 ⟨#[]⟩)) (bxCh u false 0 0 0 ⟨#[]⟩)
  rwa [size_alloc] at h
theorem twoCh_below (w : World) (u : ByteArray) : Below w.heap.size w (twoCh w u) := below_alloc0 (below_box _) _
set_option maxHeartbeats 16000000 in
set_option maxRecDepth 100000 in
theorem ChangesT_calls (n c n2 c2 : Nat) (A B : Option Addr) (l m : List Sn) (w : World) (hl : Row enSn 5 w (.slice A n c) l) (hm : Row enSn 5 w (.slice B n2 c2) m) (hn : n ≤ 1000) (hn2 : n2 ≤ 1000) :
    Calls Tryz.prog 72 #[.slice A n c, .slice B n2 c2] w fun e w' => ∃ v, e = .returned v ∧ Row enCh 6 w' v (changesT l m) ∧ Below w.heap.size w w' := by
  have EA := Lib.hid hl.len_eq
  have EB := Lib.hid hm.len_eq
  go_enter Tryz.func72, Tryz.ntmps72
  go_wp2_with fail
  with_reducible refine (contactsT_calls n c A l _ hl (by omega)).mono ?_
  rintro e w1 ⟨v1, rfl, hO1, b1⟩
  go_wp2_with fail
  with_reducible refine (contactsT_calls n2 c2 B m _ (hm.below b1) (by omega)).mono ?_
  rintro e w2 ⟨v2, rfl, hO2, b2⟩
  have r1 := hO1.row.below b2
  have r2 := hO2.row
  obtain ⟨A1, c1, rfl, _⟩ := hO1.slice
  obtain ⟨A2, c2', rfl, _⟩ := hO2.slice
  have D := below_call b1 b2
  rw [List.length_map] at r1 r2
  clear hO1 hO2 b1 b2
  go_wp2_with fail
  with_reducible refine (Merge_calls _ c1 _ c2' A1 A2 (l.map Sn.c) (m.map Sn.c) _ r1 r2 (by have := EA.out; omega) (by have := EB.out; omega)).mono ?_
  rintro e w3 ⟨v3, rfl, r3, b3⟩
  replace D := below_call D b3
  clear r1 r2 b3
  obtain ⟨us, hus⟩ : ∃ us, namesT l m = us := ⟨_, rfl⟩
  rw [show mergeS (l.map Sn.c) (m.map Sn.c) = us from hus] at r3
  have hul : us.length ≤ 2000 := by
    rw [← hus]
    have h1 := mergeS_len (l.map Sn.c) (m.map Sn.c)
    rw [List.length_map, List.length_map] at h1
    have := EA.out
    have := EB.out
    unfold namesT
    omega
  have HU := Lib.hid hus
  clear hus
  obtain ⟨A3, c3, rfl, _⟩ := id r3
  go_wp2
  go_loopw [5, 16] (fun vo vk wr => ∃ (k : Nat) (ys : List Ch), vk = .int .i64 k ∧ k ≤ us.length ∧ ys.length ≤ k ∧ Hid ((us.take k).filterMap (chT l m) = ys) ∧ Own enCh 6 65 wr w3.heap.size vo ys ∧ Below w3.heap.size w3 wr) (fun _ vk _ => (us.length - intOf vk).toNat)
  case atStart => exact ⟨0, [], rfl, Nat.zero_le _, Nat.le_refl _, rfl, Own.nil _ _ _ _ _, Below.refl _ _⟩
  case round =>
    obtain ⟨k, ys, rfl, hk, hys, HT, hO, hB⟩ := hrel
    by_cases hlt : k < us.length
    · obtain ⟨ad, rfl, hc⟩ := (r3.below hB).get1 (f := Value.string) k hlt
      obtain ⟨u, hu⟩ : ∃ u, us[k] = u := ⟨_, rfl⟩
      rw [hu] at hc
      obtain ⟨⟨x, y, z, t⟩, b, hga⟩ : ∃ v b, getT l u = (v, b) := ⟨_, _, rfl⟩
      obtain ⟨⟨x', y', z', t'⟩, b', hgb⟩ : ∃ v b, getT m u = (v, b) := ⟨_, _, rfl⟩
      have HGA := Lib.hid hga
      have HGB := Lib.hid hgb
      have h1 := twoCh_1 wr u
      have h2 := twoCh_2 wr u
      have BW := twoCh_below wr u
      have HUK := Lib.hid hu
      clear hga hgb hu
      go_wp2_with fail
      with_reducible refine (getT_is n c A l u _ x y z t b (hl.below (below_call D (below_call hB BW))) HGA).mono ?_
      rintro e w4 ⟨rfl, b4⟩
      replace h1 := hcall h1 b4
      replace h2 := hcall h2 b4
      replace BW := below_call BW b4
      obtain ⟨⟨o0, o1, o2, o3, o4, o5⟩, ⟨f0, f1, f2, f3, f4, f5⟩, og⟩ := chopen h1
      have BW2 := putCh_below BW wr.heap.size (Nat.le_refl _) x y z t b
      have h1' := putCh_at x y z t b h1
      have h2' : (putCh w4 wr.heap.size x y z t b).heap[wr.heap.size + 1]? = _ := (putCh_ne x y z t b (by omega)).trans h2
      clear b4 h1 h2 BW hc
      go_wp2_with fail
      with_reducible refine (getT_is n2 c2 B m u _ x' y' z' t' b' (hm.below (below_call D (below_call hB BW2))) HGB).mono ?_
      rintro e w5 ⟨rfl, b5⟩
      replace h1' := hcall h1' b5
      replace h2' := hcall h2' b5
      replace BW2 := below_call BW2 b5
      clear o0 o1 o2 o3 o4 o5 f0 f1 f2 f3 f4 f5 og b5
      obtain ⟨⟨o0, o1, o2, o3, o4, o5⟩, ⟨f0, f1, f2, f3, f4, f5⟩, og⟩ := chopen h2'
      have BW3 := putCh_below BW2 (wr.heap.size + 1) (Nat.le_succ _) x' y' z' t' b'
      have h2 := putCh_at x' y' z' t' b' h2'
      have h1 : (putCh w5 (wr.heap.size + 1) x' y' z' t' b').heap[wr.heap.size]? = _ := (putCh_ne x' y' z' t' b' (by omega)).trans h1'
      obtain ⟨p0, p1, p2, p3, p4, p5, pz⟩ := cellsCh u b x y z t h1'
      have hcmp := neqCh u b x y z t u b' x' y' z' t'
      rw [eqvCh] at hcmp
      obtain ⟨bc, hbc⟩ : ∃ bc, decide ((⟨u, b, x, y, z, t⟩ : Ch) = ⟨u, b', x', y', z', t'⟩) = bc := ⟨_, rfl⟩
      rw [hbc] at hcmp
      have HCH : Hid (chT l m u = if bc then none else some ⟨u, b', x', y', z', t'⟩) := by
        show _ = _
        unfold chT
        rw [HGA.out, HGB.out, ← hbc]
        have e : ((((x, y, z, t), b) : (Int × Int × Int × ByteArray) × Bool) = ((x', y', z', t'), b')) ↔ ((⟨u, b, x, y, z, t⟩ : Ch) = ⟨u, b', x', y', z', t'⟩) := by
          constructor <;> intro h <;> simp_all
        by_cases h : (⟨u, b, x, y, z, t⟩ : Ch) = ⟨u, b', x', y', z', t'⟩
        · rw [if_pos (e.2 h), decide_eq_true h]; rfl
        · rw [if_neg (fun h' => h (e.1 h')), decide_eq_false h]; rfl
      have hO2 := hO.below BW3
      have hB3 := below_call hB BW3
      have HBC := Lib.hid hbc
      clear hbc h1 h2 h1' h2' BW2 BW3 hO hB
      cases bc with
      | true =>
        have HT2 : Hid ((us.take (k + 1)).filterMap (chT l m) = ys) := by
          show _ = _
          rw [List.take_succ_eq_append_getElem hlt, List.filterMap_append, HT.out, HUK.out, List.filterMap_cons, HCH.out]
          simp
        go_wp2
        exact ⟨⟨k + 1, ys, by go_num, by omega, by omega, HT2, hO2, hB3⟩, by simp [intOf]; omega⟩
      | false =>
        have HT2 : Hid ((us.take (k + 1)).filterMap (chT l m) = ys ++ [⟨u, b', x', y', z', t'⟩]) := by
          show _ = _
          rw [List.take_succ_eq_append_getElem hlt, List.filterMap_append, HT.out, HUK.out, List.filterMap_cons, HCH.out]
          simp
        have HZ1 : Hid ((putCh w5 (wr.heap.size + 1) x' y' z' t' b').heap.size = w5.heap.size) := by show _ = _; simp [putCh, World.setCell]
        go_wp2_with (at_builtin; refine Own.append (w0 := w3) w3.heap.size rfl (.tmp 43) (.tmp 45) 54 65 zvCh 6 64 rfl Tryz.underlying54 infoCh rfl (by decide) _ ys ⟨u, b', x', y', z', t'⟩ (enCh ⟨u, b', x', y', z', t'⟩) rfl (by rw [HZ1.out]; rfl) rfl rfl (enCh_one _) hO2 hB3 hB3.size (by omega) (by omega) ?_; intro v6 w6 hO6 hB6 _ _)
        exact ⟨⟨k + 1, ys ++ [⟨u, b', x', y', z', t'⟩], by go_num, by omega, by rw [List.length_append]; simp only [List.length_cons, List.length_nil]; omega, HT2, hO6, hB6⟩, by simp [intOf]; omega⟩
    · have hkl : k = us.length := by omega
      subst hkl
      have HF : Hid (changesT l m = ys) := by
        show _ = _
        have := HT.out
        rw [List.take_of_length_le (Nat.le_refl _)] at this
        unfold changesT
        rw [HU.out]; exact this
      have hrow := hO.row
      go_wp2
      go_ret
      rw [HF.out]
      exact ⟨_, rfl, hrow, below_call D hB⟩
end Go.Proofs.YtbpfcjdjhponaaaGreat
namespace Go.Proofs.YtbpfcjdjhponaaaGreat
open Go.RowKit
open Sp
end Go.Proofs.YtbpfcjdjhponaaaGreat
namespace Go.Proofs.YtbpfcjdjhponaaaGreat
open Go.RowKit
open Sp
set_option maxHeartbeats 8000000 in
set_option maxRecDepth 100000 in
theorem eqlVl (b_ c_ d_ : Int) (e_ : ByteArray) (b_' c_' d_' : Int) (e_' : ByteArray) (W : World) :
    (binOp .eql 27 (.agg #[.int .i64 b_, .int .i64 c_, .int .i64 d_, .string e_]) (.agg #[.int .i64 b_', .int .i64 c_', .int .i64 d_', .string e_'])).run Tryz.prog W = .ok (.bool (b_ == b_' && (c_ == c_' && (d_ == d_' && (e_.toList == e_'.toList))))) W := by
  cases h1 : b_ == b_'
  · simp [go_sem, h1]
  cases h2 : c_ == c_'
  · simp [go_sem, h1, h2]
  cases h3 : d_ == d_'
  · simp [go_sem, h1, h2, h3]
  cases h4 : e_.toList == e_'.toList <;> simp [go_sem, h1, h2, h3, h4]
end Go.Proofs.YtbpfcjdjhponaaaGreat
namespace Go.Proofs.YtbpfcjdjhponaaaGreat
open Go.RowKit
open Sp
end Go.Proofs.YtbpfcjdjhponaaaGreat
namespace Go.Proofs.YtbpfcjdjhponaaaGreat
open Go.RowKit
namespace Held
variable {P : Program} {ops : Array Oper} {Q : Exit → Act → World → Prop} {S : World → Prop}
theorem two {o o1 o2 : List Nat} {n k i j : Nat} {oi oj : Oper} {fuel : Nat} {a : Act} {w : World} (hr : Region.ready .any ops (lst n o k) = [i, j]) (e1 : (lst n o k).setIfInBounds i true = lst n o1 (k + 1)) (e2 : (lst n o k).setIfInBounds j true = lst n o2 (k + 1))
    (hi : ops.toList[i]? = some oi) (hj : ops.toList[j]? = some oj) (hwi : Region.wanted oi (yielded ops a.tmps) = true) (hwj : Region.wanted oj (yielded ops a.tmps) = true)
    (h1 : ∀ K' : Act → World → Prop, Shut (∀ a w, S w → (S w → wpAnyH P .any ops Q S fuel (lst n o1 (k + 1)) a w) → K' a w) → Oper.wp P oi a w K' Q)
    (h2 : ∀ K' : Act → World → Prop, Shut (∀ a w, S w → (S w → wpAnyH P .any ops Q S fuel (lst n o2 (k + 1)) a w) → K' a w) → Oper.wp P oj a w K' Q) : wpAnyH P .any ops Q S (fuel + 1) (lst n o k) a w := by
  refine wpAnyH_ready hr (by simp) (AllReadyH.cons (by simpa using hi) (fun K hK => ?_) (AllReadyH.cons (by simpa using hj) (fun K hK => ?_) AllReadyH.nil))
  · rw [if_pos hwi]
    rw [e1] at hK
    exact h1 K hK
  · rw [if_pos hwj]
    rw [e2] at hK
    exact h2 K hK
end Held
end Go.Proofs.YtbpfcjdjhponaaaGreat
