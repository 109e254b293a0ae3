/-
Layer 5: the contacts of a table, few rows, a contact's value, by the program and by the document.
-/
import Derived.Test.YtcopiimflloooaaDigD
import Derived.Test.YtcopiimflloooaaWk
import Derived.Test.YtcopiimflloooaaMergeB
import Derived.Test.YtcopiimflloooaaRefList2
import Derived.Test.YtcopiimflloooaaValD
set_option linter.unusedVariables false
set_option linter.unusedSimpArgs false
namespace Go.Proofs.Ytcopiimflloooaa
open Go.RowKit
open Sp
namespace Sp
def fewT (l : List Sn) : Bool := decide (l.length ≤ 40) && l.all fun s => decide (s.c.size ≤ 60) && decide (s.v.2.2.2.size ≤ 100)
theorem getT_at (l : List Sn) (q : ByteArray) (i : Nat) (hi : i < l.length) (h : ∀ j (hj : j < l.length), j < i → l[j].c ≠ q) (hq : l[i].c = q) : getT l q = (l[i].v, true) := by
  have e : getK Sn.c l q = some l[i] := by
    unfold getK
    rw [List.find?_eq_some_iff_getElem]
    exact ⟨decide_eq_true hq, i, hi, rfl, fun j hj => by simpa using h j (by omega) hj⟩
  unfold getT
  rw [e]
theorem getT_no (l : List Sn) (q : ByteArray) (h : ∀ j (hj : j < l.length), l[j].c ≠ q) : getT l q = ((0, 0, 0, ⟨#[]⟩), false) := by
  have e : getK Sn.c l q = none := by
    unfold getK
    rw [List.find?_eq_none]
    intro x hx
    obtain ⟨j, hj, rfl⟩ := List.getElem_of_mem hx
    simpa using h j hj
  unfold getT
  rw [e]
end Sp
theorem bodyPost_vt {P : Program} {fn : Func} {R : Ending → World → Prop} {a : Act} {w : World} {p u : Tmp} {ty : TypeId} (h : fn.results = #[.cell p ty, .tmp u]) (g : Nat) (t : TypeId) (cs : Array Value) (fr : Nat × Nat) (d : TypeDesc)
    (hp : a.tmps.getD p undef = .pointer (some ⟨g, 0, none⟩)) (hg : w.heap[g]? = some (.cells cs t fr))
    (hu : P.underlying ty = some d) (hd : (match d with | .struct _ | .array _ _ => true | _ => false) = true) (hi : (P.info? ty).map (·.size) = some cs.size)
    (hde : a.defers = []) (hR : R (.returned (.tuple #[.agg cs, a.tmps.getD u undef])) w) : bodyPost P fn R .ret a w := by
  refine bodyPost_ret ?_ hde hR
  have hp' : a.tmps[p]?.getD undef = .pointer (some ⟨g, 0, none⟩) := by simpa using hp
  simp [results, h, hp', asAddr, run_loadVar_row w g t ty cs fr d hg hu hd hi]
abbrev bxV (a p n : Int) (t : ByteArray) : Obj := .cells #[.int .i64 a, .int .i64 p, .int .i64 n, .string t] 32
theorem vopen {W : World} {g : Nat} {a p n : Int} {t : ByteArray} (h : W.heap[g]? = some (bxV a p n t)) : (W.cell? ⟨g, 0, none⟩ = some (.int .i64 a) ∧ W.cell? ⟨g, 1, none⟩ = some (.int .i64 p) ∧ W.cell? ⟨g, 2, none⟩ = some (.int .i64 n) ∧ W.cell? ⟨g, 3, none⟩ = some (.string t)) ∧
    (W.frozen? ⟨g, 0, none⟩ = false ∧ W.frozen? ⟨g, 1, none⟩ = false ∧ W.frozen? ⟨g, 2, none⟩ = false ∧ W.frozen? ⟨g, 3, none⟩ = false) ∧ g < W.heap.size :=
  ⟨⟨by simp [World.cell?, h], by simp [World.cell?, h], by simp [World.cell?, h], by simp [World.cell?, h]⟩, ⟨by simp [World.frozen?, h], by simp [World.frozen?, h], by simp [World.frozen?, h], by simp [World.frozen?, h]⟩, (Array.getElem?_eq_some_iff.1 h).1⟩
set_option maxHeartbeats 8000000 in
set_option maxRecDepth 100000 in
theorem contactsT_calls (n c : Nat) (A : Option Addr) (l : List Sn)  (w : World) (hl : Row enSn 5 w (.slice A n c) l) (hn : n ≤ 100000) :
    Calls Try.prog 84 #[.slice A n c] w fun e w' => ∃ v, e = .returned v ∧ Own enS 1 9 w' w.heap.size v (l.map Sn.c) ∧ Below w.heap.size w w' := by
  have EA := Lib.hid hl.len_eq
  go_enter Try.func84, Try.ntmps84
  go_wp2
  go_loopw [3, 8] (fun vo vc wr => ∃ (i : Nat) (ys : List ByteArray), vc = .int .i64 i ∧ i ≤ n ∧ ys.length ≤ i ∧ Hid (((l.take i).map Sn.c) = ys) ∧ Own enS 1 9 wr w.heap.size vo ys ∧ Below w.heap.size w wr) (fun _ vc _ => (n - intOf vc).toNat)
  case atStart => exact ⟨0, [], rfl, Nat.zero_le _, Nat.le_refl _, rfl, Own.nil _ _ _ _ _, Below.refl _ _⟩
  case round =>
    obtain ⟨i, ys, rfl, hi, hys, HT, hO, hB⟩ := hrel
    by_cases hlt : i < n
    · have hil : i < l.length := by have := EA.out; omega
      obtain ⟨⟨a_, b_, c_, d_, e_⟩, he⟩ : ∃ e, l[i] = e := ⟨_, rfl⟩
      obtain ⟨ad, rfl, c0, c1, c2, c3, c4⟩ := rowSn (hl.below hB) i hil a_ b_ c_ d_ e_ he
      have HE := Lib.hid he
      clear he
      have HT2 : Hid (((l.take (i + 1)).map Sn.c) = ys ++ [a_]) := by
        show _ = _
        rw [List.take_succ_eq_append_getElem hil, HE.out, List.map_append, HT.out]
        rfl
      have hO1 := hO.alloc (bxSn a_ b_ c_ d_ e_)
      have hB1 := below_alloc0 hB (bxSn a_ b_ c_ d_ e_)
      have HZ1 : Hid ((wr.alloc (bxSn a_ b_ c_ d_ e_)).heap.size = wr.heap.size + 1) := size_alloc _ _
      go_wp2_with (at_builtin; refine Own.append (w0 := w) w.heap.size rfl (.tmp 12) (.tmp 15) 28 9 (.string ⟨#[]⟩) 1 16 rfl Try.underlying28 info_str rfl (by decide) _ ys a_ [.string a_] rfl (by rw [HZ1.out]; rfl) rfl rfl (enS_one _) hO1 hB1 hB1.size (by omega) (by omega) ?_; intro v2 w2 hO2 hB2 _ _)
      exact ⟨⟨i + 1, ys ++ [a_], by go_num, by omega, by rw [List.length_append]; simp only [List.length_cons, List.length_nil]; omega, HT2, hO2, hB2⟩, by simp [intOf]; omega⟩
    · have hin : i = n := by omega
      subst hin
      have HF : Hid ((l.map Sn.c) = ys) := by
        show _ = _
        have := HT.out
        rwa [List.take_of_length_le (by rw [EA.out]; exact Nat.le_refl _)] at this
      go_wp2
      go_ret
      rw [HF.out]
      exact ⟨_, rfl, hO, hB⟩
set_option maxHeartbeats 8000000 in
set_option maxRecDepth 100000 in
theorem refContactsT_calls (n c : Nat) (A : Option Addr) (l : List Sn)  (w : World) (hl : Row enSn 5 w (.slice A n c) l) (hn : n ≤ 100000) :
    Calls Try.prog 85 #[.slice A n c] w fun e w' => ∃ v, e = .returned v ∧ Own enS 1 9 w' w.heap.size v (l.map Sn.c) ∧ Below w.heap.size w w' := by
  have EA := Lib.hid hl.len_eq
  go_enter Try.func85, Try.ntmps85
  go_wp2
  go_loopw [3, 4] (fun vo vc wr => ∃ (i : Nat) (ys : List ByteArray), vc = .int .i64 i ∧ i ≤ n ∧ ys.length ≤ i ∧ Hid (((l.take i).map Sn.c) = ys) ∧ Own enS 1 9 wr w.heap.size vo ys ∧ Below w.heap.size w wr) (fun _ vc _ => (n - intOf vc).toNat)
  case atStart => exact ⟨0, [], rfl, Nat.zero_le _, Nat.le_refl _, rfl, Own.nil _ _ _ _ _, Below.refl _ _⟩
  case round =>
    obtain ⟨i, ys, rfl, hi, hys, HT, hO, hB⟩ := hrel
    by_cases hlt : i < n
    · have hil : i < l.length := by have := EA.out; omega
      obtain ⟨⟨a_, b_, c_, d_, e_⟩, he⟩ : ∃ e, l[i] = e := ⟨_, rfl⟩
      obtain ⟨ad, rfl, c0, c1, c2, c3, c4⟩ := rowSn (hl.below hB) i hil a_ b_ c_ d_ e_ he
      have HE := Lib.hid he
      clear he
      have HT2 : Hid (((l.take (i + 1)).map Sn.c) = ys ++ [a_]) := by
        show _ = _
        rw [List.take_succ_eq_append_getElem hil, HE.out, List.map_append, HT.out]
        rfl
      go_wp2_with (at_builtin; refine Own.append (w0 := w) w.heap.size rfl (.tmp 11) (.tmp 17) 28 9 (.string ⟨#[]⟩) 1 16 rfl Try.underlying28 info_str rfl (by decide) _ ys a_ [.string a_] rfl rfl rfl rfl (enS_one _) hO hB hB.size (by omega) (by omega) ?_; intro v2 w2 hO2 hB2 _ _)
      exact ⟨⟨i + 1, ys ++ [a_], by go_num, by omega, by rw [List.length_append]; simp only [List.length_cons, List.length_nil]; omega, HT2, hO2, hB2⟩, by simp [intOf]; omega⟩
    · have hin : i = n := by omega
      subst hin
      have HF : Hid ((l.map Sn.c) = ys) := by
        show _ = _
        have := HT.out
        rwa [List.take_of_length_le (by rw [EA.out]; exact Nat.le_refl _)] at this
      go_wp2
      go_ret
      rw [HF.out]
      exact ⟨_, rfl, hO, hB⟩
set_option maxHeartbeats 8000000 in
set_option maxRecDepth 100000 in
theorem few5_calls (n c : Nat) (A : Option Addr) (l : List Sn) (w : World) (hl : Row enSn 5 w (.slice A n c) l) (hz : ∀ s ∈ l, s.c.size ≤ 9223372036854775807 ∧ s.v.2.2.2.size ≤ 9223372036854775807) :
    Calls Try.prog 31 #[.slice A n c] w fun e w' => e = .returned (.bool (fewT l)) ∧ Below w.heap.size w w' := by
  have EA := Lib.hid hl.len_eq
  have hnl : n ≤ 9223372036854775807 := by rw [EA.out]; exact hl.len
  obtain ⟨r, hr⟩ : ∃ r, fewT l = r := ⟨_, rfl⟩
  rw [hr]
  unfold fewT at hr
  have HR := Lib.hid hr
  have HZ := Lib.hid hz
  clear hr hz
  by_cases hm : 40 < (n : Int)
  · have HF : Hid (r = false) := by
      show _ = _
      rw [← HR.out, decide_eq_false (by rw [← EA.out]; omega)]; rfl
    go_enter Try.func31, Try.ntmps31
    go_wp2
    go_ret
    rw [HF.out]
    exact ⟨rfl, Below.refl _ _⟩
  · have hm' : (n : Int) ≤ 40 := by omega
    clear hm
    go_enter Try.func31, Try.ntmps31
    go_wp2
    go_loopw [3] (fun v3 wr => ∃ i : Nat, v3 = .int .i64 i ∧ i ≤ n ∧ Below w.heap.size w wr ∧ Hid (∀ j (h : j < l.length), j < i → (decide (l[j].c.size ≤ 60) && decide (l[j].v.2.2.2.size ≤ 100)) = true)) (fun v3 _ => (n - intOf v3).toNat)
    case atStart => exact ⟨0, rfl, Nat.zero_le _, Below.refl _ _, fun j _ h => absurd h (by omega)⟩
    case round =>
      obtain ⟨i, rfl, hi, hB, HT⟩ := hrel
      by_cases hlt : i < n
      · have hil : i < l.length := by have := EA.out; omega
        obtain ⟨z1, z2⟩ := HZ.out l[i] (List.getElem_mem _)
        obtain ⟨⟨a_, b_, c_, d_, e_⟩, he⟩ : ∃ e, l[i] = e := ⟨_, rfl⟩
        rw [he] at z1 z2
        simp only at z1 z2
        obtain ⟨ad, rfl, c0, c1, c2, c3, c4⟩ := rowSn (hl.below hB) i hil a_ b_ c_ d_ e_ he
        have HE := Lib.hid he
        clear he
        by_cases hq : a_.size ≤ 60 ∧ e_.size ≤ 100
        · have HN : Hid (∀ j (h : j < l.length), j < i + 1 → (decide (l[j].c.size ≤ 60) && decide (l[j].v.2.2.2.size ≤ 100)) = true) := fun j h hj => by
            rcases Nat.lt_or_ge j i with h' | h'
            · exact HT.out j h h'
            · obtain rfl : j = i := by omega
              rw [HE.out]
              simp only
              rw [decide_eq_true hq.1, decide_eq_true hq.2]; rfl
          have h1 : ((a_.size : Nat) : Int) ≤ 60 := by omega
          have h2 : ((e_.size : Nat) : Int) ≤ 100 := by omega
          clear hq
          go_wp2
          exact ⟨⟨i + 1, by go_num, by omega, hB, HN⟩, by simp [intOf]; omega⟩
        · have HF : Hid (r = false) := by
            show _ = _
            rw [← HR.out, Bool.and_eq_false_iff]
            right
            rw [List.all_eq_false]
            refine ⟨l[i], List.getElem_mem _, ?_⟩
            rw [HE.out]
            simp only [Bool.and_eq_true, decide_eq_true_eq]
            exact hq
          by_cases h1 : ((a_.size : Nat) : Int) ≤ 60
          · have h2 : 100 < ((e_.size : Nat) : Int) := by omega
            clear hq
            go_wp2
            go_ret
            rw [HF.out]
            exact ⟨rfl, hB⟩
          · have h2 : 60 < ((a_.size : Nat) : Int) := by omega
            clear hq h1
            go_wp2
            go_ret
            rw [HF.out]
            exact ⟨rfl, hB⟩
      · have hin : i = n := by omega
        subst hin
        have HF : Hid (r = true) := by
          show _ = _
          rw [← HR.out, Bool.and_eq_true]
          refine ⟨decide_eq_true (by rw [← EA.out]; omega), ?_⟩
          rw [List.all_eq_true]
          intro e he
          obtain ⟨j, hj, rfl⟩ := List.getElem_of_mem he
          exact HT.out j hj (by rw [EA.out]; exact hj)
        go_wp2
        go_ret
        rw [HF.out]
        exact ⟨rfl, hB⟩
set_option maxHeartbeats 8000000 in
set_option maxRecDepth 100000 in
theorem GetT_calls (n c : Nat) (A : Option Addr) (l : List Sn) (q : ByteArray) (w : World) (hl : Row enSn 5 w (.slice A n c) l) :
    Calls Try.prog 42 #[.slice A n c, .string q] w fun e w' => e = .returned (.tuple #[encV (getT l q).1, .bool (getT l q).2]) ∧ Below w.heap.size w w' := by
  have EA := Lib.hid hl.len_eq
  have hnl : n ≤ 9223372036854775807 := by rw [EA.out]; exact hl.len
  go_enter Try.func42, Try.ntmps42
  go_wp2
  go_loopw [10] (fun vc wr => ∃ (i : Nat), vc = .int .i64 i ∧ i ≤ n ∧ Below w.heap.size w wr ∧ wr.heap[w.heap.size]? = some (bxV 0 0 0 ⟨#[]⟩) ∧ Hid (∀ j (h : j < l.length), j < i → l[j].c ≠ q)) (fun vc _ => (n - intOf vc).toNat)
  case atStart => exact ⟨0, rfl, Nat.zero_le _, below_box _, heap_alloc_new w _, fun j _ h => absurd h (by omega)⟩
  case round =>
    obtain ⟨i, rfl, hi, hB, HX, HT⟩ := hrel
    by_cases hlt : i < n
    · have hil : i < l.length := by have := EA.out; omega
      obtain ⟨⟨a_, b_, c_, d_, e_⟩, he⟩ : ∃ e, l[i] = e := ⟨_, rfl⟩
      obtain ⟨ad, rfl, c0, c1, c2, c3, c4⟩ := rowSn (hl.below hB) i hil a_ b_ c_ d_ e_ he
      have HX1 := halloc HX (bxSn a_ b_ c_ d_ e_)
      have hB1 := below_alloc0 hB (bxSn a_ b_ c_ d_ e_)
      by_cases hq : a_ = q
      · have HF : Hid (getT l q = ((b_, c_, d_, e_), true)) := by
          show _ = _
          rw [getT_at l q i hil HT.out (by rw [he]; exact hq), he]
        clear he HT
        replace hq := hq.symm
        subst hq
        obtain ⟨⟨o0, o1, o2, o3⟩, ⟨f0, f1, f2, f3⟩, og⟩ := vopen HX1
        go_wp2
        (try simp only [Exit.inBlock, Exit.then])
        refine bodyPost_vt rfl w.heap.size 32 #[.int .i64 b_, .int .i64 c_, .int .i64 d_, .string e_] (0, 0) _ rfl ?_ Try.underlying32 rfl info_val rfl ⟨?_, ?_⟩
        · simp [World.setCell, Array.getElem?_modify, HX1]
        · rw [HF.out]; rfl
        · exact (((hB1.setCell (p := ⟨w.heap.size, 0, none⟩) (Nat.le_refl _) _).setCell (p := ⟨w.heap.size, 1, none⟩) (Nat.le_refl _) _).setCell (p := ⟨w.heap.size, 2, none⟩) (Nat.le_refl _) _).setCell (p := ⟨w.heap.size, 3, none⟩) (Nat.le_refl _) _
      · have HN : Hid (∀ j (h : j < l.length), j < i + 1 → l[j].c ≠ q) := fun j h hj => by
          rcases Nat.lt_or_ge j i with h' | h'
          · exact HT.out j h h'
          · obtain rfl : j = i := by omega
            rw [he]; exact hq
        have hne2 : (a_.toList == q.toList) = false := by simpa [toList_inj'] using hq
        have hne3 : ¬ a_.toList = q.toList := by simpa [toList_inj'] using hq
        clear hq he
        go_wp2
        exact ⟨⟨i + 1, by go_num, by omega, hB1, HX1, HN⟩, by simp [intOf]; omega⟩
    · have hin : i = n := by omega
      subst hin
      have HF : Hid (getT l q = ((0, 0, 0, ⟨#[]⟩), false)) := by
        show _ = _
        exact getT_no l q fun j hj => HT.out j hj (by rw [EA.out]; exact hj)
      have HX1 := HX
      have hB1 := hB
      clear HT
      obtain ⟨⟨o0, o1, o2, o3⟩, ⟨f0, f1, f2, f3⟩, og⟩ := vopen HX1
      go_wp2
      (try simp only [Exit.inBlock, Exit.then])
      refine bodyPost_vt rfl w.heap.size 32 #[.int .i64 0, .int .i64 0, .int .i64 0, .string ⟨#[]⟩] (0, 0) _ rfl ?_ Try.underlying32 rfl info_val rfl ⟨?_, ?_⟩
      · simp [World.setCell, Array.getElem?_modify, HX1]
      · rw [HF.out]; rfl
      · exact (((hB1.setCell (p := ⟨w.heap.size, 0, none⟩) (Nat.le_refl _) _).setCell (p := ⟨w.heap.size, 1, none⟩) (Nat.le_refl _) _).setCell (p := ⟨w.heap.size, 2, none⟩) (Nat.le_refl _) _).setCell (p := ⟨w.heap.size, 3, none⟩) (Nat.le_refl _) _
set_option maxHeartbeats 8000000 in
set_option maxRecDepth 100000 in
theorem refGetT_calls (n c : Nat) (A : Option Addr) (l : List Sn) (q : ByteArray) (w : World) (hl : Row enSn 5 w (.slice A n c) l) :
    Calls Try.prog 43 #[.slice A n c, .string q] w fun e w' => e = .returned (.tuple #[encV (getT l q).1, .bool (getT l q).2]) ∧ Below w.heap.size w w' := by
  have EA := Lib.hid hl.len_eq
  have hnl : n ≤ 9223372036854775807 := by rw [EA.out]; exact hl.len
  go_enter Try.func43, Try.ntmps43
  go_wp2
  go_loopw [6] (fun vc wr => ∃ (i : Nat), vc = .int .i64 i ∧ i ≤ n ∧ Below w.heap.size w wr ∧ wr.heap[w.heap.size]? = some (bxV 0 0 0 ⟨#[]⟩) ∧ Hid (∀ j (h : j < l.length), j < i → l[j].c ≠ q)) (fun vc _ => (n - intOf vc).toNat)
  case atStart => exact ⟨0, rfl, Nat.zero_le _, below_box _, heap_alloc_new w _, fun j _ h => absurd h (by omega)⟩
  case round =>
    obtain ⟨i, rfl, hi, hB, HX, HT⟩ := hrel
    by_cases hlt : i < n
    · have hil : i < l.length := by have := EA.out; omega
      obtain ⟨⟨a_, b_, c_, d_, e_⟩, he⟩ : ∃ e, l[i] = e := ⟨_, rfl⟩
      obtain ⟨ad, rfl, c0, c1, c2, c3, c4⟩ := rowSn (hl.below hB) i hil a_ b_ c_ d_ e_ he
      have HX1 := HX
      have hB1 := hB
      by_cases hq : a_ = q
      · have HF : Hid (getT l q = ((b_, c_, d_, e_), true)) := by
          show _ = _
          rw [getT_at l q i hil HT.out (by rw [he]; exact hq), he]
        clear he HT
        replace hq := hq.symm
        subst hq
        obtain ⟨⟨o0, o1, o2, o3⟩, ⟨f0, f1, f2, f3⟩, og⟩ := vopen HX1
        go_wp2
        (try simp only [Exit.inBlock, Exit.then])
        refine bodyPost_vt rfl w.heap.size 32 #[.int .i64 b_, .int .i64 c_, .int .i64 d_, .string e_] (0, 0) _ rfl ?_ Try.underlying32 rfl info_val rfl ⟨?_, ?_⟩
        · simp [World.setCell, Array.getElem?_modify, HX1]
        · rw [HF.out]; rfl
        · exact (((hB1.setCell (p := ⟨w.heap.size, 0, none⟩) (Nat.le_refl _) _).setCell (p := ⟨w.heap.size, 1, none⟩) (Nat.le_refl _) _).setCell (p := ⟨w.heap.size, 2, none⟩) (Nat.le_refl _) _).setCell (p := ⟨w.heap.size, 3, none⟩) (Nat.le_refl _) _
      · have HN : Hid (∀ j (h : j < l.length), j < i + 1 → l[j].c ≠ q) := fun j h hj => by
          rcases Nat.lt_or_ge j i with h' | h'
          · exact HT.out j h h'
          · obtain rfl : j = i := by omega
            rw [he]; exact hq
        have hne2 : (a_.toList == q.toList) = false := by simpa [toList_inj'] using hq
        have hne3 : ¬ a_.toList = q.toList := by simpa [toList_inj'] using hq
        clear hq he
        go_wp2
        exact ⟨⟨i + 1, by go_num, by omega, hB1, HX1, HN⟩, by simp [intOf]; omega⟩
    · have hin : i = n := by omega
      subst hin
      have HF : Hid (getT l q = ((0, 0, 0, ⟨#[]⟩), false)) := by
        show _ = _
        exact getT_no l q fun j hj => HT.out j hj (by rw [EA.out]; exact hj)
      have HX1 := HX
      have hB1 := hB
      clear HT
      obtain ⟨⟨o0, o1, o2, o3⟩, ⟨f0, f1, f2, f3⟩, og⟩ := vopen HX1
      go_wp2
      (try simp only [Exit.inBlock, Exit.then])
      refine bodyPost_vt rfl w.heap.size 32 #[.int .i64 0, .int .i64 0, .int .i64 0, .string ⟨#[]⟩] (0, 0) _ rfl ?_ Try.underlying32 rfl info_val rfl ⟨?_, ?_⟩
      · simp [World.setCell, Array.getElem?_modify, HX1]
      · rw [HF.out]; rfl
      · exact (((hB1.setCell (p := ⟨w.heap.size, 0, none⟩) (Nat.le_refl _) _).setCell (p := ⟨w.heap.size, 1, none⟩) (Nat.le_refl _) _).setCell (p := ⟨w.heap.size, 2, none⟩) (Nat.le_refl _) _).setCell (p := ⟨w.heap.size, 3, none⟩) (Nat.le_refl _) _
end Go.Proofs.Ytcopiimflloooaa
