/-
Contracts: an item got, whether there is one, few entries, who sees whom, and who watches.
-/
import Derived.Test.YtpmafghknafhaaaRosF
import Derived.Test.YtpmafghknafhaaaRefList
set_option linter.unusedVariables false
set_option linter.unusedSimpArgs false
namespace Go.Proofs.Ytpmafghknafhaaa
open Go.RowKit
open Sp
theorem bodyPost_vc {P : Program} {fn : Func} {R : Ending → World → Prop} {a : Act} {w : World} {p : Tmp} {ty : TypeId} (h : fn.results = #[.cell p ty]) (g : Nat) (t : TypeId) (cs : Array Value) (fr : Nat × Nat) (d : TypeDesc)
    (hp : a.tmps.getD p undef = .pointer (some ⟨g, 0, none⟩)) (hg : w.heap[g]? = some (.cells cs t fr))
    (hu : P.underlying ty = some d) (hd : (match d with | .struct _ | .array _ _ => true | _ => false) = true) (hi : (P.info? ty).map (·.size) = some cs.size)
    (hde : a.defers = []) (hR : R (.returned (.agg cs)) w) : bodyPost P fn R .ret a w := by
  refine bodyPost_ret ?_ hde hR
  have hp' : a.tmps[p]?.getD undef = .pointer (some ⟨g, 0, none⟩) := by simpa using hp
  simp [results, h, hp', asAddr, run_loadVar_row w g t ty cs fr d hg hu hd hi]
abbrev bxIt (c d e f g : Bool) : Obj := .cells #[.bool c, .bool d, .bool e, .bool f, .bool g] 26
theorem iopen {W : World} {k : Nat} {c d e f g : Bool} (h : W.heap[k]? = some (bxIt c d e f g)) : (W.cell? ⟨k, 0, none⟩ = some (.bool c) ∧ W.cell? ⟨k, 1, none⟩ = some (.bool d) ∧ W.cell? ⟨k, 2, none⟩ = some (.bool e) ∧ W.cell? ⟨k, 3, none⟩ = some (.bool f) ∧ W.cell? ⟨k, 4, none⟩ = some (.bool g)) ∧
    (W.frozen? ⟨k, 0, none⟩ = false ∧ W.frozen? ⟨k, 1, none⟩ = false ∧ W.frozen? ⟨k, 2, none⟩ = false ∧ W.frozen? ⟨k, 3, none⟩ = false ∧ W.frozen? ⟨k, 4, none⟩ = false) ∧ k < W.heap.size :=
  ⟨⟨by simp [World.cell?, h], by simp [World.cell?, h], by simp [World.cell?, h], by simp [World.cell?, h], by simp [World.cell?, h]⟩, ⟨by simp [World.frozen?, h], by simp [World.frozen?, h], by simp [World.frozen?, h], by simp [World.frozen?, h], by simp [World.frozen?, h]⟩, (Array.getElem?_eq_some_iff.1 h).1⟩
theorem info_it : (Try.prog.info? 26).map (·.size) = some 5 := by kernel_rfl
theorem place_some {l : List En} {u v : ByteArray} {i : Nat} (h : placeRo l u v = some i) : ∃ hi : i < l.length, keyRo l[i] = (u, v) ∧ ∀ j (hj : j < l.length), j < i → keyRo l[j] ≠ (u, v) := by
  unfold placeRo at h
  rw [List.findIdx?_eq_some_iff_getElem] at h
  obtain ⟨hi, h1, h2⟩ := h
  exact ⟨hi, by simpa using h1, fun j hj hji => by simpa using h2 j hji⟩
theorem place_none {l : List En} {u v : ByteArray} (h : placeRo l u v = none) : ∀ j (hj : j < l.length), keyRo l[j] ≠ (u, v) := by
  unfold placeRo at h
  rw [List.findIdx?_eq_none_iff] at h
  intro j hj
  simpa using h l[j] (List.getElem_mem hj)
set_option maxHeartbeats 8000000 in
set_option maxRecDepth 100000 in
theorem GetRo_calls (n c : Nat) (A : Option Addr) (l : List En) (o q : ByteArray) (w : World) (hl : Row enEn 7 w (.slice A n c) l) :
    Calls Try.prog 14 #[.slice A n c, .string o, .string q] w fun e w' => e = .returned (vaIt (getRo l o q)) ∧ Below w.heap.size w w' := by
  have EA := Lib.hid hl.len_eq
  have hB := below_box (w := w) (bxIt false false false false false)
  have HX := heap_alloc_new w (bxIt false false false false false)
  have HC := findRo_calls n c A l o q _ (hl.below hB)
  cases hp : placeRo l o q with
  | some i =>
    obtain ⟨hil, hk, hb4⟩ := place_some hp
    obtain ⟨⟨a_, b_, c_, d_, e_, f_, g_⟩, he⟩ : ∃ e, l[i] = e := ⟨_, rfl⟩
    have HF : Hid (getRo l o q = ⟨c_, d_, e_, f_, g_⟩) := by
      show _ = _
      rw [(getRo_at l o q i hil hb4 hk).1, he]
    have e1 : maxI (idxI (placeRo l o q)) = (i : Int) := by rw [hp]; unfold maxI idxI; simp
    have e2 : decide (0 ≤ idxI (placeRo l o q)) = true := by rw [hp]; unfold idxI; simp
    rw [e1, e2] at HC
    have HE := Lib.hid he
    clear e1 e2 hp hk hb4 he
    go_enter Try.func14, Try.ntmps14
    go_wp2_with fail
    refine HC.mono ?_
    rintro e w1 ⟨rfl, b1⟩
    have HX1 := hcall HX b1
    have hB1 := below_call hB b1
    obtain ⟨ad, rfl, c0, c1, c2, c3, c4, c5, c6⟩ := rowEn (hl.below hB1) i hil a_ b_ c_ d_ e_ f_ g_ HE.out
    obtain ⟨⟨o0, o1, o2, o3, o4⟩, ⟨f0, f1, f2, f3, f4⟩, og⟩ := iopen HX1
    have x1 : (0 : Int) ≤ (i : Int) := by omega
    have x2 : (i : Int) < (n : Int) := by have := EA.out; omega
    go_wp2
    (try simp only [Exit.inBlock, Exit.then])
    refine bodyPost_vc rfl w.heap.size 26 #[.bool c_, .bool d_, .bool e_, .bool f_, .bool g_] (0, 0) _ rfl ?_ Try.underlying26 rfl info_it rfl ⟨?_, ?_⟩
    · simp [World.setCell, Array.getElem?_modify, HX1]
    · rw [HF.out]
    · exact bset (bset (bset (bset (bset hB1 w.heap.size 0 _ (Nat.le_refl _)) w.heap.size 1 _ (Nat.le_refl _)) w.heap.size 2 _ (Nat.le_refl _)) w.heap.size 3 _ (Nat.le_refl _)) w.heap.size 4 _ (Nat.le_refl _)
  | none =>
    have HF : Hid (getRo l o q = noI) := (getRo_no l o q (place_none hp)).1
    have e1 : maxI (idxI (placeRo l o q)) = 0 := by rw [hp]; rfl
    have e2 : decide (0 ≤ idxI (placeRo l o q)) = false := by rw [hp]; rfl
    rw [e1, e2] at HC
    clear e1 e2 hp
    go_enter Try.func14, Try.ntmps14
    go_wp2_with fail
    refine HC.mono ?_
    rintro e w1 ⟨rfl, b1⟩
    have HX1 := hcall HX b1
    have hB1 := below_call hB b1
    obtain ⟨⟨o0, o1, o2, o3, o4⟩, ⟨f0, f1, f2, f3, f4⟩, og⟩ := iopen HX1
    go_wp2
    (try simp only [Exit.inBlock, Exit.then])
    refine bodyPost_vc rfl w.heap.size 26 #[.bool false, .bool false, .bool false, .bool false, .bool false] (0, 0) _ rfl ?_ Try.underlying26 rfl info_it rfl ⟨?_, ?_⟩
    · simp [World.setCell, Array.getElem?_modify, HX1]
    · rw [HF.out]; rfl
    · exact bset (bset (bset (bset (bset hB1 w.heap.size 0 _ (Nat.le_refl _)) w.heap.size 1 _ (Nat.le_refl _)) w.heap.size 2 _ (Nat.le_refl _)) w.heap.size 3 _ (Nat.le_refl _)) w.heap.size 4 _ (Nat.le_refl _)
set_option maxHeartbeats 8000000 in
set_option maxRecDepth 100000 in
theorem refGetRo_calls (n c : Nat) (A : Option Addr) (l : List En) (o q : ByteArray) (w : World) (hl : Row enEn 7 w (.slice A n c) l) :
    Calls Try.prog 15 #[.slice A n c, .string o, .string q] w fun e w' => e = .returned (vaIt (getRo l o q)) ∧ Below w.heap.size w w' := by
  have EA := Lib.hid hl.len_eq
  have hnl : n ≤ 9223372036854775807 := by rw [EA.out]; exact hl.len
  go_enter Try.func15, Try.ntmps15
  go_wp2
  go_loopw [7] (fun vc wr => ∃ (i : Nat), vc = .int .i64 i ∧ i ≤ n ∧ Below w.heap.size w wr ∧ wr.heap[w.heap.size]? = some (bxIt false false false false false) ∧ Hid (∀ j (h : j < l.length), j < i → keyRo l[j] ≠ (o, q))) (fun vc _ => (n - intOf vc).toNat)
  case atStart => exact ⟨0, rfl, Nat.zero_le _, below_box _, heap_alloc_new w _, fun j _ h => absurd h (by omega)⟩
  case round =>
    obtain ⟨i, rfl, hi, hB, HX, HT⟩ := hrel
    by_cases hlt : i < n
    · have hil : i < l.length := by have := EA.out; omega
      obtain ⟨⟨a_, b_, c_, d_, e_, f_, g_⟩, he⟩ : ∃ e, l[i] = e := ⟨_, rfl⟩
      obtain ⟨ad, rfl, c0, c1, c2, c3, c4, c5, c6⟩ := rowEn (hl.below hB) i hil a_ b_ c_ d_ e_ f_ g_ he
      have HX1 := HX
      have hB1 := hB
      by_cases hq : a_ = o ∧ b_ = q
      · have HAT := getRo_at l o q i hil HT.out (by rw [he]; exact Prod.ext hq.1 hq.2)
        have HF : Hid (getRo l o q = ⟨c_, d_, e_, f_, g_⟩) := by
          show _ = _
          rw [HAT.1, he]
        obtain ⟨q1, q2⟩ := hq
        have hs1 : a_.toList = o.toList := by rw [q1]
        have hs2 : b_.toList = q.toList := by rw [q2]
        have hs3 : (a_.toList == o.toList) = true := by rw [q1]; exact beq_self_eq_true _
        have hs4 : (b_.toList == q.toList) = true := by rw [q2]; exact beq_self_eq_true _
        clear he HT HAT q1 q2
        obtain ⟨⟨o0, o1, o2, o3, o4⟩, ⟨f0, f1, f2, f3, f4⟩, og⟩ := iopen HX1
        go_wp2
        (try simp only [Exit.inBlock, Exit.then])
        refine bodyPost_vc rfl w.heap.size 26 #[.bool c_, .bool d_, .bool e_, .bool f_, .bool g_] (0, 0) _ rfl ?_ Try.underlying26 rfl info_it rfl ⟨?_, ?_⟩
        · simp [World.setCell, Array.getElem?_modify, HX1]
        · rw [HF.out]
        · exact bset (bset (bset (bset (bset hB1 w.heap.size 0 _ (Nat.le_refl _)) w.heap.size 1 _ (Nat.le_refl _)) w.heap.size 2 _ (Nat.le_refl _)) w.heap.size 3 _ (Nat.le_refl _)) w.heap.size 4 _ (Nat.le_refl _)
      · have HN : Hid (∀ j (h : j < l.length), j < i + 1 → keyRo l[j] ≠ (o, q)) := fun j h hj => by
          rcases Nat.lt_or_ge j i with h' | h'
          · exact HT.out j h h'
          · obtain rfl : j = i := by omega
            rw [he]
            exact fun e => hq ⟨congrArg Prod.fst e, congrArg Prod.snd e⟩
        by_cases q1 : a_ = o
        · have q2 : ¬ b_ = q := fun e => hq ⟨q1, e⟩
          have hs1 : a_.toList = o.toList := by rw [q1]
          have hs3 : (a_.toList == o.toList) = true := by rw [q1]; exact beq_self_eq_true _
          have hs2 : ¬ b_.toList = q.toList := by simpa [toList_inj'] using q2
          have hs4 : (b_.toList == q.toList) = false := by simpa [toList_inj'] using q2
          clear he q1 q2 hq
          go_wp2
          exact ⟨⟨i + 1, by go_num, by omega, hB1, HX1, HN⟩, by simp [intOf]; omega⟩
        · have hs1 : ¬ a_.toList = o.toList := by simpa [toList_inj'] using q1
          have hs3 : (a_.toList == o.toList) = false := by simpa [toList_inj'] using q1
          clear he q1 hq
          go_wp2
          exact ⟨⟨i + 1, by go_num, by omega, hB1, HX1, HN⟩, by simp [intOf]; omega⟩
    · have hin : i = n := by omega
      subst hin
      have HNO := getRo_no l o q (fun j hj => HT.out j hj (by rw [EA.out]; exact hj))
      have HF : Hid (getRo l o q = noI) := HNO.1
      have HX1 := HX
      have hB1 := hB
      clear HT HNO
      obtain ⟨⟨o0, o1, o2, o3, o4⟩, ⟨f0, f1, f2, f3, f4⟩, og⟩ := iopen HX1
      go_wp2
      (try simp only [Exit.inBlock, Exit.then])
      refine bodyPost_vc rfl w.heap.size 26 #[.bool false, .bool false, .bool false, .bool false, .bool false] (0, 0) _ rfl ?_ Try.underlying26 rfl info_it rfl ⟨?_, ?_⟩
      · simp [World.setCell, Array.getElem?_modify, HX1]
      · rw [HF.out]; rfl
      · exact bset (bset (bset (bset (bset hB1 w.heap.size 0 _ (Nat.le_refl _)) w.heap.size 1 _ (Nat.le_refl _)) w.heap.size 2 _ (Nat.le_refl _)) w.heap.size 3 _ (Nat.le_refl _)) w.heap.size 4 _ (Nat.le_refl _)
set_option maxHeartbeats 8000000 in
set_option maxRecDepth 100000 in
theorem hasRo_calls (n c : Nat) (A : Option Addr) (l : List En) (o q : ByteArray) (w : World) (hl : Row enEn 7 w (.slice A n c) l) :
    Calls Try.prog 42 #[.slice A n c, .string o, .string q] w fun e w' => e = .returned (.bool (hasRo l o q)) ∧ Below w.heap.size w w' := by
  have EA := Lib.hid hl.len_eq
  have hnl : n ≤ 9223372036854775807 := by rw [EA.out]; exact hl.len
  go_enter Try.func42, Try.ntmps42
  go_wp2
  go_loopw [7] (fun vc wr => ∃ (i : Nat), vc = .int .i64 i ∧ i ≤ n ∧ Below w.heap.size w wr ∧ Hid (∀ j (h : j < l.length), j < i → keyRo l[j] ≠ (o, q))) (fun vc _ => (n - intOf vc).toNat)
  case atStart => exact ⟨0, rfl, Nat.zero_le _, Below.refl _ _, fun j _ h => absurd h (by omega)⟩
  case round =>
    obtain ⟨i, rfl, hi, hB, HT⟩ := hrel
    by_cases hlt : i < n
    · have hil : i < l.length := by have := EA.out; omega
      obtain ⟨⟨a_, b_, c_, d_, e_, f_, g_⟩, he⟩ : ∃ e, l[i] = e := ⟨_, rfl⟩
      obtain ⟨ad, rfl, c0, c1, c2, c3, c4, c5, c6⟩ := rowEn (hl.below hB) i hil a_ b_ c_ d_ e_ f_ g_ he
      have hB1 := hB
      by_cases hq : a_ = o ∧ b_ = q
      · have HAT := getRo_at l o q i hil HT.out (by rw [he]; exact Prod.ext hq.1 hq.2)
        have HF : Hid (hasRo l o q = true) := by
          show _ = _
          exact HAT.2
        obtain ⟨q1, q2⟩ := hq
        have hs1 : a_.toList = o.toList := by rw [q1]
        have hs2 : b_.toList = q.toList := by rw [q2]
        have hs3 : (a_.toList == o.toList) = true := by rw [q1]; exact beq_self_eq_true _
        have hs4 : (b_.toList == q.toList) = true := by rw [q2]; exact beq_self_eq_true _
        clear he HT HAT q1 q2
        go_wp2
        go_ret
        rw [HF.out]
        exact ⟨rfl, hB1⟩
      · have HN : Hid (∀ j (h : j < l.length), j < i + 1 → keyRo l[j] ≠ (o, q)) := fun j h hj => by
          rcases Nat.lt_or_ge j i with h' | h'
          · exact HT.out j h h'
          · obtain rfl : j = i := by omega
            rw [he]
            exact fun e => hq ⟨congrArg Prod.fst e, congrArg Prod.snd e⟩
        by_cases q1 : a_ = o
        · have q2 : ¬ b_ = q := fun e => hq ⟨q1, e⟩
          have hs1 : a_.toList = o.toList := by rw [q1]
          have hs3 : (a_.toList == o.toList) = true := by rw [q1]; exact beq_self_eq_true _
          have hs2 : ¬ b_.toList = q.toList := by simpa [toList_inj'] using q2
          have hs4 : (b_.toList == q.toList) = false := by simpa [toList_inj'] using q2
          clear he q1 q2 hq
          go_wp2
          exact ⟨⟨i + 1, by go_num, by omega, hB1, HN⟩, by simp [intOf]; omega⟩
        · have hs1 : ¬ a_.toList = o.toList := by simpa [toList_inj'] using q1
          have hs3 : (a_.toList == o.toList) = false := by simpa [toList_inj'] using q1
          clear he q1 hq
          go_wp2
          exact ⟨⟨i + 1, by go_num, by omega, hB1, HN⟩, by simp [intOf]; omega⟩
    · have hin : i = n := by omega
      subst hin
      have HNO := getRo_no l o q (fun j hj => HT.out j hj (by rw [EA.out]; exact hj))
      have HF : Hid (hasRo l o q = false) := HNO.2
      have hB1 := hB
      clear HT HNO
      go_wp2
      go_ret
      rw [HF.out]
      exact ⟨rfl, hB1⟩
set_option maxHeartbeats 8000000 in
set_option maxRecDepth 100000 in
theorem SeesRo_calls (n c : Nat) (A : Option Addr) (l : List En) (o q : ByteArray) (w : World) (hl : Row enEn 7 w (.slice A n c) l) :
    Calls Try.prog 19 #[.slice A n c, .string o, .string q] w fun e w' => e = .returned (.bool (seesRo l o q)) ∧ Below w.heap.size w w' := by
  unfold seesRo
  obtain ⟨⟨a, b, c', d, e⟩, h1⟩ : ∃ x, getRo l o q = x := ⟨_, rfl⟩
  obtain ⟨⟨a', b', c'', d', e'⟩, h2⟩ : ∃ x, getRo l q o = x := ⟨_, rfl⟩
  have H1 := GetRo_calls n c A l o q w hl
  have H2 := fun (w1 : World) (h : Below w.heap.size w w1) => GetRo_calls n c A l q o w1 (hl.below h)
  rw [h1] at H1 ⊢
  rw [h2] at H2 ⊢
  have HH2 := Lib.hid H2
  obtain ⟨r, hr⟩ : ∃ r, seesI ⟨a, b, c', d, e⟩ ⟨a', b', c'', d', e'⟩ = r := ⟨_, rfl⟩
  rw [hr]
  have HR := Lib.hid hr
  clear hr h1 h2 H2
  go_enter Try.func19, Try.ntmps19
  go_wp2_with fail
  refine H1.mono ?_
  rintro x w1 ⟨rfl, b1⟩
  go_wp2_with fail
  refine (HH2.out w1 b1).mono ?_
  rintro x w2 ⟨rfl, b2⟩
  go_wp2_with fail
  with_reducible refine (re_ (SeesI_calls a b c' d e a' b' c'' d' e' _) (ret_bool HR.out)).mono ?_
  rintro x w3 ⟨rfl, b3⟩
  go_wp2
  go_ret
  exact ⟨rfl, below_call (below_call b1 b2) b3⟩
set_option maxHeartbeats 8000000 in
set_option maxRecDepth 100000 in
theorem refSeesRo_calls (n c : Nat) (A : Option Addr) (l : List En) (o q : ByteArray) (w : World) (hl : Row enEn 7 w (.slice A n c) l) :
    Calls Try.prog 20 #[.slice A n c, .string o, .string q] w fun e w' => e = .returned (.bool (seesRo l o q)) ∧ Below w.heap.size w w' := by
  unfold seesRo
  obtain ⟨⟨a, b, c', d, e⟩, h1⟩ : ∃ x, getRo l o q = x := ⟨_, rfl⟩
  obtain ⟨⟨a', b', c'', d', e'⟩, h2⟩ : ∃ x, getRo l q o = x := ⟨_, rfl⟩
  have H1 := refGetRo_calls n c A l o q w hl
  have H2 := fun (w1 : World) (h : Below w.heap.size w w1) => refGetRo_calls n c A l q o w1 (hl.below h)
  rw [h1] at H1 ⊢
  rw [h2] at H2 ⊢
  have HH2 := Lib.hid H2
  obtain ⟨r, hr⟩ : ∃ r, seesI ⟨a, b, c', d, e⟩ ⟨a', b', c'', d', e'⟩ = r := ⟨_, rfl⟩
  rw [hr]
  have HR := Lib.hid hr
  clear hr h1 h2 H2
  go_enter Try.func20, Try.ntmps20
  go_wp2_with fail
  refine H1.mono ?_
  rintro x w1 ⟨rfl, b1⟩
  go_wp2_with fail
  refine (HH2.out w1 b1).mono ?_
  rintro x w2 ⟨rfl, b2⟩
  go_wp2_with fail
  with_reducible refine (re_ (refSeesI_calls a b c' d e a' b' c'' d' e' _) (ret_bool HR.out)).mono ?_
  rintro x w3 ⟨rfl, b3⟩
  go_wp2
  go_ret
  exact ⟨rfl, below_call (below_call b1 b2) b3⟩
end Go.Proofs.Ytpmafghknafhaaa
