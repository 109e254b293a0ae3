/-
Contracts: the library's slices at rows of structs.
Layer 5: the test that Set gives to the library, and the first place where it holds.
Layer 5: slices.DeleteFunc at a table's rows, with the test of Set.
Layer 5: a change set in a table, by the program.
Layer 5: the changes from a table to another one, by the program.
-/
import Derived.Test.YtcopiimflloooaaSnSt
import Derived.Test.YtcopiimflloooaaBlk
import Derived.Test.YtcopiimflloooaaWk
import Derived.Test.YtcopiimflloooaaDigIJ
import Derived.Test.YtcopiimflloooaaChSt
import Derived.Test.YtcopiimflloooaaIdentD
set_option linter.unusedVariables false
set_option linter.unusedSimpArgs false
namespace Go.Proofs.Ytcopiimflloooaa
open Go.RowKit
open Sp
set_option maxHeartbeats 8000000 in
set_option maxRecDepth 100000 in
theorem cloneSn_calls (n c : Nat) (A : Option Addr) (l : List Sn) (w : World) (hl : Row enSn 5 w (.slice A n c) l) (hn : n ≤ 100000) :
    Calls Try.prog 81 #[.slice A n c] w fun e w' => ∃ v, e = .returned v ∧ Own enSn 5 66 w' w.heap.size v l ∧ Below w.heap.size w w' := by
  rcases A with _ | ad
  · have hl0 : l = [] := by
      obtain ⟨A', c', he, _, _, _, h4⟩ := hl
      rcases Nat.eq_zero_or_pos l.length with h0 | h0
      · exact List.eq_nil_of_length_eq_zero h0
      · obtain ⟨ad, h, _⟩ := h4 h0
        injection he with e1
        rw [← e1] at h
        cases h
    subst hl0
    have kn := fun (W : World) => Lib.run_eql_slice_nil (P := Try.prog) W 44 66 none n c 0 0 Try.underlying44
    go_enter Try.func81, Try.ntmps81
    go_wp2
    go_ret
    exact ⟨_, rfl, Own.nil _ _ _ _ _, Below.refl _ _⟩
  · have EA := Lib.hid hl.len_eq
    have hln : l.length ≤ 100000 := by have := EA.out; omega
    have hB := below_box (w := w) (.cells #[] 66)
    have kn := fun (W : World) => Lib.run_eql_slice_nil (P := Try.prog) W 44 66 (some ad) n c 0 0 Try.underlying44
    have hO : Own enSn 5 66 (w.alloc (.cells #[] 66)) w.heap.size (.slice (some ⟨w.heap.size, 0, none⟩) 0 0) [] := Own.lit enSn_len w [] #[] 0 rfl rfl (Nat.le_refl _) (by omega)
    go_enter Try.func81, Try.ntmps81
    go_wp2_with (at_builtin; refine Own.appendRow (w0 := w) w.heap.size rfl (.tmp 5) (.tmp 6) 44 66 zvSn 5 56 rfl Try.underlying44 infoSn rfl (by decide) (.slice (some ⟨w.heap.size, 0, none⟩) 0 0) (.slice (some ad) n c) [] l rfl rfl enSn_one hO (hl.below hB) hB hB.size (by simp only [List.length_nil]; omega) (by simp only [List.length_nil]; omega) ?_; intro v2 w2 hO2 hB2 _ _)
    go_ret
    exact ⟨_, rfl, hO2, hB2⟩
theorem szSn : (Try.prog.info? 66).map (·.size) = some 5 := by kernel_rfl
theorem szoSn (w : World) : (Go.sizeOf 66).run Try.prog w = .ok 5 w := by kernel_rfl
theorem flat_takeSn (xs : List Sn) (i : Nat) (hi : i ≤ xs.length) : (xs.flatMap enSn) = (xs.take i).flatMap enSn ++ (xs.drop i).flatMap enSn ∧ ((xs.take i).flatMap enSn).length = i * 5 ∧ ((xs.drop i).flatMap enSn).length = (xs.length - i) * 5 := by
  refine ⟨by rw [← List.flatMap_append, List.take_append_drop], ?_, ?_⟩
  · rw [flat_length enSn_len, List.length_take]; congr 1; omega
  · rw [flat_length enSn_len, List.length_drop]
set_option maxHeartbeats 8000000 in
set_option maxRecDepth 100000 in
/-- At the end. -/
theorem insertSn_end (base n g : Nat) (v : Value) (xs : List Sn) (x : Sn) (w0 w : World) (hO : Own enSn 5 66 w base v xs) (hx : w.heap[g]? = some (.cells (enSn x).toArray 66 (0, 0))) (hn : n = xs.length) (hln : n ≤ 100000)
    (HB : Below base w0 w) (hbase : base ≤ w.heap.size) :
    Calls Try.prog 83 #[v, .int .i64 n, .slice (some ⟨g, 0, none⟩) 1 1] w fun e w' => ∃ v', e = .returned v' ∧ Own enSn 5 66 w' base v' (xs ++ [x]) ∧ Below base w0 w' := by
  obtain ⟨A, c, rfl, hnc⟩ := hO.slice
  have hR : Row enSn 5 w (.slice (some ⟨g, 0, none⟩) 1 1) [x] := ⟨_, 1, rfl, Nat.le_refl _, by simp [maxLen], rfl, fun _ => ⟨_, rfl, fun j u hu => by
    rw [add_plain, World.cell?, hx]
    simpa using hu⟩⟩
  rw [← hn] at hnc
  have HN := Lib.hid hn
  have hu : xs.length ≤ 100000 := by omega
  have hO' : Own enSn 5 66 w base (.slice A n c) xs := by rw [HN.out]; exact hO
  rw [← hn]
  clear hO hn
  have x1 : (0 : Int) ≤ (n : Int) := by omega
  have x2 : (n : Int) ≤ (c : Int) := by omega
  have heq : ((n : Int) == (n : Int)) = true := by simp
  go_enter Try.func83, Try.ntmps83
  go_wp2_with (at_builtin; refine Own.appendRow (w0 := w0) base rfl (.tmp 23) (.tmp 24) 44 66 zvSn 5 56 rfl Try.underlying44 infoSn rfl (by decide) (.slice A n c) (.slice (some ⟨g, 0, none⟩) 1 1) xs [x] rfl rfl enSn_one hO' hR HB hbase (by simp only [List.length_cons, List.length_nil]; omega) (by simp only [List.length_cons, List.length_nil]; omega) ?_; intro v2 w2 hO2 hB2 _ _)
  all_goals
    go_ret
    exact ⟨_, rfl, hO2, hB2⟩
set_option maxHeartbeats 8000000 in
set_option maxRecDepth 100000 in
/-- There is room: in place. -/
theorem insertSn_shift (base n c i g b : Nat) (xs : List Sn) (x : Sn) (w0 w : World) (hO : Own enSn 5 66 w base (.slice (some ⟨b, 0, none⟩) n c) xs) (hx : w.heap[g]? = some (.cells (enSn x).toArray 66 (0, 0))) (hgb : g ≠ b) (hn : n = xs.length) (hln : n ≤ 100000)
    (hi : i < n) (hroom : n + 1 ≤ c) (HB : Below base w0 w) :
    Calls Try.prog 83 #[.slice (some ⟨b, 0, none⟩) n c, .int .i64 i, .slice (some ⟨g, 0, none⟩) 1 1] w fun e w' => ∃ v', e = .returned v' ∧ Own enSn 5 66 w' base v' (xs.take i ++ x :: xs.drop i) ∧ Below base w0 w' := by
  obtain ⟨hlen, h2⟩ := hO
  rcases h2 with ⟨h2, _⟩ | ⟨b', c', cur, he, hbb, hcur, hnc, hcm, hcs, htake⟩
  · cases h2
  simp only [Value.slice.injEq, Option.some.injEq, Addr.mk.injEq] at he
  obtain ⟨⟨rfl, -, -⟩, -, rfl⟩ := he
  obtain ⟨f1, f2, f3⟩ := flat_takeSn xs i (by omega)
  obtain ⟨X1, hX1⟩ : ∃ X1, (xs.take i).flatMap enSn = X1 := ⟨_, rfl⟩
  obtain ⟨X2, hX2⟩ : ∃ X2, (xs.drop i).flatMap enSn = X2 := ⟨_, rfl⟩
  obtain ⟨Y, hY⟩ : ∃ Y, enSn x = Y := ⟨_, rfl⟩
  obtain ⟨L, rfl⟩ : ∃ L : List Value, cur = L.toArray := ⟨cur.toList, by simp⟩
  rw [hX1, hX2] at f1
  rw [hX1] at f2
  rw [hX2, ← hn] at f3
  rw [f1] at htake
  rw [← hn] at hnc htake
  rw [hY] at hx
  have hYl : Y.length = 5 := by rw [← hY]; rfl
  have hY1 : ∀ v ∈ Y, v.oneCell' = true := by rw [← hY]; exact enSn_one x
  have hX21 : ∀ v ∈ X2, v.oneCell' = true := by rw [← hX2]; intro v hv; obtain ⟨y, _, hy⟩ := List.mem_flatMap.1 hv; exact enSn_one y v hy
  have hLl : L.length = c * 5 := by simpa using hcs
  have hLt : L.take (n * 5) = X1 ++ X2 := by simpa using htake
  obtain ⟨s1, s2⟩ := splice_ins L X1 X2 Y (n * 5) 5 hLt hYl (by rw [hLl, ← Nat.succ_mul]; exact Nat.mul_le_mul_right _ hroom)
  have hsrc : ∀ j u, X2[j]? = some u → w.cell? ⟨b, i * 5 + j, none⟩ = some u := by
    intro j u hu
    have hj : j < X2.length := (List.getElem?_eq_some_iff.1 hu).1
    have h1 : L[i * 5 + j]? = some u := by
      have h2 : (L.take (n * 5))[i * 5 + j]? = some u := by
        rw [hLt, ← f2, List.getElem?_append_right (by omega), Nat.add_sub_cancel_left]; exact hu
      rw [List.getElem?_take] at h2
      split at h2
      · exact h2
      · cases h2
    rw [World.cell?, hcur]
    simpa using h1
  have hgcell : ∀ j u, Y[j]? = some u → w.cell? ⟨g, j, none⟩ = some u := fun j u hu => by rw [World.cell?, hx]; simpa using hu
  have hov : ∀ lb cb, (callFunc 104 #[.slice (some ⟨g, 0, none⟩) 1 1, .slice (some ⟨b, (i + 1) * 5, none⟩) lb cb]).run Try.prog w = .ok (.value (.bool false)) w := fun lb cb => by
    rw [run_callFunc_extern Try.func104 (by kernel_rfl) (by kernel_rfl) (by kernel_rfl) (e := Extern.SlicesOverlaps.overlaps #[44, 44] #[4]) (by kernel_rfl),
      Lib.run_overlaps_apart w 44 4 66 Try.underlying44 5 szoSn ⟨g, 0, none⟩ ⟨b, (i + 1) * 5, none⟩ 1 1 lb cb hgb 66 66 Y.length L.length (by simp [World.shape?, hx]) (by simp [World.shape?, hcur]) (by rw [hLl]; have : 0 < c * 5 := Nat.mul_pos (by omega) (by omega); omega) (by simp [World.frozen?, hx]) (by simp [World.frozen?, hx])]
    rfl
  have hcur' : w.drew.heap[b]? = some (.cells L.toArray 66 (0, 0)) := hcur
  have hBd : Below base w0 w.drew := HB.drew
  have hdl : X2.length = Nat.min (n + 1 - i) (n - i) * 5 := by rw [f3]; congr 1; simp only [Nat.min_def]; split <;> omega
  have HS1 := Lib.hid s1
  have HS2 := Lib.hid s2
  have HF1 := Lib.hid f1
  have HF2 := Lib.hid f2
  have HLL := Lib.hid hLl
  have HDL := Lib.hid hdl
  have HX1 := Lib.hid hX1
  have HX2 := Lib.hid hX2
  have HY := Lib.hid hY
  have HYL := Lib.hid hYl
  have HXN := Lib.hid hn
  have HG := Lib.hid hx
  have HSRC := Lib.hid hsrc
  have HGC := Lib.hid hgcell
  have HX21 := Lib.hid hX21
  have HY1 := Lib.hid hY1
  have HCUR := Lib.hid hcur'
  have HFIT : Hid (X1.length + 5 + X2.length ≤ L.length ∧ X1.length = i * 5 ∧ X1.length + 5 = (i + 1) * 5) := by
    refine ⟨?_, f2, by rw [f2, Nat.succ_mul]⟩
    have := congrArg List.length hLt
    rw [List.length_take, List.length_append] at this
    have h3 : (n + 1) * 5 ≤ L.length := by rw [hLl]; exact Nat.mul_le_mul_right _ hroom
    omega
  have HMK : Hid (∀ w' : World, w'.heap[b]? = some (.cells (splice (splice L (X1.length + 5) X2) X1.length Y).toArray 66 (0, 0)) → Own enSn 5 66 w' base (.slice (some ⟨b, 0, none⟩) (n + 1) c) (xs.take i ++ x :: xs.drop i)) := by
    intro w' hw'
    have hl2 : (xs.take i ++ x :: xs.drop i).length = n + 1 := by rw [List.length_append, List.length_cons, List.length_take, List.length_drop]; omega
    have hfl : (xs.take i ++ x :: xs.drop i).flatMap enSn = X1 ++ (Y ++ X2) := by rw [List.flatMap_append, List.flatMap_cons, hX1, hX2, hY]
    refine ⟨by rw [flat_length enSn_len], .inr ⟨b, c, _, by rw [hl2], hbb, hw', by omega, hcm, by simpa [s2] using hLl, ?_⟩⟩
    rw [hl2, hfl, ← s1]
    congr 1
    omega
  clear s1 s2 f1 f2 f3 hLl hdl hX1 hX2 hY hYl hn hx hsrc hgcell hX21 hY1 hcur' hlen hcs htake hLt
  have x1 : (0 : Int) ≤ (i : Int) := by omega
  have x2 : (i : Int) ≤ (n : Int) := by omega
  have x3 : (i : Int) < (n : Int) := by omega
  have x4 : (n : Int) + 1 ≤ (c : Int) := by omega
  have x5 : ((i : Int) == (n : Int)) = false := by simp; omega
  have x6 : ¬ ((i : Int) = (n : Int)) := by omega
  have x7 : ¬ (c = i) := by omega
  have x8 : ¬ (c = i + 1) := by omega
  have x9 : IntKind.i64.wrap ((i : Int) + 1) = (i : Int) + 1 := by rw [IntKind.wrap_i64]; omega
  have x10 : (0 : Int) ≤ (i : Int) + 1 := by omega
  have x11 : ((i : Int) + 1).toNat = i + 1 := by omega
  have x12 : (i : Int) + 1 ≤ (n : Int) + 1 := by omega
  have x13 : (i : Int) ≤ (n : Int) + 1 := by omega
  have x14 : i ≤ n := by omega
  go_enter Try.func83, Try.ntmps83
  go_wp2_with (simp only [hov])
  go_region_law (refine step_copyK rfl _ _ 44 44 rfl 66 5 Try.underlying44 szSn (by decide) (some ⟨b, (i + 1) * 5, none⟩) (some ⟨b, i * 5, none⟩) (n - i) (c - (i + 1)) (n + 1 - i) (c - i) (by simp [Act.eval, Act.put]) (by simp [Act.eval, Act.put]) b (X1.length + 5) L 66 HCUR.out X2 HDL.out (fun _ => ⟨by rw [HFIT.out.2.2], _, rfl, fun j v hj => by rw [Addr.add_lit]; exact HSRC.out j v hj⟩) HFIT.out.1 HX21.out base w0 hBd hbb ?_; intro w1 HC1 hB1 hz1 ho1)
  have hg1 := ho1 g hgb
  have hH2 : Y.length = Nat.min 1 (n + 1 - i) * 5 := by rw [HYL.out]; simp only [Nat.min_def]; split <;> omega
  have hF2 : X1.length + Y.length ≤ (splice L (X1.length + 5) X2).length := by rw [HYL.out, length_splice _ _ _ HFIT.out.1]; have := HFIT.out.1; omega
  have hP2 : 0 < Y.length → (some ⟨b, i * 5, none⟩ : Option Addr) = some ⟨b, X1.length, none⟩ ∧ ∃ ad, (some ⟨g, 0, none⟩ : Option Addr) = some ad ∧ ∀ j v, Y[j]? = some v → w1.cell? (ad.add j) = some v := fun _ => ⟨by rw [HFIT.out.2.1], _, rfl, fun j v hj => by rw [add_plain, World.cell?, hg1]; exact HGC.out j v hj⟩
  have HH2 := Lib.hid hH2
  have HF2 := Lib.hid hF2
  have HP2 := Lib.hid hP2
  clear hH2 hF2 hP2 hg1 ho1 hz1
  go_wp2_with (with_reducible refine wpList_copyK rfl (.tmp 80) (.tmp 81) 44 44 rfl 66 5 Try.underlying44 szSn (by decide) (some ⟨b, i * 5, none⟩) (some ⟨g, 0, none⟩) (n + 1 - i) (c - i) 1 1 rfl rfl b X1.length (splice L (X1.length + 5) X2) 66 HC1.out Y HH2.out HP2.out HF2.out HY1.out base w0 hB1 hbb ?_; intro w2 HC2 hB2 hz2 ho2)
  go_ret
  exact ⟨_, rfl, HMK.out _ HC2.out, hB2⟩
set_option maxHeartbeats 8000000 in
set_option maxRecDepth 100000 in
/-- There is no room: a new row. -/
theorem insertSn_grow (base n c i g b : Nat) (xs : List Sn) (x : Sn) (w0 w : World) (hO : Own enSn 5 66 w base (.slice (some ⟨b, 0, none⟩) n c) xs) (hx : w.heap[g]? = some (.cells (enSn x).toArray 66 (0, 0))) (hn : n = xs.length) (hln : n ≤ 100000)
    (hi : i < n) (hroom : c < n + 1) (HB : Below base w0 w) (hbase : base ≤ w.heap.size) :
    Calls Try.prog 83 #[.slice (some ⟨b, 0, none⟩) n c, .int .i64 i, .slice (some ⟨g, 0, none⟩) 1 1] w fun e w' => ∃ v', e = .returned v' ∧ Own enSn 5 66 w' base v' (xs.take i ++ x :: xs.drop i) ∧ Below base w0 w' := by
  obtain ⟨hlen, h2⟩ := hO
  rcases h2 with ⟨h2, _⟩ | ⟨b', c', cur, he, hbb, hcur, hnc, hcm, hcs, htake⟩
  · cases h2
  simp only [Value.slice.injEq, Option.some.injEq, Addr.mk.injEq] at he
  obtain ⟨⟨rfl, -, -⟩, -, rfl⟩ := he
  obtain ⟨f1, f2, f3⟩ := flat_takeSn xs i (by omega)
  obtain ⟨X1, hX1⟩ : ∃ X1, (xs.take i).flatMap enSn = X1 := ⟨_, rfl⟩
  obtain ⟨X2, hX2⟩ : ∃ X2, (xs.drop i).flatMap enSn = X2 := ⟨_, rfl⟩
  obtain ⟨Y, hY⟩ : ∃ Y, enSn x = Y := ⟨_, rfl⟩
  obtain ⟨L, rfl⟩ : ∃ L : List Value, cur = L.toArray := ⟨cur.toList, by simp⟩
  rw [hX1, hX2] at f1
  rw [hX1] at f2
  rw [hX2, ← hn] at f3
  rw [f1] at htake
  rw [← hn] at hnc htake
  rw [hY] at hx
  have hYl : Y.length = 5 := by rw [← hY]; rfl
  have hY1 : ∀ v ∈ Y, v.oneCell' = true := by rw [← hY]; exact enSn_one x
  have hX21 : ∀ v ∈ X2, v.oneCell' = true := by rw [← hX2]; intro v hv; obtain ⟨y, _, hy⟩ := List.mem_flatMap.1 hv; exact enSn_one y v hy
  have hLt : L.take (n * 5) = X1 ++ X2 := by simpa using htake
  have hget : ∀ j u, (X1 ++ X2)[j]? = some u → w.cell? ⟨b, j, none⟩ = some u := by
    intro j u hu
    rw [← hLt, List.getElem?_take] at hu
    rw [World.cell?, hcur]
    split at hu
    · simpa using hu
    · cases hu
  have hsrc1 : ∀ j u, X1[j]? = some u → w.cell? ⟨b, j, none⟩ = some u := fun j u hu => hget j u (by rw [List.getElem?_append_left (List.getElem?_eq_some_iff.1 hu).1]; exact hu)
  have hsrc : ∀ j u, X2[j]? = some u → w.cell? ⟨b, i * 5 + j, none⟩ = some u := fun j u hu => hget _ u (by rw [← f2, List.getElem?_append_right (by omega), Nat.add_sub_cancel_left]; exact hu)
  have hgcell : ∀ j u, Y[j]? = some u → w.cell? ⟨g, j, none⟩ = some u := fun j u hu => by rw [World.cell?, hx]; simpa using hu
  have hglt : g < w.heap.size := (Array.getElem?_eq_some_iff.1 hx).1
  have hblt : b < w.heap.size := (Array.getElem?_eq_some_iff.1 hcur).1
  obtain ⟨m, hm⟩ : ∃ m, n + 1 - i = m := ⟨_, rfl⟩
  have hmi : (n : Int) + 1 - (i : Int) = (m : Int) := by omega
  have hHA : Hid (c < i + m ∧ 0 < m ∧ (i + m) * 56 ≤ 140737488355328 ∧ i + m ≤ 140737488355328 ∧ i + m = n + 1) := ⟨by omega, by omega, by omega, by omega, by omega⟩
  have hm2 : 2 ≤ m := by omega
  have HS0 := Lib.hid f2
  have HSRC1 := Lib.hid hsrc1
  have HSRC := Lib.hid hsrc
  have HGC := Lib.hid hgcell
  have HX21 := Lib.hid hX21
  have HY1 := Lib.hid hY1
  have HYL := Lib.hid hYl
  have HF3 := Lib.hid f3
  have HXN := Lib.hid hn
  have HMI := Lib.hid hm
  have HMK : Hid (∀ (w' : World) (g' nc : Nat) (L' : List Value), base ≤ g' → i + m ≤ nc → nc ≤ 9223372036854775807 → L'.length = nc * 5 → L'.take ((n + 1) * 5) = X1 ++ (Y ++ X2) → w'.heap[g']? = some (.cells L'.toArray 66 (0, 0)) → Own enSn 5 66 w' base (.slice (some ⟨g', 0, none⟩) (i + m) nc) (xs.take i ++ x :: xs.drop i)) := by
    intro w' g' nc L' hbg hnc1 hnc2 hl1 hl3 hw'
    have hl2 : (xs.take i ++ x :: xs.drop i).length = n + 1 := by rw [List.length_append, List.length_cons, List.length_take, List.length_drop]; omega
    have hfl : (xs.take i ++ x :: xs.drop i).flatMap enSn = X1 ++ (Y ++ X2) := by rw [List.flatMap_append, List.flatMap_cons, hX1, hX2, hY]
    refine ⟨by rw [flat_length enSn_len], .inr ⟨g', nc, _, by rw [hl2]; congr 1; omega, hbg, hw', by omega, by simpa [maxLen] using hnc2, by simpa using hl1, ?_⟩⟩
    rw [hl2, hfl, ← hl3]
  clear hsrc1 hsrc hgcell hget hX21 hY1 hYl hn hlen hcs htake hLt hX1 hX2 hY f1 f2 f3
  have x1 : (0 : Int) ≤ (i : Int) := by omega
  have x2 : (i : Int) ≤ (n : Int) := by omega
  have x3 : (i : Int) < (n : Int) := by omega
  have x4 : (c : Int) < (n : Int) + 1 := by omega
  have x5 : ((i : Int) == (n : Int)) = false := by simp; omega
  have x6 : ¬ ((i : Int) = (n : Int)) := by omega
  have x7 : ¬ (c = i) := by omega
  have x9 : IntKind.i64.wrap ((i : Int) + 1) = (i : Int) + 1 := by rw [IntKind.wrap_i64]; omega
  have x10 : (0 : Int) ≤ (i : Int) + 1 := by omega
  have x11 : ((i : Int) + 1).toNat = i + 1 := by omega
  have x12 : (i : Int) + 1 ≤ (i : Int) + (m : Int) := by omega
  have x13 : (i : Int) ≤ (i : Int) + (m : Int) := by omega
  have x14 : i ≤ n := by omega
  have x15 : i ≤ c := by omega
  have x16 : (i : Int) ≤ (c : Int) := by omega
  have x17 : 1 ≤ m := by omega
  clear hm
  go_enter Try.func83, Try.ntmps83
  go_wp2_with (first | (at_builtin; refine wpList_append_zerosK rfl (.tmp 34) (.tmp 39) 44 3 rfl 66 zvSn 5 56 .i64 .i64 Try.underlying44 Try.underlying3 infoSn rfl (by decide) b i c m rfl rfl X1 HS0.out HSRC1.out hHA.out.1 hHA.out.2.1 hHA.out.2.2.1 hHA.out.2.2.2.1 ?_; intro nc cur w1 hnc1 hnc2 HCL HCT HC1 hz1 hB1; (have HB1 := HB.trans (hB1.mono hbase)); (have hcx : w1.heap[g]? = w.heap[g]? := hB1.block g hglt); (have hcb : w1.heap[b]? = w.heap[b]? := hB1.block b hblt); (have hgne : g ≠ w.heap.size := (by omega)); (have hbne : b ≠ w.heap.size := (by omega)); (obtain ⟨s1, s2, s3⟩ := splice_app cur X1 X2 Y (i * 5) HCT.out HS0.out (by rw [HYL.out, HF3.out, HCL]; have := hHA.out.2.2.2.2; omega)); (have y1 : ¬ (nc = i) := (by omega)); (have y2 : ¬ (nc = i + 1) := (by omega)); (have hH2 : Y.length = Nat.min 1 m * 5 := (by rw [HYL.out]; simp only [Nat.min_def]; split <;> omega)); (have hF2 : i * 5 + Y.length ≤ cur.length := (by rw [HYL.out, HCL]; have := hHA.out.2.2.2.2; omega)); (have hP2 : ∀ j v, Y[j]? = some v → w1.cell? ⟨g, j, none⟩ = some v := fun j v hj => by rw [World.cell?, hcx]; exact HGC.out j v hj); (have HH2 := Lib.hid hH2); (have HF2 := Lib.hid hF2); (have HP2 := Lib.hid hP2); (have HC1' := Lib.hid HC1); (have HCL' := Lib.hid HCL); (have HS1 := Lib.hid s1); (have HS2 := Lib.hid s2); (have HS3 := Lib.hid s3); (have HCB := Lib.hid hcb); (clear hH2 hF2 hP2 HC1 HCL s1 s2 s3 hcb hcx)) | (with_reducible refine wpList_copyK rfl (.tmp 43) (.tmp 44) 44 44 rfl 66 5 Try.underlying44 szSn (by decide) (some ⟨w.heap.size, i * 5, none⟩) (some ⟨g, 0, none⟩) m (nc - i) 1 1 rfl rfl w.heap.size (i * 5) cur 66 HC1'.out Y HH2.out (fun _ => ⟨rfl, _, rfl, fun j v hj => by rw [add_plain]; exact HP2.out j v hj⟩) HF2.out HY1.out base w0 HB1 hbase ?_; intro w2 HC2 hB2 hz2 ho2))
  have hcb2 := (ho2 b hbne).trans HCB.out
  have hH3 : X2.length = Nat.min (n - i) (m - 1) * 5 := by rw [HF3.out]; congr 1; have := hHA.out.2.2.2.2; simp only [Nat.min_def]; split <;> omega
  have hF3 : i * 5 + Y.length + X2.length ≤ (splice cur (i * 5) Y).length := by
    rw [HS3.out, HYL.out, HF3.out, HCL'.out]; have := hHA.out.2.2.2.2; omega
  have hP3 : 0 < X2.length → (some ⟨w.heap.size, (i + 1) * 5, none⟩ : Option Addr) = some ⟨w.heap.size, i * 5 + Y.length, none⟩ ∧ ∃ ad, (some ⟨b, i * 5, none⟩ : Option Addr) = some ad ∧ ∀ j v, X2[j]? = some v → w2.drew.cell? (ad.add j) = some v := fun _ => ⟨by rw [HYL.out, Nat.succ_mul], _, rfl, fun j v hj => by rw [Addr.add_lit]; show w2.cell? _ = _; rw [World.cell?, hcb2]; exact HSRC.out j v hj⟩
  have HH3 := Lib.hid hH3
  have HF3' := Lib.hid hF3
  have HP3 := Lib.hid hP3
  have HC2' : Hid (w2.drew.heap[w.heap.size]? = some (.cells (splice cur (i * 5) Y).toArray 66 (0, 0))) := HC2.out
  have hB2d : Below base w0 w2.drew := hB2.drew
  clear hH3 hF3 hP3 hcb2 ho2 hz2
  go_region_law (refine step_copyK rfl (.tmp 50) (.tmp 53) 44 44 rfl 66 5 Try.underlying44 szSn (by decide) (some ⟨w.heap.size, (i + 1) * 5, none⟩) (some ⟨b, i * 5, none⟩) (m - 1) (nc - (i + 1)) (n - i) (c - i) (by simp [Act.eval, Act.put]; omega) (by simp [Act.eval, Act.put]) w.heap.size (i * 5 + Y.length) (splice cur (i * 5) Y) 66 HC2'.out X2 HH3.out HP3.out HF3'.out HX21.out base w0 hB2d hbase ?_; intro w3 HC3 hB3 hz3 ho3)
  go_wp2
  go_ret
  refine ⟨_, rfl, HMK.out w3 w.heap.size nc _ hbase hnc1 hnc2 (by rw [HS2.out, HCL'.out]) ?_ HC3.out, hB3⟩
  rw [← HS1.out]
  congr 1
  rw [HYL.out, HF3.out]
  omega
/-- slices.Insert of one. -/
theorem insertSn_calls (base i g : Nat) (v : Value) (xs : List Sn) (x : Sn) (w0 w : World) (hO : Own enSn 5 66 w base v xs) (hx : w.heap[g]? = some (.cells (enSn x).toArray 66 (0, 0))) (hgb : v.ownBlock ≠ some g) (hln : xs.length ≤ 100000)
    (hi : i ≤ xs.length) (HB : Below base w0 w) (hbase : base ≤ w.heap.size) :
    Calls Try.prog 83 #[v, .int .i64 i, .slice (some ⟨g, 0, none⟩) 1 1] w fun e w' => ∃ v', e = .returned v' ∧ Own enSn 5 66 w' base v' (xs.take i ++ x :: xs.drop i) ∧ Below base w0 w' := by
  by_cases he : i = xs.length
  · rw [List.take_of_length_le (by omega), List.drop_eq_nil_of_le (by omega)]
    exact insertSn_end base i g v xs x w0 w hO hx he (by omega) HB hbase
  · obtain ⟨A, c, rfl, hnc⟩ := hO.slice
    rcases A with _ | ad
    · rcases hO.2 with ⟨_, h0⟩ | ⟨b, c', cur, h, _⟩
      · omega
      · cases h
    · obtain ⟨b, rfl⟩ : ∃ b, ad = ⟨b, 0, none⟩ := by
        rcases hO.2 with ⟨h, _⟩ | ⟨b, c', cur, h, _⟩
        · cases h
        · injection h with h; injection h with h; exact ⟨b, h⟩
      by_cases hroom : xs.length + 1 ≤ c
      · exact insertSn_shift base xs.length c i g b xs x w0 w hO hx (fun e => hgb (by rw [e]; rfl)) rfl hln (by omega) hroom HB
      · exact insertSn_grow base xs.length c i g b xs x w0 w hO hx rfl hln (by omega) (by omega) HB hbase
end Go.Proofs.Ytcopiimflloooaa
set_option linter.unusedVariables false
set_option linter.unusedSimpArgs false
namespace Go.Proofs.Ytcopiimflloooaa
open Go.RowKit
open Sp
set_option maxHeartbeats 8000000 in
set_option maxRecDepth 100000 in
theorem set1_calls (a_ : ByteArray) (b_ c_ d_ : Int) (e_ : ByteArray) (g : Nat) (q : ByteArray) (on : Bool) (x y z : Int) (t : ByteArray) (w : World) (hg : w.heap[g]? = some (bxCh q on x y z t)) :
    Calls Try.prog 82 #[.agg #[.string a_, .int .i64 b_, .int .i64 c_, .int .i64 d_, .string e_], .pointer (some ⟨g, 0, none⟩)] w fun e w' => e = .returned (.bool (decide (a_ = q))) ∧ Below w.heap.size w w' := by
  have hB := below_box (w := w) (bxSn a_ b_ c_ d_ e_)
  have h0 := heap_alloc_new w (bxSn a_ b_ c_ d_ e_)
  obtain ⟨c0, c1, c2, c3, c4, cz⟩ := cellsSn a_ b_ c_ d_ e_ h0
  obtain ⟨k0, k1, k2, k3, k4, k5, kz⟩ := cellsCh q on x y z t (halloc hg (bxSn a_ b_ c_ d_ e_))
  have hgl : g < w.heap.size := (Array.getElem?_eq_some_iff.1 hg).1
  clear hg h0
  have hE : (a_.toList == q.toList) = decide (a_ = q) := by
    rw [Bool.eq_iff_iff, decide_eq_true_eq, beq_iff_eq, toList_inj']
  have HE := Lib.hid hE
  clear hE
  go_enter Try.func82, Try.ntmps82
  go_wp2
  go_ret
  exact ⟨ret_bool (by first | exact HE.out | simp [toList_inj']), hB⟩
set_option maxHeartbeats 8000000 in
set_option maxRecDepth 100000 in
theorem idxSet_calls (n c : Nat) (A : Option Addr) (l : List Sn) (g : Nat) (q : ByteArray) (on : Bool) (x y z : Int) (t : ByteArray) (w : World) (hl : Row enSn 5 w (.slice A n c) l) (hg : w.heap[g]? = some (bxCh q on x y z t)) :
    Calls Try.prog 103 #[.slice A n c, .func (.func 82) #[] #[.pointer (some ⟨g, 0, none⟩)]] w fun e w' => e = .returned (.int .i64 (idxI (l.findIdx? (fun s : Sn => decide (s.c = q))))) ∧ Below w.heap.size w w' := by
  have EA := Lib.hid hl.len_eq
  have hnl : n ≤ 9223372036854775807 := by rw [EA.out]; exact hl.len
  obtain ⟨r, hr⟩ : ∃ r, idxI (l.findIdx? (fun s : Sn => decide (s.c = q))) = r := ⟨_, rfl⟩
  rw [hr]
  have HR := Lib.hid hr
  clear hr
  have HG := Lib.hid hg
  have HGL : Hid (g < w.heap.size) := (Array.getElem?_eq_some_iff.1 hg).1
  clear hg
  go_enter Try.func103, Try.ntmps103
  go_wp2
  go_loopw [8] (fun v8 wr => ∃ i : Nat, v8 = .int .i64 i ∧ i ≤ n ∧ Below w.heap.size w wr ∧ Hid (∀ j (h : j < l.length), j < i → ((fun s : Sn => decide (s.c = q))) l[j] = false)) (fun v8 _ => (n - intOf v8).toNat)
  case atStart => exact ⟨0, rfl, Nat.zero_le _, Below.refl _ _, fun j _ h => absurd h (by omega)⟩
  case round =>
    obtain ⟨i, rfl, hi, hB, HT⟩ := hrel
    by_cases hlt : i < n
    · have hil : i < l.length := by have := EA.out; omega
      obtain ⟨⟨a_, b_, c_, d_, e_⟩, he⟩ : ∃ e, l[i] = e := ⟨_, rfl⟩
      obtain ⟨ad, rfl, c0, c1, c2, c3, c4⟩ := rowSn (hl.below hB) i hil a_ b_ c_ d_ e_ he
      have HE := Lib.hid he
      clear he
      obtain ⟨b, hb⟩ : ∃ b, ((fun s : Sn => decide (s.c = q))) ⟨a_, b_, c_, d_, e_⟩ = b := ⟨_, rfl⟩
      have HB := Lib.hid hb
      clear hb
      go_wp2_with fail
      refine (re_ (set1_calls a_ b_ c_ d_ e_ g q on x y z t _ (hcall HG.out hB)) (ret_bool HB.out)).mono ?_
      rintro e w1 ⟨rfl, b1⟩
      have hB1 := below_call hB b1
      clear c0 c1 c2 c3 c4 b1 hB
      cases b with
      | true =>
        have HF : Hid (r = (i : Int)) := by
          show _ = _
          rw [← HR.out, idx_at _ l i hil HT.out (by rw [HE.out]; exact HB.out)]; rfl
        go_wp2
        go_ret
        rw [HF.out]
        exact ⟨rfl, hB1⟩
      | false =>
        go_wp2
        exact ⟨⟨i + 1, by go_num, by omega, hB1, fun j h hj => by
          rcases Nat.lt_or_ge j i with h' | h'
          · exact HT.out j h h'
          · obtain rfl : j = i := by omega
            rw [HE.out]; exact HB.out⟩, by simp [intOf]; omega⟩
    · have hin : i = n := by omega
      subst hin
      have HF : Hid (r = -1) := by
        show _ = _
        rw [← HR.out, idx_no _ l (fun j hj => HT.out j hj (by rw [EA.out]; exact hj))]; rfl
      go_wp2
      go_ret
      rw [HF.out]
      exact ⟨rfl, hB⟩
end Go.Proofs.Ytcopiimflloooaa
set_option linter.unusedVariables false
set_option linter.unusedSimpArgs false
namespace Go.Proofs.Ytcopiimflloooaa
open Go.RowKit
open Sp
theorem zoSn (w : World) : (zeroValue 66).run Try.prog w = .ok zvSn w := by kernel_rfl
theorem zcSn : ∀ v ∈ (zvSn).cells.toList, v.oneCell' = true := by decide
abbrev notC (q : ByteArray) (s : Sn) : Bool := !decide (s.c = q)
set_option maxHeartbeats 16000000 in
set_option maxRecDepth 100000 in
theorem delFuncT_calls (base n c : Nat) (A : Option Addr) (l : List Sn) (g : Nat) (q : ByteArray) (on : Bool) (x y z : Int) (t : ByteArray) (w0 w : World) (hO : Own enSn 5 66 w base (.slice A n c) l) (hln : l.length ≤ 100000)
    (hg : w.heap[g]? = some (bxCh q on x y z t)) (hgb : g < base) (HB : Below base w0 w) (hbase : base ≤ w.heap.size) :
    Calls Try.prog 80 #[.slice A n c, .func (.func 82) #[] #[.pointer (some ⟨g, 0, none⟩)]] w fun e w' => ∃ v', e = .returned v' ∧ Own enSn 5 66 w' base v' (l.filter (notC q)) ∧ Below base w0 w' := by
  have hrow := hO.row
  have EA := Lib.hid hrow.len_eq
  have hn5 : n ≤ 100000 := by have := EA.out; omega
  cases hf : l.findIdx? (fun s : Sn => decide (s.c = q)) with
  | none =>
    have HF : Hid (l.filter (notC q) = l) := by
      show _ = _
      rw [List.filter_eq_self]
      intro s hs
      have := (List.findIdx?_eq_none_iff.1 hf) s hs
      unfold notC
      rw [this]; rfl
    have HI : Hid (idxI (l.findIdx? (fun s : Sn => decide (s.c = q))) = -1) := by show _ = _; rw [hf]; rfl
    clear hf
    go_enter Try.func80, Try.ntmps80
    go_wp2_with fail
    with_reducible refine (re_ (idxSet_calls n c A l g q on x y z t _ hrow hg) (ret_int HI.out)).mono ?_
    rintro e w1 ⟨rfl, b1⟩
    have hO2 := hO.below b1
    have hB2 := below_then HB hbase b1
    clear hO hrow HB b1 hg
    go_wp2
    go_ret
    rw [HF.out]
    exact ⟨_, rfl, hO2, hB2⟩
  | some i0 =>
    obtain ⟨hi0, hp0, hlt0⟩ := List.findIdx?_eq_some_iff_getElem.1 hf
    have hi0n : i0 < n := by have := EA.out; omega
    obtain ⟨b, rfl, hbb⟩ : ∃ b, A = some ⟨b, 0, none⟩ ∧ base ≤ b := by
      rcases hO.2 with ⟨h, _⟩ | ⟨g', cap', cur, he, hb, _⟩
      · injection h with h1 h2 h3
        omega
      · injection he with h1 h2 h3
        exact ⟨g', h1, hb⟩
    have HI : Hid (idxI (l.findIdx? (fun s : Sn => decide (s.c = q))) = (i0 : Int)) := by show _ = _; rw [hf]; rfl
    have hst : (l.take (i0 + 1)).filter (notC q) = l.take i0 := by
      rw [List.take_succ_eq_append_getElem hi0, List.filter_append, List.filter_cons, if_neg (by unfold notC; rw [hp0]; decide), List.filter_nil, List.append_nil, List.filter_eq_self]
      intro s hs
      obtain ⟨j, hj, rfl⟩ := List.getElem_of_mem hs
      rw [List.length_take] at hj
      rw [List.getElem_take]
      have := hlt0 j (by omega)
      unfold notC
      simpa using this
    have HST : Hid (l.take i0 = (l.take (i0 + 1)).filter (notC q)) := hst.symm
    clear hf hp0 hlt0 hst hi0
    have hne : ((i0 : Int) == -1) = false := by simp
    go_enter Try.func80, Try.ntmps80
    go_wp2_with fail
    with_reducible refine (re_ (idxSet_calls n c _ l g q on x y z t _ hrow hg) (ret_int HI.out)).mono ?_
    rintro e w1 ⟨rfl, b1⟩
    have hO2 := hO.below b1
    have hB2 := below_then HB hbase b1
    have hg2 := hcall hg b1
    have hbs1 : base ≤ w1.heap.size := Nat.le_trans hbase b1.size
    clear hO hrow HB b1 hg
    go_wp2
    go_loopw [5, 6] (fun vi vj wr => ∃ (i j : Nat) (m : List Sn), vi = .int .i64 i ∧ vj = .int .i64 j ∧ i < j ∧ j ≤ n ∧ m.length = l.length ∧ Hid (m.take i = (l.take j).filter (notC q) ∧ m.drop j = l.drop j) ∧ Own enSn 5 66 wr base (.slice (some ⟨b, 0, none⟩) n c) m ∧ Below base w0 wr ∧ base ≤ wr.heap.size ∧ wr.heap[g]? = some (bxCh q on x y z t)) (fun _ vj _ => (n - intOf vj).toNat)
    case atStart => exact ⟨i0, i0 + 1, l, rfl, by go_num, by omega, by omega, rfl, ⟨HST.out, rfl⟩, hO2, hB2, hbs1, hg2⟩
    case round =>
      obtain ⟨i, j, m, rfl, rfl, hij, hj, hml, HM, hO, hB, hbs, hg⟩ := hrel
      clear hO2 hB2 hg2
      by_cases hlt : j < n
      · have hjl : j < l.length := by have := EA.out; omega
        have hjm : j < m.length := by omega
        obtain ⟨⟨a_, b_, c_, d_, e_⟩, he⟩ : ∃ e, l[j] = e := ⟨_, rfl⟩
        have hmj : m[j] = l[j] := by
          have h1 : m[j]? = l[j]? := by
            have := congrArg (fun r : List Sn => r[0]?) HM.out.2
            simpa [List.getElem?_drop] using this
          rw [List.getElem?_eq_getElem hjm, List.getElem?_eq_getElem hjl] at h1
          exact Option.some.inj h1
        obtain ⟨k0, k1, k2, k3, k4⟩ := rowsSn hO.row j hjm a_ b_ c_ d_ e_ (hmj.trans he)
        simp only [add_plain] at k0 k1 k2 k3 k4
        have hdr : m.drop (j + 1) = l.drop (j + 1) := by
          have := congrArg (List.drop 1) HM.out.2
          rwa [List.drop_drop, List.drop_drop] at this
        have hfl : (l.take (j + 1)).filter (notC q) = (l.take j).filter (notC q) ++ (if decide (a_ = q) then [] else [⟨a_, b_, c_, d_, e_⟩]) := by
          rw [List.take_succ_eq_append_getElem hjl, List.filter_append, he, List.filter_cons]
          unfold notC
          cases decide (a_ = q) <;> simp
        have hbx := heap_alloc_new wr (bxSn a_ b_ c_ d_ e_)
        have hO1 := hO.alloc (bxSn a_ b_ c_ d_ e_)
        have hB1 : Below base w0 (wr.alloc (bxSn a_ b_ c_ d_ e_)) := hB.alloc hbs _
        have hs1 : base ≤ (wr.alloc (bxSn a_ b_ c_ d_ e_)).heap.size := by rw [size_alloc]; omega
        have hg1 := halloc hg (bxSn a_ b_ c_ d_ e_)
        obtain ⟨u0, u1, u2, u3, u4, uz⟩ := cellsSn a_ b_ c_ d_ e_ hbx
        obtain ⟨bq, hbq⟩ : ∃ r, decide (a_ = q) = r := ⟨_, rfl⟩
        rw [hbq] at hfl
        have HQ := Lib.hid hbq
        have HFL := Lib.hid hfl
        have HDR := Lib.hid hdr
        have HIM : Hid (i < m.length) := by show _ < _; omega
        have x1 : (0 : Int) ≤ (i : Int) := by omega
        have x2 : (i : Int) < (n : Int) := by omega
        have x3 : (0 : Int) ≤ (j : Int) := by omega
        have x4 : (j : Int) < (n : Int) := by omega
        clear hbq hfl hdr he hmj hjl hjm hO hB hg
        go_wp2_with fail
        with_reducible refine (re_ (set1_calls a_ b_ c_ d_ e_ g q on x y z t _ hg1) (ret_bool HQ.out)).mono ?_
        rintro e w2 ⟨rfl, b2⟩
        have hO2 := hO1.below b2
        have hB2 := below_then hB1 hs1 b2
        have hg2 := hcall hg1 b2
        have hbx2 := hcall hbx b2
        have hs2 : base ≤ w2.heap.size := Nat.le_trans hs1 b2.size
        clear hO1 hB1 hg1 hbx hs1 b2 u0 u1 u2 u3 u4 uz k0 k1 k2 k3 k4
        cases bq with
        | true =>
          have HM2 : Hid (m.take i = (l.take (j + 1)).filter (notC q) ∧ m.drop (j + 1) = l.drop (j + 1)) := ⟨by rw [HFL.out, HM.out.1]; simp, HDR.out⟩
          go_wp2
          exact ⟨⟨i, j + 1, m, rfl, by go_num, by omega, by omega, hml, HM2, hO2, hB2, hs2, hg2⟩, by simp [intOf]; omega⟩
        | false =>
          have HM2 : Hid ((m.set i ⟨a_, b_, c_, d_, e_⟩).take (i + 1) = (l.take (j + 1)).filter (notC q) ∧ (m.set i ⟨a_, b_, c_, d_, e_⟩).drop (j + 1) = l.drop (j + 1)) := by
            have him := HIM.out
            refine ⟨?_, ?_⟩
            · rw [HFL.out, ← HM.out.1, List.take_succ_eq_append_getElem (by rw [List.length_set]; exact him), List.getElem_set_self, List.take_set, List.set_eq_of_length_le (by rw [List.length_take]; omega)]
              simp
            · rw [List.drop_set_of_lt (by omega)]; exact HDR.out
          obtain ⟨u0, u1, u2, u3, u4, uz⟩ := cellsSn a_ b_ c_ d_ e_ hbx2
          go_wp2_with (with_reducible refine Own.store rfl 66 (.tmp 33) (.tmp 32) rfl szSn b n c i m ⟨a_, b_, c_, d_, e_⟩ hO2 enSn_len (enSn_one _) HIM.out rfl (enSn ⟨a_, b_, c_, d_, e_⟩) rfl rfl hB2 ?_; intro w3 hO3 hB3 hz3 ho3)
          have hg3 : w3.heap[g]? = some (bxCh q on x y z t) := (ho3 g (by omega)).trans hg2
          exact ⟨⟨i + 1, j + 1, m.set i ⟨a_, b_, c_, d_, e_⟩, by go_num, by go_num, by omega, by omega, by rw [List.length_set]; exact hml, HM2, hO3, hB3, by rw [hz3]; exact hs2, hg3⟩, by simp [intOf]; omega⟩
      · have hjn : j = n := by omega
        subst hjn
        have hres : m.take i = l.filter (notC q) := by
          have := HM.out.1
          rwa [List.take_of_length_le (l := l) (by have := EA.out; omega)] at this
        have HRES := Lib.hid hres
        obtain ⟨hlen, h2⟩ := hO
        rcases h2 with ⟨h2, _⟩ | ⟨b', c', cur, he, hbb', hcur, hnc, hcm, hcs, htake⟩
        · cases h2
        simp only [Value.slice.injEq, Option.some.injEq, Addr.mk.injEq] at he
        obtain ⟨⟨rfl, -, -⟩, hn, rfl⟩ := he
        obtain ⟨L, rfl⟩ : ∃ L : List Value, cur = L.toArray := ⟨cur.toList, by simp⟩
        have hLl : L.length = c * 5 := by simpa using hcs
        have hLt : L.take (m.length * 5) = m.flatMap enSn := by simpa using htake
        obtain ⟨d, hd⟩ : ∃ d, j - i = d := ⟨_, rfl⟩
        have hmi : L.take (i * 5) = (m.take i).flatMap enSn := by
          obtain ⟨f1, f2, _⟩ := flat_takeSn m i (by omega)
          have e : L.take (i * 5) = (L.take (m.length * 5)).take (i * 5) := by rw [List.take_take]; congr 1; simp only [Nat.min_def]; split <;> omega
          rw [e, hLt, f1, ← f2, List.take_left]
        obtain ⟨s1, _⟩ := splice_take L (i * 5) (zerosK (zvSn).cells.toList d) (by omega)
        have s3 := length_splice L (i * 5) (zerosK (zvSn).cells.toList d) (by rw [zerosK_len, show (zvSn).cells.toList.length = 5 from rfl]; omega)
        have HMK : Hid (∀ w' : World, w'.heap[b]? = some (.cells (splice L (i * 5) (zerosK (zvSn).cells.toList d)).toArray 66 (0, 0)) → Own enSn 5 66 w' base (.slice (some ⟨b, 0, none⟩) i c) (m.take i)) := by
          intro w' hw'
          have hl2 : (m.take i).length = i := by rw [List.length_take]; omega
          refine ⟨by rw [flat_length enSn_len], .inr ⟨b, c, _, by rw [hl2], hbb', hw', by omega, hcm, by simpa [s3] using hLl, ?_⟩⟩
          rw [hl2]
          show (splice _ _ _).take _ = _
          rw [s1, hmi]
        have HFIT : Hid (i * 5 + d * 5 ≤ L.length) := by show _ ≤ _; omega
        have HCUR := Lib.hid hcur
        have x1 : (0 : Int) ≤ (i : Int) := by omega
        have x2 : (i : Int) ≤ (j : Int) := by omega
        have x4 : (j : Int) ≤ (c : Int) := by omega
        have x5 : i ≤ j := by omega
        have x6 : i ≤ c := by omega
        have x7 : (i : Int) ≤ (c : Int) := by omega
        have x8 : ¬ (c = i) := by omega
        have hd0 : 0 < d := by omega
        clear hlen hcs htake hLl hLt hmi s1 s3 hres HM hml hn hnc hcm hcur hg
        go_wp2_with (with_reducible refine wpList_clearK rfl (.tmp 38) 44 rfl 66 zvSn 5 Try.underlying44 zoSn rfl zcSn b (i * 5) d (c - i) rfl L 66 HCUR.out HFIT.out hd0 base w0 hB hbb' ?_; intro w2 HC2 hB2 hz2 ho2)
        go_ret
        rw [← HRES.out]
        exact ⟨_, rfl, HMK.out _ HC2.out, hB2⟩
end Go.Proofs.Ytcopiimflloooaa
set_option linter.unusedVariables false
set_option linter.unusedSimpArgs false
namespace Go.Proofs.Ytcopiimflloooaa
open Go.RowKit
open Sp
theorem atT_take (l : List Sn) (k : Nat) (h : k < l.length) (x : Sn) (he : l[k] = x) (q : ByteArray) : atT (l.take (k + 1)) q = if less x.c q then k + 1 else atT (l.take k) q := by
  rw [List.take_succ_eq_append_getElem h, he, atT_snoc, List.length_take, Nat.min_eq_left (by omega)]
set_option maxHeartbeats 16000000 in
set_option maxRecDepth 100000 in
theorem SetT_calls (n c : Nat) (A : Option Addr) (l : List Sn) (q : ByteArray) (on : Bool) (x y z : Int) (t : ByteArray) (w : World) (hl : Row enSn 5 w (.slice A n c) l) (hn : n ≤ 1000) :
    Calls Try.prog 44 #[.slice A n c, .agg #[.string q, .bool on, .int .i64 x, .int .i64 y, .int .i64 z, .string t]] w fun e w' => ∃ v, e = .returned v ∧ Row enSn 5 w' v (setT l ⟨q, on, x, y, z, t⟩) ∧ Below w.heap.size w w' := by
  have EA := Lib.hid hl.len_eq
  have hll : l.length ≤ 1000 := by have := EA.out; omega
  have hbx := heap_alloc_new w (bxCh q on x y z t)
  have D := below_box (w := w) (bxCh q on x y z t)
  have HSZ : Hid ((w.alloc (bxCh q on x y z t)).heap.size = w.heap.size + 1) := size_alloc _ _
  go_enter Try.func44, Try.ntmps44
  go_wp2_with fail
  with_reducible refine (cloneSn_calls n c A l _ (hl.below D) (by omega)).mono ?_
  rintro e w1 ⟨v1, rfl, hO1, b1⟩
  have hbx1 := hcall hbx b1
  obtain ⟨A1, c1, rfl, _⟩ := hO1.slice
  go_wp2_with fail
  with_reducible refine (delFuncT_calls (w.alloc (bxCh q on x y z t)).heap.size l.length c1 A1 l w.heap.size q on x y z t (w.alloc (bxCh q on x y z t)) _ hO1 (by omega) hbx1 (by rw [HSZ.out]; omega) b1 b1.size).mono ?_
  rintro e w2 ⟨v2, rfl, hO2, b2⟩
  have hbx2 : w2.heap[w.heap.size]? = some (bxCh q on x y z t) := (b2.block w.heap.size (by rw [HSZ.out]; omega)).trans hbx
  have hs2 := b2.size
  clear hO1 b1 hbx1 hbx
  obtain ⟨r, hr⟩ : ∃ r, l.filter (notC q) = r := ⟨_, rfl⟩
  rw [hr] at hO2
  have hrl : r.length ≤ 1000 := by rw [← hr]; have := List.length_filter_le (notC q) l; omega
  have HR : Hid (restT l q = r) := hr
  clear hr
  obtain ⟨k0, k1, k2, k3, k4, k5, kz⟩ := cellsCh q on x y z t hbx2
  have D2 : Below w.heap.size w w2 := below_call D b2
  cases on with
  | false =>
    have HF : Hid (setT l ⟨q, false, x, y, z, t⟩ = r) := by
      show _ = _
      unfold setT
      rw [if_neg (by simp)]
      exact HR.out
    have hrow := hO2.row
    clear hO2
    go_wp2
    go_ret
    rw [HF.out]
    exact ⟨_, rfl, hrow, D2⟩
  | true =>
    have HF : Hid (setT l ⟨q, true, x, y, z, t⟩ = r.take (atT r q) ++ ⟨q, x, y, z, t⟩ :: r.drop (atT r q)) := by
      show _ = _
      unfold setT
      rw [if_pos rfl]
      simp only
      rw [show restT l q = r from HR.out]
    obtain ⟨A2, c2, rfl, _⟩ := hO2.slice
    have hlen := r.length
    go_wp2
    go_loopw [6, 19] (fun va vk wr => ∃ (k : Nat) (p : Nat), vk = .int .i64 k ∧ va = .int .i64 p ∧ k ≤ r.length ∧ p ≤ k ∧ Hid (atT (r.take k) q = p) ∧ Below w2.heap.size w2 wr) (fun _ vk _ => (r.length - intOf vk).toNat)
    case atStart => exact ⟨0, 0, rfl, rfl, Nat.zero_le _, Nat.le_refl _, rfl, Below.refl _ _⟩
    case round =>
      obtain ⟨k, p, rfl, rfl, hk, hp, HT, hB⟩ := hrel
      clear k0 k1 k2 k3 k4 k5 kz
      have hbx3 := hcall hbx2 hB
      obtain ⟨k0, k1, k2, k3, k4, k5, kz⟩ := cellsCh q true x y z t (hcall hbx2 hB)
      by_cases hlt : k < r.length
      · obtain ⟨⟨a_, b_, c_, d_, e_⟩, he⟩ : ∃ e, r[k] = e := ⟨_, rfl⟩
        obtain ⟨ad, rfl, c0, c1', c2', c3, c4⟩ := rowSn (hO2.row.below hB) k hlt a_ b_ c_ d_ e_ he
        obtain ⟨bl, hbl⟩ : ∃ b, less a_ q = b := ⟨_, rfl⟩
        have hat := atT_take r k hlt _ he q
        simp only at hat
        rw [hbl, HT.out] at hat
        have HL := Lib.hid hbl
        have HAT := Lib.hid hat
        have hbn := heap_alloc_new wr (bxSn a_ b_ c_ d_ e_)
        obtain ⟨u0, u1, u2, u3, u4, uz⟩ := cellsSn a_ b_ c_ d_ e_ hbn
        replace hB := below_alloc0 hB (bxSn a_ b_ c_ d_ e_)
        have g0 := cell_below (below_box (bxSn a_ b_ c_ d_ e_)) k0
        clear hbl hat he HT
        go_wp2_with fail
        with_reducible refine (re_ (Less_calls a_ q _) (ret_bool HL.out)).mono ?_
        rintro e w4 ⟨rfl, b4⟩
        replace hB := below_call hB b4
        clear b4 u0 u1 u2 u3 u4 uz g0 k0 k1 k2 k3 k4 k5 kz c0 c1' c2' c3 c4 hbn
        cases bl with
        | true =>
          have HT2 : Hid (atT (r.take (k + 1)) q = k + 1) := by show _ = _; rw [HAT.out]; rfl
          go_wp2
          exact ⟨⟨k + 1, k + 1, by go_num, by go_num, by omega, Nat.le_refl _, HT2, hB⟩, by simp [intOf]; omega⟩
        | false =>
          have HT2 : Hid (atT (r.take (k + 1)) q = p) := by show _ = _; rw [HAT.out]; rfl
          go_wp2
          exact ⟨⟨k + 1, p, by go_num, rfl, by omega, by omega, HT2, hB⟩, by simp [intOf]; omega⟩
      · have hkl : k = r.length := by omega
        have hat : atT r q = p := by
          have := HT.out
          rwa [List.take_of_length_le (by omega)] at this
        have HF2 : Hid (setT l ⟨q, true, x, y, z, t⟩ = r.take p ++ ⟨q, x, y, z, t⟩ :: r.drop p) := by show _ = _; rw [HF.out, hat]
        have hOw := hO2.below hB
        have hbn : (wr.alloc (.cells #[.string q, .int .i64 x, .int .i64 y, .int .i64 z, .string t] 66)).heap[wr.heap.size]? = some (.cells (enSn ⟨q, x, y, z, t⟩).toArray 66 (0, 0)) := heap_alloc_new wr _
        have HBN := Lib.hid hbn
        have HNE : Hid ((Value.slice A2 r.length c2).ownBlock ≠ some wr.heap.size) := by
          show _ ≠ _
          intro h
          have := (World.ownsRow.lt hOw _ h).2
          omega
        have hp1000 : p ≤ r.length := by omega
        have hs3 : (w.alloc (bxCh q true x y z t)).heap.size ≤ (wr.alloc (.cells #[.string q, .int .i64 x, .int .i64 y, .int .i64 z, .string t] 66)).heap.size := by rw [size_alloc wr]; have := hB.size; omega
        have hB3 : Below (w.alloc (bxCh q true x y z t)).heap.size (w.alloc (bxCh q true x y z t)) (wr.alloc (.cells #[.string q, .int .i64 x, .int .i64 y, .int .i64 z, .string t] 66)) := below_alloc0 (below_then b2 hs2 hB) _
        clear hO2 HT hat hbn hbx3 hbx2 hB
        go_wp2_with fail
        with_reducible refine (insertSn_calls (w.alloc (bxCh q true x y z t)).heap.size p wr.heap.size (.slice A2 r.length c2) r ⟨q, x, y, z, t⟩ (w.alloc (bxCh q true x y z t)) _ (hOw.alloc _) HBN.out HNE.out (by omega) hp1000 hB3 hs3).mono ?_
        rintro e w5 ⟨v5, rfl, hO5, b5⟩
        have hrow := hO5.row
        have D5 := below_call D b5
        clear hO5 b5
        go_wp2
        go_ret
        rw [HF2.out]
        exact ⟨_, rfl, hrow, D5⟩
end Go.Proofs.Ytcopiimflloooaa
set_option linter.unusedVariables false
set_option linter.unusedSimpArgs false
namespace Go.Proofs.Ytcopiimflloooaa
open Go.RowKit
open Sp
theorem getT_is (n c : Nat) (A : Option Addr) (l : List Sn) (q : ByteArray) (w : World) (x y z : Int) (t : ByteArray) (b : Bool) (hl : Row enSn 5 w (.slice A n c) l) (h : Hid (getT l q = ((x, y, z, t), b))) :
    Calls Try.prog 42 #[.slice A n c, .string q] w fun e w' => e = .returned (.tuple #[.agg #[.int .i64 x, .int .i64 y, .int .i64 z, .string t], .bool b]) ∧ Below w.heap.size w w' := by
  have := GetT_calls n c A l q w hl
  rw [h.out] at this
  exact this
theorem chopen {W : World} {g : Nat} {c : ByteArray} {o : Bool} {a p n : Int} {t : ByteArray} (h : W.heap[g]? = some (bxCh c o a p n t)) : (W.cell? ⟨g, 0, none⟩ = some (.string c) ∧ W.cell? ⟨g, 1, none⟩ = some (.bool o) ∧ W.cell? ⟨g, 2, none⟩ = some (.int .i64 a) ∧ W.cell? ⟨g, 3, none⟩ = some (.int .i64 p) ∧ W.cell? ⟨g, 4, none⟩ = some (.int .i64 n) ∧ W.cell? ⟨g, 5, none⟩ = some (.string t)) ∧
    (W.frozen? ⟨g, 0, none⟩ = false ∧ W.frozen? ⟨g, 1, none⟩ = false ∧ W.frozen? ⟨g, 2, none⟩ = false ∧ W.frozen? ⟨g, 3, none⟩ = false ∧ W.frozen? ⟨g, 4, none⟩ = false ∧ W.frozen? ⟨g, 5, none⟩ = false) ∧ g < W.heap.size :=
  ⟨⟨by simp [World.cell?, h], by simp [World.cell?, h], by simp [World.cell?, h], by simp [World.cell?, h], by simp [World.cell?, h], by simp [World.cell?, h]⟩, ⟨by simp [World.frozen?, h], by simp [World.frozen?, h], by simp [World.frozen?, h], by simp [World.frozen?, h], by simp [World.frozen?, h], by simp [World.frozen?, h]⟩, (Array.getElem?_eq_some_iff.1 h).1⟩
/-- A change stored in its box. -/
abbrev putCh (w : World) (g : Nat) (x y z : Int) (t : ByteArray) (b : Bool) : World := ((((w.setCell ⟨g, 2, none⟩ (.int .i64 x)).setCell ⟨g, 3, none⟩ (.int .i64 y)).setCell ⟨g, 4, none⟩ (.int .i64 z)).setCell ⟨g, 5, none⟩ (.string t)).setCell ⟨g, 1, none⟩ (.bool b)
theorem putCh_at {w : World} {g : Nat} {u : ByteArray} (x y z : Int) (t : ByteArray) (b : Bool) (h : w.heap[g]? = some (bxCh u false 0 0 0 ⟨#[]⟩)) : (putCh w g x y z t b).heap[g]? = some (bxCh u b x y z t) := by
  simp [putCh, World.setCell, Array.getElem?_modify, h]
theorem putCh_ne {w : World} {g k : Nat} (x y z : Int) (t : ByteArray) (b : Bool) (hk : k ≠ g) : (putCh w g x y z t b).heap[k]? = w.heap[k]? := by
  simp [putCh, World.setCell, Array.getElem?_modify, Ne.symm hk]
theorem putCh_below {B : Nat} {a w : World} (h : Below B a w) (g : Nat) (hg : B ≤ g) (x y z : Int) (t : ByteArray) (b : Bool) : Below B a (putCh w g x y z t b) := bset (bset (bset (bset (bset h g 2 _ hg) g 3 _ hg) g 4 _ hg) g 5 _ hg) g 1 _ hg
abbrev twoCh (w : World) (u : ByteArray) : World := (w.alloc (bxCh u false 0 0 0 ⟨#[]⟩)).alloc (bxCh u false 0 0 0 ⟨#[]⟩)
theorem twoCh_1 (w : World) (u : ByteArray) : (twoCh w u).heap[w.heap.size]? = some (bxCh u false 0 0 0 ⟨#[]⟩) := halloc (heap_alloc_new w _) _
theorem twoCh_2 (w : World) (u : ByteArray) : (twoCh w u).heap[w.heap.size + 1]? = some (bxCh u false 0 0 0 ⟨#[]⟩) := by
  have h := heap_alloc_new (w.alloc (bxCh u false 0 0 0 ⟨#[]⟩)) (bxCh u false 0 0 0 ⟨#[]⟩)
  rwa [size_alloc] at h
theorem twoCh_below (w : World) (u : ByteArray) : Below w.heap.size w (twoCh w u) := below_alloc0 (below_box _) _
set_option maxHeartbeats 16000000 in
set_option maxRecDepth 100000 in
theorem ChangesT_calls (n c n2 c2 : Nat) (A B : Option Addr) (l m : List Sn) (w : World) (hl : Row enSn 5 w (.slice A n c) l) (hm : Row enSn 5 w (.slice B n2 c2) m) (hn : n ≤ 1000) (hn2 : n2 ≤ 1000) :
    Calls Try.prog 47 #[.slice A n c, .slice B n2 c2] w fun e w' => ∃ v, e = .returned v ∧ Row enCh 6 w' v (changesT l m) ∧ Below w.heap.size w w' := by
  have EA := Lib.hid hl.len_eq
  have EB := Lib.hid hm.len_eq
  go_enter Try.func47, Try.ntmps47
  go_wp2_with fail
  with_reducible refine (contactsT_calls n c A l _ hl (by omega)).mono ?_
  rintro e w1 ⟨v1, rfl, hO1, b1⟩
  go_wp2_with fail
  with_reducible refine (contactsT_calls n2 c2 B m _ (hm.below b1) (by omega)).mono ?_
  rintro e w2 ⟨v2, rfl, hO2, b2⟩
  have r1 := hO1.row.below b2
  have r2 := hO2.row
  obtain ⟨A1, c1, rfl, _⟩ := hO1.slice
  obtain ⟨A2, c2', rfl, _⟩ := hO2.slice
  have D := below_call b1 b2
  rw [List.length_map] at r1 r2
  clear hO1 hO2 b1 b2
  go_wp2_with fail
  with_reducible refine (Merge_calls _ c1 _ c2' A1 A2 (l.map Sn.c) (m.map Sn.c) _ r1 r2 (by have := EA.out; omega) (by have := EB.out; omega)).mono ?_
  rintro e w3 ⟨v3, rfl, r3, b3⟩
  replace D := below_call D b3
  clear r1 r2 b3
  obtain ⟨us, hus⟩ : ∃ us, namesT l m = us := ⟨_, rfl⟩
  rw [show mergeS (l.map Sn.c) (m.map Sn.c) = us from hus] at r3
  have hul : us.length ≤ 2000 := by
    rw [← hus]
    have h1 := mergeS_len (l.map Sn.c) (m.map Sn.c)
    rw [List.length_map, List.length_map] at h1
    have := EA.out
    have := EB.out
    unfold namesT
    omega
  have HU := Lib.hid hus
  clear hus
  obtain ⟨A3, c3, rfl, _⟩ := id r3
  go_wp2
  go_loopw [5, 16] (fun vo vk wr => ∃ (k : Nat) (ys : List Ch), vk = .int .i64 k ∧ k ≤ us.length ∧ ys.length ≤ k ∧ Hid ((us.take k).filterMap (chT l m) = ys) ∧ Own enCh 6 55 wr w3.heap.size vo ys ∧ Below w3.heap.size w3 wr) (fun _ vk _ => (us.length - intOf vk).toNat)
  case atStart => exact ⟨0, [], rfl, Nat.zero_le _, Nat.le_refl _, rfl, Own.nil _ _ _ _ _, Below.refl _ _⟩
  case round =>
    obtain ⟨k, ys, rfl, hk, hys, HT, hO, hB⟩ := hrel
    by_cases hlt : k < us.length
    · obtain ⟨ad, rfl, hc⟩ := (r3.below hB).get1 (f := Value.string) k hlt
      obtain ⟨u, hu⟩ : ∃ u, us[k] = u := ⟨_, rfl⟩
      rw [hu] at hc
      obtain ⟨⟨x, y, z, t⟩, b, hga⟩ : ∃ v b, getT l u = (v, b) := ⟨_, _, rfl⟩
      obtain ⟨⟨x', y', z', t'⟩, b', hgb⟩ : ∃ v b, getT m u = (v, b) := ⟨_, _, rfl⟩
      have HGA := Lib.hid hga
      have HGB := Lib.hid hgb
      have h1 := twoCh_1 wr u
      have h2 := twoCh_2 wr u
      have BW := twoCh_below wr u
      have HUK := Lib.hid hu
      clear hga hgb hu
      go_wp2_with fail
      with_reducible refine (getT_is n c A l u _ x y z t b (hl.below (below_call D (below_call hB BW))) HGA).mono ?_
      rintro e w4 ⟨rfl, b4⟩
      replace h1 := hcall h1 b4
      replace h2 := hcall h2 b4
      replace BW := below_call BW b4
      obtain ⟨⟨o0, o1, o2, o3, o4, o5⟩, ⟨f0, f1, f2, f3, f4, f5⟩, og⟩ := chopen h1
      have BW2 := putCh_below BW wr.heap.size (Nat.le_refl _) x y z t b
      have h1' := putCh_at x y z t b h1
      have h2' : (putCh w4 wr.heap.size x y z t b).heap[wr.heap.size + 1]? = _ := (putCh_ne x y z t b (by omega)).trans h2
      clear b4 h1 h2 BW hc
      go_wp2_with fail
      with_reducible refine (getT_is n2 c2 B m u _ x' y' z' t' b' (hm.below (below_call D (below_call hB BW2))) HGB).mono ?_
      rintro e w5 ⟨rfl, b5⟩
      replace h1' := hcall h1' b5
      replace h2' := hcall h2' b5
      replace BW2 := below_call BW2 b5
      clear o0 o1 o2 o3 o4 o5 f0 f1 f2 f3 f4 f5 og b5
      obtain ⟨⟨o0, o1, o2, o3, o4, o5⟩, ⟨f0, f1, f2, f3, f4, f5⟩, og⟩ := chopen h2'
      have BW3 := putCh_below BW2 (wr.heap.size + 1) (Nat.le_succ _) x' y' z' t' b'
      have h2 := putCh_at x' y' z' t' b' h2'
      have h1 : (putCh w5 (wr.heap.size + 1) x' y' z' t' b').heap[wr.heap.size]? = _ := (putCh_ne x' y' z' t' b' (by omega)).trans h1'
      obtain ⟨p0, p1, p2, p3, p4, p5, pz⟩ := cellsCh u b x y z t h1'
      have hcmp := neqCh u b x y z t u b' x' y' z' t'
      rw [eqvCh] at hcmp
      obtain ⟨bc, hbc⟩ : ∃ bc, decide ((⟨u, b, x, y, z, t⟩ : Ch) = ⟨u, b', x', y', z', t'⟩) = bc := ⟨_, rfl⟩
      rw [hbc] at hcmp
      have HCH : Hid (chT l m u = if bc then none else some ⟨u, b', x', y', z', t'⟩) := by
        show _ = _
        unfold chT
        rw [HGA.out, HGB.out, ← hbc]
        have e : ((((x, y, z, t), b) : (Int × Int × Int × ByteArray) × Bool) = ((x', y', z', t'), b')) ↔ ((⟨u, b, x, y, z, t⟩ : Ch) = ⟨u, b', x', y', z', t'⟩) := by
          constructor <;> intro h <;> simp_all
        by_cases h : (⟨u, b, x, y, z, t⟩ : Ch) = ⟨u, b', x', y', z', t'⟩
        · rw [if_pos (e.2 h), decide_eq_true h]; rfl
        · rw [if_neg (fun h' => h (e.1 h')), decide_eq_false h]; rfl
      have hO2 := hO.below BW3
      have hB3 := below_call hB BW3
      have HBC := Lib.hid hbc
      clear hbc h1 h2 h1' h2' BW2 BW3 hO hB
      cases bc with
      | true =>
        have HT2 : Hid ((us.take (k + 1)).filterMap (chT l m) = ys) := by
          show _ = _
          rw [List.take_succ_eq_append_getElem hlt, List.filterMap_append, HT.out, HUK.out, List.filterMap_cons, HCH.out]
          simp
        go_wp2
        exact ⟨⟨k + 1, ys, by go_num, by omega, by omega, HT2, hO2, hB3⟩, by simp [intOf]; omega⟩
      | false =>
        have HT2 : Hid ((us.take (k + 1)).filterMap (chT l m) = ys ++ [⟨u, b', x', y', z', t'⟩]) := by
          show _ = _
          rw [List.take_succ_eq_append_getElem hlt, List.filterMap_append, HT.out, HUK.out, List.filterMap_cons, HCH.out]
          simp
        have HZ1 : Hid ((putCh w5 (wr.heap.size + 1) x' y' z' t' b').heap.size = w5.heap.size) := by show _ = _; simp [putCh, World.setCell]
        go_wp2_with (at_builtin; refine Own.append (w0 := w3) w3.heap.size rfl (.tmp 43) (.tmp 45) 60 55 zvCh 6 64 rfl Try.underlying60 infoCh rfl (by decide) _ ys ⟨u, b', x', y', z', t'⟩ (enCh ⟨u, b', x', y', z', t'⟩) rfl (by rw [HZ1.out]; rfl) rfl rfl (enCh_one _) hO2 hB3 hB3.size (by omega) (by omega) ?_; intro v6 w6 hO6 hB6 _ _)
        exact ⟨⟨k + 1, ys ++ [⟨u, b', x', y', z', t'⟩], by go_num, by omega, by rw [List.length_append]; simp only [List.length_cons, List.length_nil]; omega, HT2, hO6, hB6⟩, by simp [intOf]; omega⟩
    · have hkl : k = us.length := by omega
      subst hkl
      have HF : Hid (changesT l m = ys) := by
        show _ = _
        have := HT.out
        rw [List.take_of_length_le (Nat.le_refl _)] at this
        unfold changesT
        rw [HU.out]; exact this
      have hrow := hO.row
      go_wp2
      go_ret
      rw [HF.out]
      exact ⟨_, rfl, hrow, below_call D hB⟩
end Go.Proofs.Ytcopiimflloooaa
