import Derived.Deep.QuietTactic
import Derived.BigQuiet
import Derived.Test.YtbpfcjdjhponaaaGreatPScriptApplies09
set_option linter.unusedVariables false
set_option linter.unusedSimpArgs false
namespace Go.Proofs.YtbpfcjdjhponaaaGreat
open Go.RowKit
open Sp
set_option maxHeartbeats 8000000 in
set_option maxRecDepth 100000 in
theorem cloneSe_calls (n c : Nat) (A : Option Addr) (l : List Se) (w : World) (hl : Row enSe 6 w (.slice A n c) l) (hn : n ≤ 100000) :
    Calls Tryz.prog 106 #[.slice A n c] w fun e w' => ∃ v, e = .returned v ∧ Own enSe 6 99 w' w.heap.size v l ∧ Below w.heap.size w w' := by
  rcases A with _ | ad
  · have hl0 : l = [] := by
      obtain ⟨A', c', he, _, _, _, h4⟩ := hl
      rcases Nat.eq_zero_or_pos l.length with h0 | h0
      · exact List.eq_nil_of_length_eq_zero h0
      · obtain ⟨ad, h, _⟩ := h4 h0
        injection he with e1
        rw [← e1] at h
        cases h
    subst hl0
    have kn := fun (W : World) => Lib.run_eql_slice_nil (P := Tryz.prog) W 23 99 none n c 0 0 Tryz.underlying23
    go_enter Tryz.func106, Tryz.ntmps106
    go_wp2
    go_ret
    exact ⟨_, rfl, Own.nil _ _ _ _ _, Below.refl _ _⟩
  · have EA := Lib.hid hl.len_eq
    have hln : l.length ≤ 100000 := by have := EA.out; omega
    have hB := below_box (w := w) (.cells #[] 99)
    have kn := fun (W : World) => Lib.run_eql_slice_nil (P := Tryz.prog) W 23 99 (some ad) n c 0 0 Tryz.underlying23
    have hO : Own enSe 6 99 (w.alloc (.cells #[] 99)) w.heap.size (.slice (some ⟨w.heap.size, 0, none⟩) 0 0) [] := Own.lit enSe_len w [] #[] 0 rfl rfl (Nat.le_refl _) (by omega)
    go_enter Tryz.func106, Tryz.ntmps106
    go_wp2_with (at_builtin; refine Own.appendRow (w0 := w) w.heap.size rfl (.tmp 5) (.tmp 6) 23 99 zvSe 6 64 rfl Tryz.underlying23 infoSe rfl (by decide) (.slice (some ⟨w.heap.size, 0, none⟩) 0 0) (.slice (some ad) n c) [] l rfl rfl enSe_one hO (hl.below hB) hB hB.size (by simp only [List.length_nil]; omega) (by simp only [List.length_nil]; omega) ?_; intro v2 w2 hO2 hB2 _ _)
    go_ret
    exact ⟨_, rfl, hO2, hB2⟩
theorem szSe : (Tryz.prog.info? 99).map (·.size) = some 6 := by kernel_rfl
theorem szoSe (w : World) : (Go.sizeOf 99).run Tryz.prog w = .ok 6 w := by kernel_rfl
theorem flat_takeSe (xs : List Se) (i : Nat) (hi : i ≤ xs.length) : (xs.flatMap enSe) = (xs.take i).flatMap enSe ++ (xs.drop i).flatMap enSe ∧ ((xs.take i).flatMap enSe).length = i * 6 ∧ ((xs.drop i).flatMap enSe).length = (xs.length - i) * 6 := by
  refine ⟨by rw [← List.flatMap_append, List.take_append_drop], ?_, ?_⟩
  · rw [flat_length enSe_len, List.length_take]; congr 1; omega
  · rw [flat_length enSe_len, List.length_drop]
set_option maxHeartbeats 8000000 in
set_option maxRecDepth 100000 in
theorem insertSe_end (base n g : Nat) (v : Value) (xs : List Se) (x : Se) (w0 w : World) (hO : Own enSe 6 99 w base v xs) (hx : w.heap[g]? = some (.cells (enSe x).toArray 99 (0, 0))) (hn : n = xs.length) (hln : n ≤ 100000)
    (HB : Below base w0 w) (hbase : base ≤ w.heap.size) :
    Calls Tryz.prog 110 #[v, .int .i64 n, .slice (some ⟨g, 0, none⟩) 1 1] w fun e w' => ∃ v', e = .returned v' ∧ Own enSe 6 99 w' base v' (xs ++ [x]) ∧ Below base w0 w' := by
  obtain ⟨A, c, rfl, hnc⟩ := hO.slice
  have hR : Row enSe 6 w (.slice (some ⟨g, 0, none⟩) 1 1) [x] := ⟨_, 1, rfl, Nat.le_refl _, by simp [maxLen], rfl, fun _ => ⟨_, rfl, fun j u hu => by
    rw [add_plain, World.cell?, hx]
    simpa using hu⟩⟩
  rw [← hn] at hnc
  have HN := Lib.hid hn
  have hu : xs.length ≤ 100000 := by omega
  have hO' : Own enSe 6 99 w base (.slice A n c) xs := by rw [HN.out]; exact hO
  rw [← hn]
  clear hO hn
  have x1 : (0 : Int) ≤ (n : Int) := by omega
  have x2 : (n : Int) ≤ (c : Int) := by omega
  have heq : ((n : Int) == (n : Int)) = true := by simp
  go_enter Tryz.func110, Tryz.ntmps110
  go_wp2_with (at_builtin; refine Own.appendRow (w0 := w0) base rfl (.tmp 23) (.tmp 24) 23 99 zvSe 6 64 rfl Tryz.underlying23 infoSe rfl (by decide) (.slice A n c) (.slice (some ⟨g, 0, none⟩) 1 1) xs [x] rfl rfl enSe_one hO' hR HB hbase (by simp only [List.length_cons, List.length_nil]; omega) (by simp only [List.length_cons, List.length_nil]; omega) ?_; intro v2 w2 hO2 hB2 _ _)
  all_goals
    go_ret
    exact ⟨_, rfl, hO2, hB2⟩
set_option maxHeartbeats 8000000 in
set_option maxRecDepth 100000 in
theorem insertSe_shift (base n c i g b : Nat) (xs : List Se) (x : Se) (w0 w : World) (hO : Own enSe 6 99 w base (.slice (some ⟨b, 0, none⟩) n c) xs) (hx : w.heap[g]? = some (.cells (enSe x).toArray 99 (0, 0))) (hgb : g ≠ b) (hn : n = xs.length) (hln : n ≤ 100000)
    (hi : i < n) (hroom : n + 1 ≤ c) (HB : Below base w0 w) :
    Calls Tryz.prog 110 #[.slice (some ⟨b, 0, none⟩) n c, .int .i64 i, .slice (some ⟨g, 0, none⟩) 1 1] w fun e w' => ∃ v', e = .returned v' ∧ Own enSe 6 99 w' base v' (xs.take i ++ x :: xs.drop i) ∧ Below base w0 w' := by
  obtain ⟨hlen, h2⟩ := hO
  rcases h2 with ⟨h2, _⟩ | ⟨b', c', cur, he, hbb, hcur, hnc, hcm, hcs, htake⟩
  · cases h2
  simp only [Value.slice.injEq, Option.some.injEq, Addr.mk.injEq] at he
  obtain ⟨⟨rfl, -, -⟩, -, rfl⟩ := he
  obtain ⟨f1, f2, f3⟩ := flat_takeSe xs i (by omega)
  obtain ⟨X1, hX1⟩ : ∃ X1, (xs.take i).flatMap enSe = X1 := ⟨_, rfl⟩
  obtain ⟨X2, hX2⟩ : ∃ X2, (xs.drop i).flatMap enSe = X2 := ⟨_, rfl⟩
  obtain ⟨Y, hY⟩ : ∃ Y, enSe x = Y := ⟨_, rfl⟩
  obtain ⟨L, rfl⟩ : ∃ L : List Value, cur = L.toArray := ⟨cur.toList, by simp⟩
  rw [hX1, hX2] at f1
  rw [hX1] at f2
  rw [hX2, ← hn] at f3
  rw [f1] at htake
  rw [← hn] at hnc htake
  rw [hY] at hx
  have hYl : Y.length = 6 := by rw [← hY]; rfl
  have hY1 : ∀ v ∈ Y, v.oneCell' = true := by rw [← hY]; exact enSe_one x
  have hX21 : ∀ v ∈ X2, v.oneCell' = true := by rw [← hX2]; intro v hv; obtain ⟨y, _, hy⟩ := List.mem_flatMap.1 hv; exact enSe_one y v hy
  have hLl : L.length = c * 6 := by simpa using hcs
  have hLt : L.take (n * 6) = X1 ++ X2 := by simpa using htake
  obtain ⟨s1, s2⟩ := splice_ins L X1 X2 Y (n * 6) 6 hLt hYl (by rw [hLl, ← Nat.succ_mul]; exact Nat.mul_le_mul_right _ hroom)
  have hsrc : ∀ j u, X2[j]? = some u → w.cell? ⟨b, i * 6 + j, none⟩ = some u := by
    intro j u hu
    have hj : j < X2.length := (List.getElem?_eq_some_iff.1 hu).1
    have h1 : L[i * 6 + j]? = some u := by
      have h2 : (L.take (n * 6))[i * 6 + j]? = some u := by
        rw [hLt, ← f2, List.getElem?_append_right (by omega), Nat.add_sub_cancel_left]; exact hu
      rw [List.getElem?_take] at h2
      split at h2
      · exact h2
      · cases h2
    rw [World.cell?, hcur]
    simpa using h1
  have hgcell : ∀ j u, Y[j]? = some u → w.cell? ⟨g, j, none⟩ = some u := fun j u hu => by rw [World.cell?, hx]; simpa using hu
  have hov : ∀ lb cb, (callFunc 156 #[.slice (some ⟨g, 0, none⟩) 1 1, .slice (some ⟨b, (i + 1) * 6, none⟩) lb cb]).run Tryz.prog w = .ok (.value (.bool false)) w := fun lb cb => by
    rw [run_callFunc_extern Tryz.func156 (by kernel_rfl) (by kernel_rfl) (by kernel_rfl) (e := Extern.SlicesOverlaps.overlaps #[23, 23] #[4]) (by kernel_rfl),
      Lib.run_overlaps_apart w 23 4 99 Tryz.underlying23 6 szoSe ⟨g, 0, none⟩ ⟨b, (i + 1) * 6, none⟩ 1 1 lb cb hgb 99 99 Y.length L.length (by simp [World.shape?, hx]) (by simp [World.shape?, hcur]) (by rw [hLl]; have : 0 < c * 6 := Nat.mul_pos (by omega) (by omega); omega) (by simp [World.frozen?, hx]) (by simp [World.frozen?, hx])]
    rfl
  have hcur' : w.drew.heap[b]? = some (.cells L.toArray 99 (0, 0)) := hcur
  have hBd : Below base w0 w.drew := HB.drew
  have hdl : X2.length = Nat.min (n + 1 - i) (n - i) * 6 := by rw [f3]; congr 1; simp only [Nat.min_def]; split <;> omega
  have HS1 := Lib.hid s1
  have HS2 := Lib.hid s2
  have HF1 := Lib.hid f1
  have HF2 := Lib.hid f2
  have HLL := Lib.hid hLl
  have HDL := Lib.hid hdl
  have HX1 := Lib.hid hX1
  have HX2 := Lib.hid hX2
  have HY := Lib.hid hY
  have HYL := Lib.hid hYl
  have HXN := Lib.hid hn
  have HG := Lib.hid hx
  have HSRC := Lib.hid hsrc
  have HGC := Lib.hid hgcell
  have HX21 := Lib.hid hX21
  have HY1 := Lib.hid hY1
  have HCUR := Lib.hid hcur'
  have HFIT : Hid (X1.length + 6 + X2.length ≤ L.length ∧ X1.length = i * 6 ∧ X1.length + 6 = (i + 1) * 6) := by
    refine ⟨?_, f2, by rw [f2, Nat.succ_mul]⟩
    have := congrArg List.length hLt
    rw [List.length_take, List.length_append] at this
    have h3 : (n + 1) * 6 ≤ L.length := by rw [hLl]; exact Nat.mul_le_mul_right _ hroom
    omega
  have HMK : Hid (∀ w' : World, w'.heap[b]? = some (.cells (splice (splice L (X1.length + 6) X2) X1.length Y).toArray 99 (0, 0)) → Own enSe 6 99 w' base (.slice (some ⟨b, 0, none⟩) (n + 1) c) (xs.take i ++ x :: xs.drop i)) := by
    intro w' hw'
    have hl2 : (xs.take i ++ x :: xs.drop i).length = n + 1 := by rw [List.length_append, List.length_cons, List.length_take, List.length_drop]; omega
    have hfl : (xs.take i ++ x :: xs.drop i).flatMap enSe = X1 ++ (Y ++ X2) := by rw [List.flatMap_append, List.flatMap_cons, hX1, hX2, hY]
    refine ⟨by rw [flat_length enSe_len], .inr ⟨b, c, _, by rw [hl2], hbb, hw', by omega, hcm, by simpa [s2] using hLl, ?_⟩⟩
    rw [hl2, hfl, ← s1]
    congr 1
    omega
  clear s1 s2 f1 f2 f3 hLl hdl hX1 hX2 hY hYl hn hx hsrc hgcell hX21 hY1 hcur' hlen hcs htake hLt
  have x1 : (0 : Int) ≤ (i : Int) := by omega
  have x2 : (i : Int) ≤ (n : Int) := by omega
  have x3 : (i : Int) < (n : Int) := by omega
  have x4 : (n : Int) + 1 ≤ (c : Int) := by omega
  have x5 : ((i : Int) == (n : Int)) = false := by simp; omega
  have x6 : ¬ ((i : Int) = (n : Int)) := by omega
  have x7 : ¬ (c = i) := by omega
  have x8 : ¬ (c = i + 1) := by omega
  have x9 : IntKind.i64.wrap ((i : Int) + 1) = (i : Int) + 1 := by rw [IntKind.wrap_i64]; omega
  have x10 : (0 : Int) ≤ (i : Int) + 1 := by omega
  have x11 : ((i : Int) + 1).toNat = i + 1 := by omega
  have x12 : (i : Int) + 1 ≤ (n : Int) + 1 := by omega
  have x13 : (i : Int) ≤ (n : Int) + 1 := by omega
  have x14 : i ≤ n := by omega
  go_enter Tryz.func110, Tryz.ntmps110
  go_wp2_with (simp only [hov])
  go_region_law (refine step_copyK rfl _ _ 23 23 rfl 99 6 Tryz.underlying23 szSe (by decide) (some ⟨b, (i + 1) * 6, none⟩) (some ⟨b, i * 6, none⟩) (n - i) (c - (i + 1)) (n + 1 - i) (c - i) (by simp [Act.eval, Act.put]) (by simp [Act.eval, Act.put]) b (X1.length + 6) L 99 HCUR.out X2 HDL.out (fun _ => ⟨by rw [HFIT.out.2.2], _, rfl, fun j v hj => by rw [Addr.add_lit]; exact HSRC.out j v hj⟩) HFIT.out.1 HX21.out base w0 hBd hbb ?_; intro w1 HC1 hB1 hz1 ho1)
  have hg1 := ho1 g hgb
  have hH2 : Y.length = Nat.min 1 (n + 1 - i) * 6 := by rw [HYL.out]; simp only [Nat.min_def]; split <;> omega
  have hF2 : X1.length + Y.length ≤ (splice L (X1.length + 6) X2).length := by rw [HYL.out, length_splice _ _ _ HFIT.out.1]; have := HFIT.out.1; omega
  have hP2 : 0 < Y.length → (some ⟨b, i * 6, none⟩ : Option Addr) = some ⟨b, X1.length, none⟩ ∧ ∃ ad, (some ⟨g, 0, none⟩ : Option Addr) = some ad ∧ ∀ j v, Y[j]? = some v → w1.cell? (ad.add j) = some v := fun _ => ⟨by rw [HFIT.out.2.1], _, rfl, fun j v hj => by rw [add_plain, World.cell?, hg1]; exact HGC.out j v hj⟩
  have HH2 := Lib.hid hH2
  have HF2 := Lib.hid hF2
  have HP2 := Lib.hid hP2
  clear hH2 hF2 hP2 hg1 ho1 hz1
  go_wp2_with (with_reducible refine wpList_copyK rfl (.tmp 80) (.tmp 81) 23 23 rfl 99 6 Tryz.underlying23 szSe (by decide) (some ⟨b, i * 6, none⟩) (some ⟨g, 0, none⟩) (n + 1 - i) (c - i) 1 1 rfl rfl b X1.length (splice L (X1.length + 6) X2) 99 HC1.out Y HH2.out HP2.out HF2.out HY1.out base w0 hB1 hbb ?_; intro w2 HC2 hB2 hz2 ho2)
  go_ret
  exact ⟨_, rfl, HMK.out _ HC2.out, hB2⟩
set_option maxHeartbeats 8000000 in
set_option maxRecDepth 100000 in
theorem insertSe_grow (base n c i g b : Nat) (xs : List Se) (x : Se) (w0 w : World) (hO : Own enSe 6 99 w base (.slice (some ⟨b, 0, none⟩) n c) xs) (hx : w.heap[g]? = some (.cells (enSe x).toArray 99 (0, 0))) (hn : n = xs.length) (hln : n ≤ 100000)
    (hi : i < n) (hroom : c < n + 1) (HB : Below base w0 w) (hbase : base ≤ w.heap.size) :
    Calls Tryz.prog 110 #[.slice (some ⟨b, 0, none⟩) n c, .int .i64 i, .slice (some ⟨g, 0, none⟩) 1 1] w fun e w' => ∃ v', e = .returned v' ∧ Own enSe 6 99 w' base v' (xs.take i ++ x :: xs.drop i) ∧ Below base w0 w' := by
  obtain ⟨hlen, h2⟩ := hO
  rcases h2 with ⟨h2, _⟩ | ⟨b', c', cur, he, hbb, hcur, hnc, hcm, hcs, htake⟩
  · cases h2
  simp only [Value.slice.injEq, Option.some.injEq, Addr.mk.injEq] at he
  obtain ⟨⟨rfl, -, -⟩, -, rfl⟩ := he
  obtain ⟨f1, f2, f3⟩ := flat_takeSe xs i (by omega)
  obtain ⟨X1, hX1⟩ : ∃ X1, (xs.take i).flatMap enSe = X1 := ⟨_, rfl⟩
  obtain ⟨X2, hX2⟩ : ∃ X2, (xs.drop i).flatMap enSe = X2 := ⟨_, rfl⟩
  obtain ⟨Y, hY⟩ : ∃ Y, enSe x = Y := ⟨_, rfl⟩
  obtain ⟨L, rfl⟩ : ∃ L : List Value, cur = L.toArray := ⟨cur.toList, by simp⟩
  rw [hX1, hX2] at f1
  rw [hX1] at f2
  rw [hX2, ← hn] at f3
  rw [f1] at htake
  rw [← hn] at hnc htake
  rw [hY] at hx
  have hYl : Y.length = 6 := by rw [← hY]; rfl
  have hY1 : ∀ v ∈ Y, v.oneCell' = true := by rw [← hY]; exact enSe_one x
  have hX21 : ∀ v ∈ X2, v.oneCell' = true := by rw [← hX2]; intro v hv; obtain ⟨y, _, hy⟩ := List.mem_flatMap.1 hv; exact enSe_one y v hy
  have hLt : L.take (n * 6) = X1 ++ X2 := by simpa using htake
  have hget : ∀ j u, (X1 ++ X2)[j]? = some u → w.cell? ⟨b, j, none⟩ = some u := by
    intro j u hu
    rw [← hLt, List.getElem?_take] at hu
    rw [World.cell?, hcur]
    split at hu
    · simpa using hu
    · cases hu
  have hsrc1 : ∀ j u, X1[j]? = some u → w.cell? ⟨b, j, none⟩ = some u := fun j u hu => hget j u (by rw [List.getElem?_append_left (List.getElem?_eq_some_iff.1 hu).1]; exact hu)
  have hsrc : ∀ j u, X2[j]? = some u → w.cell? ⟨b, i * 6 + j, none⟩ = some u := fun j u hu => hget _ u (by rw [← f2, List.getElem?_append_right (by omega), Nat.add_sub_cancel_left]; exact hu)
  have hgcell : ∀ j u, Y[j]? = some u → w.cell? ⟨g, j, none⟩ = some u := fun j u hu => by rw [World.cell?, hx]; simpa using hu
  have hglt : g < w.heap.size := (Array.getElem?_eq_some_iff.1 hx).1
  have hblt : b < w.heap.size := (Array.getElem?_eq_some_iff.1 hcur).1
  obtain ⟨m, hm⟩ : ∃ m, n + 1 - i = m := ⟨_, rfl⟩
  have hmi : (n : Int) + 1 - (i : Int) = (m : Int) := by omega
  have hHA : Hid (c < i + m ∧ 0 < m ∧ (i + m) * 64 ≤ 140737488355328 ∧ i + m ≤ 140737488355328 ∧ i + m = n + 1) := ⟨by omega, by omega, by omega, by omega, by omega⟩
  have hm2 : 2 ≤ m := by omega
  have HS0 := Lib.hid f2
  have HSRC1 := Lib.hid hsrc1
  have HSRC := Lib.hid hsrc
  have HGC := Lib.hid hgcell
  have HX21 := Lib.hid hX21
  have HY1 := Lib.hid hY1
  have HYL := Lib.hid hYl
  have HF3 := Lib.hid f3
  have HXN := Lib.hid hn
  have HMI := Lib.hid hm
  have HMK : Hid (∀ (w' : World) (g' nc : Nat) (L' : List Value), base ≤ g' → i + m ≤ nc → nc ≤ 9223372036854775807 → L'.length = nc * 6 → L'.take ((n + 1) * 6) = X1 ++ (Y ++ X2) → w'.heap[g']? = some (.cells L'.toArray 99 (0, 0)) → Own enSe 6 99 w' base (.slice (some ⟨g', 0, none⟩) (i + m) nc) (xs.take i ++ x :: xs.drop i)) := by
    intro w' g' nc L' hbg hnc1 hnc2 hl1 hl3 hw'
    have hl2 : (xs.take i ++ x :: xs.drop i).length = n + 1 := by rw [List.length_append, List.length_cons, List.length_take, List.length_drop]; omega
    have hfl : (xs.take i ++ x :: xs.drop i).flatMap enSe = X1 ++ (Y ++ X2) := by rw [List.flatMap_append, List.flatMap_cons, hX1, hX2, hY]
    refine ⟨by rw [flat_length enSe_len], .inr ⟨g', nc, _, by rw [hl2]; congr 1; omega, hbg, hw', by omega, by simpa [maxLen] using hnc2, by simpa using hl1, ?_⟩⟩
    rw [hl2, hfl, ← hl3]
  clear hsrc1 hsrc hgcell hget hX21 hY1 hYl hn hlen hcs htake hLt hX1 hX2 hY f1 f2 f3
  have x1 : (0 : Int) ≤ (i : Int) := by omega
  have x2 : (i : Int) ≤ (n : Int) := by omega
  have x3 : (i : Int) < (n : Int) := by omega
  have x4 : (c : Int) < (n : Int) + 1 := by omega
  have x5 : ((i : Int) == (n : Int)) = false := by simp; omega
  have x6 : ¬ ((i : Int) = (n : Int)) := by omega
  have x7 : ¬ (c = i) := by omega
  have x9 : IntKind.i64.wrap ((i : Int) + 1) = (i : Int) + 1 := by rw [IntKind.wrap_i64]; omega
  have x10 : (0 : Int) ≤ (i : Int) + 1 := by omega
  have x11 : ((i : Int) + 1).toNat = i + 1 := by omega
  have x12 : (i : Int) + 1 ≤ (i : Int) + (m : Int) := by omega
  have x13 : (i : Int) ≤ (i : Int) + (m : Int) := by omega
  have x14 : i ≤ n := by omega
  have x15 : i ≤ c := by omega
  have x16 : (i : Int) ≤ (c : Int) := by omega
  have x17 : 1 ≤ m := by omega
  clear hm
  go_enter Tryz.func110, Tryz.ntmps110
  go_wp2_with (first | (at_builtin; refine wpList_append_zerosK rfl (.tmp 34) (.tmp 39) 23 3 rfl 99 zvSe 6 64 .i64 .i64 Tryz.underlying23 Tryz.underlying3 infoSe rfl (by decide) b i c m rfl rfl X1 HS0.out HSRC1.out hHA.out.1 hHA.out.2.1 hHA.out.2.2.1 hHA.out.2.2.2.1 ?_; intro nc cur w1 hnc1 hnc2 HCL HCT HC1 hz1 hB1; (have HB1 := HB.trans (hB1.mono hbase)); (have hcx : w1.heap[g]? = w.heap[g]? := hB1.block g hglt); (have hcb : w1.heap[b]? = w.heap[b]? := hB1.block b hblt); (have hgne : g ≠ w.heap.size := (by omega)); (have hbne : b ≠ w.heap.size := (by omega)); (obtain ⟨s1, s2, s3⟩ := splice_app cur X1 X2 Y (i * 6) HCT.out HS0.out (by rw [HYL.out, HF3.out, HCL]; have := hHA.out.2.2.2.2; omega)); (have y1 : ¬ (nc = i) := (by omega)); (have y2 : ¬ (nc = i + 1) := (by omega)); (have hH2 : Y.length = Nat.min 1 m * 6 := (by rw [HYL.out]; simp only [Nat.min_def]; split <;> omega)); (have hF2 : i * 6 + Y.length ≤ cur.length := (by rw [HYL.out, HCL]; have := hHA.out.2.2.2.2; omega)); (have hP2 : ∀ j v, Y[j]? = some v → w1.cell? ⟨g, j, none⟩ = some v := fun j v hj => by rw [World.cell?, hcx]; exact HGC.out j v hj); (have HH2 := Lib.hid hH2); (have HF2 := Lib.hid hF2); (have HP2 := Lib.hid hP2); (have HC1' := Lib.hid HC1); (have HCL' := Lib.hid HCL); (have HS1 := Lib.hid s1); (have HS2 := Lib.hid s2); (have HS3 := Lib.hid s3); (have HCB := Lib.hid hcb); (clear hH2 hF2 hP2 HC1 HCL s1 s2 s3 hcb hcx)) | (with_reducible refine wpList_copyK rfl (.tmp 43) (.tmp 44) 23 23 rfl 99 6 Tryz.underlying23 szSe (by decide) (some ⟨w.heap.size, i * 6, none⟩) (some ⟨g, 0, none⟩) m (nc - i) 1 1 rfl rfl w.heap.size (i * 6) cur 99 HC1'.out Y HH2.out (fun _ => ⟨rfl, _, rfl, fun j v hj => by rw [add_plain]; exact HP2.out j v hj⟩) HF2.out HY1.out base w0 HB1 hbase ?_; intro w2 HC2 hB2 hz2 ho2))
  have hcb2 := (ho2 b hbne).trans HCB.out
  have hH3 : X2.length = Nat.min (n - i) (m - 1) * 6 := by rw [HF3.out]; congr 1; have := hHA.out.2.2.2.2; simp only [Nat.min_def]; split <;> omega
  have hF3 : i * 6 + Y.length + X2.length ≤ (splice cur (i * 6) Y).length := by
    rw [HS3.out, HYL.out, HF3.out, HCL'.out]; have := hHA.out.2.2.2.2; omega
  have hP3 : 0 < X2.length → (some ⟨w.heap.size, (i + 1) * 6, none⟩ : Option Addr) = some ⟨w.heap.size, i * 6 + Y.length, none⟩ ∧ ∃ ad, (some ⟨b, i * 6, none⟩ : Option Addr) = some ad ∧ ∀ j v, X2[j]? = some v → w2.drew.cell? (ad.add j) = some v := fun _ => ⟨by rw [HYL.out, Nat.succ_mul], _, rfl, fun j v hj => by rw [Addr.add_lit]; show w2.cell? _ = _; rw [World.cell?, hcb2]; exact HSRC.out j v hj⟩
  have HH3 := Lib.hid hH3
  have HF3' := Lib.hid hF3
  have HP3 := Lib.hid hP3
  have HC2' : Hid (w2.drew.heap[w.heap.size]? = some (.cells (splice cur (i * 6) Y).toArray 99 (0, 0))) := HC2.out
  have hB2d : Below base w0 w2.drew := hB2.drew
  clear hH3 hF3 hP3 hcb2 ho2 hz2
  go_region_law (refine step_copyK rfl (.tmp 50) (.tmp 53) 23 23 rfl 99 6 Tryz.underlying23 szSe (by decide) (some ⟨w.heap.size, (i + 1) * 6, none⟩) (some ⟨b, i * 6, none⟩) (m - 1) (nc - (i + 1)) (n - i) (c - i) (by simp [Act.eval, Act.put]; omega) (by simp [Act.eval, Act.put]) w.heap.size (i * 6 + Y.length) (splice cur (i * 6) Y) 99 HC2'.out X2 HH3.out HP3.out HF3'.out HX21.out base w0 hB2d hbase ?_; intro w3 HC3 hB3 hz3 ho3)
  go_wp2
  go_ret
  refine ⟨_, rfl, HMK.out w3 w.heap.size nc _ hbase hnc1 hnc2 (by rw [HS2.out, HCL'.out]) ?_ HC3.out, hB3⟩
  rw [← HS1.out]
  congr 1
  rw [HYL.out, HF3.out]
  omega
theorem insertSe_calls (base i g : Nat) (v : Value) (xs : List Se) (x : Se) (w0 w : World) (hO : Own enSe 6 99 w base v xs) (hx : w.heap[g]? = some (.cells (enSe x).toArray 99 (0, 0))) (hgb : v.ownBlock ≠ some g) (hln : xs.length ≤ 100000)
    (hi : i ≤ xs.length) (HB : Below base w0 w) (hbase : base ≤ w.heap.size) :
    Calls Tryz.prog 110 #[v, .int .i64 i, .slice (some ⟨g, 0, none⟩) 1 1] w fun e w' => ∃ v', e = .returned v' ∧ Own enSe 6 99 w' base v' (xs.take i ++ x :: xs.drop i) ∧ Below base w0 w' := by
  by_cases he : i = xs.length
  · rw [List.take_of_length_le (by omega), List.drop_eq_nil_of_le (by omega)]
    exact insertSe_end base i g v xs x w0 w hO hx he (by omega) HB hbase
  · obtain ⟨A, c, rfl, hnc⟩ := hO.slice
    rcases A with _ | ad
    · rcases hO.2 with ⟨_, h0⟩ | ⟨b, c', cur, h, _⟩
      · omega
      · cases h
    · obtain ⟨b, rfl⟩ : ∃ b, ad = ⟨b, 0, none⟩ := by
        rcases hO.2 with ⟨h, _⟩ | ⟨b, c', cur, h, _⟩
        · cases h
        · injection h with h; injection h with h; exact ⟨b, h⟩
      by_cases hroom : xs.length + 1 ≤ c
      · exact insertSe_shift base xs.length c i g b xs x w0 w hO hx (fun e => hgb (by rw [e]; rfl)) rfl hln (by omega) hroom HB
      · exact insertSe_grow base xs.length c i g b xs x w0 w hO hx rfl hln (by omega) (by omega) HB hbase
theorem zoSe (w : World) : (zeroValue 99).run Tryz.prog w = .ok zvSe w := by kernel_rfl
theorem zcSe : ∀ v ∈ (zvSe).cells.toList, v.oneCell' = true := by decide
set_option maxHeartbeats 8000000 in
set_option maxRecDepth 100000 in
theorem deleteSe_calls (base i : Nat) (v : Value) (xs : List Se) (w0 w : World) (hO : Own enSe 6 99 w base v xs) (hln : xs.length ≤ 100000) (hi : i < xs.length) (HB : Below base w0 w) (hbase : base ≤ w.heap.size) :
    Calls Tryz.prog 111 #[v, .int .i64 i, .int .i64 ((i : Int) + 1)] w fun e w' => ∃ v', e = .returned v' ∧ Own enSe 6 99 w' base v' (xs.take i ++ xs.drop (i + 1)) ∧ Below base w0 w' := by
  obtain ⟨hlen, h2⟩ := hO
  rcases h2 with ⟨_, h0⟩ | ⟨b, c, cur, rfl, hbb, hcur, hnc, hcm, hcs, htake⟩
  · omega
  obtain ⟨n, hn⟩ : ∃ n, n = xs.length := ⟨_, rfl⟩
  obtain ⟨f1, f2, f3⟩ := flat_takeSe xs i (by omega)
  obtain ⟨g1, g2, g3⟩ := flat_takeSe xs (i + 1) (by omega)
  obtain ⟨X1, hX1⟩ : ∃ X1, (xs.take i).flatMap enSe = X1 := ⟨_, rfl⟩
  obtain ⟨X2, hX2⟩ : ∃ X2, (xs.drop (i + 1)).flatMap enSe = X2 := ⟨_, rfl⟩
  obtain ⟨X0, hX0⟩ : ∃ X0, (xs.take (i + 1)).flatMap enSe = X0 := ⟨_, rfl⟩
  obtain ⟨L, rfl⟩ : ∃ L : List Value, cur = L.toArray := ⟨cur.toList, by simp⟩
  obtain ⟨m, hm⟩ : ∃ m, n - (i + 1) = m := ⟨_, rfl⟩
  rw [hX0, hX2] at g1
  rw [hX0] at g2
  rw [hX2, ← hn, hm] at g3
  rw [hX1] at f2
  rw [hX1] at f1
  have hLl : L.length = c * 6 := by simpa using hcs
  have hLt : L.take (n * 6) = X0 ++ X2 := by rw [hn, ← g1]; simpa using htake
  have hL1 : L.take (i * 6) = X1 := by
    have e : L.take (i * 6) = (L.take (n * 6)).take (i * 6) := by rw [List.take_take]; congr 1; simp only [Nat.min_def]; split <;> omega
    rw [e, hLt, ← g1, f1, ← f2, List.take_left]
  rw [← hn] at hnc ⊢
  have hX21 : ∀ v ∈ X2, v.oneCell' = true := by rw [← hX2]; intro v hv; obtain ⟨y, _, hy⟩ := List.mem_flatMap.1 hv; exact enSe_one y v hy
  have hsrc : ∀ j u, X2[j]? = some u → w.cell? ⟨b, (i + 1) * 6 + j, none⟩ = some u := by
    intro j u hu
    have h2 : (L.take (n * 6))[(i + 1) * 6 + j]? = some u := by
      rw [hLt, ← g2, List.getElem?_append_right (by omega), Nat.add_sub_cancel_left]; exact hu
    rw [List.getElem?_take] at h2
    rw [World.cell?, hcur]
    split at h2
    · simpa using h2
    · cases h2
  have hcur' : w.drew.heap[b]? = some (.cells L.toArray 99 (0, 0)) := hcur
  have hBd : Below base w0 w.drew := HB.drew
  obtain ⟨s1, s2⟩ := splice_take L (i * 6) X2 (by omega)
  have s3 := length_splice L (i * 6) X2 (by omega)
  obtain ⟨s4, _⟩ := splice_take (splice L (i * 6) X2) ((i + m) * 6) (zerosK (zvSe).cells.toList 1) (by omega)
  have s5 := length_splice (splice L (i * 6) X2) ((i + m) * 6) (zerosK (zvSe).cells.toList 1) (by rw [zerosK_len, s3, hLl, show (zvSe).cells.toList.length = 6 from rfl]; omega)
  have HMK : Hid (∀ w' : World, w'.heap[b]? = some (.cells (splice (splice L (i * 6) X2) ((i + m) * 6) (zerosK (zvSe).cells.toList 1)).toArray 99 (0, 0)) → Own enSe 6 99 w' base (.slice (some ⟨b, 0, none⟩) (i + m) c) (xs.take i ++ xs.drop (i + 1))) := by
    intro w' hw'
    have hl2 : (xs.take i ++ xs.drop (i + 1)).length = i + m := by rw [List.length_append, List.length_take, List.length_drop]; omega
    have hfl : (xs.take i ++ xs.drop (i + 1)).flatMap enSe = X1 ++ X2 := by rw [List.flatMap_append, hX1, hX2]
    refine ⟨by rw [flat_length enSe_len], .inr ⟨b, c, _, by rw [hl2], hbb, hw', by omega, hcm, by simpa [s5, s3] using hLl, ?_⟩⟩
    rw [hl2, hfl]
    show (splice _ _ _).take _ = _
    rw [s4, show (i + m) * 6 = i * 6 + X2.length by omega, s2, hL1]
  have HF : Hid (i * 6 + X2.length ≤ L.length) := by show _ ≤ _; omega
  have HF2 : Hid ((i + m) * 6 + 1 * 6 ≤ (splice L (i * 6) X2).length) := by show _ ≤ _; rw [s3, hLl]; omega
  have HX2 := Lib.hid g3
  have HX21 := Lib.hid hX21
  have HSRC := Lib.hid hsrc
  have HCUR := Lib.hid hcur'
  have hni : n = i + m + 1 := by omega
  have HN := Lib.hid hni
  have x1 : (0 : Int) ≤ (i : Int) := by omega
  have x2 : (i : Int) < (n : Int) := by omega
  have x3 : (i : Int) + 1 ≤ (n : Int) := by omega
  have x4 : (n : Int) ≤ (c : Int) := by omega
  have x5 : ((i : Int) == (i : Int) + 1) = false := beq_eq_false_iff_ne.2 (by omega)
  have x6 : ¬ ((i : Int) = (i : Int) + 1) := by omega
  have x7 : ¬ (c = i) := by omega
  have x8 : (0 : Int) ≤ (i : Int) + 1 := by omega
  have x9 : ((i : Int) + 1).toNat = i + 1 := by omega
  have x10 : i + 1 ≤ n := by omega
  have x11 : i ≤ n := by omega
  have x12 : i ≤ c := by omega
  have x13 : (i : Int) ≤ (c : Int) := by omega
  have x14 : (i : Int) ≤ (i : Int) + 1 := by omega
  have y1 : (i : Int) + (m : Int) ≤ (n : Int) := by omega
  have y2 : (0 : Int) ≤ (i : Int) + (m : Int) := by omega
  have y3 : ¬ (c = i + m) := by omega
  have y4 : i + m ≤ n := by omega
  have y5 : n - (i + m) = 1 := by omega
  have y6 : ((i : Int) + (m : Int)).toNat = i + m := by omega
  clear f1 f2 f3 g1 g2 g3 hX1 hX2 hX0 hn hLl hLt hL1 hlen hcs htake hX21 hsrc hcur' s1 s2 s3 s4 s5 hni hln hi
  by_cases hce : c = i + 1
  · obtain rfl : m = 0 := by omega
    obtain rfl : n = i + 1 := by omega
    subst hce
    have z1 : i + 1 - i = 1 := by omega
    simp only [Nat.add_zero] at HMK HF2 y1 y2 y3 y4 y5 y6
    clear y1 y2 y6 x10
    go_enter Tryz.func111, Tryz.ntmps111
    go_wp2_with fail
    go_region_law (refine step_appendK rfl (.tmp 22) (.tmp 25) 23 rfl 99 6 Tryz.underlying23 szSe b i (i + 1) (by simp [Act.eval, Act.put]) (some ⟨b, 0, none⟩) 0 0 (by simp [Act.eval, Act.put]) L HCUR.out X2 HX2.out (fun hp => absurd hp (by have := HX2.out; omega)) (by decide) (by omega) HF.out HX21.out base w0 hBd hbb ?_; intro w1 HC1 hB1 hz1 ho1)
    clear hm
    go_wp2_with (with_reducible refine wpList_clearK rfl (.tmp 31) 23 rfl 99 zvSe 6 Tryz.underlying23 zoSe rfl zcSe b (i * 6) 1 1 rfl (splice L (i * 6) X2) 99 HC1.out HF2.out (by decide) base w0 hB1 hbb ?_; intro w2 HC2 hB2 hz2 ho2)
    go_ret
    exact ⟨_, rfl, HMK.out _ HC2.out, hB2⟩
  · clear hm
    go_enter Tryz.func111, Tryz.ntmps111
    go_wp2_with fail
    go_region_law (refine step_appendK rfl (.tmp 22) (.tmp 25) 23 rfl 99 6 Tryz.underlying23 szSe b i c (by simp [Act.eval, Act.put]) (some ⟨b, (i + 1) * 6, none⟩) m (c - (i + 1)) (by simp [Act.eval, Act.put]; try omega) L HCUR.out X2 HX2.out (fun hp => ⟨_, rfl, fun j v hj => by rw [Addr.add_lit]; exact HSRC.out j v hj⟩) (by decide) (by omega) HF.out HX21.out base w0 hBd hbb ?_; intro w1 HC1 hB1 hz1 ho1)
    go_wp2_with (with_reducible refine wpList_clearK rfl (.tmp 31) 23 rfl 99 zvSe 6 Tryz.underlying23 zoSe rfl zcSe b ((i + m) * 6) 1 (c - (i + m)) rfl (splice L (i * 6) X2) 99 HC1.out HF2.out (by decide) base w0 hB1 hbb ?_; intro w2 HC2 hB2 hz2 ho2)
    go_ret
    exact ⟨_, rfl, HMK.out _ HC2.out, hB2⟩
end Go.Proofs.YtbpfcjdjhponaaaGreat
namespace Go.Proofs.YtbpfcjdjhponaaaGreat
open Go.RowKit
open Sp
namespace Sp
theorem atSe_is {l : List Se} {s : Se} {i : Nat} (hi : i ≤ l.length) (h : ∀ j (h : j < l.length), j < i → ltSe (keySe l[j]) (keySe s) = true) (he : ∀ h : i < l.length, ltSe (keySe l[i]) (keySe s) = false) : atSe l s = i := by
  unfold atSe
  have h1 : l = l.take i ++ l.drop i := (List.take_append_drop i l).symm
  conv => lhs; arg 1; arg 2; rw [h1]
  rw [List.takeWhile_append_of_pos]
  · rw [List.length_append, List.length_take]
    have : (l.drop i).takeWhile (fun x => ltSe (keySe x) (keySe s)) = [] := by
      rcases Nat.lt_or_ge i l.length with h2 | h2
      · rw [← List.getElem_cons_drop h2, List.takeWhile_cons, if_neg (by rw [he h2]; decide)]
      · rw [List.drop_eq_nil_of_le h2]; rfl
    rw [this, List.length_nil]
    omega
  · intro x hx
    obtain ⟨j, hj, rfl⟩ := List.getElem_of_mem hx
    rw [List.length_take] at hj
    rw [List.getElem_take]
    exact h j (by omega) (by omega)
theorem putSe_no {l : List Se} {s : Se} (h : maySe l = false ∨ oneS s = false) : putSe l s = (l, 1) := by
  unfold putSe
  rw [if_pos (by rcases h with h | h <;> rw [h] <;> simp)]
theorem putSe_at {l : List Se} {s : Se} {i : Nat} (h1 : maySe l = true) (h2 : oneS s = true) (h : idxSe l (keySe s) = some i) : putSe l s = (l.set i s, 0) := by
  unfold putSe
  rw [if_neg (by rw [h1, h2]; decide), h]
theorem putSe_full {l : List Se} {s : Se} (h1 : maySe l = true) (h2 : oneS s = true) (h : idxSe l (keySe s) = none) (hl : l.length = 32) : putSe l s = (l, 5) := by
  unfold putSe
  rw [if_neg (by rw [h1, h2]; decide), h]
  simp only
  rw [if_pos hl]
theorem putSe_new {l : List Se} {s : Se} (h1 : maySe l = true) (h2 : oneS s = true) (h : idxSe l (keySe s) = none) (hl : l.length ≠ 32) : putSe l s = (l.take (atSe l s) ++ s :: l.drop (atSe l s), 0) := by
  unfold putSe
  rw [if_neg (by rw [h1, h2]; decide), h]
  simp only
  rw [if_neg hl]
theorem dropSe_no {l : List Se} {k : SeK} (h : maySe l = false) : dropSe l k = (l, 1) := by unfold dropSe; rw [if_pos h]
theorem dropSe_at {l : List Se} {k : SeK} {i : Nat} (h1 : maySe l = true) (h : idxSe l k = some i) : dropSe l k = (l.take i ++ l.drop (i + 1), 0) := by
  unfold dropSe
  rw [if_neg (by rw [h1]; decide), h]
theorem dropSe_none {l : List Se} {k : SeK} (h1 : maySe l = true) (h : idxSe l k = none) : dropSe l k = (l, 6) := by
  unfold dropSe
  rw [if_neg (by rw [h1]; decide), h]
end Sp
theorem Own.lt {α : Type} {enc : α → List Value} {k : Nat} {e : TypeId} {w : World} {base : Nat} {v : Value} {xs : List α} (h : Own enc k e w base v xs) (g : Nat) (hg : v.ownBlock = some g) : g < w.heap.size := (World.ownsRow.lt h g hg).2
theorem Own.at0 {α : Type} {enc : α → List Value} {k : Nat} {e : TypeId} {w : World} {base : Nat} {A : Option Addr} {n c : Nat} {xs : List α} (h : Own enc k e w base (.slice A n c) xs) (hp : 0 < xs.length) : ∃ b, A = some ⟨b, 0, none⟩ ∧ base ≤ b ∧ b < w.heap.size := by
  rcases h.2 with ⟨_, h0⟩ | ⟨b, c', cur, he, hb, hc, _⟩
  · omega
  · injection he with e1
    exact ⟨b, e1, hb, (Array.getElem?_eq_some_iff.1 hc).1⟩
set_option maxHeartbeats 32000000 in
set_option maxRecDepth 100000 in
theorem Put9_calls (n c : Nat) (A : Option Addr) (l : List Se) (u : ByteArray) (i_ a p n_ : Int) (t : ByteArray) (w : World) (hl : Row enSe 6 w (.slice A n c) l) (hz : SzSe l) (hu : u.size ≤ 140737488351232) (ht : t.size ≤ 140737488351232) :
    Calls Tryz.prog 57 #[.slice A n c, ag6 u i_ a p n_ t] w fun e w' => ∃ v, e = .returned (.tuple #[v, .int .i64 (putSe l ⟨u, i_, a, p, n_, t⟩).2]) ∧ Row enSe 6 w' v (putSe l ⟨u, i_, a, p, n_, t⟩).1 ∧ Below w.heap.size w w' ∧ (v = .slice A n c ∨ ∀ g, v.ownBlock = some g → w.heap.size ≤ g) := by
  have EA := Lib.hid hl.len_eq
  obtain ⟨r, er, hr⟩ : ∃ r er, putSe l ⟨u, i_, a, p, n_, t⟩ = (r, er) := ⟨_, _, rfl⟩
  rw [hr]
  have HR := Lib.hid hr
  clear hr
  have hBx := below_box (w := w) (bxSe u i_ a p n_ t)
  have hbox := heap_alloc_new w (bxSe u i_ a p n_ t)
  obtain ⟨m, hm⟩ : ∃ m, maySe l = m := ⟨_, rfl⟩
  have HM := Lib.hid hm
  have HC := re_ (May9_calls n c A l _ (hl.below hBx) hz) (ret_bool HM.out)
  cases m with
  | false =>
    have HF : Hid (r = l ∧ er = 1) := by
      have := HR.out
      rw [putSe_no (.inl hm)] at this
      injection this with h1 h2
      exact ⟨h1.symm, h2.symm⟩
    clear hm
    go_enter Tryz.func57, Tryz.ntmps57
    go_wp2_with fail
    refine HC.mono ?_
    rintro e w1 ⟨rfl, b1⟩
    have B1 := below_call hBx b1
    go_wp2
    go_ret2
    rw [HF.out.1, HF.out.2]
    exact ⟨_, rfl, hl.below B1, B1, .inl rfl⟩
  | true =>
  obtain ⟨o, ho⟩ : ∃ o, oneS ⟨u, i_, a, p, n_, t⟩ = o := ⟨_, rfl⟩
  have HO := Lib.hid ho
  cases o with
  | false =>
    have HF : Hid (r = l ∧ er = 1) := by
      have := HR.out
      rw [putSe_no (.inr ho)] at this
      injection this with h1 h2
      exact ⟨h1.symm, h2.symm⟩
    clear hm ho
    go_enter Tryz.func57, Tryz.ntmps57
    go_wp2_with fail
    refine HC.mono ?_
    rintro e w1 ⟨rfl, b1⟩
    have B1 := below_call hBx b1
    obtain ⟨s0, s1, s2, s3, s4, s5, sz⟩ := cellsSe u i_ a p n_ t (hcall hbox b1)
    clear b1
    go_wp2_with fail
    refine (re_ (oddS_calls u i_ a p n_ t _ hu ht) (ret_bool (by rw [HO.out]))).mono ?_
    rintro e w2 ⟨rfl, b2⟩
    have B2 := below_call B1 b2
    clear s0 s1 s2 s3 s4 s5 sz b2 B1
    go_wp2
    go_ret2
    rw [HF.out.1, HF.out.2]
    exact ⟨_, rfl, hl.below B2, B2, .inl rfl⟩
  | true =>
  have h32 := ((maySe_iff l).1 hm).1
  have hn32 : n ≤ 32 := by have := EA.out; omega
  obtain ⟨ix, hix⟩ : ∃ ix, idxSe l (u, i_) = ix := ⟨_, rfl⟩
  have hks : keySe ⟨u, i_, a, p, n_, t⟩ = (u, i_) := rfl
  cases ix with
  | some i =>
    obtain ⟨hil, -⟩ := idxSe_some hix
    have HF : Hid (r = l.set i ⟨u, i_, a, p, n_, t⟩ ∧ er = 0) := by
      have := HR.out
      rw [putSe_at hm ho (by rw [hks]; exact hix)] at this
      injection this with h1 h2
      exact ⟨h1.symm, h2.symm⟩
    have HIX : Hid (idxI (idxSe l (u, i_)) = (i : Int)) := by show _ = _; rw [hix]; rfl
    have x1 : (0 : Int) ≤ (i : Int) := by omega
    have x2 : (i : Int) < (n : Int) := by have := EA.out; omega
    have HIL := Lib.hid hil
    clear hm ho hix hks h32 hil
    go_enter Tryz.func57, Tryz.ntmps57
    go_wp2_with fail
    refine HC.mono ?_
    rintro e w1 ⟨rfl, b1⟩
    have B1 := below_call hBx b1
    have hb1 := hcall hbox b1
    obtain ⟨s0, s1, s2, s3, s4, s5, sz⟩ := cellsSe u i_ a p n_ t hb1
    clear b1 hbox
    go_wp2_with fail
    refine (re_ (oddS_calls u i_ a p n_ t _ hu ht) (ret_bool (by rw [HO.out]))).mono ?_
    rintro e w2 ⟨rfl, b2⟩
    have B2 := below_call B1 b2
    have hb2 := hcall hb1 b2
    clear s0 s1 s2 s3 s4 s5 sz b2 B1 hb1
    go_wp2_with fail
    refine (cloneSe_calls n c A l _ (hl.below B2) (by omega)).mono ?_
    rintro e w3 ⟨v3, rfl, hO3, b3⟩
    have B3 := below_call B2 b3
    have hb3 := hcall hb2 b3
    obtain ⟨A3, c3, hv3, hc3⟩ := hO3.slice
    rw [← EA.out] at hv3
    subst hv3
    obtain ⟨b, rfl, hbb, _⟩ := hO3.at0 (by have := HIL.out; omega)
    replace hO3 := hO3.lower (base' := w.heap.size) (by have := B2.size; omega)
    obtain ⟨s0, s1, s2, s3, s4, s5, sz⟩ := cellsSe u i_ a p n_ t hb3
    clear b3 B2 hb2 hc3
    go_wp2_with fail
    refine (of_calls u i_ a p n_ t _).mono ?_
    rintro e w4 ⟨rfl, b4⟩
    have B4 := below_call B3 b4
    have hb4 := hcall hb3 b4
    have hO4 := hO3.below b4
    clear s0 s1 s2 s3 s4 s5 sz b4 B3 hb3 hO3
    go_wp2_with fail
    refine (re_ (find_calls n c A l u i_ _ (hl.below B4)) (by rw [HIX.out, decide_eq_true x1])).mono ?_
    rintro e w5 ⟨rfl, b5⟩
    have B5 := below_call B4 b5
    have hb5 := hcall hb4 b5
    have hO5 := hO4.below b5
    obtain ⟨s0, s1, s2, s3, s4, s5, sz⟩ := cellsSe u i_ a p n_ t hb5
    clear b5 B4 hb4 hO4
    go_wp2_with (with_reducible refine Own.store rfl 99 (.tmp 31) (.tmp 30) rfl szSe b n c3 i l ⟨u, i_, a, p, n_, t⟩ hO5 enSe_len (enSe_one _) HIL.out rfl (enSe ⟨u, i_, a, p, n_, t⟩) rfl rfl B5 ?_; intro w6 hO6 hB6 hz6 ho6)
    go_ret2
    rw [HF.out.1, HF.out.2]
    exact ⟨_, rfl, hO6.row, hB6, .inr fun g hg => by first | exact hO6.base_le g hg | exact Nat.le_trans (Below.size (by assumption)) (hO6.base_le g hg) | exact Nat.le_trans hBx.size (hO6.base_le g hg)⟩
  | none =>
    have HIX : Hid (idxI (idxSe l (u, i_)) = -1) := by show _ = _; rw [hix]; rfl
    have hpre : ∀ (Q : Exit → Act → World → Prop), True := fun _ => trivial
    clear hpre
    by_cases hfull : n = 32
    · have HF : Hid (r = l ∧ er = 5) := by
        have := HR.out
        rw [putSe_full hm ho (by rw [hks]; exact hix) (by rw [← EA.out]; exact hfull)] at this
        injection this with h1 h2
        exact ⟨h1.symm, h2.symm⟩
      have hnb : ((n : Int) == 32) = true := by rw [hfull]; rfl
      clear hm ho hix hks h32 hfull
      go_enter Tryz.func57, Tryz.ntmps57
      go_wp2_with fail
      refine HC.mono ?_
      rintro e w1 ⟨rfl, b1⟩
      have B1 := below_call hBx b1
      have hb1 := hcall hbox b1
      obtain ⟨s0, s1, s2, s3, s4, s5, sz⟩ := cellsSe u i_ a p n_ t hb1
      clear b1 hbox
      go_wp2_with fail
      refine (re_ (oddS_calls u i_ a p n_ t _ hu ht) (ret_bool (by rw [HO.out]))).mono ?_
      rintro e w2 ⟨rfl, b2⟩
      have B2 := below_call B1 b2
      have hb2 := hcall hb1 b2
      clear s0 s1 s2 s3 s4 s5 sz b2 B1 hb1
      go_wp2_with fail
      refine (cloneSe_calls n c A l _ (hl.below B2) (by omega)).mono ?_
      rintro e w3 ⟨v3, rfl, hO3, b3⟩
      have B3 := below_call B2 b3
      have hb3 := hcall hb2 b3
      obtain ⟨s0, s1, s2, s3, s4, s5, sz⟩ := cellsSe u i_ a p n_ t hb3
      clear b3 B2 hb2
      go_wp2_with fail
      refine (of_calls u i_ a p n_ t _).mono ?_
      rintro e w4 ⟨rfl, b4⟩
      have B4 := below_call B3 b4
      clear s0 s1 s2 s3 s4 s5 sz b4 B3 hb3 hO3
      go_wp2_with fail
      refine (re_ (find_calls n c A l u i_ _ (hl.below B4)) (by rw [HIX.out, decide_eq_false (by decide)])).mono ?_
      rintro e w5 ⟨rfl, b5⟩
      have B5 := below_call B4 b5
      clear b5 B4
      go_wp2
      go_ret2
      rw [HF.out.1, HF.out.2]
      exact ⟨_, rfl, hl.below B5, B5, .inl rfl⟩
    · have HF : Hid (r = l.take (atSe l ⟨u, i_, a, p, n_, t⟩) ++ ⟨u, i_, a, p, n_, t⟩ :: l.drop (atSe l ⟨u, i_, a, p, n_, t⟩) ∧ er = 0) := by
        have := HR.out
        rw [putSe_new hm ho (by rw [hks]; exact hix) (by rw [← EA.out]; exact hfull)] at this
        injection this with h1 h2
        exact ⟨h1.symm, h2.symm⟩
      have hnb : ((n : Int) == 32) = false := beq_eq_false_iff_ne.2 (by omega)
      clear hm ho hix hks h32 hfull
      go_enter Tryz.func57, Tryz.ntmps57
      go_wp2_with fail
      refine HC.mono ?_
      rintro e w1 ⟨rfl, b1⟩
      have B1 := below_call hBx b1
      have hb1 := hcall hbox b1
      obtain ⟨s0, s1, s2, s3, s4, s5, sz⟩ := cellsSe u i_ a p n_ t hb1
      clear b1 hbox
      go_wp2_with fail
      refine (re_ (oddS_calls u i_ a p n_ t _ hu ht) (ret_bool (by rw [HO.out]))).mono ?_
      rintro e w2 ⟨rfl, b2⟩
      have B2 := below_call B1 b2
      have hb2 := hcall hb1 b2
      clear s0 s1 s2 s3 s4 s5 sz b2 B1 hb1
      go_wp2_with fail
      refine (cloneSe_calls n c A l _ (hl.below B2) (by omega)).mono ?_
      rintro e w3 ⟨v3, rfl, hO3, b3⟩
      have B3 := below_call B2 b3
      have hb3 := hcall hb2 b3
      replace hO3 := hO3.lower (base' := w.heap.size) (by have := B2.size; omega)
      obtain ⟨s0, s1, s2, s3, s4, s5, sz⟩ := cellsSe u i_ a p n_ t hb3
      clear b3 B2 hb2
      go_wp2_with fail
      refine (of_calls u i_ a p n_ t _).mono ?_
      rintro e w4 ⟨rfl, b4⟩
      have B4 := below_call B3 b4
      have hb4 := hcall hb3 b4
      have hO4 := hO3.below b4
      clear s0 s1 s2 s3 s4 s5 sz b4 B3 hb3 hO3
      go_wp2_with fail
      refine (re_ (find_calls n c A l u i_ _ (hl.below B4)) (by rw [HIX.out, decide_eq_false (by decide)])).mono ?_
      rintro e w5 ⟨rfl, b5⟩
      have B5 := below_call B4 b5
      have hb5 := hcall hb4 b5
      have hO5 := hO4.below b5
      clear b5 B4 hb4 hO4
      go_wp2_with fail
      go_loopw [9] (fun v9 wr => ∃ i : Nat, v9 = .int .i64 i ∧ i ≤ n ∧ Below w.heap.size w wr ∧ wr.heap[w.heap.size]? = some (bxSe u i_ a p n_ t) ∧ Own enSe 6 99 wr w.heap.size v3 l ∧ Hid (∀ j (h : j < l.length), j < i → ltSe (keySe l[j]) ((u, i_) : SeK) = true)) (fun v9 _ => (n - intOf v9).toNat)
      case atStart => exact ⟨0, rfl, Nat.zero_le _, B5, hb5, hO5, fun j _ h => absurd h (by omega)⟩
      case round =>
        obtain ⟨i, rfl, hi, hB, hbox, hOw, HT⟩ := hrel
        clear B5 hb5 hO5
        have hD : Below w.heap.size w wr.drew := hB.drew
        by_cases hlt : i < n
        · have hil : i < l.length := by have := EA.out; omega
          obtain ⟨⟨a_, b_, c_, d_, e_, f_⟩, he⟩ : ∃ e, l[i] = e := ⟨_, rfl⟩
          obtain ⟨ad, rfl, c0, c1, c2, c3, c4, c5⟩ := rowSe (hl.below hB) i hil a_ b_ c_ d_ e_ f_ he
          obtain ⟨s0, s1, s2, s3, s4, s5, sz⟩ := cellsSe u i_ a p n_ t hbox
          obtain ⟨b, hb⟩ : ∃ b, ltSe (a_, b_) (u, i_) = b := ⟨_, rfl⟩
          have HB := Lib.hid hb
          have HLT : Hid (ltSe (keySe l[i]) ((u, i_) : SeK) = b) := by show _ = _; rw [he, ← hb]; rfl
          have x1 : (0 : Int) ≤ (i : Int) := by omega
          have x2 : (i : Int) < (n : Int) := by omega
          replace hbox : wr.drew.heap[w.heap.size]? = some (bxSe u i_ a p n_ t) := hbox
          replace hOw : Own enSe 6 99 wr.drew w.heap.size v3 l := hOw
          clear hb he
          go_wp2_with fail
          go_region_held3 (fun w' => w'.cell? (ad.add (i * 6)) = some (.string a_) ∧ w'.cell? ⟨(ad.add (i * 6)).block, (ad.add (i * 6)).off + 1, none⟩ = some (.int .i64 b_) ∧ w'.cell? ⟨(ad.add (i * 6)).block, (ad.add (i * 6)).off + 2, none⟩ = some (.int .i64 c_) ∧ w'.cell? ⟨(ad.add (i * 6)).block, (ad.add (i * 6)).off + 3, none⟩ = some (.int .i64 d_) ∧ w'.cell? ⟨(ad.add (i * 6)).block, (ad.add (i * 6)).off + 4, none⟩ = some (.int .i64 e_) ∧ w'.cell? ⟨(ad.add (i * 6)).block, (ad.add (i * 6)).off + 5, none⟩ = some (.string f_) ∧ w'.cell? ⟨w.heap.size, 0, none⟩ = some (.string u) ∧ w'.cell? ⟨w.heap.size, 1, none⟩ = some (.int .i64 i_) ∧ w'.cell? ⟨w.heap.size, 2, none⟩ = some (.int .i64 a) ∧ w'.cell? ⟨w.heap.size, 3, none⟩ = some (.int .i64 p) ∧ w'.cell? ⟨w.heap.size, 4, none⟩ = some (.int .i64 n_) ∧ w'.cell? ⟨w.heap.size, 5, none⟩ = some (.string t)) (exact ⟨c0, c1, c2, c3, c4, c5, s0, s1, s2, s3, s4, s5⟩) (((first | (go_at_call 108; refine (of_calls _ _ _ _ _ _ _).mono ?_) | (go_at_call 109; refine (re_ (ahead_calls a_ b_ u i_ _) (ret_bool HB.out)).mono ?_)); rintro e wx ⟨rfl, hbx⟩; replace hD := below_call hD hbx; replace hOw := hOw.below hbx; replace hbox := hcall hbox hbx; replace c0 := cell_below hbx c0; replace c1 := cell_below hbx c1; replace c2 := cell_below hbx c2; replace c3 := cell_below hbx c3; replace c4 := cell_below hbx c4; replace c5 := cell_below hbx c5; replace s0 := cell_below hbx s0; replace s1 := cell_below hbx s1; replace s2 := cell_below hbx s2; replace s3 := cell_below hbx s3; replace s4 := cell_below hbx s4; replace s5 := cell_below hbx s5; clear hbx))
          all_goals
            clear c0 c1 c2 c3 c4 c5
            cases b with
            | true =>
              have HT2 : Hid (∀ j (h : j < l.length), j < i + 1 → ltSe (keySe l[j]) ((u, i_) : SeK) = true) := fun j h hj => by
                rcases Nat.lt_or_ge j i with h' | h'
                · exact HT.out j h h'
                · obtain rfl : j = i := by omega
                  exact HLT.out
              clear s0 s1 s2 s3 s4 s5 sz
              go_wp2
              exact ⟨⟨i + 1, by go_num, by omega, hD, hbox, hOw, HT2⟩, by simp [intOf]; omega⟩
            | false =>
              have HAT : Hid (atSe l ⟨u, i_, a, p, n_, t⟩ = i) := atSe_is (by have := EA.out; omega) HT.out (fun h => HLT.out)
              have hx9 : (wx.alloc (bxSe u i_ a p n_ t)).heap[wx.heap.size]? = some (.cells (enSe ⟨u, i_, a, p, n_, t⟩).toArray 99) := heap_alloc_new wx (bxSe u i_ a p n_ t)
              have HNE : Hid (v3.ownBlock ≠ some wx.heap.size) := fun e => absurd (hOw.lt _ e) (Nat.lt_irrefl _)
              have HLE : Hid (l.length ≤ 100000 ∧ i ≤ l.length) := by (constructor <;> (have := EA.out; omega))
              have HX9 := Lib.hid hx9
              clear hx9
              go_wp2_with fail
              with_reducible refine (insertSe_calls w.heap.size i wx.heap.size v3 l ⟨u, i_, a, p, n_, t⟩ w _ (hOw.alloc (bxSe u i_ a p n_ t)) HX9.out HNE.out HLE.out.1 HLE.out.2 (below_alloc0 hD (bxSe u i_ a p n_ t)) (below_alloc0 hD (bxSe u i_ a p n_ t)).size).mono ?_
              rintro e w9 ⟨v9, rfl, hO9, hB9⟩
              clear hD hOw hbox s0 s1 s2 s3 s4 s5 sz
              go_wp2
              go_ret2
              rw [HF.out.1, HF.out.2, HAT.out]
              exact ⟨_, rfl, hO9.row, hB9, .inr fun g hg => by first | exact hO9.base_le g hg | exact Nat.le_trans (Below.size (by assumption)) (hO9.base_le g hg) | exact Nat.le_trans hBx.size (hO9.base_le g hg)⟩
        · have hin : i = n := by omega
          have HAT : Hid (atSe l ⟨u, i_, a, p, n_, t⟩ = i) := atSe_is (by have := EA.out; omega) HT.out (fun h => absurd h (by have := EA.out; omega))
          have HIN := Lib.hid hin
          have hd1 : decide ((i : Int) < (n : Int)) = false := by simpa using (by omega : n ≤ i)
          have hd2 : decide (i < n) = false := by simpa using (by omega : n ≤ i)
          clear hD hin
          go_wp2_with fail
          go_quiet (fail)
          have hD : Below w.heap.size w (wr.drewN nq) := below_drewN hB _
          replace hbox : (wr.drewN nq).heap[w.heap.size]? = some (bxSe u i_ a p n_ t) := hbox
          replace hOw : Own enSe 6 99 (wr.drewN nq) w.heap.size v3 l := hOw
          obtain ⟨s0, s1, s2, s3, s4, s5, sz⟩ := cellsSe u i_ a p n_ t hbox
          have hx9 : ((wr.drewN nq).alloc (bxSe u i_ a p n_ t)).heap[wr.heap.size]? = some (.cells (enSe ⟨u, i_, a, p, n_, t⟩).toArray 99) := heap_alloc_new (wr.drewN nq) (bxSe u i_ a p n_ t)
          have HNE : Hid (v3.ownBlock ≠ some wr.heap.size) := fun e => absurd (hOw.lt _ e) (Nat.lt_irrefl _)
          have HLE : Hid (l.length ≤ 100000 ∧ i ≤ l.length) := by (constructor <;> (have := EA.out; omega))
          have HX9 := Lib.hid hx9
          clear hx9
          go_wp2_with fail
          with_reducible refine (insertSe_calls w.heap.size i wr.heap.size v3 l ⟨u, i_, a, p, n_, t⟩ w _ (hOw.alloc (bxSe u i_ a p n_ t)) HX9.out HNE.out HLE.out.1 HLE.out.2 (below_alloc0 hD (bxSe u i_ a p n_ t)) (below_alloc0 hD (bxSe u i_ a p n_ t)).size).mono ?_
          rintro e w9 ⟨v9, rfl, hO9, hB9⟩
          clear hD hOw hbox s0 s1 s2 s3 s4 s5 sz
          go_wp2
          go_ret2
          rw [HF.out.1, HF.out.2, HAT.out]
          exact ⟨_, rfl, hO9.row, hB9, .inr fun g hg => by first | exact hO9.base_le g hg | exact Nat.le_trans (Below.size (by assumption)) (hO9.base_le g hg) | exact Nat.le_trans hBx.size (hO9.base_le g hg)⟩
end Go.Proofs.YtbpfcjdjhponaaaGreat
namespace Go.Proofs.YtbpfcjdjhponaaaGreat
open Go.RowKit
open Sp
set_option maxHeartbeats 16000000 in
set_option maxRecDepth 100000 in
theorem Drop9_calls (n c : Nat) (A : Option Addr) (l : List Se) (u : ByteArray) (i_ : Int) (w : World) (hl : Row enSe 6 w (.slice A n c) l) (hz : SzSe l) :
    Calls Tryz.prog 58 #[.slice A n c, .string u, .int .i64 i_] w fun e w' => ∃ v, e = .returned (.tuple #[v, .int .i64 (dropSe l (u, i_)).2]) ∧ Row enSe 6 w' v (dropSe l (u, i_)).1 ∧ Below w.heap.size w w' ∧ (v = .slice A n c ∨ ∀ g, v.ownBlock = some g → w.heap.size ≤ g) := by
  have EA := Lib.hid hl.len_eq
  obtain ⟨r, er, hr⟩ : ∃ r er, dropSe l (u, i_) = (r, er) := ⟨_, _, rfl⟩
  rw [hr]
  have HR := Lib.hid hr
  clear hr
  obtain ⟨m, hm⟩ : ∃ m, maySe l = m := ⟨_, rfl⟩
  have HM := Lib.hid hm
  have HC := re_ (May9_calls n c A l _ hl hz) (ret_bool HM.out)
  cases m with
  | false =>
    have HF : Hid (r = l ∧ er = 1) := by
      have := HR.out
      rw [dropSe_no hm] at this
      injection this with h1 h2
      exact ⟨h1.symm, h2.symm⟩
    clear hm
    go_enter Tryz.func58, Tryz.ntmps58
    go_wp2_with fail
    refine HC.mono ?_
    rintro e w1 ⟨rfl, b1⟩
    go_wp2
    go_ret2
    rw [HF.out.1, HF.out.2]
    exact ⟨_, rfl, hl.below b1, b1, .inl rfl⟩
  | true =>
  have h32 := ((maySe_iff l).1 hm).1
  have hn32 : n ≤ 32 := by have := EA.out; omega
  obtain ⟨ix, hix⟩ : ∃ ix, idxSe l (u, i_) = ix := ⟨_, rfl⟩
  cases ix with
  | none =>
    have HF : Hid (r = l ∧ er = 6) := by
      have := HR.out
      rw [dropSe_none hm hix] at this
      injection this with h1 h2
      exact ⟨h1.symm, h2.symm⟩
    have HIX : Hid (idxI (idxSe l (u, i_)) = -1) := by show _ = _; rw [hix]; rfl
    clear hm hix h32
    go_enter Tryz.func58, Tryz.ntmps58
    go_wp2_with fail
    refine HC.mono ?_
    rintro e w1 ⟨rfl, b1⟩
    go_wp2_with fail
    refine (re_ (find_calls n c A l u i_ _ (hl.below b1)) (by rw [HIX.out, decide_eq_false (by decide)])).mono ?_
    rintro e w2 ⟨rfl, b2⟩
    have B2 := below_call b1 b2
    clear b1 b2
    go_wp2
    go_ret2
    rw [HF.out.1, HF.out.2]
    exact ⟨_, rfl, hl.below B2, B2, .inl rfl⟩
  | some i =>
    obtain ⟨hil, -⟩ := idxSe_some hix
    have HF : Hid (r = l.take i ++ l.drop (i + 1) ∧ er = 0) := by
      have := HR.out
      rw [dropSe_at hm hix] at this
      injection this with h1 h2
      exact ⟨h1.symm, h2.symm⟩
    have HIX : Hid (idxI (idxSe l (u, i_)) = (i : Int)) := by show _ = _; rw [hix]; rfl
    have x1 : (0 : Int) ≤ (i : Int) := by omega
    have x2 : (i : Int) < (n : Int) := by have := EA.out; omega
    have HIL : Hid (i < l.length ∧ l.length ≤ 100000) := ⟨hil, by omega⟩
    clear hm hix h32 hil
    go_enter Tryz.func58, Tryz.ntmps58
    go_wp2_with fail
    refine HC.mono ?_
    rintro e w1 ⟨rfl, b1⟩
    go_wp2_with fail
    refine (re_ (find_calls n c A l u i_ _ (hl.below b1)) (by rw [HIX.out, decide_eq_true x1])).mono ?_
    rintro e w2 ⟨rfl, b2⟩
    have B2 := below_call b1 b2
    clear b1 b2
    go_wp2_with fail
    refine (cloneSe_calls n c A l _ (hl.below B2) (by omega)).mono ?_
    rintro e w3 ⟨v3, rfl, hO3, b3⟩
    have B3 := below_call B2 b3
    replace hO3 := hO3.lower (base' := w.heap.size) B2.size
    clear b3 B2
    go_wp2_with fail
    with_reducible refine (deleteSe_calls w.heap.size i v3 l w _ hO3 HIL.out.2 HIL.out.1 B3 B3.size).mono ?_
    rintro e w4 ⟨v4, rfl, hO4, hB4⟩
    go_wp2
    go_ret2
    rw [HF.out.1, HF.out.2]
    exact ⟨_, rfl, hO4.row, hB4, .inr fun g hg => by first | exact hO4.base_le g hg | exact Nat.le_trans (Below.size (by assumption)) (hO4.base_le g hg) | exact Nat.le_trans hBx.size (hO4.base_le g hg)⟩
end Go.Proofs.YtbpfcjdjhponaaaGreat
namespace Go.Proofs.YtbpfcjdjhponaaaGreat
open Go.RowKit
open Sp
end Go.Proofs.YtbpfcjdjhponaaaGreat
namespace Go.Proofs.YtbpfcjdjhponaaaGreat
open Go.RowKit
open Sp
section
variable (n c : Nat) (A : Option Addr) (l : List Se) (w : World) (hl : Row enSe 6 w (.slice A n c) l)
include hl
theorem Put9F_is (u : ByteArray) (i a p m : Int) (t : ByteArray) (r : List Se) (er : Int) (hz : SzSe l) (hu : u.size ≤ 140737488351232) (ht : t.size ≤ 140737488351232) (h : Hid (putSe l ⟨u, i, a, p, m, t⟩ = (r, er))) :
    Calls Tryz.prog 57 #[.slice A n c, ag6 u i a p m t] w fun e w' => ∃ v, e = .returned (.tuple #[v, .int .i64 er]) ∧ Row enSe 6 w' v r ∧ Below w.heap.size w w' ∧ (v = .slice A n c ∨ ∀ g, v.ownBlock = some g → w.heap.size ≤ g) := by
  have := Put9_calls n c A l u i a p m t w hl hz hu ht
  rwa [h.out] at this
theorem Drop9F_is (u : ByteArray) (i : Int) (r : List Se) (er : Int) (hz : SzSe l) (h : Hid (dropSe l (u, i) = (r, er))) :
    Calls Tryz.prog 58 #[.slice A n c, .string u, .int .i64 i] w fun e w' => ∃ v, e = .returned (.tuple #[v, .int .i64 er]) ∧ Row enSe 6 w' v r ∧ Below w.heap.size w w' ∧ (v = .slice A n c ∨ ∀ g, v.ownBlock = some g → w.heap.size ≤ g) := by
  have := Drop9_calls n c A l u i w hl hz
  rwa [h.out] at this
theorem May9_is (b : Bool) (hz : SzSe l) (h : Hid (maySe l = b)) : Calls Tryz.prog 95 #[.slice A n c] w fun e w' => e = .returned (.bool b) ∧ Below w.heap.size w w' :=
  re_ (May9_calls n c A l w hl hz) (ret_bool h.out)
theorem refMay9_is (b : Bool) (hz : SzSe l) (h : Hid (maySe l = b)) : Calls Tryz.prog 38 #[.slice A n c] w fun e w' => e = .returned (.bool b) ∧ Below w.heap.size w w' :=
  re_ (refMay9_calls n c A l w hl hz) (ret_bool h.out)
theorem few9_is (b : Bool) (hz : ∀ s ∈ l, s.u.size ≤ 9223372036854775807 ∧ s.v.2.2.2.size ≤ 9223372036854775807) (h : Hid (fewSe l = b)) : Calls Tryz.prog 36 #[.slice A n c] w fun e w' => e = .returned (.bool b) ∧ Below w.heap.size w w' :=
  re_ (few9_calls n c A l w hl hz) (ret_bool h.out)
end
theorem few_sz {l : List Se} (h : fewSe l = true) : SzSe l ∧ l.length ≤ 50 := by
  unfold fewSe at h
  rw [Bool.and_eq_true, List.all_eq_true, decide_eq_true_eq] at h
  refine ⟨fun s hs => ?_, h.1⟩
  have := h.2 s hs
  rw [Bool.and_eq_true, decide_eq_true_eq, decide_eq_true_eq] at this
  omega
end Go.Proofs.YtbpfcjdjhponaaaGreat
namespace Go.Proofs.YtbpfcjdjhponaaaGreat
open Go.RowKit
open Sp
set_option maxHeartbeats 8000000 in
set_option maxRecDepth 100000 in
theorem equalEn_calls (n c n2 c2 : Nat) (A B : Option Addr) (l m : List En) (w : World) (hl : Row enEn 7 w (.slice A n c) l) (hm : Row enEn 7 w (.slice B n2 c2) m) :
    Calls Tryz.prog 59 #[.slice A n c, .slice B n2 c2] w fun e w' => e = .returned (.bool (decide (l = m))) ∧ Below w.heap.size w w' := by
  have EA := Lib.hid hl.len_eq
  have EB := Lib.hid hm.len_eq
  have hnl : n ≤ 9223372036854775807 := by rw [EA.out]; exact hl.len
  obtain ⟨r, hr⟩ : ∃ r, decide (l = m) = r := ⟨_, rfl⟩
  rw [hr]
  have HR := Lib.hid hr
  clear hr
  by_cases hn : n = n2
  · subst hn
    go_enter Tryz.func59, Tryz.ntmps59
    go_wp2
    go_loopw [13] (fun v5 wr => ∃ i : Nat, v5 = .int .i64 i ∧ i ≤ n ∧ Below w.heap.size w wr ∧ Hid (l.take i = m.take i)) (fun v5 _ => (n - intOf v5).toNat)
    case atStart => exact ⟨0, rfl, Nat.zero_le _, Below.refl _ _, rfl⟩
    case round =>
      obtain ⟨i, rfl, hi, hB, HT⟩ := hrel
      by_cases hlt : i < n
      · have hil : i < l.length := by have := EA.out; omega
        have him : i < m.length := by have := EB.out; omega
        obtain ⟨⟨a_, b_, c_, d_, e_, f_, g_⟩, he⟩ : ∃ e, l[i] = e := ⟨_, rfl⟩
        obtain ⟨⟨a_', b_', c_', d_', e_', f_', g_'⟩, he'⟩ : ∃ e, m[i] = e := ⟨_, rfl⟩
        obtain ⟨ad, rfl, c0, c1, c2, c3, c4, c5, c6⟩ := rowEn (hl.below hB) i hil a_ b_ c_ d_ e_ f_ g_ he
        obtain ⟨bd, rfl, d0, d1, d2, d3, d4, d5, d6⟩ := rowEn (hm.below hB) i him a_' b_' c_' d_' e_' f_' g_' he'
        have HE := Lib.hid he
        have HE' := Lib.hid he'
        clear he he'
        have x1 : (0 : Int) ≤ (i : Int) := by omega
        have x2 : (i : Int) < (n : Int) := by omega
        have hcmp := neqEn a_ b_ c_ d_ e_ f_ g_ a_' b_' c_' d_' e_' f_' g_'
        rw [eqvEn] at hcmp
        obtain ⟨b, hb⟩ : ∃ b, decide ((⟨a_, b_, c_, d_, e_, f_, g_⟩ : En) = ⟨a_', b_', c_', d_', e_', f_', g_'⟩) = b := ⟨_, rfl⟩
        rw [hb] at hcmp
        have HB := Lib.hid hb
        clear hb
        cases b with
        | true =>
          have HEQ : Hid (l[i] = m[i]) := by show _ = _; rw [HE.out, HE'.out]; exact of_decide_eq_true HB.out
          go_wp2_with fail
          go_region
          have hB1 : Below w.heap.size w wr.drew := hB.drew
          go_wp2
          exact ⟨⟨i + 1, by go_num, by omega, hB1, by show _ = _; rw [List.take_succ_eq_append_getElem hil, List.take_succ_eq_append_getElem him, HT.out, HEQ.out]⟩, by simp [intOf]; omega⟩
        | false =>
          have HNE : Hid (r = false) := by
            show _ = _
            rw [← HR.out]
            refine decide_eq_false fun h => ?_
            subst h
            exact of_decide_eq_false HB.out (by rw [← HE.out, ← HE'.out])
          go_wp2_with fail
          go_region
          have hB1 : Below w.heap.size w wr.drew := hB.drew
          go_wp2
          go_ret
          rw [HNE.out]
          exact ⟨rfl, hB1⟩
      · have hin : i = n := by omega
        subst hin
        have HEQ : Hid (r = true) := by
          show _ = _
          rw [← HR.out]
          have h1 : l.take i = l := List.take_of_length_le (by rw [EA.out]; exact Nat.le_refl _)
          have h2 : m.take i = m := List.take_of_length_le (by rw [EB.out]; exact Nat.le_refl _)
          refine decide_eq_true ?_
          rw [← h1, ← h2]; exact HT.out
        go_wp2
        go_ret
        rw [HEQ.out]
        exact ⟨rfl, hB⟩
  · have HNE : Hid (r = false) := by
      show _ = _
      rw [← HR.out]
      refine decide_eq_false fun h => ?_
      have h1 := EA.out
      have h2 := EB.out
      rw [h] at h1
      omega
    have hnb : ((n : Int) == (n2 : Int)) = false := by simpa using (by omega : ¬ (n : Int) = n2)
    clear hn
    go_enter Tryz.func59, Tryz.ntmps59
    go_wp2
    go_ret
    rw [HNE.out]
    exact ⟨rfl, Below.refl _ _⟩
set_option maxHeartbeats 8000000 in
set_option maxRecDepth 100000 in
theorem equalSe_calls (n c n2 c2 : Nat) (A B : Option Addr) (l m : List Se) (w : World) (hl : Row enSe 6 w (.slice A n c) l) (hm : Row enSe 6 w (.slice B n2 c2) m) :
    Calls Tryz.prog 60 #[.slice A n c, .slice B n2 c2] w fun e w' => e = .returned (.bool (decide (l = m))) ∧ Below w.heap.size w w' := by
  have EA := Lib.hid hl.len_eq
  have EB := Lib.hid hm.len_eq
  have hnl : n ≤ 9223372036854775807 := by rw [EA.out]; exact hl.len
  obtain ⟨r, hr⟩ : ∃ r, decide (l = m) = r := ⟨_, rfl⟩
  rw [hr]
  have HR := Lib.hid hr
  clear hr
  by_cases hn : n = n2
  · subst hn
    go_enter Tryz.func60, Tryz.ntmps60
    go_wp2
    go_loopw [13] (fun v5 wr => ∃ i : Nat, v5 = .int .i64 i ∧ i ≤ n ∧ Below w.heap.size w wr ∧ Hid (l.take i = m.take i)) (fun v5 _ => (n - intOf v5).toNat)
    case atStart => exact ⟨0, rfl, Nat.zero_le _, Below.refl _ _, rfl⟩
    case round =>
      obtain ⟨i, rfl, hi, hB, HT⟩ := hrel
      by_cases hlt : i < n
      · have hil : i < l.length := by have := EA.out; omega
        have him : i < m.length := by have := EB.out; omega
        obtain ⟨⟨a_, b_, c_, d_, e_, f_⟩, he⟩ : ∃ e, l[i] = e := ⟨_, rfl⟩
        obtain ⟨⟨a_', b_', c_', d_', e_', f_'⟩, he'⟩ : ∃ e, m[i] = e := ⟨_, rfl⟩
        obtain ⟨ad, rfl, c0, c1, c2, c3, c4, c5⟩ := rowSe (hl.below hB) i hil a_ b_ c_ d_ e_ f_ he
        obtain ⟨bd, rfl, d0, d1, d2, d3, d4, d5⟩ := rowSe (hm.below hB) i him a_' b_' c_' d_' e_' f_' he'
        have HE := Lib.hid he
        have HE' := Lib.hid he'
        clear he he'
        have x1 : (0 : Int) ≤ (i : Int) := by omega
        have x2 : (i : Int) < (n : Int) := by omega
        have hcmp := neqSe a_ b_ c_ d_ e_ f_ a_' b_' c_' d_' e_' f_'
        rw [eqvSe] at hcmp
        obtain ⟨b, hb⟩ : ∃ b, decide ((⟨a_, b_, c_, d_, e_, f_⟩ : Se) = ⟨a_', b_', c_', d_', e_', f_'⟩) = b := ⟨_, rfl⟩
        rw [hb] at hcmp
        have HB := Lib.hid hb
        clear hb
        cases b with
        | true =>
          have HEQ : Hid (l[i] = m[i]) := by show _ = _; rw [HE.out, HE'.out]; exact of_decide_eq_true HB.out
          go_wp2_with fail
          go_region
          have hB1 : Below w.heap.size w wr.drew := hB.drew
          go_wp2
          exact ⟨⟨i + 1, by go_num, by omega, hB1, by show _ = _; rw [List.take_succ_eq_append_getElem hil, List.take_succ_eq_append_getElem him, HT.out, HEQ.out]⟩, by simp [intOf]; omega⟩
        | false =>
          have HNE : Hid (r = false) := by
            show _ = _
            rw [← HR.out]
            refine decide_eq_false fun h => ?_
            subst h
            exact of_decide_eq_false HB.out (by rw [← HE.out, ← HE'.out])
          go_wp2_with fail
          go_region
          have hB1 : Below w.heap.size w wr.drew := hB.drew
          go_wp2
          go_ret
          rw [HNE.out]
          exact ⟨rfl, hB1⟩
      · have hin : i = n := by omega
        subst hin
        have HEQ : Hid (r = true) := by
          show _ = _
          rw [← HR.out]
          have h1 : l.take i = l := List.take_of_length_le (by rw [EA.out]; exact Nat.le_refl _)
          have h2 : m.take i = m := List.take_of_length_le (by rw [EB.out]; exact Nat.le_refl _)
          refine decide_eq_true ?_
          rw [← h1, ← h2]; exact HT.out
        go_wp2
        go_ret
        rw [HEQ.out]
        exact ⟨rfl, hB⟩
  · have HNE : Hid (r = false) := by
      show _ = _
      rw [← HR.out]
      refine decide_eq_false fun h => ?_
      have h1 := EA.out
      have h2 := EB.out
      rw [h] at h1
      omega
    have hnb : ((n : Int) == (n2 : Int)) = false := by simpa using (by omega : ¬ (n : Int) = n2)
    clear hn
    go_enter Tryz.func60, Tryz.ntmps60
    go_wp2
    go_ret
    rw [HNE.out]
    exact ⟨rfl, Below.refl _ _⟩
abbrev agT (A : Option Addr) (n c : Nat) (B : Option Addr) (m d : Nat) : Value := .agg #[.slice A n c, .slice B m d]
abbrev bxT (A : Option Addr) (n c : Nat) (B : Option Addr) (m d : Nat) : Obj := .cells #[.slice A n c, .slice B m d] 25
theorem cellsT {W : World} {g : Nat} {A : Option Addr} {n c : Nat} {B : Option Addr} {m d : Nat} (h : W.heap[g]? = some (bxT A n c B m d)) : W.cell? ⟨g, 0, none⟩ = some (.slice A n c) ∧ W.cell? ⟨g, 1, none⟩ = some (.slice B m d) ∧ g < W.heap.size :=
  ⟨by simp [World.cell?, h], by simp [World.cell?, h], (Array.getElem?_eq_some_iff.1 h).1⟩
theorem equalEn_is (n c n2 c2 : Nat) (A B : Option Addr) (l m : List En) (b : Bool) (w : World) (hl : Row enEn 7 w (.slice A n c) l) (hm : Row enEn 7 w (.slice B n2 c2) m) (h : Hid (decide (l = m) = b)) :
    Calls Tryz.prog 59 #[.slice A n c, .slice B n2 c2] w fun e w' => e = .returned (.bool b) ∧ Below w.heap.size w w' := re_ (equalEn_calls n c n2 c2 A B l m w hl hm) (ret_bool h.out)
theorem equalSe_is (n c n2 c2 : Nat) (A B : Option Addr) (l m : List Se) (b : Bool) (w : World) (hl : Row enSe 6 w (.slice A n c) l) (hm : Row enSe 6 w (.slice B n2 c2) m) (h : Hid (decide (l = m) = b)) :
    Calls Tryz.prog 60 #[.slice A n c, .slice B n2 c2] w fun e w' => e = .returned (.bool b) ∧ Below w.heap.size w w' := re_ (equalSe_calls n c n2 c2 A B l m w hl hm) (ret_bool h.out)
theorem between_calls (k : Int) (w : World) :
    Calls Tryz.prog 55 #[.int .i64 k] w fun e w' => e = .returned (.bool (decide (1 ≤ k ∧ k ≤ 6))) ∧ Below w.heap.size w w' := by
  have D := Below.refl w.heap.size w
  by_cases h1 : 1 ≤ k
  · have HF : Hid (decide (1 ≤ k ∧ k ≤ 6) = decide (k ≤ 6)) := by show _ = _; simp [h1]
    have g1 : decide (1 ≤ k) = true := decide_eq_true h1
    go_enter Tryz.func55, Tryz.ntmps55
    go_wp2
    go_ret
    rw [HF.out]
    exact ⟨rfl, D⟩
  · have HF : Hid (decide (1 ≤ k ∧ k ≤ 6) = false) := by show _ = _; simp [h1]
    have g1 : decide (1 ≤ k) = false := decide_eq_false h1
    go_enter Tryz.func55, Tryz.ntmps55
    go_wp2
    go_ret
    exact ⟨by (try rw [HF.out]); rfl, D⟩
theorem between_is (k : Int) (b : Bool) (w : World) (h : Hid (decide (1 ≤ k ∧ k ≤ 6) = b)) :
    Calls Tryz.prog 55 #[.int .i64 k] w fun e w' => e = .returned (.bool b) ∧ Below w.heap.size w w' := re_ (between_calls k w) (ret_bool h.out)
section
variable (n c : Nat) (A : Option Addr) (l : List En) (m d : Nat) (B : Option Addr) (s : List Se) (w : World) (hl : Row enEn 7 w (.slice A n c) l) (hs : Row enSe 6 w (.slice B m d) s)
include hl hs
set_option maxHeartbeats 16000000 in
set_option maxRecDepth 100000 in
theorem MayT_is (hz : SzRo l) (hy : SzSe s) (hn : n ≤ 100000) (b : Bool) (h : Hid (mayT (l, s) = b)) :
    Calls Tryz.prog 54 #[agT A n c B m d] w fun e w' => e = .returned (.bool b) ∧ Below w.heap.size w w' := by
  have D := below_box (w := w) (bxT A n c B m d)
  have hb := heap_alloc_new w (bxT A n c B m d)
  replace hl := hl.below D
  replace hs := hs.below D
  have h0 := h.out
  unfold mayT at h0
  simp only at h0
  clear h
  obtain ⟨r, hr⟩ : ∃ r, mayRo l = r := ⟨_, rfl⟩
  rw [hr] at h0
  have HR := Lib.hid hr
  clear hr
  cases r with
  | false =>
    have HF : Hid (b = false) := by show _ = _; rw [← h0]; rfl
    clear h0
    obtain ⟨z0, z1, zz⟩ := cellsT hb
    go_enter Tryz.func54, Tryz.ntmps54
    go_wp2_with fail
    with_reducible refine (May8_is n c A l _ hl false hz hn HR).mono ?_
    rintro e w1 ⟨rfl, b1⟩
    replace hl := hl.below b1
    replace hs := hs.below b1
    replace hb := hcall hb b1
    replace D := below_call D b1
    clear b1 z0 z1 zz
    go_wp2
    go_ret
    rw [HF.out]
    exact ⟨rfl, D⟩
  | true =>
    have HF : Hid (maySe s = b) := by show _ = _; rw [← h0]; rfl
    clear h0
    obtain ⟨z0, z1, zz⟩ := cellsT hb
    go_enter Tryz.func54, Tryz.ntmps54
    go_wp2_with fail
    with_reducible refine (May8_is n c A l _ hl true hz hn HR).mono ?_
    rintro e w1 ⟨rfl, b1⟩
    replace hl := hl.below b1
    replace hs := hs.below b1
    replace hb := hcall hb b1
    replace D := below_call D b1
    clear b1 z0 z1 zz
    obtain ⟨z0, z1, zz⟩ := cellsT hb
    go_wp2_with fail
    with_reducible refine (May9_is m d B s _ hs b hy HF).mono ?_
    rintro e w2 ⟨rfl, b2⟩
    replace hl := hl.below b2
    replace hs := hs.below b2
    replace hb := hcall hb b2
    replace D := below_call D b2
    clear b2 z0 z1 zz
    go_wp2
    go_ret
    exact ⟨rfl, D⟩
set_option maxHeartbeats 16000000 in
set_option maxRecDepth 100000 in
theorem refMayT_is (hz : SzRo l) (hy : SzSe s) (hn : n ≤ 100000) (b : Bool) (h : Hid (mayT (l, s) = b)) :
    Calls Tryz.prog 10 #[agT A n c B m d] w fun e w' => e = .returned (.bool b) ∧ Below w.heap.size w w' := by
  have D := below_box (w := w) (bxT A n c B m d)
  have hb := heap_alloc_new w (bxT A n c B m d)
  replace hl := hl.below D
  replace hs := hs.below D
  have h0 := h.out
  unfold mayT at h0
  simp only at h0
  clear h
  obtain ⟨r, hr⟩ : ∃ r, mayRo l = r := ⟨_, rfl⟩
  rw [hr] at h0
  have HR := Lib.hid hr
  clear hr
  cases r with
  | false =>
    have HF : Hid (b = false) := by show _ = _; rw [← h0]; rfl
    clear h0
    obtain ⟨z0, z1, zz⟩ := cellsT hb
    go_enter Tryz.func10, Tryz.ntmps10
    go_wp2_with fail
    with_reducible refine (refMay8_is n c A l _ hl false hz hn HR).mono ?_
    rintro e w1 ⟨rfl, b1⟩
    replace hl := hl.below b1
    replace hs := hs.below b1
    replace hb := hcall hb b1
    replace D := below_call D b1
    clear b1 z0 z1 zz
    go_wp2
    go_ret
    rw [HF.out]
    exact ⟨rfl, D⟩
  | true =>
    have HF : Hid (maySe s = b) := by show _ = _; rw [← h0]; rfl
    clear h0
    obtain ⟨z0, z1, zz⟩ := cellsT hb
    go_enter Tryz.func10, Tryz.ntmps10
    go_wp2_with fail
    with_reducible refine (refMay8_is n c A l _ hl true hz hn HR).mono ?_
    rintro e w1 ⟨rfl, b1⟩
    replace hl := hl.below b1
    replace hs := hs.below b1
    replace hb := hcall hb b1
    replace D := below_call D b1
    clear b1 z0 z1 zz
    obtain ⟨z0, z1, zz⟩ := cellsT hb
    go_wp2_with fail
    with_reducible refine (refMay9_is m d B s _ hs b hy HF).mono ?_
    rintro e w2 ⟨rfl, b2⟩
    replace hl := hl.below b2
    replace hs := hs.below b2
    replace hb := hcall hb b2
    replace D := below_call D b2
    clear b2 z0 z1 zz
    go_wp2
    go_ret
    exact ⟨rfl, D⟩
end
set_option maxHeartbeats 16000000 in
set_option maxRecDepth 100000 in
theorem SameT_is (n c : Nat) (A : Option Addr) (l : List En) (m d : Nat) (B : Option Addr) (s : List Se) (n2 c2 : Nat) (A2 : Option Addr) (l2 : List En) (m2 d2 : Nat) (B2 : Option Addr) (s2 : List Se) (w : World) (hl : Row enEn 7 w (.slice A n c) l) (hs : Row enSe 6 w (.slice B m d) s) (hl2 : Row enEn 7 w (.slice A2 n2 c2) l2) (hs2 : Row enSe 6 w (.slice B2 m2 d2) s2) (b : Bool) (h : Hid (decide ((l, s) = (l2, s2)) = b)) :
    Calls Tryz.prog 17 #[agT A n c B m d, agT A2 n2 c2 B2 m2 d2] w fun e w' => e = .returned (.bool b) ∧ Below w.heap.size w w' := by
  have D := below_alloc0 (below_box (w := w) (bxT A n c B m d)) (bxT A2 n2 c2 B2 m2 d2)
  have hb := halloc (heap_alloc_new w (bxT A n c B m d)) (bxT A2 n2 c2 B2 m2 d2)
  have hb2 := heap_alloc_new (w.alloc (bxT A n c B m d)) (bxT A2 n2 c2 B2 m2 d2)
  rw [size_alloc] at hb2
  replace hl := hl.below D
  replace hs := hs.below D
  replace hl2 := hl2.below D
  replace hs2 := hs2.below D
  have h0 : (decide (l = l2) && decide (s = s2)) = b := by
    rw [← h.out, Bool.eq_iff_iff]
    simp only [Bool.and_eq_true, decide_eq_true_eq, Prod.mk.injEq]
  clear h
  obtain ⟨r, hr⟩ : ∃ r, decide (l = l2) = r := ⟨_, rfl⟩
  rw [hr] at h0
  have HR := Lib.hid hr
  clear hr
  cases r with
  | false =>
    have HF : Hid (b = false) := by show _ = _; rw [← h0]; rfl
    clear h0
    obtain ⟨z0, z1, zz⟩ := cellsT hb
    obtain ⟨y0, y1, yz⟩ := cellsT hb2
    go_enter Tryz.func17, Tryz.ntmps17
    go_wp2_with fail
    with_reducible refine (equalEn_is n c n2 c2 A A2 l l2 false _ hl hl2 HR).mono ?_
    rintro e w1 ⟨rfl, b1⟩
    replace hl := hl.below b1
    replace hs := hs.below b1
    replace hl2 := hl2.below b1
    replace hs2 := hs2.below b1
    replace hb := hcall hb b1
    replace hb2 := hcall hb2 b1
    replace D := below_call D b1
    clear b1 z0 z1 zz y0 y1 yz
    go_wp2
    go_ret
    rw [HF.out]
    exact ⟨rfl, D⟩
  | true =>
    have HF : Hid (decide (s = s2) = b) := by show _ = _; rw [← h0]; rfl
    clear h0
    obtain ⟨z0, z1, zz⟩ := cellsT hb
    obtain ⟨y0, y1, yz⟩ := cellsT hb2
    go_enter Tryz.func17, Tryz.ntmps17
    go_wp2_with fail
    with_reducible refine (equalEn_is n c n2 c2 A A2 l l2 true _ hl hl2 HR).mono ?_
    rintro e w1 ⟨rfl, b1⟩
    replace hl := hl.below b1
    replace hs := hs.below b1
    replace hl2 := hl2.below b1
    replace hs2 := hs2.below b1
    replace hb := hcall hb b1
    replace hb2 := hcall hb2 b1
    replace D := below_call D b1
    clear b1 z0 z1 zz y0 y1 yz
    obtain ⟨z0, z1, zz⟩ := cellsT hb
    obtain ⟨y0, y1, yz⟩ := cellsT hb2
    go_wp2_with fail
    with_reducible refine (equalSe_is m d m2 d2 B B2 s s2 b _ hs hs2 HF).mono ?_
    rintro e w2 ⟨rfl, b2⟩
    replace hl := hl.below b2
    replace hs := hs.below b2
    replace hl2 := hl2.below b2
    replace hs2 := hs2.below b2
    replace hb := hcall hb b2
    replace hb2 := hcall hb2 b2
    replace D := below_call D b2
    clear b2 z0 z1 zz y0 y1 yz
    go_wp2
    go_ret
    exact ⟨rfl, D⟩
end Go.Proofs.YtbpfcjdjhponaaaGreat
