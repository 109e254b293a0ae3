/-
Contracts: the library's slices at rows of structs.
-/
import Derived.Test.YtpmafghknafhaaaEnSt
import Derived.Test.YtpmafghknafhaaaBlk
import Derived.Test.YtpmafghknafhaaaWk
set_option linter.unusedVariables false
set_option linter.unusedSimpArgs false
namespace Go.Proofs.Ytpmafghknafhaaa
open Go.RowKit
open Sp
set_option maxHeartbeats 8000000 in
set_option maxRecDepth 100000 in
theorem cloneEn_calls (n c : Nat) (A : Option Addr) (l : List En) (w : World) (hl : Row enEn 7 w (.slice A n c) l) (hn : n ≤ 100000) :
    Calls Try.prog 47 #[.slice A n c] w fun e w' => ∃ v, e = .returned v ∧ Own enEn 7 49 w' w.heap.size v l ∧ Below w.heap.size w w' := by
  rcases A with _ | ad
  · have hl0 : l = [] := by
      obtain ⟨A', c', he, _, _, _, h4⟩ := hl
      rcases Nat.eq_zero_or_pos l.length with h0 | h0
      · exact List.eq_nil_of_length_eq_zero h0
      · obtain ⟨ad, h, _⟩ := h4 h0
        injection he with e1
        rw [← e1] at h
        cases h
    subst hl0
    have kn := fun (W : World) => Lib.run_eql_slice_nil (P := Try.prog) W 22 49 none n c 0 0 Try.underlying22
    go_enter Try.func47, Try.ntmps47
    go_wp2
    go_ret
    exact ⟨_, rfl, Own.nil _ _ _ _ _, Below.refl _ _⟩
  · have EA := Lib.hid hl.len_eq
    have hln : l.length ≤ 100000 := by have := EA.out; omega
    have hB := below_box (w := w) (.cells #[] 49)
    have kn := fun (W : World) => Lib.run_eql_slice_nil (P := Try.prog) W 22 49 (some ad) n c 0 0 Try.underlying22
    have hO : Own enEn 7 49 (w.alloc (.cells #[] 49)) w.heap.size (.slice (some ⟨w.heap.size, 0, none⟩) 0 0) [] := Own.lit enEn_len w [] #[] 0 rfl rfl (Nat.le_refl _) (by omega)
    go_enter Try.func47, Try.ntmps47
    go_wp2_with (at_builtin; refine Own.appendRow (w0 := w) w.heap.size rfl (.tmp 5) (.tmp 6) 22 49 zvEn 7 40 rfl Try.underlying22 infoEn rfl (by decide) (.slice (some ⟨w.heap.size, 0, none⟩) 0 0) (.slice (some ad) n c) [] l rfl rfl enEn_one hO (hl.below hB) hB hB.size (by simp only [List.length_nil]; omega) (by simp only [List.length_nil]; omega) ?_; intro v2 w2 hO2 hB2 _ _)
    go_ret
    exact ⟨_, rfl, hO2, hB2⟩
theorem szEn : (Try.prog.info? 49).map (·.size) = some 7 := by kernel_rfl
theorem szoEn (w : World) : (Go.sizeOf 49).run Try.prog w = .ok 7 w := by kernel_rfl
theorem flat_takeEn (xs : List En) (i : Nat) (hi : i ≤ xs.length) : (xs.flatMap enEn) = (xs.take i).flatMap enEn ++ (xs.drop i).flatMap enEn ∧ ((xs.take i).flatMap enEn).length = i * 7 ∧ ((xs.drop i).flatMap enEn).length = (xs.length - i) * 7 := by
  refine ⟨by rw [← List.flatMap_append, List.take_append_drop], ?_, ?_⟩
  · rw [flat_length enEn_len, List.length_take]; congr 1; omega
  · rw [flat_length enEn_len, List.length_drop]
set_option maxHeartbeats 8000000 in
set_option maxRecDepth 100000 in
/-- At the end. -/
theorem insertEn_end (base n g : Nat) (v : Value) (xs : List En) (x : En) (w0 w : World) (hO : Own enEn 7 49 w base v xs) (hx : w.heap[g]? = some (.cells (enEn x).toArray 49 (0, 0))) (hn : n = xs.length) (hln : n ≤ 100000)
    (HB : Below base w0 w) (hbase : base ≤ w.heap.size) :
    Calls Try.prog 78 #[v, .int .i64 n, .slice (some ⟨g, 0, none⟩) 1 1] w fun e w' => ∃ v', e = .returned v' ∧ Own enEn 7 49 w' base v' (xs ++ [x]) ∧ Below base w0 w' := by
  obtain ⟨A, c, rfl, hnc⟩ := hO.slice
  have hR : Row enEn 7 w (.slice (some ⟨g, 0, none⟩) 1 1) [x] := ⟨_, 1, rfl, Nat.le_refl _, by simp [maxLen], rfl, fun _ => ⟨_, rfl, fun j u hu => by
    rw [add_plain, World.cell?, hx]
    simpa using hu⟩⟩
  rw [← hn] at hnc
  have HN := Lib.hid hn
  have hu : xs.length ≤ 100000 := by omega
  have hO' : Own enEn 7 49 w base (.slice A n c) xs := by rw [HN.out]; exact hO
  rw [← hn]
  clear hO hn
  have x1 : (0 : Int) ≤ (n : Int) := by omega
  have x2 : (n : Int) ≤ (c : Int) := by omega
  have heq : ((n : Int) == (n : Int)) = true := by simp
  go_enter Try.func78, Try.ntmps78
  go_wp2_with (at_builtin; refine Own.appendRow (w0 := w0) base rfl (.tmp 23) (.tmp 24) 22 49 zvEn 7 40 rfl Try.underlying22 infoEn rfl (by decide) (.slice A n c) (.slice (some ⟨g, 0, none⟩) 1 1) xs [x] rfl rfl enEn_one hO' hR HB hbase (by simp only [List.length_cons, List.length_nil]; omega) (by simp only [List.length_cons, List.length_nil]; omega) ?_; intro v2 w2 hO2 hB2 _ _)
  all_goals
    go_ret
    exact ⟨_, rfl, hO2, hB2⟩
set_option maxHeartbeats 8000000 in
set_option maxRecDepth 100000 in
/-- There is room: in place. -/
theorem insertEn_shift (base n c i g b : Nat) (xs : List En) (x : En) (w0 w : World) (hO : Own enEn 7 49 w base (.slice (some ⟨b, 0, none⟩) n c) xs) (hx : w.heap[g]? = some (.cells (enEn x).toArray 49 (0, 0))) (hgb : g ≠ b) (hn : n = xs.length) (hln : n ≤ 100000)
    (hi : i < n) (hroom : n + 1 ≤ c) (HB : Below base w0 w) :
    Calls Try.prog 78 #[.slice (some ⟨b, 0, none⟩) n c, .int .i64 i, .slice (some ⟨g, 0, none⟩) 1 1] w fun e w' => ∃ v', e = .returned v' ∧ Own enEn 7 49 w' base v' (xs.take i ++ x :: xs.drop i) ∧ Below base w0 w' := by
  obtain ⟨hlen, h2⟩ := hO
  rcases h2 with ⟨h2, _⟩ | ⟨b', c', cur, he, hbb, hcur, hnc, hcm, hcs, htake⟩
  · cases h2
  simp only [Value.slice.injEq, Option.some.injEq, Addr.mk.injEq] at he
  obtain ⟨⟨rfl, -, -⟩, -, rfl⟩ := he
  obtain ⟨f1, f2, f3⟩ := flat_takeEn xs i (by omega)
  obtain ⟨X1, hX1⟩ : ∃ X1, (xs.take i).flatMap enEn = X1 := ⟨_, rfl⟩
  obtain ⟨X2, hX2⟩ : ∃ X2, (xs.drop i).flatMap enEn = X2 := ⟨_, rfl⟩
  obtain ⟨Y, hY⟩ : ∃ Y, enEn x = Y := ⟨_, rfl⟩
  obtain ⟨L, rfl⟩ : ∃ L : List Value, cur = L.toArray := ⟨cur.toList, by simp⟩
  rw [hX1, hX2] at f1
  rw [hX1] at f2
  rw [hX2, ← hn] at f3
  rw [f1] at htake
  rw [← hn] at hnc htake
  rw [hY] at hx
  have hYl : Y.length = 7 := by rw [← hY]; rfl
  have hY1 : ∀ v ∈ Y, v.oneCell' = true := by rw [← hY]; exact enEn_one x
  have hX21 : ∀ v ∈ X2, v.oneCell' = true := by rw [← hX2]; intro v hv; obtain ⟨y, _, hy⟩ := List.mem_flatMap.1 hv; exact enEn_one y v hy
  have hLl : L.length = c * 7 := by simpa using hcs
  have hLt : L.take (n * 7) = X1 ++ X2 := by simpa using htake
  obtain ⟨s1, s2⟩ := splice_ins L X1 X2 Y (n * 7) 7 hLt hYl (by rw [hLl, ← Nat.succ_mul]; exact Nat.mul_le_mul_right _ hroom)
  have hsrc : ∀ j u, X2[j]? = some u → w.cell? ⟨b, i * 7 + j, none⟩ = some u := by
    intro j u hu
    have hj : j < X2.length := (List.getElem?_eq_some_iff.1 hu).1
    have h1 : L[i * 7 + j]? = some u := by
      have h2 : (L.take (n * 7))[i * 7 + j]? = some u := by
        rw [hLt, ← f2, List.getElem?_append_right (by omega), Nat.add_sub_cancel_left]; exact hu
      rw [List.getElem?_take] at h2
      split at h2
      · exact h2
      · cases h2
    rw [World.cell?, hcur]
    simpa using h1
  have hgcell : ∀ j u, Y[j]? = some u → w.cell? ⟨g, j, none⟩ = some u := fun j u hu => by rw [World.cell?, hx]; simpa using hu
  have hov : ∀ lb cb, (callFunc 91 #[.slice (some ⟨g, 0, none⟩) 1 1, .slice (some ⟨b, (i + 1) * 7, none⟩) lb cb]).run Try.prog w = .ok (.value (.bool false)) w := fun lb cb => by
    rw [run_callFunc_extern Try.func91 (by kernel_rfl) (by kernel_rfl) (by kernel_rfl) (e := Extern.SlicesOverlaps.overlaps #[22, 22] #[4]) (by kernel_rfl),
      Lib.run_overlaps_apart w 22 4 49 Try.underlying22 7 szoEn ⟨g, 0, none⟩ ⟨b, (i + 1) * 7, none⟩ 1 1 lb cb hgb 49 49 Y.length L.length (by simp [World.shape?, hx]) (by simp [World.shape?, hcur]) (by rw [hLl]; have : 0 < c * 7 := Nat.mul_pos (by omega) (by omega); omega) (by simp [World.frozen?, hx]) (by simp [World.frozen?, hx])]
    rfl
  have hcur' : w.drew.heap[b]? = some (.cells L.toArray 49 (0, 0)) := hcur
  have hBd : Below base w0 w.drew := HB.drew
  have hdl : X2.length = Nat.min (n + 1 - i) (n - i) * 7 := by rw [f3]; congr 1; simp only [Nat.min_def]; split <;> omega
  have HS1 := Lib.hid s1
  have HS2 := Lib.hid s2
  have HF1 := Lib.hid f1
  have HF2 := Lib.hid f2
  have HLL := Lib.hid hLl
  have HDL := Lib.hid hdl
  have HX1 := Lib.hid hX1
  have HX2 := Lib.hid hX2
  have HY := Lib.hid hY
  have HYL := Lib.hid hYl
  have HXN := Lib.hid hn
  have HG := Lib.hid hx
  have HSRC := Lib.hid hsrc
  have HGC := Lib.hid hgcell
  have HX21 := Lib.hid hX21
  have HY1 := Lib.hid hY1
  have HCUR := Lib.hid hcur'
  have HFIT : Hid (X1.length + 7 + X2.length ≤ L.length ∧ X1.length = i * 7 ∧ X1.length + 7 = (i + 1) * 7) := by
    refine ⟨?_, f2, by rw [f2, Nat.succ_mul]⟩
    have := congrArg List.length hLt
    rw [List.length_take, List.length_append] at this
    have h3 : (n + 1) * 7 ≤ L.length := by rw [hLl]; exact Nat.mul_le_mul_right _ hroom
    omega
  have HMK : Hid (∀ w' : World, w'.heap[b]? = some (.cells (splice (splice L (X1.length + 7) X2) X1.length Y).toArray 49 (0, 0)) → Own enEn 7 49 w' base (.slice (some ⟨b, 0, none⟩) (n + 1) c) (xs.take i ++ x :: xs.drop i)) := by
    intro w' hw'
    have hl2 : (xs.take i ++ x :: xs.drop i).length = n + 1 := by rw [List.length_append, List.length_cons, List.length_take, List.length_drop]; omega
    have hfl : (xs.take i ++ x :: xs.drop i).flatMap enEn = X1 ++ (Y ++ X2) := by rw [List.flatMap_append, List.flatMap_cons, hX1, hX2, hY]
    refine ⟨by rw [flat_length enEn_len], .inr ⟨b, c, _, by rw [hl2], hbb, hw', by omega, hcm, by simpa [s2] using hLl, ?_⟩⟩
    rw [hl2, hfl, ← s1]
    congr 1
    omega
  clear s1 s2 f1 f2 f3 hLl hdl hX1 hX2 hY hYl hn hx hsrc hgcell hX21 hY1 hcur' hlen hcs htake hLt
  have x1 : (0 : Int) ≤ (i : Int) := by omega
  have x2 : (i : Int) ≤ (n : Int) := by omega
  have x3 : (i : Int) < (n : Int) := by omega
  have x4 : (n : Int) + 1 ≤ (c : Int) := by omega
  have x5 : ((i : Int) == (n : Int)) = false := by simp; omega
  have x6 : ¬ ((i : Int) = (n : Int)) := by omega
  have x7 : ¬ (c = i) := by omega
  have x8 : ¬ (c = i + 1) := by omega
  have x9 : IntKind.i64.wrap ((i : Int) + 1) = (i : Int) + 1 := by rw [IntKind.wrap_i64]; omega
  have x10 : (0 : Int) ≤ (i : Int) + 1 := by omega
  have x11 : ((i : Int) + 1).toNat = i + 1 := by omega
  have x12 : (i : Int) + 1 ≤ (n : Int) + 1 := by omega
  have x13 : (i : Int) ≤ (n : Int) + 1 := by omega
  have x14 : i ≤ n := by omega
  go_enter Try.func78, Try.ntmps78
  go_wp2_with (simp only [hov])
  go_region_law (refine step_copyK rfl _ _ 22 22 rfl 49 7 Try.underlying22 szEn (by decide) (some ⟨b, (i + 1) * 7, none⟩) (some ⟨b, i * 7, none⟩) (n - i) (c - (i + 1)) (n + 1 - i) (c - i) (by simp [Act.eval, Act.put]) (by simp [Act.eval, Act.put]) b (X1.length + 7) L 49 HCUR.out X2 HDL.out (fun _ => ⟨by rw [HFIT.out.2.2], _, rfl, fun j v hj => by rw [Addr.add_lit]; exact HSRC.out j v hj⟩) HFIT.out.1 HX21.out base w0 hBd hbb ?_; intro w1 HC1 hB1 hz1 ho1)
  have hg1 := ho1 g hgb
  have hH2 : Y.length = Nat.min 1 (n + 1 - i) * 7 := by rw [HYL.out]; simp only [Nat.min_def]; split <;> omega
  have hF2 : X1.length + Y.length ≤ (splice L (X1.length + 7) X2).length := by rw [HYL.out, length_splice _ _ _ HFIT.out.1]; have := HFIT.out.1; omega
  have hP2 : 0 < Y.length → (some ⟨b, i * 7, none⟩ : Option Addr) = some ⟨b, X1.length, none⟩ ∧ ∃ ad, (some ⟨g, 0, none⟩ : Option Addr) = some ad ∧ ∀ j v, Y[j]? = some v → w1.cell? (ad.add j) = some v := fun _ => ⟨by rw [HFIT.out.2.1], _, rfl, fun j v hj => by rw [add_plain, World.cell?, hg1]; exact HGC.out j v hj⟩
  have HH2 := Lib.hid hH2
  have HF2 := Lib.hid hF2
  have HP2 := Lib.hid hP2
  clear hH2 hF2 hP2 hg1 ho1 hz1
  go_wp2_with (with_reducible refine wpList_copyK rfl (.tmp 80) (.tmp 81) 22 22 rfl 49 7 Try.underlying22 szEn (by decide) (some ⟨b, i * 7, none⟩) (some ⟨g, 0, none⟩) (n + 1 - i) (c - i) 1 1 rfl rfl b X1.length (splice L (X1.length + 7) X2) 49 HC1.out Y HH2.out HP2.out HF2.out HY1.out base w0 hB1 hbb ?_; intro w2 HC2 hB2 hz2 ho2)
  go_ret
  exact ⟨_, rfl, HMK.out _ HC2.out, hB2⟩
set_option maxHeartbeats 8000000 in
set_option maxRecDepth 100000 in
/-- There is no room: a new row. -/
theorem insertEn_grow (base n c i g b : Nat) (xs : List En) (x : En) (w0 w : World) (hO : Own enEn 7 49 w base (.slice (some ⟨b, 0, none⟩) n c) xs) (hx : w.heap[g]? = some (.cells (enEn x).toArray 49 (0, 0))) (hn : n = xs.length) (hln : n ≤ 100000)
    (hi : i < n) (hroom : c < n + 1) (HB : Below base w0 w) (hbase : base ≤ w.heap.size) :
    Calls Try.prog 78 #[.slice (some ⟨b, 0, none⟩) n c, .int .i64 i, .slice (some ⟨g, 0, none⟩) 1 1] w fun e w' => ∃ v', e = .returned v' ∧ Own enEn 7 49 w' base v' (xs.take i ++ x :: xs.drop i) ∧ Below base w0 w' := by
  obtain ⟨hlen, h2⟩ := hO
  rcases h2 with ⟨h2, _⟩ | ⟨b', c', cur, he, hbb, hcur, hnc, hcm, hcs, htake⟩
  · cases h2
  simp only [Value.slice.injEq, Option.some.injEq, Addr.mk.injEq] at he
  obtain ⟨⟨rfl, -, -⟩, -, rfl⟩ := he
  obtain ⟨f1, f2, f3⟩ := flat_takeEn xs i (by omega)
  obtain ⟨X1, hX1⟩ : ∃ X1, (xs.take i).flatMap enEn = X1 := ⟨_, rfl⟩
  obtain ⟨X2, hX2⟩ : ∃ X2, (xs.drop i).flatMap enEn = X2 := ⟨_, rfl⟩
  obtain ⟨Y, hY⟩ : ∃ Y, enEn x = Y := ⟨_, rfl⟩
  obtain ⟨L, rfl⟩ : ∃ L : List Value, cur = L.toArray := ⟨cur.toList, by simp⟩
  rw [hX1, hX2] at f1
  rw [hX1] at f2
  rw [hX2, ← hn] at f3
  rw [f1] at htake
  rw [← hn] at hnc htake
  rw [hY] at hx
  have hYl : Y.length = 7 := by rw [← hY]; rfl
  have hY1 : ∀ v ∈ Y, v.oneCell' = true := by rw [← hY]; exact enEn_one x
  have hX21 : ∀ v ∈ X2, v.oneCell' = true := by rw [← hX2]; intro v hv; obtain ⟨y, _, hy⟩ := List.mem_flatMap.1 hv; exact enEn_one y v hy
  have hLt : L.take (n * 7) = X1 ++ X2 := by simpa using htake
  have hget : ∀ j u, (X1 ++ X2)[j]? = some u → w.cell? ⟨b, j, none⟩ = some u := by
    intro j u hu
    rw [← hLt, List.getElem?_take] at hu
    rw [World.cell?, hcur]
    split at hu
    · simpa using hu
    · cases hu
  have hsrc1 : ∀ j u, X1[j]? = some u → w.cell? ⟨b, j, none⟩ = some u := fun j u hu => hget j u (by rw [List.getElem?_append_left (List.getElem?_eq_some_iff.1 hu).1]; exact hu)
  have hsrc : ∀ j u, X2[j]? = some u → w.cell? ⟨b, i * 7 + j, none⟩ = some u := fun j u hu => hget _ u (by rw [← f2, List.getElem?_append_right (by omega), Nat.add_sub_cancel_left]; exact hu)
  have hgcell : ∀ j u, Y[j]? = some u → w.cell? ⟨g, j, none⟩ = some u := fun j u hu => by rw [World.cell?, hx]; simpa using hu
  have hglt : g < w.heap.size := (Array.getElem?_eq_some_iff.1 hx).1
  have hblt : b < w.heap.size := (Array.getElem?_eq_some_iff.1 hcur).1
  obtain ⟨m, hm⟩ : ∃ m, n + 1 - i = m := ⟨_, rfl⟩
  have hmi : (n : Int) + 1 - (i : Int) = (m : Int) := by omega
  have hHA : Hid (c < i + m ∧ 0 < m ∧ (i + m) * 40 ≤ 140737488355328 ∧ i + m ≤ 140737488355328 ∧ i + m = n + 1) := ⟨by omega, by omega, by omega, by omega, by omega⟩
  have hm2 : 2 ≤ m := by omega
  have HS0 := Lib.hid f2
  have HSRC1 := Lib.hid hsrc1
  have HSRC := Lib.hid hsrc
  have HGC := Lib.hid hgcell
  have HX21 := Lib.hid hX21
  have HY1 := Lib.hid hY1
  have HYL := Lib.hid hYl
  have HF3 := Lib.hid f3
  have HXN := Lib.hid hn
  have HMI := Lib.hid hm
  have HMK : Hid (∀ (w' : World) (g' nc : Nat) (L' : List Value), base ≤ g' → i + m ≤ nc → nc ≤ 9223372036854775807 → L'.length = nc * 7 → L'.take ((n + 1) * 7) = X1 ++ (Y ++ X2) → w'.heap[g']? = some (.cells L'.toArray 49 (0, 0)) → Own enEn 7 49 w' base (.slice (some ⟨g', 0, none⟩) (i + m) nc) (xs.take i ++ x :: xs.drop i)) := by
    intro w' g' nc L' hbg hnc1 hnc2 hl1 hl3 hw'
    have hl2 : (xs.take i ++ x :: xs.drop i).length = n + 1 := by rw [List.length_append, List.length_cons, List.length_take, List.length_drop]; omega
    have hfl : (xs.take i ++ x :: xs.drop i).flatMap enEn = X1 ++ (Y ++ X2) := by rw [List.flatMap_append, List.flatMap_cons, hX1, hX2, hY]
    refine ⟨by rw [flat_length enEn_len], .inr ⟨g', nc, _, by rw [hl2]; congr 1; omega, hbg, hw', by omega, by simpa [maxLen] using hnc2, by simpa using hl1, ?_⟩⟩
    rw [hl2, hfl, ← hl3]
  clear hsrc1 hsrc hgcell hget hX21 hY1 hYl hn hlen hcs htake hLt hX1 hX2 hY f1 f2 f3
  have x1 : (0 : Int) ≤ (i : Int) := by omega
  have x2 : (i : Int) ≤ (n : Int) := by omega
  have x3 : (i : Int) < (n : Int) := by omega
  have x4 : (c : Int) < (n : Int) + 1 := by omega
  have x5 : ((i : Int) == (n : Int)) = false := by simp; omega
  have x6 : ¬ ((i : Int) = (n : Int)) := by omega
  have x7 : ¬ (c = i) := by omega
  have x9 : IntKind.i64.wrap ((i : Int) + 1) = (i : Int) + 1 := by rw [IntKind.wrap_i64]; omega
  have x10 : (0 : Int) ≤ (i : Int) + 1 := by omega
  have x11 : ((i : Int) + 1).toNat = i + 1 := by omega
  have x12 : (i : Int) + 1 ≤ (i : Int) + (m : Int) := by omega
  have x13 : (i : Int) ≤ (i : Int) + (m : Int) := by omega
  have x14 : i ≤ n := by omega
  have x15 : i ≤ c := by omega
  have x16 : (i : Int) ≤ (c : Int) := by omega
  have x17 : 1 ≤ m := by omega
  clear hm
  go_enter Try.func78, Try.ntmps78
  go_wp2_with (first | (at_builtin; refine wpList_append_zerosK rfl (.tmp 34) (.tmp 39) 22 3 rfl 49 zvEn 7 40 .i64 .i64 Try.underlying22 Try.underlying3 infoEn rfl (by decide) b i c m rfl rfl X1 HS0.out HSRC1.out hHA.out.1 hHA.out.2.1 hHA.out.2.2.1 hHA.out.2.2.2.1 ?_; intro nc cur w1 hnc1 hnc2 HCL HCT HC1 hz1 hB1; (have HB1 := HB.trans (hB1.mono hbase)); (have hcx : w1.heap[g]? = w.heap[g]? := hB1.block g hglt); (have hcb : w1.heap[b]? = w.heap[b]? := hB1.block b hblt); (have hgne : g ≠ w.heap.size := (by omega)); (have hbne : b ≠ w.heap.size := (by omega)); (obtain ⟨s1, s2, s3⟩ := splice_app cur X1 X2 Y (i * 7) HCT.out HS0.out (by rw [HYL.out, HF3.out, HCL]; have := hHA.out.2.2.2.2; omega)); (have y1 : ¬ (nc = i) := (by omega)); (have y2 : ¬ (nc = i + 1) := (by omega)); (have hH2 : Y.length = Nat.min 1 m * 7 := (by rw [HYL.out]; simp only [Nat.min_def]; split <;> omega)); (have hF2 : i * 7 + Y.length ≤ cur.length := (by rw [HYL.out, HCL]; have := hHA.out.2.2.2.2; omega)); (have hP2 : ∀ j v, Y[j]? = some v → w1.cell? ⟨g, j, none⟩ = some v := fun j v hj => by rw [World.cell?, hcx]; exact HGC.out j v hj); (have HH2 := Lib.hid hH2); (have HF2 := Lib.hid hF2); (have HP2 := Lib.hid hP2); (have HC1' := Lib.hid HC1); (have HCL' := Lib.hid HCL); (have HS1 := Lib.hid s1); (have HS2 := Lib.hid s2); (have HS3 := Lib.hid s3); (have HCB := Lib.hid hcb); (clear hH2 hF2 hP2 HC1 HCL s1 s2 s3 hcb hcx)) | (with_reducible refine wpList_copyK rfl (.tmp 43) (.tmp 44) 22 22 rfl 49 7 Try.underlying22 szEn (by decide) (some ⟨w.heap.size, i * 7, none⟩) (some ⟨g, 0, none⟩) m (nc - i) 1 1 rfl rfl w.heap.size (i * 7) cur 49 HC1'.out Y HH2.out (fun _ => ⟨rfl, _, rfl, fun j v hj => by rw [add_plain]; exact HP2.out j v hj⟩) HF2.out HY1.out base w0 HB1 hbase ?_; intro w2 HC2 hB2 hz2 ho2))
  have hcb2 := (ho2 b hbne).trans HCB.out
  have hH3 : X2.length = Nat.min (n - i) (m - 1) * 7 := by rw [HF3.out]; congr 1; have := hHA.out.2.2.2.2; simp only [Nat.min_def]; split <;> omega
  have hF3 : i * 7 + Y.length + X2.length ≤ (splice cur (i * 7) Y).length := by
    rw [HS3.out, HYL.out, HF3.out, HCL'.out]; have := hHA.out.2.2.2.2; omega
  have hP3 : 0 < X2.length → (some ⟨w.heap.size, (i + 1) * 7, none⟩ : Option Addr) = some ⟨w.heap.size, i * 7 + Y.length, none⟩ ∧ ∃ ad, (some ⟨b, i * 7, none⟩ : Option Addr) = some ad ∧ ∀ j v, X2[j]? = some v → w2.drew.cell? (ad.add j) = some v := fun _ => ⟨by rw [HYL.out, Nat.succ_mul], _, rfl, fun j v hj => by rw [Addr.add_lit]; show w2.cell? _ = _; rw [World.cell?, hcb2]; exact HSRC.out j v hj⟩
  have HH3 := Lib.hid hH3
  have HF3' := Lib.hid hF3
  have HP3 := Lib.hid hP3
  have HC2' : Hid (w2.drew.heap[w.heap.size]? = some (.cells (splice cur (i * 7) Y).toArray 49 (0, 0))) := HC2.out
  have hB2d : Below base w0 w2.drew := hB2.drew
  clear hH3 hF3 hP3 hcb2 ho2 hz2
  go_region_law (refine step_copyK rfl (.tmp 50) (.tmp 53) 22 22 rfl 49 7 Try.underlying22 szEn (by decide) (some ⟨w.heap.size, (i + 1) * 7, none⟩) (some ⟨b, i * 7, none⟩) (m - 1) (nc - (i + 1)) (n - i) (c - i) (by simp [Act.eval, Act.put]; omega) (by simp [Act.eval, Act.put]) w.heap.size (i * 7 + Y.length) (splice cur (i * 7) Y) 49 HC2'.out X2 HH3.out HP3.out HF3'.out HX21.out base w0 hB2d hbase ?_; intro w3 HC3 hB3 hz3 ho3)
  go_wp2
  go_ret
  refine ⟨_, rfl, HMK.out w3 w.heap.size nc _ hbase hnc1 hnc2 (by rw [HS2.out, HCL'.out]) ?_ HC3.out, hB3⟩
  rw [← HS1.out]
  congr 1
  rw [HYL.out, HF3.out]
  omega
/-- slices.Insert of one. -/
theorem insertEn_calls (base i g : Nat) (v : Value) (xs : List En) (x : En) (w0 w : World) (hO : Own enEn 7 49 w base v xs) (hx : w.heap[g]? = some (.cells (enEn x).toArray 49 (0, 0))) (hgb : v.ownBlock ≠ some g) (hln : xs.length ≤ 100000)
    (hi : i ≤ xs.length) (HB : Below base w0 w) (hbase : base ≤ w.heap.size) :
    Calls Try.prog 78 #[v, .int .i64 i, .slice (some ⟨g, 0, none⟩) 1 1] w fun e w' => ∃ v', e = .returned v' ∧ Own enEn 7 49 w' base v' (xs.take i ++ x :: xs.drop i) ∧ Below base w0 w' := by
  by_cases he : i = xs.length
  · rw [List.take_of_length_le (by omega), List.drop_eq_nil_of_le (by omega)]
    exact insertEn_end base i g v xs x w0 w hO hx he (by omega) HB hbase
  · obtain ⟨A, c, rfl, hnc⟩ := hO.slice
    rcases A with _ | ad
    · rcases hO.2 with ⟨_, h0⟩ | ⟨b, c', cur, h, _⟩
      · omega
      · cases h
    · obtain ⟨b, rfl⟩ : ∃ b, ad = ⟨b, 0, none⟩ := by
        rcases hO.2 with ⟨h, _⟩ | ⟨b, c', cur, h, _⟩
        · cases h
        · injection h with h; injection h with h; exact ⟨b, h⟩
      by_cases hroom : xs.length + 1 ≤ c
      · exact insertEn_shift base xs.length c i g b xs x w0 w hO hx (fun e => hgb (by rw [e]; rfl)) rfl hln (by omega) hroom HB
      · exact insertEn_grow base xs.length c i g b xs x w0 w hO hx rfl hln (by omega) (by omega) HB hbase
end Go.Proofs.Ytpmafghknafhaaa
