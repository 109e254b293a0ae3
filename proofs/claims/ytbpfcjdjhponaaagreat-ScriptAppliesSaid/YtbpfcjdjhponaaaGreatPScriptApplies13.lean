import Derived.Test.YtbpfcjdjhponaaaGreatPScriptApplies12
set_option linter.unusedVariables false
set_option linter.unusedSimpArgs false
namespace Go.Proofs.YtbpfcjdjhponaaaGreat
open Go.RowKit
open Sp
def RdPost (ev : Ev) (b : Bool) (w : World) (e : Ending) (w' : World) : Prop := ∃ r : Ev, e = .returned (.tuple #[evV r, .bool b]) ∧ (b = true → r = ev) ∧ Below w.heap.size w w'
theorem s8_of {W Y : World} {g : Nat} {x0 x1 x2 x3 x4 x5 x6 x7 : Value} (h : W.heap[g]? = Y.heap[g]?) (k : Y.cell? ⟨g, 0, none⟩ = some x0 ∧ Y.cell? ⟨g, 1, none⟩ = some x1 ∧ Y.cell? ⟨g, 2, none⟩ = some x2 ∧ Y.cell? ⟨g, 3, none⟩ = some x3 ∧ Y.cell? ⟨g, 4, none⟩ = some x4 ∧ Y.cell? ⟨g, 5, none⟩ = some x5 ∧ Y.cell? ⟨g, 6, none⟩ = some x6 ∧ Y.cell? ⟨g, 7, none⟩ = some x7) : W.cell? ⟨g, 0, none⟩ = some x0 ∧ W.cell? ⟨g, 1, none⟩ = some x1 ∧ W.cell? ⟨g, 2, none⟩ = some x2 ∧ W.cell? ⟨g, 3, none⟩ = some x3 ∧ W.cell? ⟨g, 4, none⟩ = some x4 ∧ W.cell? ⟨g, 5, none⟩ = some x5 ∧ W.cell? ⟨g, 6, none⟩ = some x6 ∧ W.cell? ⟨g, 7, none⟩ = some x7 := by
  simpa only [World.cell?, h] using k
theorem keep8 (Y : World) (g : Nat) (a0 a1 a2 a3 a4 a5 a6 a7 : Value) : ((((((((Y.setCell ⟨g, 0, none⟩ a0).setCell ⟨g, 1, none⟩ a1).setCell ⟨g, 2, none⟩ a2).setCell ⟨g, 3, none⟩ a3).setCell ⟨g, 4, none⟩ a4).setCell ⟨g, 5, none⟩ a5).setCell ⟨g, 6, none⟩ a6).setCell ⟨g, 7, none⟩ a7).heap[g + 1]? = Y.heap[g + 1]? := by
  iterate 8 rw [Below.heap_setCell _ _ _ _ (by simp)]
theorem keep8d (Y : World) (g : Nat) (a0 a1 a2 a3 a4 a5 a6 a7 : Value) : ((((((((Y.setCell ⟨g, 0, none⟩ a0).setCell ⟨g, 1, none⟩ a1).setCell ⟨g, 2, none⟩ a2).setCell ⟨g, 3, none⟩ a3).setCell ⟨g, 4, none⟩ a4).setCell ⟨g, 5, none⟩ a5).setCell ⟨g, 6, none⟩ a6).setCell ⟨g, 7, none⟩ a7).drew.heap[g + 1]? = Y.heap[g + 1]? := by
  rw [show ∀ W : World, W.drew.heap = W.heap from fun _ => rfl]
  iterate 8 rw [Below.heap_setCell _ _ _ _ (by simp)]
set_option maxHeartbeats 4000000 in
set_option maxRecDepth 100000 in
theorem read_no_lo (s : ByteArray) (w : World) (hs : s.size ≤ 140737488351232) (h0 : 0 < s.size) (k : Nat) (hk : (s[0]'h0).toNat = k) (k1 : 1 ≤ (k : Int)) (k6 : (k : Int) ≤ 6) (u : ByteArray) (a1 er : Int) (he : (er == 0) = false) (hu : u.size ≤ 140737488351232) (HU : Hid (takeN s 1 = (u, a1, er))) (ev : Ev) :
    Calls Tryz.prog 53 #[.string s] w (RdPost ev false w) := by
  have HK : Hid (hasK (k : Int) = 1) := by show _ = _; unfold hasK; rw [if_pos ⟨k1, k6⟩]
  have e1 : bits .and .i64 1 1 = 1 := by decide
  have e2 : bits .and .i64 1 2 = 0 := by decide
  have e4 : bits .and .i64 1 4 = 0 := by decide
  go_enter Tryz.func53, Tryz.ntmps53
  go_wp2_with fail
  refine (take_int s 0 (w.heap.size + 1) 0 (.int .i64 0) k _ hs h0 hk ((RW.start w).cell 0 _ rfl) ((RW.start w).free 0)).mono ?_
  rintro e W1 ⟨rfl, hW⟩
  have R1 : RW w #[.int .i64 k, .string ⟨#[]⟩, .string ⟨#[]⟩, .int .i64 0, .int .i64 0, .int .i64 0, .int .i64 0, .string ⟨#[]⟩] W1 := by rw [hW]; exact (RW.start w).set 0 _
  clear hW
  have c0 := R1.cell 0 (.int .i64 k) rfl
  have hz := R1.siz
  have hz' : w.heap.size < W1.heap.size := by omega
  have O0 : Own enJ 1 20 (W1.alloc (.cells #[fStr w 1] 20)) (w.heap.size + 2) (.slice (some ⟨W1.heap.size, 0, none⟩) 1 1) [fStr w 1] := Own.lit enJ_len W1 [fStr w 1] #[fStr w 1] 1 rfl rfl (by omega) (by omega)
  have Q0 := R1.alloc (.cells #[fStr w 1] 20)
  have hzz : (W1.alloc (.cells #[fStr w 1] 20)).heap.size = W1.heap.size + 1 := Array.size_push ..
  have HZZ := Lib.hid hzz
  clear hzz
  have zz : w.heap.size + 2 ≤ (W1.alloc (.cells #[fStr w 1] 20)).heap.size := by simp; omega
  go_wp2_with (first | (go_at_call 48; refine (has_is _ 1 _ HK).mono ?_; rintro e wh ⟨rfl, rfl⟩) | (at_builtin; refine Own.append (w0 := (W1.alloc (.cells #[fStr w 1] 20))) (w.heap.size + 2) rfl (.tmp 27) (.tmp 30) 139 20 .nilIface 1 16 rfl Tryz.underlying139 info_any rfl (by decide) (.slice (some ⟨W1.heap.size, 0, none⟩) 1 1) [fStr w 1] (fStr w 2) [fStr w 2] rfl (by rw [HZZ.out]; rfl) rfl rfl (by simp [Value.oneCell']) O0 (Below.refl _ _) zz (by simp) (by simp) ?_; intro v1 x1 O1 B1 _ _; have Q1 := Q0.belowB B1; have zz1 : w.heap.size + 2 ≤ x1.heap.size := Nat.le_trans zz B1.size; obtain ⟨ad, cc, hv⟩ := own_slice_n O1 2 rfl (by omega); subst hv))
  have OF : Own enJ 1 20 x1 (w.heap.size + 2) (.slice (some ad) 2 cc) [fStr w 1, fStr w 2] := O1
  have RF := Q1
  refine wp_loop_rounds 3 ?_
  rw [rounds_succ]
  have el0 : (x1).cell? ad = some (fStr w 1) := own_elem OF 0 (fStr w 1) rfl
  have el1 : (x1).cell? ⟨ad.block, ad.off + 1, none⟩ = some (fStr w 2) := own_elem OF 1 (fStr w 2) rfl
  go_wp2_with fail
  refine (take_str s 1 (w.heap.size + 1) 1 (.string ⟨#[]⟩) u a1 er _ hs (RF.cell 1 _ rfl) (RF.free 1) (by have := RF.siz; omega) HU).mono ?_
  rintro e Y0 ⟨rfl, V0, bm, hW⟩
  have R' : RW w #[.int .i64 k, .string u, .string ⟨#[]⟩, .int .i64 0, .int .i64 0, .int .i64 0, .int .i64 0, .string ⟨#[]⟩] Y0 := by rw [hW]; exact (RF.below bm).set 1 _
  have O' := own_set (OF.below bm) 1 (.string u)
  rw [← hW] at O'
  clear hW bm
  clear RF OF el0 el1
  have RF := R'
  have OF := O'
  clear R' O'
  go_wp2_with fail
  rw [rounds_succ]
  have el0 : (Y0).cell? ad = some (fStr w 1) := own_elem OF 0 (fStr w 1) rfl
  have el1 : (Y0).cell? ⟨ad.block, ad.off + 1, none⟩ = some (fStr w 2) := own_elem OF 1 (fStr w 2) rfl
  go_wp2_with fail
  clear el0 el1
  rw [rounds_succ]
  go_wp2_with fail
  have c0 := RF.cell 0 (.int .i64 k) rfl
  have c1 := RF.cell 1 (.string u) rfl
  have c2 := RF.cell 2 (.string ⟨#[]⟩) rfl
  have c3 := RF.cell 3 (.int .i64 0) rfl
  have c4 := RF.cell 4 (.int .i64 0) rfl
  have c5 := RF.cell 5 (.int .i64 0) rfl
  have c6 := RF.cell 6 (.int .i64 0) rfl
  have c7 := RF.cell 7 (.string ⟨#[]⟩) rfl
  have d0 := RF.cell0 0 (.int .i64 0) rfl
  have f0 := RF.free0 0
  have d1 := RF.cell0 1 (.string ⟨#[]⟩) rfl
  have f1 := RF.free0 1
  have d2 := RF.cell0 2 (.string ⟨#[]⟩) rfl
  have f2 := RF.free0 2
  have d3 := RF.cell0 3 (.int .i64 0) rfl
  have f3 := RF.free0 3
  have d4 := RF.cell0 4 (.int .i64 0) rfl
  have f4 := RF.free0 4
  have d5 := RF.cell0 5 (.int .i64 0) rfl
  have f5 := RF.free0 5
  have d6 := RF.cell0 6 (.int .i64 0) rfl
  have f6 := RF.free0 6
  have d7 := RF.cell0 7 (.string ⟨#[]⟩) rfl
  have f7 := RF.free0 7
  have hS : (Y0).cell? ⟨w.heap.size + 1, 0, none⟩ = some (.int .i64 k) ∧ (Y0).cell? ⟨w.heap.size + 1, 1, none⟩ = some (.string u) ∧ (Y0).cell? ⟨w.heap.size + 1, 2, none⟩ = some (.string ⟨#[]⟩) ∧ (Y0).cell? ⟨w.heap.size + 1, 3, none⟩ = some (.int .i64 0) ∧ (Y0).cell? ⟨w.heap.size + 1, 4, none⟩ = some (.int .i64 0) ∧ (Y0).cell? ⟨w.heap.size + 1, 5, none⟩ = some (.int .i64 0) ∧ (Y0).cell? ⟨w.heap.size + 1, 6, none⟩ = some (.int .i64 0) ∧ (Y0).cell? ⟨w.heap.size + 1, 7, none⟩ = some (.string ⟨#[]⟩) := ⟨c0, c1, c2, c3, c4, c5, c6, c7⟩
  have hyz : w.heap.size ≠ w.heap.size + 1 := by omega
  have hyy : w.heap.size + 1 ≠ w.heap.size := by omega
  refine wp_region_held_drew (S := (fun W => W.cell? ⟨w.heap.size + 1, 0, none⟩ = some (.int .i64 k) ∧ W.cell? ⟨w.heap.size + 1, 1, none⟩ = some (.string u) ∧ W.cell? ⟨w.heap.size + 1, 2, none⟩ = some (.string ⟨#[]⟩) ∧ W.cell? ⟨w.heap.size + 1, 3, none⟩ = some (.int .i64 0) ∧ W.cell? ⟨w.heap.size + 1, 4, none⟩ = some (.int .i64 0) ∧ W.cell? ⟨w.heap.size + 1, 5, none⟩ = some (.int .i64 0) ∧ W.cell? ⟨w.heap.size + 1, 6, none⟩ = some (.int .i64 0) ∧ W.cell? ⟨w.heap.size + 1, 7, none⟩ = some (.string ⟨#[]⟩))) (by kernel_rfl) hS (fun hHeld => ?_)
  refine wpAnyH_take (i := 0) (v := ?vx1) rfl (by kernel_rfl) (by kernel_rfl) (by kernel_rfl) (fun _ _ _ h => h) (Or.inl ⟨by rfl, ?hyx1⟩) (by assumption) ?restx1
  case hyx1 => (intro w hSw; (try dsimp only at hSw); go_simp; (try (first | with_reducible rfl | rw [if_neg (by omega)])))
  try simp only [Act.put, List.getElem_toArray, List.getElem_cons_succ, List.getElem_cons_zero, List.setIfInBounds_toArray, List.set_cons_zero, List.set_cons_succ]
  refine wpAnyH_take (i := 1) (v := ?vx2) rfl (by kernel_rfl) (by kernel_rfl) (by kernel_rfl) (fun _ _ _ h => h) (Or.inl ⟨by rfl, ?hyx2⟩) (by assumption) ?restx2
  case hyx2 => (intro w hSw; (try dsimp only at hSw); go_simp; (try (first | with_reducible rfl | rw [if_neg (by omega)])))
  try simp only [Act.put, List.getElem_toArray, List.getElem_cons_succ, List.getElem_cons_zero, List.setIfInBounds_toArray, List.set_cons_zero, List.set_cons_succ]
  refine wpAnyH_take (i := 2) (v := ?vx3) rfl (by kernel_rfl) (by kernel_rfl) (by kernel_rfl) (fun _ _ _ h => h) (Or.inl ⟨by rfl, ?hyx3⟩) (by assumption) ?restx3
  case hyx3 => (intro w hSw; (try dsimp only at hSw); go_simp; (try (first | with_reducible rfl | rw [if_neg (by omega)])))
  try simp only [Act.put, List.getElem_toArray, List.getElem_cons_succ, List.getElem_cons_zero, List.setIfInBounds_toArray, List.set_cons_zero, List.set_cons_succ]
  refine wpAnyH_take (i := 3) (v := undef) rfl (by kernel_rfl) (by kernel_rfl) (by kernel_rfl) (fun _ _ _ h => h) (Or.inr ⟨by rfl, rfl⟩) (by assumption) ?_
  try simp only [Act.put, List.getElem_toArray, List.getElem_cons_succ, List.getElem_cons_zero, List.setIfInBounds_toArray, List.set_cons_zero, List.set_cons_succ]
  refine wpAnyH_take (i := 4) (v := undef) rfl (by kernel_rfl) (by kernel_rfl) (by kernel_rfl) (fun _ _ _ h => h) (Or.inr ⟨by rfl, rfl⟩) (by assumption) ?_
  try simp only [Act.put, List.getElem_toArray, List.getElem_cons_succ, List.getElem_cons_zero, List.setIfInBounds_toArray, List.set_cons_zero, List.set_cons_succ]
  refine wpAnyH_take (i := 5) (v := undef) rfl (by kernel_rfl) (by kernel_rfl) (by kernel_rfl) (fun _ _ _ h => h) (Or.inr ⟨by rfl, rfl⟩) (by assumption) ?_
  try simp only [Act.put, List.getElem_toArray, List.getElem_cons_succ, List.getElem_cons_zero, List.setIfInBounds_toArray, List.set_cons_zero, List.set_cons_succ]
  refine wpAnyH_take (i := 6) (v := undef) rfl (by kernel_rfl) (by kernel_rfl) (by kernel_rfl) (fun _ _ _ h => h) (Or.inr ⟨by rfl, rfl⟩) (by assumption) ?_
  try simp only [Act.put, List.getElem_toArray, List.getElem_cons_succ, List.getElem_cons_zero, List.setIfInBounds_toArray, List.set_cons_zero, List.set_cons_succ]
  refine wpAnyH_take (i := 7) (v := ?vx8) rfl (by kernel_rfl) (by kernel_rfl) (by kernel_rfl) (fun _ _ _ h => h) (Or.inl ⟨by rfl, ?hyx8⟩) (by assumption) ?restx8
  case hyx8 => (intro w hSw; (try dsimp only at hSw); go_simp; (try (first | with_reducible rfl | rw [if_neg (by omega)])))
  try simp only [Act.put, List.getElem_toArray, List.getElem_cons_succ, List.getElem_cons_zero, List.setIfInBounds_toArray, List.set_cons_zero, List.set_cons_succ]
  refine wpAnyH_take (i := 8) (v := ?vx9) rfl (by kernel_rfl) (by kernel_rfl) (by kernel_rfl) (fun _ _ _ h => h) (Or.inl ⟨by rfl, ?hyx9⟩) (by assumption) ?restx9
  case hyx9 => (intro w hSw; (try dsimp only at hSw); go_simp; (try (first | with_reducible rfl | rw [if_neg (by omega)])))
  try simp only [Act.put, List.getElem_toArray, List.getElem_cons_succ, List.getElem_cons_zero, List.setIfInBounds_toArray, List.set_cons_zero, List.set_cons_succ]
  refine wpAnyH_take (i := 9) (v := undef) rfl (by kernel_rfl) (by kernel_rfl) (by kernel_rfl) (fun _ _ _ h => h) (Or.inr ⟨by rfl, rfl⟩) (by assumption) ?_
  try simp only [Act.put, List.getElem_toArray, List.getElem_cons_succ, List.getElem_cons_zero, List.setIfInBounds_toArray, List.set_cons_zero, List.set_cons_succ]
  refine wpAnyH_take (i := 10) (v := undef) rfl (by kernel_rfl) (by kernel_rfl) (by kernel_rfl) (fun _ _ _ h => h) (Or.inr ⟨by rfl, rfl⟩) (by assumption) ?_
  try simp only [Act.put, List.getElem_toArray, List.getElem_cons_succ, List.getElem_cons_zero, List.setIfInBounds_toArray, List.set_cons_zero, List.set_cons_succ]
  refine wpAnyH_take (i := 11) (v := ?vx12) rfl (by kernel_rfl) (by kernel_rfl) (by kernel_rfl) (fun _ _ _ h => h) (Or.inl ⟨by rfl, ?hyx12⟩) (by assumption) ?restx12
  case hyx12 => (intro w hSw; (try dsimp only at hSw); go_simp; (try (first | with_reducible rfl | rw [if_neg (by omega)])))
  try simp only [Act.put, List.getElem_toArray, List.getElem_cons_succ, List.getElem_cons_zero, List.setIfInBounds_toArray, List.set_cons_zero, List.set_cons_succ]
  refine wpAnyH_ready (rs := [12]) (by kernel_rfl) (by simp) ?_
  refine AllReadyH.cons rfl (fun K hK => ?_) ?_
  · go_simp
    refine hK.out _ _ (by (try dsimp only); (with_reducible exact s8_of (keep8d _ _ _ _ _ _ _ _ _ _) hS)) (fun hHeld => ?_)
    clear hK K
    try simp only [Act.put, List.getElem_toArray, List.getElem_cons_succ, List.getElem_cons_zero, List.setIfInBounds_toArray, List.set_cons_zero, List.set_cons_succ]
    refine wpAnyH_take (i := 13) (v := ?vx13) rfl (by kernel_rfl) (by kernel_rfl) (by kernel_rfl) (fun _ _ _ h => h) (Or.inl ⟨by rfl, ?hyx13⟩) (by assumption) ?restx13
    case hyx13 => (intro w hSw; (try dsimp only at hSw); go_simp; (try (first | with_reducible rfl | rw [if_neg (by omega)])))
    try simp only [Act.put, List.getElem_toArray, List.getElem_cons_succ, List.getElem_cons_zero, List.setIfInBounds_toArray, List.set_cons_zero, List.set_cons_succ]
    refine wpAnyH_done (by kernel_rfl) ?_ _
    go_wp2
    (try simp only [Exit.inBlock, Exit.then])
    refine bodyPost_ret (v := .tuple #[evV ⟨k, u, ⟨#[]⟩, 0, 0, 0, 0, ⟨#[]⟩⟩, .bool false]) (by simp [results, Tryz.results53, go_sem, evV, d0, d1, d2, d3, d4, d5, d6, d7]) rfl ⟨_, rfl, ?_, ?_⟩
    · exact (fun h => by cases h)
    · repeat (first | with_reducible exact RX.bel | with_reducible exact RF.bel | with_reducible refine Below.drew ?_ | with_reducible refine bset ?_ _ _ _ (Nat.le_refl _))
  exact AllReadyH.nil
set_option maxHeartbeats 4000000 in
set_option maxRecDepth 100000 in
theorem read_no_7 (s : ByteArray) (w : World) (hs : s.size ≤ 140737488351232) (h0 : 0 < s.size) (hk : (s[0]'h0).toNat = 7) (u : ByteArray) (a1 er : Int) (he : (er == 0) = false) (hu : u.size ≤ 140737488351232) (HU : Hid (takeN s 1 = (u, a1, er))) (ev : Ev) :
    Calls Tryz.prog 53 #[.string s] w (RdPost ev false w) := by
  have HK : Hid (hasK 7 = 6) := by show _ = _; unfold hasK; simp
  have e1 : bits .and .i64 6 1 = 0 := by decide
  have e2 : bits .and .i64 6 2 = 2 := by decide
  have e4 : bits .and .i64 6 4 = 4 := by decide
  go_enter Tryz.func53, Tryz.ntmps53
  go_wp2_with fail
  refine (take_int s 0 (w.heap.size + 1) 0 (.int .i64 0) 7 _ hs h0 hk ((RW.start w).cell 0 _ rfl) ((RW.start w).free 0)).mono ?_
  rintro e W1 ⟨rfl, hW⟩
  have R1 : RW w #[.int .i64 7, .string ⟨#[]⟩, .string ⟨#[]⟩, .int .i64 0, .int .i64 0, .int .i64 0, .int .i64 0, .string ⟨#[]⟩] W1 := by rw [hW]; exact (RW.start w).set 0 _
  clear hW
  have c0 := R1.cell 0 (.int .i64 7) rfl
  have hz := R1.siz
  have hz' : w.heap.size < W1.heap.size := by omega
  have O0 : Own enJ 1 20 (W1.alloc (.cells #[fStr w 1] 20)) (w.heap.size + 2) (.slice (some ⟨W1.heap.size, 0, none⟩) 1 1) [fStr w 1] := Own.lit enJ_len W1 [fStr w 1] #[fStr w 1] 1 rfl rfl (by omega) (by omega)
  have Q0 := R1.alloc (.cells #[fStr w 1] 20)
  have hzz : (W1.alloc (.cells #[fStr w 1] 20)).heap.size = W1.heap.size + 1 := Array.size_push ..
  have HZZ := Lib.hid hzz
  clear hzz
  have zz : w.heap.size + 2 ≤ (W1.alloc (.cells #[fStr w 1] 20)).heap.size := by simp; omega
  go_wp2_with (first | (go_at_call 48; refine (has_is _ 6 _ HK).mono ?_; rintro e wh ⟨rfl, rfl⟩) | (at_builtin; refine Own.append (w0 := (W1.alloc (.cells #[fStr w 1] 20))) (w.heap.size + 2) rfl (.tmp 35) (.tmp 38) 139 20 .nilIface 1 16 rfl Tryz.underlying139 info_any rfl (by decide) (.slice (some ⟨W1.heap.size, 0, none⟩) 1 1) [fStr w 1] (fInt w 3) [fInt w 3] rfl (by rw [HZZ.out]; rfl) rfl rfl (by simp [Value.oneCell']) O0 (Below.refl _ _) zz (by simp) (by simp) ?_; intro v1 x1 O1 B1 _ _; have Q1 := Q0.belowB B1; have zz1 : w.heap.size + 2 ≤ x1.heap.size := Nat.le_trans zz B1.size) | (at_builtin; refine Own.append (w0 := x1) (w.heap.size + 2) rfl (.tmp 43) (.tmp 46) 139 20 .nilIface 1 16 rfl Tryz.underlying139 info_any rfl (by decide) v1 [fStr w 1, fInt w 3] (fVal w 4) [fVal w 4] rfl rfl rfl rfl (by simp [Value.oneCell']) O1 (Below.refl _ _) zz1 (by simp) (by simp) ?_; intro v2 x2 O2 B2 _ _; have Q2 := Q1.belowB B2; have zz2 : w.heap.size + 2 ≤ x2.heap.size := Nat.le_trans zz1 B2.size; obtain ⟨ad, cc, hv⟩ := own_slice_n O2 3 rfl (by omega); subst hv))
  have OF : Own enJ 1 20 x2 (w.heap.size + 2) (.slice (some ad) 3 cc) [fStr w 1, fInt w 3, fVal w 4] := O2
  have RF := Q2
  refine wp_loop_rounds 4 ?_
  rw [rounds_succ]
  have el0 : (x2).cell? ad = some (fStr w 1) := own_elem OF 0 (fStr w 1) rfl
  have el1 : (x2).cell? ⟨ad.block, ad.off + 1, none⟩ = some (fInt w 3) := own_elem OF 1 (fInt w 3) rfl
  have el2 : (x2).cell? ⟨ad.block, ad.off + 2, none⟩ = some (fVal w 4) := own_elem OF 2 (fVal w 4) rfl
  go_wp2_with fail
  refine (take_str s 1 (w.heap.size + 1) 1 (.string ⟨#[]⟩) u a1 er _ hs (RF.cell 1 _ rfl) (RF.free 1) (by have := RF.siz; omega) HU).mono ?_
  rintro e Y0 ⟨rfl, V0, bm, hW⟩
  have R' : RW w #[.int .i64 7, .string u, .string ⟨#[]⟩, .int .i64 0, .int .i64 0, .int .i64 0, .int .i64 0, .string ⟨#[]⟩] Y0 := by rw [hW]; exact (RF.below bm).set 1 _
  have O' := own_set (OF.below bm) 1 (.string u)
  rw [← hW] at O'
  clear hW bm
  clear RF OF el0 el1 el2
  have RF := R'
  have OF := O'
  clear R' O'
  go_wp2_with fail
  rw [rounds_succ]
  have el0 : (Y0).cell? ad = some (fStr w 1) := own_elem OF 0 (fStr w 1) rfl
  have el1 : (Y0).cell? ⟨ad.block, ad.off + 1, none⟩ = some (fInt w 3) := own_elem OF 1 (fInt w 3) rfl
  have el2 : (Y0).cell? ⟨ad.block, ad.off + 2, none⟩ = some (fVal w 4) := own_elem OF 2 (fVal w 4) rfl
  go_wp2_with fail
  clear el0 el1 el2
  rw [rounds_succ]
  have el0 : (Y0).cell? ad = some (fStr w 1) := own_elem OF 0 (fStr w 1) rfl
  have el1 : (Y0).cell? ⟨ad.block, ad.off + 1, none⟩ = some (fInt w 3) := own_elem OF 1 (fInt w 3) rfl
  have el2 : (Y0).cell? ⟨ad.block, ad.off + 2, none⟩ = some (fVal w 4) := own_elem OF 2 (fVal w 4) rfl
  go_wp2_with fail
  clear el0 el1 el2
  rw [rounds_succ]
  go_wp2_with fail
  have c0 := RF.cell 0 (.int .i64 7) rfl
  have c1 := RF.cell 1 (.string u) rfl
  have c2 := RF.cell 2 (.string ⟨#[]⟩) rfl
  have c3 := RF.cell 3 (.int .i64 0) rfl
  have c4 := RF.cell 4 (.int .i64 0) rfl
  have c5 := RF.cell 5 (.int .i64 0) rfl
  have c6 := RF.cell 6 (.int .i64 0) rfl
  have c7 := RF.cell 7 (.string ⟨#[]⟩) rfl
  have d0 := RF.cell0 0 (.int .i64 0) rfl
  have f0 := RF.free0 0
  have d1 := RF.cell0 1 (.string ⟨#[]⟩) rfl
  have f1 := RF.free0 1
  have d2 := RF.cell0 2 (.string ⟨#[]⟩) rfl
  have f2 := RF.free0 2
  have d3 := RF.cell0 3 (.int .i64 0) rfl
  have f3 := RF.free0 3
  have d4 := RF.cell0 4 (.int .i64 0) rfl
  have f4 := RF.free0 4
  have d5 := RF.cell0 5 (.int .i64 0) rfl
  have f5 := RF.free0 5
  have d6 := RF.cell0 6 (.int .i64 0) rfl
  have f6 := RF.free0 6
  have d7 := RF.cell0 7 (.string ⟨#[]⟩) rfl
  have f7 := RF.free0 7
  have hS : (Y0).cell? ⟨w.heap.size + 1, 0, none⟩ = some (.int .i64 7) ∧ (Y0).cell? ⟨w.heap.size + 1, 1, none⟩ = some (.string u) ∧ (Y0).cell? ⟨w.heap.size + 1, 2, none⟩ = some (.string ⟨#[]⟩) ∧ (Y0).cell? ⟨w.heap.size + 1, 3, none⟩ = some (.int .i64 0) ∧ (Y0).cell? ⟨w.heap.size + 1, 4, none⟩ = some (.int .i64 0) ∧ (Y0).cell? ⟨w.heap.size + 1, 5, none⟩ = some (.int .i64 0) ∧ (Y0).cell? ⟨w.heap.size + 1, 6, none⟩ = some (.int .i64 0) ∧ (Y0).cell? ⟨w.heap.size + 1, 7, none⟩ = some (.string ⟨#[]⟩) := ⟨c0, c1, c2, c3, c4, c5, c6, c7⟩
  have hyz : w.heap.size ≠ w.heap.size + 1 := by omega
  have hyy : w.heap.size + 1 ≠ w.heap.size := by omega
  refine wp_region_held_drew (S := (fun W => W.cell? ⟨w.heap.size + 1, 0, none⟩ = some (.int .i64 7) ∧ W.cell? ⟨w.heap.size + 1, 1, none⟩ = some (.string u) ∧ W.cell? ⟨w.heap.size + 1, 2, none⟩ = some (.string ⟨#[]⟩) ∧ W.cell? ⟨w.heap.size + 1, 3, none⟩ = some (.int .i64 0) ∧ W.cell? ⟨w.heap.size + 1, 4, none⟩ = some (.int .i64 0) ∧ W.cell? ⟨w.heap.size + 1, 5, none⟩ = some (.int .i64 0) ∧ W.cell? ⟨w.heap.size + 1, 6, none⟩ = some (.int .i64 0) ∧ W.cell? ⟨w.heap.size + 1, 7, none⟩ = some (.string ⟨#[]⟩))) (by kernel_rfl) hS (fun hHeld => ?_)
  refine wpAnyH_take (i := 0) (v := ?vx1) rfl (by kernel_rfl) (by kernel_rfl) (by kernel_rfl) (fun _ _ _ h => h) (Or.inl ⟨by rfl, ?hyx1⟩) (by assumption) ?restx1
  case hyx1 => (intro w hSw; (try dsimp only at hSw); go_simp; (try (first | with_reducible rfl | rw [if_neg (by omega)])))
  try simp only [Act.put, List.getElem_toArray, List.getElem_cons_succ, List.getElem_cons_zero, List.setIfInBounds_toArray, List.set_cons_zero, List.set_cons_succ]
  refine wpAnyH_take (i := 1) (v := ?vx2) rfl (by kernel_rfl) (by kernel_rfl) (by kernel_rfl) (fun _ _ _ h => h) (Or.inl ⟨by rfl, ?hyx2⟩) (by assumption) ?restx2
  case hyx2 => (intro w hSw; (try dsimp only at hSw); go_simp; (try (first | with_reducible rfl | rw [if_neg (by omega)])))
  try simp only [Act.put, List.getElem_toArray, List.getElem_cons_succ, List.getElem_cons_zero, List.setIfInBounds_toArray, List.set_cons_zero, List.set_cons_succ]
  refine wpAnyH_take (i := 2) (v := ?vx3) rfl (by kernel_rfl) (by kernel_rfl) (by kernel_rfl) (fun _ _ _ h => h) (Or.inl ⟨by rfl, ?hyx3⟩) (by assumption) ?restx3
  case hyx3 => (intro w hSw; (try dsimp only at hSw); go_simp; (try (first | with_reducible rfl | rw [if_neg (by omega)])))
  try simp only [Act.put, List.getElem_toArray, List.getElem_cons_succ, List.getElem_cons_zero, List.setIfInBounds_toArray, List.set_cons_zero, List.set_cons_succ]
  refine wpAnyH_take (i := 3) (v := undef) rfl (by kernel_rfl) (by kernel_rfl) (by kernel_rfl) (fun _ _ _ h => h) (Or.inr ⟨by rfl, rfl⟩) (by assumption) ?_
  try simp only [Act.put, List.getElem_toArray, List.getElem_cons_succ, List.getElem_cons_zero, List.setIfInBounds_toArray, List.set_cons_zero, List.set_cons_succ]
  refine wpAnyH_take (i := 4) (v := undef) rfl (by kernel_rfl) (by kernel_rfl) (by kernel_rfl) (fun _ _ _ h => h) (Or.inr ⟨by rfl, rfl⟩) (by assumption) ?_
  try simp only [Act.put, List.getElem_toArray, List.getElem_cons_succ, List.getElem_cons_zero, List.setIfInBounds_toArray, List.set_cons_zero, List.set_cons_succ]
  refine wpAnyH_take (i := 5) (v := undef) rfl (by kernel_rfl) (by kernel_rfl) (by kernel_rfl) (fun _ _ _ h => h) (Or.inr ⟨by rfl, rfl⟩) (by assumption) ?_
  try simp only [Act.put, List.getElem_toArray, List.getElem_cons_succ, List.getElem_cons_zero, List.setIfInBounds_toArray, List.set_cons_zero, List.set_cons_succ]
  refine wpAnyH_take (i := 6) (v := undef) rfl (by kernel_rfl) (by kernel_rfl) (by kernel_rfl) (fun _ _ _ h => h) (Or.inr ⟨by rfl, rfl⟩) (by assumption) ?_
  try simp only [Act.put, List.getElem_toArray, List.getElem_cons_succ, List.getElem_cons_zero, List.setIfInBounds_toArray, List.set_cons_zero, List.set_cons_succ]
  refine wpAnyH_take (i := 7) (v := ?vx8) rfl (by kernel_rfl) (by kernel_rfl) (by kernel_rfl) (fun _ _ _ h => h) (Or.inl ⟨by rfl, ?hyx8⟩) (by assumption) ?restx8
  case hyx8 => (intro w hSw; (try dsimp only at hSw); go_simp; (try (first | with_reducible rfl | rw [if_neg (by omega)])))
  try simp only [Act.put, List.getElem_toArray, List.getElem_cons_succ, List.getElem_cons_zero, List.setIfInBounds_toArray, List.set_cons_zero, List.set_cons_succ]
  refine wpAnyH_take (i := 8) (v := ?vx9) rfl (by kernel_rfl) (by kernel_rfl) (by kernel_rfl) (fun _ _ _ h => h) (Or.inl ⟨by rfl, ?hyx9⟩) (by assumption) ?restx9
  case hyx9 => (intro w hSw; (try dsimp only at hSw); go_simp; (try (first | with_reducible rfl | rw [if_neg (by omega)])))
  try simp only [Act.put, List.getElem_toArray, List.getElem_cons_succ, List.getElem_cons_zero, List.setIfInBounds_toArray, List.set_cons_zero, List.set_cons_succ]
  refine wpAnyH_take (i := 9) (v := undef) rfl (by kernel_rfl) (by kernel_rfl) (by kernel_rfl) (fun _ _ _ h => h) (Or.inr ⟨by rfl, rfl⟩) (by assumption) ?_
  try simp only [Act.put, List.getElem_toArray, List.getElem_cons_succ, List.getElem_cons_zero, List.setIfInBounds_toArray, List.set_cons_zero, List.set_cons_succ]
  refine wpAnyH_take (i := 10) (v := undef) rfl (by kernel_rfl) (by kernel_rfl) (by kernel_rfl) (fun _ _ _ h => h) (Or.inr ⟨by rfl, rfl⟩) (by assumption) ?_
  try simp only [Act.put, List.getElem_toArray, List.getElem_cons_succ, List.getElem_cons_zero, List.setIfInBounds_toArray, List.set_cons_zero, List.set_cons_succ]
  refine wpAnyH_take (i := 11) (v := ?vx12) rfl (by kernel_rfl) (by kernel_rfl) (by kernel_rfl) (fun _ _ _ h => h) (Or.inl ⟨by rfl, ?hyx12⟩) (by assumption) ?restx12
  case hyx12 => (intro w hSw; (try dsimp only at hSw); go_simp; (try (first | with_reducible rfl | rw [if_neg (by omega)])))
  try simp only [Act.put, List.getElem_toArray, List.getElem_cons_succ, List.getElem_cons_zero, List.setIfInBounds_toArray, List.set_cons_zero, List.set_cons_succ]
  refine wpAnyH_ready (rs := [12]) (by kernel_rfl) (by simp) ?_
  refine AllReadyH.cons rfl (fun K hK => ?_) ?_
  · go_simp
    refine hK.out _ _ (by (try dsimp only); (with_reducible exact s8_of (keep8d _ _ _ _ _ _ _ _ _ _) hS)) (fun hHeld => ?_)
    clear hK K
    try simp only [Act.put, List.getElem_toArray, List.getElem_cons_succ, List.getElem_cons_zero, List.setIfInBounds_toArray, List.set_cons_zero, List.set_cons_succ]
    refine wpAnyH_take (i := 13) (v := ?vx13) rfl (by kernel_rfl) (by kernel_rfl) (by kernel_rfl) (fun _ _ _ h => h) (Or.inl ⟨by rfl, ?hyx13⟩) (by assumption) ?restx13
    case hyx13 => (intro w hSw; (try dsimp only at hSw); go_simp; (try (first | with_reducible rfl | rw [if_neg (by omega)])))
    try simp only [Act.put, List.getElem_toArray, List.getElem_cons_succ, List.getElem_cons_zero, List.setIfInBounds_toArray, List.set_cons_zero, List.set_cons_succ]
    refine wpAnyH_done (by kernel_rfl) ?_ _
    go_wp2
    (try simp only [Exit.inBlock, Exit.then])
    refine bodyPost_ret (v := .tuple #[evV ⟨7, u, ⟨#[]⟩, 0, 0, 0, 0, ⟨#[]⟩⟩, .bool false]) (by simp [results, Tryz.results53, go_sem, evV, d0, d1, d2, d3, d4, d5, d6, d7]) rfl ⟨_, rfl, ?_, ?_⟩
    · exact (fun h => by cases h)
    · repeat (first | with_reducible exact RX.bel | with_reducible exact RF.bel | with_reducible refine Below.drew ?_ | with_reducible refine bset ?_ _ _ _ (Nat.le_refl _))
  exact AllReadyH.nil
set_option maxHeartbeats 4000000 in
set_option maxRecDepth 100000 in
theorem read_no_8 (s : ByteArray) (w : World) (hs : s.size ≤ 140737488351232) (h0 : 0 < s.size) (hk : (s[0]'h0).toNat = 8) (u : ByteArray) (a1 er : Int) (he : (er == 0) = false) (hu : u.size ≤ 140737488351232) (HU : Hid (takeN s 1 = (u, a1, er))) (ev : Ev) :
    Calls Tryz.prog 53 #[.string s] w (RdPost ev false w) := by
  have HK : Hid (hasK 8 = 2) := by show _ = _; unfold hasK; simp
  have e1 : bits .and .i64 2 1 = 0 := by decide
  have e2 : bits .and .i64 2 2 = 2 := by decide
  have e4 : bits .and .i64 2 4 = 0 := by decide
  go_enter Tryz.func53, Tryz.ntmps53
  go_wp2_with fail
  refine (take_int s 0 (w.heap.size + 1) 0 (.int .i64 0) 8 _ hs h0 hk ((RW.start w).cell 0 _ rfl) ((RW.start w).free 0)).mono ?_
  rintro e W1 ⟨rfl, hW⟩
  have R1 : RW w #[.int .i64 8, .string ⟨#[]⟩, .string ⟨#[]⟩, .int .i64 0, .int .i64 0, .int .i64 0, .int .i64 0, .string ⟨#[]⟩] W1 := by rw [hW]; exact (RW.start w).set 0 _
  clear hW
  have c0 := R1.cell 0 (.int .i64 8) rfl
  have hz := R1.siz
  have hz' : w.heap.size < W1.heap.size := by omega
  have O0 : Own enJ 1 20 (W1.alloc (.cells #[fStr w 1] 20)) (w.heap.size + 2) (.slice (some ⟨W1.heap.size, 0, none⟩) 1 1) [fStr w 1] := Own.lit enJ_len W1 [fStr w 1] #[fStr w 1] 1 rfl rfl (by omega) (by omega)
  have Q0 := R1.alloc (.cells #[fStr w 1] 20)
  have hzz : (W1.alloc (.cells #[fStr w 1] 20)).heap.size = W1.heap.size + 1 := Array.size_push ..
  have HZZ := Lib.hid hzz
  clear hzz
  have zz : w.heap.size + 2 ≤ (W1.alloc (.cells #[fStr w 1] 20)).heap.size := by simp; omega
  go_wp2_with (first | (go_at_call 48; refine (has_is _ 2 _ HK).mono ?_; rintro e wh ⟨rfl, rfl⟩) | (at_builtin; refine Own.append (w0 := (W1.alloc (.cells #[fStr w 1] 20))) (w.heap.size + 2) rfl (.tmp 35) (.tmp 38) 139 20 .nilIface 1 16 rfl Tryz.underlying139 info_any rfl (by decide) (.slice (some ⟨W1.heap.size, 0, none⟩) 1 1) [fStr w 1] (fInt w 3) [fInt w 3] rfl (by rw [HZZ.out]; rfl) rfl rfl (by simp [Value.oneCell']) O0 (Below.refl _ _) zz (by simp) (by simp) ?_; intro v1 x1 O1 B1 _ _; have Q1 := Q0.belowB B1; have zz1 : w.heap.size + 2 ≤ x1.heap.size := Nat.le_trans zz B1.size; obtain ⟨ad, cc, hv⟩ := own_slice_n O1 2 rfl (by omega); subst hv))
  have OF : Own enJ 1 20 x1 (w.heap.size + 2) (.slice (some ad) 2 cc) [fStr w 1, fInt w 3] := O1
  have RF := Q1
  refine wp_loop_rounds 3 ?_
  rw [rounds_succ]
  have el0 : (x1).cell? ad = some (fStr w 1) := own_elem OF 0 (fStr w 1) rfl
  have el1 : (x1).cell? ⟨ad.block, ad.off + 1, none⟩ = some (fInt w 3) := own_elem OF 1 (fInt w 3) rfl
  go_wp2_with fail
  refine (take_str s 1 (w.heap.size + 1) 1 (.string ⟨#[]⟩) u a1 er _ hs (RF.cell 1 _ rfl) (RF.free 1) (by have := RF.siz; omega) HU).mono ?_
  rintro e Y0 ⟨rfl, V0, bm, hW⟩
  have R' : RW w #[.int .i64 8, .string u, .string ⟨#[]⟩, .int .i64 0, .int .i64 0, .int .i64 0, .int .i64 0, .string ⟨#[]⟩] Y0 := by rw [hW]; exact (RF.below bm).set 1 _
  have O' := own_set (OF.below bm) 1 (.string u)
  rw [← hW] at O'
  clear hW bm
  clear RF OF el0 el1
  have RF := R'
  have OF := O'
  clear R' O'
  go_wp2_with fail
  rw [rounds_succ]
  have el0 : (Y0).cell? ad = some (fStr w 1) := own_elem OF 0 (fStr w 1) rfl
  have el1 : (Y0).cell? ⟨ad.block, ad.off + 1, none⟩ = some (fInt w 3) := own_elem OF 1 (fInt w 3) rfl
  go_wp2_with fail
  clear el0 el1
  rw [rounds_succ]
  go_wp2_with fail
  have c0 := RF.cell 0 (.int .i64 8) rfl
  have c1 := RF.cell 1 (.string u) rfl
  have c2 := RF.cell 2 (.string ⟨#[]⟩) rfl
  have c3 := RF.cell 3 (.int .i64 0) rfl
  have c4 := RF.cell 4 (.int .i64 0) rfl
  have c5 := RF.cell 5 (.int .i64 0) rfl
  have c6 := RF.cell 6 (.int .i64 0) rfl
  have c7 := RF.cell 7 (.string ⟨#[]⟩) rfl
  have d0 := RF.cell0 0 (.int .i64 0) rfl
  have f0 := RF.free0 0
  have d1 := RF.cell0 1 (.string ⟨#[]⟩) rfl
  have f1 := RF.free0 1
  have d2 := RF.cell0 2 (.string ⟨#[]⟩) rfl
  have f2 := RF.free0 2
  have d3 := RF.cell0 3 (.int .i64 0) rfl
  have f3 := RF.free0 3
  have d4 := RF.cell0 4 (.int .i64 0) rfl
  have f4 := RF.free0 4
  have d5 := RF.cell0 5 (.int .i64 0) rfl
  have f5 := RF.free0 5
  have d6 := RF.cell0 6 (.int .i64 0) rfl
  have f6 := RF.free0 6
  have d7 := RF.cell0 7 (.string ⟨#[]⟩) rfl
  have f7 := RF.free0 7
  have hS : (Y0).cell? ⟨w.heap.size + 1, 0, none⟩ = some (.int .i64 8) ∧ (Y0).cell? ⟨w.heap.size + 1, 1, none⟩ = some (.string u) ∧ (Y0).cell? ⟨w.heap.size + 1, 2, none⟩ = some (.string ⟨#[]⟩) ∧ (Y0).cell? ⟨w.heap.size + 1, 3, none⟩ = some (.int .i64 0) ∧ (Y0).cell? ⟨w.heap.size + 1, 4, none⟩ = some (.int .i64 0) ∧ (Y0).cell? ⟨w.heap.size + 1, 5, none⟩ = some (.int .i64 0) ∧ (Y0).cell? ⟨w.heap.size + 1, 6, none⟩ = some (.int .i64 0) ∧ (Y0).cell? ⟨w.heap.size + 1, 7, none⟩ = some (.string ⟨#[]⟩) := ⟨c0, c1, c2, c3, c4, c5, c6, c7⟩
  have hyz : w.heap.size ≠ w.heap.size + 1 := by omega
  have hyy : w.heap.size + 1 ≠ w.heap.size := by omega
  refine wp_region_held_drew (S := (fun W => W.cell? ⟨w.heap.size + 1, 0, none⟩ = some (.int .i64 8) ∧ W.cell? ⟨w.heap.size + 1, 1, none⟩ = some (.string u) ∧ W.cell? ⟨w.heap.size + 1, 2, none⟩ = some (.string ⟨#[]⟩) ∧ W.cell? ⟨w.heap.size + 1, 3, none⟩ = some (.int .i64 0) ∧ W.cell? ⟨w.heap.size + 1, 4, none⟩ = some (.int .i64 0) ∧ W.cell? ⟨w.heap.size + 1, 5, none⟩ = some (.int .i64 0) ∧ W.cell? ⟨w.heap.size + 1, 6, none⟩ = some (.int .i64 0) ∧ W.cell? ⟨w.heap.size + 1, 7, none⟩ = some (.string ⟨#[]⟩))) (by kernel_rfl) hS (fun hHeld => ?_)
  refine wpAnyH_take (i := 0) (v := ?vx1) rfl (by kernel_rfl) (by kernel_rfl) (by kernel_rfl) (fun _ _ _ h => h) (Or.inl ⟨by rfl, ?hyx1⟩) (by assumption) ?restx1
  case hyx1 => (intro w hSw; (try dsimp only at hSw); go_simp; (try (first | with_reducible rfl | rw [if_neg (by omega)])))
  try simp only [Act.put, List.getElem_toArray, List.getElem_cons_succ, List.getElem_cons_zero, List.setIfInBounds_toArray, List.set_cons_zero, List.set_cons_succ]
  refine wpAnyH_take (i := 1) (v := ?vx2) rfl (by kernel_rfl) (by kernel_rfl) (by kernel_rfl) (fun _ _ _ h => h) (Or.inl ⟨by rfl, ?hyx2⟩) (by assumption) ?restx2
  case hyx2 => (intro w hSw; (try dsimp only at hSw); go_simp; (try (first | with_reducible rfl | rw [if_neg (by omega)])))
  try simp only [Act.put, List.getElem_toArray, List.getElem_cons_succ, List.getElem_cons_zero, List.setIfInBounds_toArray, List.set_cons_zero, List.set_cons_succ]
  refine wpAnyH_take (i := 2) (v := ?vx3) rfl (by kernel_rfl) (by kernel_rfl) (by kernel_rfl) (fun _ _ _ h => h) (Or.inl ⟨by rfl, ?hyx3⟩) (by assumption) ?restx3
  case hyx3 => (intro w hSw; (try dsimp only at hSw); go_simp; (try (first | with_reducible rfl | rw [if_neg (by omega)])))
  try simp only [Act.put, List.getElem_toArray, List.getElem_cons_succ, List.getElem_cons_zero, List.setIfInBounds_toArray, List.set_cons_zero, List.set_cons_succ]
  refine wpAnyH_take (i := 3) (v := undef) rfl (by kernel_rfl) (by kernel_rfl) (by kernel_rfl) (fun _ _ _ h => h) (Or.inr ⟨by rfl, rfl⟩) (by assumption) ?_
  try simp only [Act.put, List.getElem_toArray, List.getElem_cons_succ, List.getElem_cons_zero, List.setIfInBounds_toArray, List.set_cons_zero, List.set_cons_succ]
  refine wpAnyH_take (i := 4) (v := undef) rfl (by kernel_rfl) (by kernel_rfl) (by kernel_rfl) (fun _ _ _ h => h) (Or.inr ⟨by rfl, rfl⟩) (by assumption) ?_
  try simp only [Act.put, List.getElem_toArray, List.getElem_cons_succ, List.getElem_cons_zero, List.setIfInBounds_toArray, List.set_cons_zero, List.set_cons_succ]
  refine wpAnyH_take (i := 5) (v := undef) rfl (by kernel_rfl) (by kernel_rfl) (by kernel_rfl) (fun _ _ _ h => h) (Or.inr ⟨by rfl, rfl⟩) (by assumption) ?_
  try simp only [Act.put, List.getElem_toArray, List.getElem_cons_succ, List.getElem_cons_zero, List.setIfInBounds_toArray, List.set_cons_zero, List.set_cons_succ]
  refine wpAnyH_take (i := 6) (v := undef) rfl (by kernel_rfl) (by kernel_rfl) (by kernel_rfl) (fun _ _ _ h => h) (Or.inr ⟨by rfl, rfl⟩) (by assumption) ?_
  try simp only [Act.put, List.getElem_toArray, List.getElem_cons_succ, List.getElem_cons_zero, List.setIfInBounds_toArray, List.set_cons_zero, List.set_cons_succ]
  refine wpAnyH_take (i := 7) (v := ?vx8) rfl (by kernel_rfl) (by kernel_rfl) (by kernel_rfl) (fun _ _ _ h => h) (Or.inl ⟨by rfl, ?hyx8⟩) (by assumption) ?restx8
  case hyx8 => (intro w hSw; (try dsimp only at hSw); go_simp; (try (first | with_reducible rfl | rw [if_neg (by omega)])))
  try simp only [Act.put, List.getElem_toArray, List.getElem_cons_succ, List.getElem_cons_zero, List.setIfInBounds_toArray, List.set_cons_zero, List.set_cons_succ]
  refine wpAnyH_take (i := 8) (v := ?vx9) rfl (by kernel_rfl) (by kernel_rfl) (by kernel_rfl) (fun _ _ _ h => h) (Or.inl ⟨by rfl, ?hyx9⟩) (by assumption) ?restx9
  case hyx9 => (intro w hSw; (try dsimp only at hSw); go_simp; (try (first | with_reducible rfl | rw [if_neg (by omega)])))
  try simp only [Act.put, List.getElem_toArray, List.getElem_cons_succ, List.getElem_cons_zero, List.setIfInBounds_toArray, List.set_cons_zero, List.set_cons_succ]
  refine wpAnyH_take (i := 9) (v := undef) rfl (by kernel_rfl) (by kernel_rfl) (by kernel_rfl) (fun _ _ _ h => h) (Or.inr ⟨by rfl, rfl⟩) (by assumption) ?_
  try simp only [Act.put, List.getElem_toArray, List.getElem_cons_succ, List.getElem_cons_zero, List.setIfInBounds_toArray, List.set_cons_zero, List.set_cons_succ]
  refine wpAnyH_take (i := 10) (v := undef) rfl (by kernel_rfl) (by kernel_rfl) (by kernel_rfl) (fun _ _ _ h => h) (Or.inr ⟨by rfl, rfl⟩) (by assumption) ?_
  try simp only [Act.put, List.getElem_toArray, List.getElem_cons_succ, List.getElem_cons_zero, List.setIfInBounds_toArray, List.set_cons_zero, List.set_cons_succ]
  refine wpAnyH_take (i := 11) (v := ?vx12) rfl (by kernel_rfl) (by kernel_rfl) (by kernel_rfl) (fun _ _ _ h => h) (Or.inl ⟨by rfl, ?hyx12⟩) (by assumption) ?restx12
  case hyx12 => (intro w hSw; (try dsimp only at hSw); go_simp; (try (first | with_reducible rfl | rw [if_neg (by omega)])))
  try simp only [Act.put, List.getElem_toArray, List.getElem_cons_succ, List.getElem_cons_zero, List.setIfInBounds_toArray, List.set_cons_zero, List.set_cons_succ]
  refine wpAnyH_ready (rs := [12]) (by kernel_rfl) (by simp) ?_
  refine AllReadyH.cons rfl (fun K hK => ?_) ?_
  · go_simp
    refine hK.out _ _ (by (try dsimp only); (with_reducible exact s8_of (keep8d _ _ _ _ _ _ _ _ _ _) hS)) (fun hHeld => ?_)
    clear hK K
    try simp only [Act.put, List.getElem_toArray, List.getElem_cons_succ, List.getElem_cons_zero, List.setIfInBounds_toArray, List.set_cons_zero, List.set_cons_succ]
    refine wpAnyH_take (i := 13) (v := ?vx13) rfl (by kernel_rfl) (by kernel_rfl) (by kernel_rfl) (fun _ _ _ h => h) (Or.inl ⟨by rfl, ?hyx13⟩) (by assumption) ?restx13
    case hyx13 => (intro w hSw; (try dsimp only at hSw); go_simp; (try (first | with_reducible rfl | rw [if_neg (by omega)])))
    try simp only [Act.put, List.getElem_toArray, List.getElem_cons_succ, List.getElem_cons_zero, List.setIfInBounds_toArray, List.set_cons_zero, List.set_cons_succ]
    refine wpAnyH_done (by kernel_rfl) ?_ _
    go_wp2
    (try simp only [Exit.inBlock, Exit.then])
    refine bodyPost_ret (v := .tuple #[evV ⟨8, u, ⟨#[]⟩, 0, 0, 0, 0, ⟨#[]⟩⟩, .bool false]) (by simp [results, Tryz.results53, go_sem, evV, d0, d1, d2, d3, d4, d5, d6, d7]) rfl ⟨_, rfl, ?_, ?_⟩
    · exact (fun h => by cases h)
    · repeat (first | with_reducible exact RX.bel | with_reducible exact RF.bel | with_reducible refine Below.drew ?_ | with_reducible refine bset ?_ _ _ _ (Nat.le_refl _))
  exact AllReadyH.nil
set_option maxHeartbeats 4000000 in
set_option maxRecDepth 100000 in
theorem read_no_0 (s : ByteArray) (w : World) (hs : s.size ≤ 140737488351232) (h0 : 0 < s.size) (k : Nat) (hk : (s[0]'h0).toNat = k) (k0 : k = 0 ∨ 8 < k) (u : ByteArray) (a1 er : Int) (he : (er == 0) = false) (hu : u.size ≤ 140737488351232) (HU : Hid (takeN s 1 = (u, a1, er))) (ev : Ev) :
    Calls Tryz.prog 53 #[.string s] w (RdPost ev false w) := by
  have HK : Hid (hasK (k : Int) = 0) := by show _ = _; unfold hasK; rw [if_neg (by omega), if_neg (by omega), if_neg (by omega)]
  have e1 : bits .and .i64 0 1 = 0 := by decide
  have e2 : bits .and .i64 0 2 = 0 := by decide
  have e4 : bits .and .i64 0 4 = 0 := by decide
  go_enter Tryz.func53, Tryz.ntmps53
  go_wp2_with fail
  refine (take_int s 0 (w.heap.size + 1) 0 (.int .i64 0) k _ hs h0 hk ((RW.start w).cell 0 _ rfl) ((RW.start w).free 0)).mono ?_
  rintro e W1 ⟨rfl, hW⟩
  have R1 : RW w #[.int .i64 k, .string ⟨#[]⟩, .string ⟨#[]⟩, .int .i64 0, .int .i64 0, .int .i64 0, .int .i64 0, .string ⟨#[]⟩] W1 := by rw [hW]; exact (RW.start w).set 0 _
  clear hW
  have c0 := R1.cell 0 (.int .i64 k) rfl
  have hz := R1.siz
  have hz' : w.heap.size < W1.heap.size := by omega
  have O0 : Own enJ 1 20 (W1.alloc (.cells #[fStr w 1] 20)) (w.heap.size + 2) (.slice (some ⟨W1.heap.size, 0, none⟩) 1 1) [fStr w 1] := Own.lit enJ_len W1 [fStr w 1] #[fStr w 1] 1 rfl rfl (by omega) (by omega)
  have Q0 := R1.alloc (.cells #[fStr w 1] 20)
  have hzz : (W1.alloc (.cells #[fStr w 1] 20)).heap.size = W1.heap.size + 1 := Array.size_push ..
  have HZZ := Lib.hid hzz
  clear hzz
  have zz : w.heap.size + 2 ≤ (W1.alloc (.cells #[fStr w 1] 20)).heap.size := by simp; omega
  go_wp2_with (first | (go_at_call 48; refine (has_is _ 0 _ HK).mono ?_; rintro e wh ⟨rfl, rfl⟩))
  have OF := O0
  have RF := Q0
  refine wp_loop_rounds 2 ?_
  rw [rounds_succ]
  have el0 : _ = _ := own_elem OF 0 (fStr w 1) rfl
  go_wp2_with fail
  refine (take_str s 1 (w.heap.size + 1) 1 (.string ⟨#[]⟩) u a1 er _ hs (RF.cell 1 _ rfl) (RF.free 1) (by have := RF.siz; omega) HU).mono ?_
  rintro e Y0 ⟨rfl, V0, bm, hW⟩
  have R' : RW w #[.int .i64 k, .string u, .string ⟨#[]⟩, .int .i64 0, .int .i64 0, .int .i64 0, .int .i64 0, .string ⟨#[]⟩] Y0 := by rw [hW]; exact (RF.below bm).set 1 _
  have O' := own_set (OF.below bm) 1 (.string u)
  rw [← hW] at O'
  clear hW bm
  clear RF OF el0
  have RF := R'
  have OF := O'
  clear R' O'
  go_wp2_with fail
  rw [rounds_succ]
  go_wp2_with fail
  have c0 := RF.cell 0 (.int .i64 k) rfl
  have c1 := RF.cell 1 (.string u) rfl
  have c2 := RF.cell 2 (.string ⟨#[]⟩) rfl
  have c3 := RF.cell 3 (.int .i64 0) rfl
  have c4 := RF.cell 4 (.int .i64 0) rfl
  have c5 := RF.cell 5 (.int .i64 0) rfl
  have c6 := RF.cell 6 (.int .i64 0) rfl
  have c7 := RF.cell 7 (.string ⟨#[]⟩) rfl
  have d0 := RF.cell0 0 (.int .i64 0) rfl
  have f0 := RF.free0 0
  have d1 := RF.cell0 1 (.string ⟨#[]⟩) rfl
  have f1 := RF.free0 1
  have d2 := RF.cell0 2 (.string ⟨#[]⟩) rfl
  have f2 := RF.free0 2
  have d3 := RF.cell0 3 (.int .i64 0) rfl
  have f3 := RF.free0 3
  have d4 := RF.cell0 4 (.int .i64 0) rfl
  have f4 := RF.free0 4
  have d5 := RF.cell0 5 (.int .i64 0) rfl
  have f5 := RF.free0 5
  have d6 := RF.cell0 6 (.int .i64 0) rfl
  have f6 := RF.free0 6
  have d7 := RF.cell0 7 (.string ⟨#[]⟩) rfl
  have f7 := RF.free0 7
  have hS : (Y0).cell? ⟨w.heap.size + 1, 0, none⟩ = some (.int .i64 k) ∧ (Y0).cell? ⟨w.heap.size + 1, 1, none⟩ = some (.string u) ∧ (Y0).cell? ⟨w.heap.size + 1, 2, none⟩ = some (.string ⟨#[]⟩) ∧ (Y0).cell? ⟨w.heap.size + 1, 3, none⟩ = some (.int .i64 0) ∧ (Y0).cell? ⟨w.heap.size + 1, 4, none⟩ = some (.int .i64 0) ∧ (Y0).cell? ⟨w.heap.size + 1, 5, none⟩ = some (.int .i64 0) ∧ (Y0).cell? ⟨w.heap.size + 1, 6, none⟩ = some (.int .i64 0) ∧ (Y0).cell? ⟨w.heap.size + 1, 7, none⟩ = some (.string ⟨#[]⟩) := ⟨c0, c1, c2, c3, c4, c5, c6, c7⟩
  have hyz : w.heap.size ≠ w.heap.size + 1 := by omega
  have hyy : w.heap.size + 1 ≠ w.heap.size := by omega
  refine wp_region_held_drew (S := (fun W => W.cell? ⟨w.heap.size + 1, 0, none⟩ = some (.int .i64 k) ∧ W.cell? ⟨w.heap.size + 1, 1, none⟩ = some (.string u) ∧ W.cell? ⟨w.heap.size + 1, 2, none⟩ = some (.string ⟨#[]⟩) ∧ W.cell? ⟨w.heap.size + 1, 3, none⟩ = some (.int .i64 0) ∧ W.cell? ⟨w.heap.size + 1, 4, none⟩ = some (.int .i64 0) ∧ W.cell? ⟨w.heap.size + 1, 5, none⟩ = some (.int .i64 0) ∧ W.cell? ⟨w.heap.size + 1, 6, none⟩ = some (.int .i64 0) ∧ W.cell? ⟨w.heap.size + 1, 7, none⟩ = some (.string ⟨#[]⟩))) (by kernel_rfl) hS (fun hHeld => ?_)
  refine wpAnyH_take (i := 0) (v := ?vx1) rfl (by kernel_rfl) (by kernel_rfl) (by kernel_rfl) (fun _ _ _ h => h) (Or.inl ⟨by rfl, ?hyx1⟩) (by assumption) ?restx1
  case hyx1 => (intro w hSw; (try dsimp only at hSw); go_simp; (try (first | with_reducible rfl | rw [if_neg (by omega)])))
  try simp only [Act.put, List.getElem_toArray, List.getElem_cons_succ, List.getElem_cons_zero, List.setIfInBounds_toArray, List.set_cons_zero, List.set_cons_succ]
  refine wpAnyH_take (i := 1) (v := ?vx2) rfl (by kernel_rfl) (by kernel_rfl) (by kernel_rfl) (fun _ _ _ h => h) (Or.inl ⟨by rfl, ?hyx2⟩) (by assumption) ?restx2
  case hyx2 => (intro w hSw; (try dsimp only at hSw); go_simp; (try (first | with_reducible rfl | rw [if_neg (by omega)])))
  try simp only [Act.put, List.getElem_toArray, List.getElem_cons_succ, List.getElem_cons_zero, List.setIfInBounds_toArray, List.set_cons_zero, List.set_cons_succ]
  refine wpAnyH_take (i := 2) (v := ?vx3) rfl (by kernel_rfl) (by kernel_rfl) (by kernel_rfl) (fun _ _ _ h => h) (Or.inl ⟨by rfl, ?hyx3⟩) (by assumption) ?restx3
  case hyx3 => (intro w hSw; (try dsimp only at hSw); go_simp; (try (first | with_reducible rfl | rw [if_neg (by omega)])))
  try simp only [Act.put, List.getElem_toArray, List.getElem_cons_succ, List.getElem_cons_zero, List.setIfInBounds_toArray, List.set_cons_zero, List.set_cons_succ]
  refine wpAnyH_take (i := 3) (v := undef) rfl (by kernel_rfl) (by kernel_rfl) (by kernel_rfl) (fun _ _ _ h => h) (Or.inr ⟨by rfl, rfl⟩) (by assumption) ?_
  try simp only [Act.put, List.getElem_toArray, List.getElem_cons_succ, List.getElem_cons_zero, List.setIfInBounds_toArray, List.set_cons_zero, List.set_cons_succ]
  refine wpAnyH_take (i := 4) (v := undef) rfl (by kernel_rfl) (by kernel_rfl) (by kernel_rfl) (fun _ _ _ h => h) (Or.inr ⟨by rfl, rfl⟩) (by assumption) ?_
  try simp only [Act.put, List.getElem_toArray, List.getElem_cons_succ, List.getElem_cons_zero, List.setIfInBounds_toArray, List.set_cons_zero, List.set_cons_succ]
  refine wpAnyH_take (i := 5) (v := undef) rfl (by kernel_rfl) (by kernel_rfl) (by kernel_rfl) (fun _ _ _ h => h) (Or.inr ⟨by rfl, rfl⟩) (by assumption) ?_
  try simp only [Act.put, List.getElem_toArray, List.getElem_cons_succ, List.getElem_cons_zero, List.setIfInBounds_toArray, List.set_cons_zero, List.set_cons_succ]
  refine wpAnyH_take (i := 6) (v := undef) rfl (by kernel_rfl) (by kernel_rfl) (by kernel_rfl) (fun _ _ _ h => h) (Or.inr ⟨by rfl, rfl⟩) (by assumption) ?_
  try simp only [Act.put, List.getElem_toArray, List.getElem_cons_succ, List.getElem_cons_zero, List.setIfInBounds_toArray, List.set_cons_zero, List.set_cons_succ]
  refine wpAnyH_take (i := 7) (v := ?vx8) rfl (by kernel_rfl) (by kernel_rfl) (by kernel_rfl) (fun _ _ _ h => h) (Or.inl ⟨by rfl, ?hyx8⟩) (by assumption) ?restx8
  case hyx8 => (intro w hSw; (try dsimp only at hSw); go_simp; (try (first | with_reducible rfl | rw [if_neg (by omega)])))
  try simp only [Act.put, List.getElem_toArray, List.getElem_cons_succ, List.getElem_cons_zero, List.setIfInBounds_toArray, List.set_cons_zero, List.set_cons_succ]
  refine wpAnyH_take (i := 8) (v := ?vx9) rfl (by kernel_rfl) (by kernel_rfl) (by kernel_rfl) (fun _ _ _ h => h) (Or.inl ⟨by rfl, ?hyx9⟩) (by assumption) ?restx9
  case hyx9 => (intro w hSw; (try dsimp only at hSw); go_simp; (try (first | with_reducible rfl | rw [if_neg (by omega)])))
  try simp only [Act.put, List.getElem_toArray, List.getElem_cons_succ, List.getElem_cons_zero, List.setIfInBounds_toArray, List.set_cons_zero, List.set_cons_succ]
  refine wpAnyH_take (i := 9) (v := undef) rfl (by kernel_rfl) (by kernel_rfl) (by kernel_rfl) (fun _ _ _ h => h) (Or.inr ⟨by rfl, rfl⟩) (by assumption) ?_
  try simp only [Act.put, List.getElem_toArray, List.getElem_cons_succ, List.getElem_cons_zero, List.setIfInBounds_toArray, List.set_cons_zero, List.set_cons_succ]
  refine wpAnyH_take (i := 10) (v := undef) rfl (by kernel_rfl) (by kernel_rfl) (by kernel_rfl) (fun _ _ _ h => h) (Or.inr ⟨by rfl, rfl⟩) (by assumption) ?_
  try simp only [Act.put, List.getElem_toArray, List.getElem_cons_succ, List.getElem_cons_zero, List.setIfInBounds_toArray, List.set_cons_zero, List.set_cons_succ]
  refine wpAnyH_take (i := 11) (v := ?vx12) rfl (by kernel_rfl) (by kernel_rfl) (by kernel_rfl) (fun _ _ _ h => h) (Or.inl ⟨by rfl, ?hyx12⟩) (by assumption) ?restx12
  case hyx12 => (intro w hSw; (try dsimp only at hSw); go_simp; (try (first | with_reducible rfl | rw [if_neg (by omega)])))
  try simp only [Act.put, List.getElem_toArray, List.getElem_cons_succ, List.getElem_cons_zero, List.setIfInBounds_toArray, List.set_cons_zero, List.set_cons_succ]
  refine wpAnyH_ready (rs := [12]) (by kernel_rfl) (by simp) ?_
  refine AllReadyH.cons rfl (fun K hK => ?_) ?_
  · go_simp
    refine hK.out _ _ (by (try dsimp only); (with_reducible exact s8_of (keep8d _ _ _ _ _ _ _ _ _ _) hS)) (fun hHeld => ?_)
    clear hK K
    try simp only [Act.put, List.getElem_toArray, List.getElem_cons_succ, List.getElem_cons_zero, List.setIfInBounds_toArray, List.set_cons_zero, List.set_cons_succ]
    refine wpAnyH_take (i := 13) (v := ?vx13) rfl (by kernel_rfl) (by kernel_rfl) (by kernel_rfl) (fun _ _ _ h => h) (Or.inl ⟨by rfl, ?hyx13⟩) (by assumption) ?restx13
    case hyx13 => (intro w hSw; (try dsimp only at hSw); go_simp; (try (first | with_reducible rfl | rw [if_neg (by omega)])))
    try simp only [Act.put, List.getElem_toArray, List.getElem_cons_succ, List.getElem_cons_zero, List.setIfInBounds_toArray, List.set_cons_zero, List.set_cons_succ]
    refine wpAnyH_done (by kernel_rfl) ?_ _
    go_wp2
    (try simp only [Exit.inBlock, Exit.then])
    refine bodyPost_ret (v := .tuple #[evV ⟨k, u, ⟨#[]⟩, 0, 0, 0, 0, ⟨#[]⟩⟩, .bool false]) (by simp [results, Tryz.results53, go_sem, evV, d0, d1, d2, d3, d4, d5, d6, d7]) rfl ⟨_, rfl, ?_, ?_⟩
    · exact (fun h => by cases h)
    · repeat (first | with_reducible exact RX.bel | with_reducible exact RF.bel | with_reducible refine Below.drew ?_ | with_reducible refine bset ?_ _ _ _ (Nat.le_refl _))
  exact AllReadyH.nil
end Go.Proofs.YtbpfcjdjhponaaaGreat
