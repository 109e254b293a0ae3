/-
Layer 23: the program's reading of an event, way by way.
-/
import Derived.Test.YtobhlcogopcbdaaScrJ
set_option linter.unusedVariables false
set_option linter.unusedSimpArgs false
namespace Go.Proofs.Ytobhlcogopcbdaa
open Go.RowKit
open Sp

set_option maxHeartbeats 4000000 in
set_option maxRecDepth 100000 in
theorem read_A (s : ByteArray) (w : World) (hs : s.size ≤ 140737488351232)  (h : s.size = 0) (ev : Ev) :
    Calls Try.prog 58 #[.string s] w (RdPost ev false w) := by
  have HK : Hid (hasK 0 = 0) := by show _ = _; unfold hasK; simp
  have e1 : bits .and .i64 0 1 = 0 := by decide
  have e2 : bits .and .i64 0 2 = 0 := by decide
  have e4 : bits .and .i64 0 4 = 0 := by decide
  go_enter Try.func58, Try.ntmps58
  go_wp2_with fail
  refine (take_int_no s 0 (w.heap.size + 1) 0 _ hs (by omega)).mono ?_
  rintro e W1 ⟨rfl, hW⟩
  have R1 : RW w #[.int .i64 0, .string ⟨#[]⟩, .string ⟨#[]⟩, .int .i64 0, .int .i64 0, .int .i64 0, .int .i64 0, .string ⟨#[]⟩] W1 := by rw [hW]; exact RW.start w
  clear hW
  have c0 := R1.cell 0 (.int .i64 0) rfl
  have hz := R1.siz
  have hz' : w.heap.size < W1.heap.size := by omega
  have O0 : Own enJ 1 20 (W1.alloc (.cells #[fStr w 1] 20)) (w.heap.size + 2) (.slice (some ⟨W1.heap.size, 0, none⟩) 1 1) [fStr w 1] := Own.lit enJ_len W1 [fStr w 1] #[fStr w 1] 1 rfl rfl (by omega) (by omega)
  have Q0 := R1.alloc (.cells #[fStr w 1] 20)
  have hzz : (W1.alloc (.cells #[fStr w 1] 20)).heap.size = W1.heap.size + 1 := Array.size_push ..
  have HZZ := Lib.hid hzz
  clear hzz
  have zz : w.heap.size + 2 ≤ (W1.alloc (.cells #[fStr w 1] 20)).heap.size := by simp; omega
  go_wp2_with (first | (go_at_call 64; refine (has_is _ 0 _ HK).mono ?_; rintro e wh ⟨rfl, rfl⟩))
  have OF := O0
  have RF := Q0
  refine wp_loop_rounds 2 ?_
  rw [rounds_succ]
  have el0 : _ = _ := own_elem OF 0 (fStr w 1) rfl
  go_wp2_with fail
  clear el0
  rw [rounds_succ]
  go_wp2_with fail
  clear O0 Q0 OF zz HZZ
  generalize hY : (W1.alloc (.cells #[fStr w 1] 20)) = Y at RF ⊢
  clear hY
  have c0 := RF.cell 0 (.int .i64 0) rfl
  have c1 := RF.cell 1 (.string ⟨#[]⟩) rfl
  have c2 := RF.cell 2 (.string ⟨#[]⟩) rfl
  have c3 := RF.cell 3 (.int .i64 0) rfl
  have c4 := RF.cell 4 (.int .i64 0) rfl
  have c5 := RF.cell 5 (.int .i64 0) rfl
  have c6 := RF.cell 6 (.int .i64 0) rfl
  have c7 := RF.cell 7 (.string ⟨#[]⟩) rfl
  have d0 := RF.cell0 0 (.int .i64 0) rfl
  have f0 := RF.free0 0
  have d1 := RF.cell0 1 (.string ⟨#[]⟩) rfl
  have f1 := RF.free0 1
  have d2 := RF.cell0 2 (.string ⟨#[]⟩) rfl
  have f2 := RF.free0 2
  have d3 := RF.cell0 3 (.int .i64 0) rfl
  have f3 := RF.free0 3
  have d4 := RF.cell0 4 (.int .i64 0) rfl
  have f4 := RF.free0 4
  have d5 := RF.cell0 5 (.int .i64 0) rfl
  have f5 := RF.free0 5
  have d6 := RF.cell0 6 (.int .i64 0) rfl
  have f6 := RF.free0 6
  have d7 := RF.cell0 7 (.string ⟨#[]⟩) rfl
  have f7 := RF.free0 7
  have hS : (Y).cell? ⟨w.heap.size + 1, 0, none⟩ = some (.int .i64 0) ∧ (Y).cell? ⟨w.heap.size + 1, 1, none⟩ = some (.string ⟨#[]⟩) ∧ (Y).cell? ⟨w.heap.size + 1, 2, none⟩ = some (.string ⟨#[]⟩) ∧ (Y).cell? ⟨w.heap.size + 1, 3, none⟩ = some (.int .i64 0) ∧ (Y).cell? ⟨w.heap.size + 1, 4, none⟩ = some (.int .i64 0) ∧ (Y).cell? ⟨w.heap.size + 1, 5, none⟩ = some (.int .i64 0) ∧ (Y).cell? ⟨w.heap.size + 1, 6, none⟩ = some (.int .i64 0) ∧ (Y).cell? ⟨w.heap.size + 1, 7, none⟩ = some (.string ⟨#[]⟩) := ⟨c0, c1, c2, c3, c4, c5, c6, c7⟩
  have hyz : w.heap.size ≠ w.heap.size + 1 := by omega
  have hyy : w.heap.size + 1 ≠ w.heap.size := by omega
  refine wp_region_held_drew (S := (fun W => W.cell? ⟨w.heap.size + 1, 0, none⟩ = some (.int .i64 0) ∧ W.cell? ⟨w.heap.size + 1, 1, none⟩ = some (.string ⟨#[]⟩) ∧ W.cell? ⟨w.heap.size + 1, 2, none⟩ = some (.string ⟨#[]⟩) ∧ W.cell? ⟨w.heap.size + 1, 3, none⟩ = some (.int .i64 0) ∧ W.cell? ⟨w.heap.size + 1, 4, none⟩ = some (.int .i64 0) ∧ W.cell? ⟨w.heap.size + 1, 5, none⟩ = some (.int .i64 0) ∧ W.cell? ⟨w.heap.size + 1, 6, none⟩ = some (.int .i64 0) ∧ W.cell? ⟨w.heap.size + 1, 7, none⟩ = some (.string ⟨#[]⟩))) (by kernel_rfl) hS (fun hHeld => ?_)
  refine wpAnyH_take (i := 0) (v := ?vx1) rfl (by kernel_rfl) (by kernel_rfl) (by kernel_rfl) (fun _ _ _ h => h) (Or.inl ⟨by rfl, ?hyx1⟩) (by assumption) ?restx1
  case hyx1 => (intro w hSw; (try dsimp only at hSw); go_simp; (try (first | with_reducible rfl | rw [if_neg (by omega)])))
  try simp only [Act.put, List.getElem_toArray, List.getElem_cons_succ, List.getElem_cons_zero, List.setIfInBounds_toArray, List.set_cons_zero, List.set_cons_succ]
  refine wpAnyH_take (i := 1) (v := ?vx2) rfl (by kernel_rfl) (by kernel_rfl) (by kernel_rfl) (fun _ _ _ h => h) (Or.inl ⟨by rfl, ?hyx2⟩) (by assumption) ?restx2
  case hyx2 => (intro w hSw; (try dsimp only at hSw); go_simp; (try (first | with_reducible rfl | rw [if_neg (by omega)])))
  try simp only [Act.put, List.getElem_toArray, List.getElem_cons_succ, List.getElem_cons_zero, List.setIfInBounds_toArray, List.set_cons_zero, List.set_cons_succ]
  refine wpAnyH_take (i := 2) (v := ?vx3) rfl (by kernel_rfl) (by kernel_rfl) (by kernel_rfl) (fun _ _ _ h => h) (Or.inl ⟨by rfl, ?hyx3⟩) (by assumption) ?restx3
  case hyx3 => (intro w hSw; (try dsimp only at hSw); go_simp; (try (first | with_reducible rfl | rw [if_neg (by omega)])))
  try simp only [Act.put, List.getElem_toArray, List.getElem_cons_succ, List.getElem_cons_zero, List.setIfInBounds_toArray, List.set_cons_zero, List.set_cons_succ]
  refine wpAnyH_take (i := 3) (v := undef) rfl (by kernel_rfl) (by kernel_rfl) (by kernel_rfl) (fun _ _ _ h => h) (Or.inr ⟨by rfl, rfl⟩) (by assumption) ?_
  try simp only [Act.put, List.getElem_toArray, List.getElem_cons_succ, List.getElem_cons_zero, List.setIfInBounds_toArray, List.set_cons_zero, List.set_cons_succ]
  refine wpAnyH_take (i := 4) (v := undef) rfl (by kernel_rfl) (by kernel_rfl) (by kernel_rfl) (fun _ _ _ h => h) (Or.inr ⟨by rfl, rfl⟩) (by assumption) ?_
  try simp only [Act.put, List.getElem_toArray, List.getElem_cons_succ, List.getElem_cons_zero, List.setIfInBounds_toArray, List.set_cons_zero, List.set_cons_succ]
  refine wpAnyH_take (i := 5) (v := undef) rfl (by kernel_rfl) (by kernel_rfl) (by kernel_rfl) (fun _ _ _ h => h) (Or.inr ⟨by rfl, rfl⟩) (by assumption) ?_
  try simp only [Act.put, List.getElem_toArray, List.getElem_cons_succ, List.getElem_cons_zero, List.setIfInBounds_toArray, List.set_cons_zero, List.set_cons_succ]
  refine wpAnyH_take (i := 6) (v := undef) rfl (by kernel_rfl) (by kernel_rfl) (by kernel_rfl) (fun _ _ _ h => h) (Or.inr ⟨by rfl, rfl⟩) (by assumption) ?_
  try simp only [Act.put, List.getElem_toArray, List.getElem_cons_succ, List.getElem_cons_zero, List.setIfInBounds_toArray, List.set_cons_zero, List.set_cons_succ]
  refine wpAnyH_take (i := 7) (v := ?vx8) rfl (by kernel_rfl) (by kernel_rfl) (by kernel_rfl) (fun _ _ _ h => h) (Or.inl ⟨by rfl, ?hyx8⟩) (by assumption) ?restx8
  case hyx8 => (intro w hSw; (try dsimp only at hSw); go_simp; (try (first | with_reducible rfl | rw [if_neg (by omega)])))
  try simp only [Act.put, List.getElem_toArray, List.getElem_cons_succ, List.getElem_cons_zero, List.setIfInBounds_toArray, List.set_cons_zero, List.set_cons_succ]
  refine wpAnyH_take (i := 8) (v := ?vx9) rfl (by kernel_rfl) (by kernel_rfl) (by kernel_rfl) (fun _ _ _ h => h) (Or.inl ⟨by rfl, ?hyx9⟩) (by assumption) ?restx9
  case hyx9 => (intro w hSw; (try dsimp only at hSw); go_simp; (try (first | with_reducible rfl | rw [if_neg (by omega)])))
  try simp only [Act.put, List.getElem_toArray, List.getElem_cons_succ, List.getElem_cons_zero, List.setIfInBounds_toArray, List.set_cons_zero, List.set_cons_succ]
  refine wpAnyH_take (i := 9) (v := undef) rfl (by kernel_rfl) (by kernel_rfl) (by kernel_rfl) (fun _ _ _ h => h) (Or.inr ⟨by rfl, rfl⟩) (by assumption) ?_
  try simp only [Act.put, List.getElem_toArray, List.getElem_cons_succ, List.getElem_cons_zero, List.setIfInBounds_toArray, List.set_cons_zero, List.set_cons_succ]
  refine wpAnyH_take (i := 10) (v := undef) rfl (by kernel_rfl) (by kernel_rfl) (by kernel_rfl) (fun _ _ _ h => h) (Or.inr ⟨by rfl, rfl⟩) (by assumption) ?_
  try simp only [Act.put, List.getElem_toArray, List.getElem_cons_succ, List.getElem_cons_zero, List.setIfInBounds_toArray, List.set_cons_zero, List.set_cons_succ]
  refine wpAnyH_take (i := 11) (v := ?vx12) rfl (by kernel_rfl) (by kernel_rfl) (by kernel_rfl) (fun _ _ _ h => h) (Or.inl ⟨by rfl, ?hyx12⟩) (by assumption) ?restx12
  case hyx12 => (intro w hSw; (try dsimp only at hSw); go_simp; (try (first | with_reducible rfl | rw [if_neg (by omega)])))
  try simp only [Act.put, List.getElem_toArray, List.getElem_cons_succ, List.getElem_cons_zero, List.setIfInBounds_toArray, List.set_cons_zero, List.set_cons_succ]
  refine wpAnyH_ready (rs := [12]) (by kernel_rfl) (by simp) ?_
  refine AllReadyH.cons rfl (fun K hK => ?_) ?_
  · go_simp
    refine hK.out _ _ (by (try dsimp only); (with_reducible exact s8_of (keep8d _ _ _ _ _ _ _ _ _ _) hS)) (fun hHeld => ?_)
    clear hK K
    try simp only [Act.put, List.getElem_toArray, List.getElem_cons_succ, List.getElem_cons_zero, List.setIfInBounds_toArray, List.set_cons_zero, List.set_cons_succ]
    refine wpAnyH_take (i := 13) (v := ?vx13) rfl (by kernel_rfl) (by kernel_rfl) (by kernel_rfl) (fun _ _ _ h => h) (Or.inl ⟨by rfl, ?hyx13⟩) (by assumption) ?restx13
    case hyx13 => (intro w hSw; (try dsimp only at hSw); go_simp; (try (first | with_reducible rfl | rw [if_neg (by omega)])))
    try simp only [Act.put, List.getElem_toArray, List.getElem_cons_succ, List.getElem_cons_zero, List.setIfInBounds_toArray, List.set_cons_zero, List.set_cons_succ]
    refine wpAnyH_done (by kernel_rfl) ?_ _
    go_wp2
    (try simp only [Exit.inBlock, Exit.then])
    refine bodyPost_ret (v := .tuple #[evV ⟨0, ⟨#[]⟩, ⟨#[]⟩, 0, 0, 0, 0, ⟨#[]⟩⟩, .bool false]) (by simp [results, Try.results58, go_sem, evV, d0, d1, d2, d3, d4, d5, d6, d7]) rfl ⟨_, rfl, ?_, ?_⟩
    · exact (fun h => by cases h)
    · repeat (first | with_reducible exact RX.bel | with_reducible exact RF.bel | with_reducible refine Below.drew ?_ | with_reducible refine bset ?_ _ _ _ (Nat.le_refl _))
  exact AllReadyH.nil
end Go.Proofs.Ytobhlcogopcbdaa
