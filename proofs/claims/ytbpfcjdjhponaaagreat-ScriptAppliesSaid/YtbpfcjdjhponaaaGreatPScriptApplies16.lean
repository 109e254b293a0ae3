import Derived.Deep.QuietTactic
import Derived.BigQuiet
import Derived.Test.YtbpfcjdjhponaaaGreatPScriptApplies15
set_option linter.unusedVariables false
set_option linter.unusedSimpArgs false
namespace Go.Proofs.YtbpfcjdjhponaaaGreat
open Go.RowKit
open Sp
set_option maxHeartbeats 4000000 in
set_option maxRecDepth 100000 in
theorem read_8_ne (s : ByteArray) (w : World) (hs : s.size ≤ 140737488351232) (h0 : 0 < s.size) (hk : (s[0]'h0).toNat = 8) (u : ByteArray) (m : Nat) (hu : u.size ≤ 140737488351232) (hm : m ≤ s.size) (HU : Hid (takeN s 1 = (u, (m : Int), 0))) (hlt : m < s.size) (i : Nat) (hi : (s[m]'hlt).toNat = i) (hne : (((m : Int) + 1) == (s.size : Int)) = false) (ev : Ev) :
    Calls Tryz.prog 53 #[.string s] w (RdPost ev false w) := by
  have HK : Hid (hasK 8 = 2) := by show _ = _; unfold hasK; simp
  have e1 : bits .and .i64 2 1 = 0 := by decide
  have e2 : bits .and .i64 2 2 = 2 := by decide
  have e4 : bits .and .i64 2 4 = 0 := by decide
  go_enter Tryz.func53, Tryz.ntmps53
  go_wp2_with fail
  refine (take_int s 0 (w.heap.size + 1) 0 (.int .i64 0) 8 _ hs h0 hk ((RW.start w).cell 0 _ rfl) ((RW.start w).free 0)).mono ?_
  rintro e W1 ⟨rfl, hW⟩
  have R1 : RW w #[.int .i64 8, .string ⟨#[]⟩, .string ⟨#[]⟩, .int .i64 0, .int .i64 0, .int .i64 0, .int .i64 0, .string ⟨#[]⟩] W1 := by rw [hW]; exact (RW.start w).set 0 _
  clear hW
  have c0 := R1.cell 0 (.int .i64 8) rfl
  have hz := R1.siz
  have hz' : w.heap.size < W1.heap.size := by omega
  have O0 : Own enJ 1 20 (W1.alloc (.cells #[fStr w 1] 20)) (w.heap.size + 2) (.slice (some ⟨W1.heap.size, 0, none⟩) 1 1) [fStr w 1] := Own.lit enJ_len W1 [fStr w 1] #[fStr w 1] 1 rfl rfl (by omega) (by omega)
  have Q0 := R1.alloc (.cells #[fStr w 1] 20)
  have hzz : (W1.alloc (.cells #[fStr w 1] 20)).heap.size = W1.heap.size + 1 := Array.size_push ..
  have HZZ := Lib.hid hzz
  clear hzz
  have zz : w.heap.size + 2 ≤ (W1.alloc (.cells #[fStr w 1] 20)).heap.size := by simp; omega
  go_wp2_with (first | (go_at_call 48; refine (has_is _ 2 _ HK).mono ?_; rintro e wh ⟨rfl, rfl⟩) | (at_builtin; refine Own.append (w0 := (W1.alloc (.cells #[fStr w 1] 20))) (w.heap.size + 2) rfl (.tmp 35) (.tmp 38) 139 20 .nilIface 1 16 rfl Tryz.underlying139 info_any rfl (by decide) (.slice (some ⟨W1.heap.size, 0, none⟩) 1 1) [fStr w 1] (fInt w 3) [fInt w 3] rfl (by rw [HZZ.out]; rfl) rfl rfl (by simp [Value.oneCell']) O0 (Below.refl _ _) zz (by simp) (by simp) ?_; intro v1 x1 O1 B1 _ _; have Q1 := Q0.belowB B1; have zz1 : w.heap.size + 2 ≤ x1.heap.size := Nat.le_trans zz B1.size; obtain ⟨ad, cc, hv⟩ := own_slice_n O1 2 rfl (by omega); subst hv))
  have OF : Own enJ 1 20 x1 (w.heap.size + 2) (.slice (some ad) 2 cc) [fStr w 1, fInt w 3] := O1
  have RF := Q1
  refine wp_loop_rounds 3 ?_
  rw [rounds_succ]
  have el0 : (x1).cell? ad = some (fStr w 1) := own_elem OF 0 (fStr w 1) rfl
  have el1 : (x1).cell? ⟨ad.block, ad.off + 1, none⟩ = some (fInt w 3) := own_elem OF 1 (fInt w 3) rfl
  go_wp2_with fail
  refine (take_str s 1 (w.heap.size + 1) 1 (.string ⟨#[]⟩) u (m : Int) 0 _ hs (RF.cell 1 _ rfl) (RF.free 1) (by have := RF.siz; omega) HU).mono ?_
  rintro e Y0 ⟨rfl, V0, bm, hW⟩
  have R' : RW w #[.int .i64 8, .string u, .string ⟨#[]⟩, .int .i64 0, .int .i64 0, .int .i64 0, .int .i64 0, .string ⟨#[]⟩] Y0 := by rw [hW]; exact (RF.below bm).set 1 _
  have O' := own_set (OF.below bm) 1 (.string u)
  rw [← hW] at O'
  clear hW bm
  clear RF OF el0 el1
  have RF := R'
  have OF := O'
  clear R' O'
  go_wp2_with fail
  rw [rounds_succ]
  have el0 : (Y0).cell? ad = some (fStr w 1) := own_elem OF 0 (fStr w 1) rfl
  have el1 : (Y0).cell? ⟨ad.block, ad.off + 1, none⟩ = some (fInt w 3) := own_elem OF 1 (fInt w 3) rfl
  go_wp2_with fail
  refine (take_int s m (w.heap.size + 1) 3 (.int .i64 0) i _ hs hlt hi (RF.cell 3 _ rfl) (RF.free 3)).mono ?_
  rintro e Y1 ⟨rfl, hW⟩
  have R' : RW w #[.int .i64 8, .string u, .string ⟨#[]⟩, .int .i64 i, .int .i64 0, .int .i64 0, .int .i64 0, .string ⟨#[]⟩] Y1 := by rw [hW]; exact RF.set 3 _
  have O' := own_set OF 3 (.int .i64 i)
  rw [← hW] at O'
  clear hW
  clear RF OF el0 el1
  have RF := R'
  have OF := O'
  clear R' O'
  go_wp2_with fail
  rw [rounds_succ]
  go_wp2_with fail
  have c0 := RF.cell 0 (.int .i64 8) rfl
  have c1 := RF.cell 1 (.string u) rfl
  have c2 := RF.cell 2 (.string ⟨#[]⟩) rfl
  have c3 := RF.cell 3 (.int .i64 i) rfl
  have c4 := RF.cell 4 (.int .i64 0) rfl
  have c5 := RF.cell 5 (.int .i64 0) rfl
  have c6 := RF.cell 6 (.int .i64 0) rfl
  have c7 := RF.cell 7 (.string ⟨#[]⟩) rfl
  have d0 := RF.cell0 0 (.int .i64 0) rfl
  have f0 := RF.free0 0
  have d1 := RF.cell0 1 (.string ⟨#[]⟩) rfl
  have f1 := RF.free0 1
  have d2 := RF.cell0 2 (.string ⟨#[]⟩) rfl
  have f2 := RF.free0 2
  have d3 := RF.cell0 3 (.int .i64 0) rfl
  have f3 := RF.free0 3
  have d4 := RF.cell0 4 (.int .i64 0) rfl
  have f4 := RF.free0 4
  have d5 := RF.cell0 5 (.int .i64 0) rfl
  have f5 := RF.free0 5
  have d6 := RF.cell0 6 (.int .i64 0) rfl
  have f6 := RF.free0 6
  have d7 := RF.cell0 7 (.string ⟨#[]⟩) rfl
  have f7 := RF.free0 7
  have hS : (Y1).cell? ⟨w.heap.size + 1, 0, none⟩ = some (.int .i64 8) ∧ (Y1).cell? ⟨w.heap.size + 1, 1, none⟩ = some (.string u) ∧ (Y1).cell? ⟨w.heap.size + 1, 2, none⟩ = some (.string ⟨#[]⟩) ∧ (Y1).cell? ⟨w.heap.size + 1, 3, none⟩ = some (.int .i64 i) ∧ (Y1).cell? ⟨w.heap.size + 1, 4, none⟩ = some (.int .i64 0) ∧ (Y1).cell? ⟨w.heap.size + 1, 5, none⟩ = some (.int .i64 0) ∧ (Y1).cell? ⟨w.heap.size + 1, 6, none⟩ = some (.int .i64 0) ∧ (Y1).cell? ⟨w.heap.size + 1, 7, none⟩ = some (.string ⟨#[]⟩) := ⟨c0, c1, c2, c3, c4, c5, c6, c7⟩
  have hyz : w.heap.size ≠ w.heap.size + 1 := by omega
  have hyy : w.heap.size + 1 ≠ w.heap.size := by omega
  refine wp_region_held_drew (S := (fun W => W.cell? ⟨w.heap.size + 1, 0, none⟩ = some (.int .i64 8) ∧ W.cell? ⟨w.heap.size + 1, 1, none⟩ = some (.string u) ∧ W.cell? ⟨w.heap.size + 1, 2, none⟩ = some (.string ⟨#[]⟩) ∧ W.cell? ⟨w.heap.size + 1, 3, none⟩ = some (.int .i64 i) ∧ W.cell? ⟨w.heap.size + 1, 4, none⟩ = some (.int .i64 0) ∧ W.cell? ⟨w.heap.size + 1, 5, none⟩ = some (.int .i64 0) ∧ W.cell? ⟨w.heap.size + 1, 6, none⟩ = some (.int .i64 0) ∧ W.cell? ⟨w.heap.size + 1, 7, none⟩ = some (.string ⟨#[]⟩))) (by kernel_rfl) hS (fun hHeld => ?_)
  refine wpAnyH_take (i := 0) (v := ?vx1) rfl (by kernel_rfl) (by kernel_rfl) (by kernel_rfl) (fun _ _ _ h => h) (Or.inl ⟨by rfl, ?hyx1⟩) (by assumption) ?restx1
  case hyx1 => (intro w hSw; (try dsimp only at hSw); go_simp; (try (first | with_reducible rfl | rw [if_neg (by omega)])))
  try simp only [Act.put, List.getElem_toArray, List.getElem_cons_succ, List.getElem_cons_zero, List.setIfInBounds_toArray, List.set_cons_zero, List.set_cons_succ]
  refine wpAnyH_take (i := 1) (v := ?vx2) rfl (by kernel_rfl) (by kernel_rfl) (by kernel_rfl) (fun _ _ _ h => h) (Or.inl ⟨by rfl, ?hyx2⟩) (by assumption) ?restx2
  case hyx2 => (intro w hSw; (try dsimp only at hSw); go_simp; (try (first | with_reducible rfl | rw [if_neg (by omega)])))
  try simp only [Act.put, List.getElem_toArray, List.getElem_cons_succ, List.getElem_cons_zero, List.setIfInBounds_toArray, List.set_cons_zero, List.set_cons_succ]
  refine wpAnyH_take (i := 2) (v := ?vx3) rfl (by kernel_rfl) (by kernel_rfl) (by kernel_rfl) (fun _ _ _ h => h) (Or.inl ⟨by rfl, ?hyx3⟩) (by assumption) ?restx3
  case hyx3 => (intro w hSw; (try dsimp only at hSw); go_simp; (try (first | with_reducible rfl | rw [if_neg (by omega)])))
  try simp only [Act.put, List.getElem_toArray, List.getElem_cons_succ, List.getElem_cons_zero, List.setIfInBounds_toArray, List.set_cons_zero, List.set_cons_succ]
  refine wpAnyH_take (i := 3) (v := ?vx4) rfl (by kernel_rfl) (by kernel_rfl) (by kernel_rfl) (fun _ _ _ h => h) (Or.inl ⟨by rfl, ?hyx4⟩) (by assumption) ?restx4
  case hyx4 => (intro w hSw; (try dsimp only at hSw); go_simp; (try (first | with_reducible rfl | rw [if_neg (by omega)])))
  try simp only [Act.put, List.getElem_toArray, List.getElem_cons_succ, List.getElem_cons_zero, List.setIfInBounds_toArray, List.set_cons_zero, List.set_cons_succ]
  refine wpAnyH_take (i := 4) (v := ?vx5) rfl (by kernel_rfl) (by kernel_rfl) (by kernel_rfl) (fun _ _ _ h => h) (Or.inl ⟨by rfl, ?hyx5⟩) (by assumption) ?restx5
  case hyx5 => (intro w hSw; (try dsimp only at hSw); go_simp; (try (first | with_reducible rfl | rw [if_neg (by omega)])))
  try simp only [Act.put, List.getElem_toArray, List.getElem_cons_succ, List.getElem_cons_zero, List.setIfInBounds_toArray, List.set_cons_zero, List.set_cons_succ]
  refine wpAnyH_take (i := 5) (v := ?vx6) rfl (by kernel_rfl) (by kernel_rfl) (by kernel_rfl) (fun _ _ _ h => h) (Or.inl ⟨by rfl, ?hyx6⟩) (by assumption) ?restx6
  case hyx6 => (intro w hSw; (try dsimp only at hSw); go_simp; (try (first | with_reducible rfl | rw [if_neg (by omega)])))
  try simp only [Act.put, List.getElem_toArray, List.getElem_cons_succ, List.getElem_cons_zero, List.setIfInBounds_toArray, List.set_cons_zero, List.set_cons_succ]
  refine wpAnyH_take (i := 6) (v := ?vx7) rfl (by kernel_rfl) (by kernel_rfl) (by kernel_rfl) (fun _ _ _ h => h) (Or.inl ⟨by rfl, ?hyx7⟩) (by assumption) ?restx7
  case hyx7 => (intro w hSw; (try dsimp only at hSw); go_simp; (try (first | with_reducible rfl | rw [if_neg (by omega)])))
  try simp only [Act.put, List.getElem_toArray, List.getElem_cons_succ, List.getElem_cons_zero, List.setIfInBounds_toArray, List.set_cons_zero, List.set_cons_succ]
  refine wpAnyH_take (i := 7) (v := ?vx8) rfl (by kernel_rfl) (by kernel_rfl) (by kernel_rfl) (fun _ _ _ h => h) (Or.inl ⟨by rfl, ?hyx8⟩) (by assumption) ?restx8
  case hyx8 => (intro w hSw; (try dsimp only at hSw); go_simp; (try (first | with_reducible rfl | rw [if_neg (by omega)])))
  try simp only [Act.put, List.getElem_toArray, List.getElem_cons_succ, List.getElem_cons_zero, List.setIfInBounds_toArray, List.set_cons_zero, List.set_cons_succ]
  refine wpAnyH_take (i := 8) (v := ?vx9) rfl (by kernel_rfl) (by kernel_rfl) (by kernel_rfl) (fun _ _ _ h => h) (Or.inl ⟨by rfl, ?hyx9⟩) (by assumption) ?restx9
  case hyx9 => (intro w hSw; (try dsimp only at hSw); go_simp; (try (first | with_reducible rfl | rw [if_neg (by omega)])))
  try simp only [Act.put, List.getElem_toArray, List.getElem_cons_succ, List.getElem_cons_zero, List.setIfInBounds_toArray, List.set_cons_zero, List.set_cons_succ]
  refine wpAnyH_take (i := 9) (v := undef) rfl (by kernel_rfl) (by kernel_rfl) (by kernel_rfl) (fun _ _ _ h => h) (Or.inr ⟨by rfl, rfl⟩) (by assumption) ?_
  try simp only [Act.put, List.getElem_toArray, List.getElem_cons_succ, List.getElem_cons_zero, List.setIfInBounds_toArray, List.set_cons_zero, List.set_cons_succ]
  refine wpAnyH_take (i := 10) (v := undef) rfl (by kernel_rfl) (by kernel_rfl) (by kernel_rfl) (fun _ _ _ h => h) (Or.inr ⟨by rfl, rfl⟩) (by assumption) ?_
  try simp only [Act.put, List.getElem_toArray, List.getElem_cons_succ, List.getElem_cons_zero, List.setIfInBounds_toArray, List.set_cons_zero, List.set_cons_succ]
  refine wpAnyH_take (i := 11) (v := ?vx12) rfl (by kernel_rfl) (by kernel_rfl) (by kernel_rfl) (fun _ _ _ h => h) (Or.inl ⟨by rfl, ?hyx12⟩) (by assumption) ?restx12
  case hyx12 => (intro w hSw; (try dsimp only at hSw); go_simp; (try (first | with_reducible rfl | rw [if_neg (by omega)])))
  try simp only [Act.put, List.getElem_toArray, List.getElem_cons_succ, List.getElem_cons_zero, List.setIfInBounds_toArray, List.set_cons_zero, List.set_cons_succ]
  refine wpAnyH_ready (rs := [12]) (by kernel_rfl) (by simp) ?_
  refine AllReadyH.cons rfl (fun K hK => ?_) ?_
  · go_simp
    refine hK.out _ _ (by (try dsimp only); (with_reducible exact s8_of (keep8d _ _ _ _ _ _ _ _ _ _) hS)) (fun hHeld => ?_)
    clear hK K
    try simp only [Act.put, List.getElem_toArray, List.getElem_cons_succ, List.getElem_cons_zero, List.setIfInBounds_toArray, List.set_cons_zero, List.set_cons_succ]
    refine wpAnyH_take (i := 13) (v := ?vx13) rfl (by kernel_rfl) (by kernel_rfl) (by kernel_rfl) (fun _ _ _ h => h) (Or.inl ⟨by rfl, ?hyx13⟩) (by assumption) ?restx13
    case hyx13 => (intro w hSw; (try dsimp only at hSw); go_simp; (try (first | with_reducible rfl | rw [if_neg (by omega)])))
    try simp only [Act.put, List.getElem_toArray, List.getElem_cons_succ, List.getElem_cons_zero, List.setIfInBounds_toArray, List.set_cons_zero, List.set_cons_succ]
    refine wpAnyH_done (by kernel_rfl) ?_ _
    go_wp2
    (try simp only [Exit.inBlock, Exit.then])
    refine bodyPost_ret (v := .tuple #[evV ⟨8, u, ⟨#[]⟩, i, 0, 0, 0, ⟨#[]⟩⟩, .bool false]) (by simp [results, Tryz.results53, go_sem, evV, d0, d1, d2, d3, d4, d5, d6, d7]) rfl ⟨_, rfl, ?_, ?_⟩
    · exact (fun h => by cases h)
    · repeat (first | with_reducible exact RX.bel | with_reducible exact RF.bel | with_reducible refine Below.drew ?_ | with_reducible refine bset ?_ _ _ _ (Nat.le_refl _))
  exact AllReadyH.nil
set_option maxHeartbeats 4000000 in
set_option maxRecDepth 100000 in
theorem read_8_yes (s : ByteArray) (w : World) (hs : s.size ≤ 140737488351232) (h0 : 0 < s.size) (hk : (s[0]'h0).toNat = 8) (u : ByteArray) (m : Nat) (hu : u.size ≤ 140737488351232) (hm : m ≤ s.size) (HU : Hid (takeN s 1 = (u, (m : Int), 0))) (hlt : m < s.size) (i : Nat) (hi : (s[m]'hlt).toNat = i) (hq : (((m : Int) + 1) == (s.size : Int)) = true) (b : Bool) (HM : Hid (mayE8 8 u ⟨#[]⟩ i 0 0 0 ⟨#[]⟩ = b)) :
    Calls Tryz.prog 53 #[.string s] w (RdPost ⟨8, u, ⟨#[]⟩, i, zeroV⟩ b w) := by
  have HK : Hid (hasK 8 = 2) := by show _ = _; unfold hasK; simp
  have e1 : bits .and .i64 2 1 = 0 := by decide
  have e2 : bits .and .i64 2 2 = 2 := by decide
  have e4 : bits .and .i64 2 4 = 0 := by decide
  go_enter Tryz.func53, Tryz.ntmps53
  go_wp2_with fail
  refine (take_int s 0 (w.heap.size + 1) 0 (.int .i64 0) 8 _ hs h0 hk ((RW.start w).cell 0 _ rfl) ((RW.start w).free 0)).mono ?_
  rintro e W1 ⟨rfl, hW⟩
  have R1 : RW w #[.int .i64 8, .string ⟨#[]⟩, .string ⟨#[]⟩, .int .i64 0, .int .i64 0, .int .i64 0, .int .i64 0, .string ⟨#[]⟩] W1 := by rw [hW]; exact (RW.start w).set 0 _
  clear hW
  have c0 := R1.cell 0 (.int .i64 8) rfl
  have hz := R1.siz
  have hz' : w.heap.size < W1.heap.size := by omega
  have O0 : Own enJ 1 20 (W1.alloc (.cells #[fStr w 1] 20)) (w.heap.size + 2) (.slice (some ⟨W1.heap.size, 0, none⟩) 1 1) [fStr w 1] := Own.lit enJ_len W1 [fStr w 1] #[fStr w 1] 1 rfl rfl (by omega) (by omega)
  have Q0 := R1.alloc (.cells #[fStr w 1] 20)
  have hzz : (W1.alloc (.cells #[fStr w 1] 20)).heap.size = W1.heap.size + 1 := Array.size_push ..
  have HZZ := Lib.hid hzz
  clear hzz
  have zz : w.heap.size + 2 ≤ (W1.alloc (.cells #[fStr w 1] 20)).heap.size := by simp; omega
  go_wp2_with (first | (go_at_call 48; refine (has_is _ 2 _ HK).mono ?_; rintro e wh ⟨rfl, rfl⟩) | (at_builtin; refine Own.append (w0 := (W1.alloc (.cells #[fStr w 1] 20))) (w.heap.size + 2) rfl (.tmp 35) (.tmp 38) 139 20 .nilIface 1 16 rfl Tryz.underlying139 info_any rfl (by decide) (.slice (some ⟨W1.heap.size, 0, none⟩) 1 1) [fStr w 1] (fInt w 3) [fInt w 3] rfl (by rw [HZZ.out]; rfl) rfl rfl (by simp [Value.oneCell']) O0 (Below.refl _ _) zz (by simp) (by simp) ?_; intro v1 x1 O1 B1 _ _; have Q1 := Q0.belowB B1; have zz1 : w.heap.size + 2 ≤ x1.heap.size := Nat.le_trans zz B1.size; obtain ⟨ad, cc, hv⟩ := own_slice_n O1 2 rfl (by omega); subst hv))
  have OF : Own enJ 1 20 x1 (w.heap.size + 2) (.slice (some ad) 2 cc) [fStr w 1, fInt w 3] := O1
  have RF := Q1
  refine wp_loop_rounds 3 ?_
  rw [rounds_succ]
  have el0 : (x1).cell? ad = some (fStr w 1) := own_elem OF 0 (fStr w 1) rfl
  have el1 : (x1).cell? ⟨ad.block, ad.off + 1, none⟩ = some (fInt w 3) := own_elem OF 1 (fInt w 3) rfl
  go_wp2_with fail
  refine (take_str s 1 (w.heap.size + 1) 1 (.string ⟨#[]⟩) u (m : Int) 0 _ hs (RF.cell 1 _ rfl) (RF.free 1) (by have := RF.siz; omega) HU).mono ?_
  rintro e Y0 ⟨rfl, V0, bm, hW⟩
  have R' : RW w #[.int .i64 8, .string u, .string ⟨#[]⟩, .int .i64 0, .int .i64 0, .int .i64 0, .int .i64 0, .string ⟨#[]⟩] Y0 := by rw [hW]; exact (RF.below bm).set 1 _
  have O' := own_set (OF.below bm) 1 (.string u)
  rw [← hW] at O'
  clear hW bm
  clear RF OF el0 el1
  have RF := R'
  have OF := O'
  clear R' O'
  go_wp2_with fail
  rw [rounds_succ]
  have el0 : (Y0).cell? ad = some (fStr w 1) := own_elem OF 0 (fStr w 1) rfl
  have el1 : (Y0).cell? ⟨ad.block, ad.off + 1, none⟩ = some (fInt w 3) := own_elem OF 1 (fInt w 3) rfl
  go_wp2_with fail
  refine (take_int s m (w.heap.size + 1) 3 (.int .i64 0) i _ hs hlt hi (RF.cell 3 _ rfl) (RF.free 3)).mono ?_
  rintro e Y1 ⟨rfl, hW⟩
  have R' : RW w #[.int .i64 8, .string u, .string ⟨#[]⟩, .int .i64 i, .int .i64 0, .int .i64 0, .int .i64 0, .string ⟨#[]⟩] Y1 := by rw [hW]; exact RF.set 3 _
  have O' := own_set OF 3 (.int .i64 i)
  rw [← hW] at O'
  clear hW
  clear RF OF el0 el1
  have RF := R'
  have OF := O'
  clear R' O'
  go_wp2_with fail
  rw [rounds_succ]
  go_wp2_with fail
  have c0 := RF.cell 0 (.int .i64 8) rfl
  have c1 := RF.cell 1 (.string u) rfl
  have c2 := RF.cell 2 (.string ⟨#[]⟩) rfl
  have c3 := RF.cell 3 (.int .i64 i) rfl
  have c4 := RF.cell 4 (.int .i64 0) rfl
  have c5 := RF.cell 5 (.int .i64 0) rfl
  have c6 := RF.cell 6 (.int .i64 0) rfl
  have c7 := RF.cell 7 (.string ⟨#[]⟩) rfl
  have d0 := RF.cell0 0 (.int .i64 0) rfl
  have f0 := RF.free0 0
  have d1 := RF.cell0 1 (.string ⟨#[]⟩) rfl
  have f1 := RF.free0 1
  have d2 := RF.cell0 2 (.string ⟨#[]⟩) rfl
  have f2 := RF.free0 2
  have d3 := RF.cell0 3 (.int .i64 0) rfl
  have f3 := RF.free0 3
  have d4 := RF.cell0 4 (.int .i64 0) rfl
  have f4 := RF.free0 4
  have d5 := RF.cell0 5 (.int .i64 0) rfl
  have f5 := RF.free0 5
  have d6 := RF.cell0 6 (.int .i64 0) rfl
  have f6 := RF.free0 6
  have d7 := RF.cell0 7 (.string ⟨#[]⟩) rfl
  have f7 := RF.free0 7
  have hS : (Y1).cell? ⟨w.heap.size + 1, 0, none⟩ = some (.int .i64 8) ∧ (Y1).cell? ⟨w.heap.size + 1, 1, none⟩ = some (.string u) ∧ (Y1).cell? ⟨w.heap.size + 1, 2, none⟩ = some (.string ⟨#[]⟩) ∧ (Y1).cell? ⟨w.heap.size + 1, 3, none⟩ = some (.int .i64 i) ∧ (Y1).cell? ⟨w.heap.size + 1, 4, none⟩ = some (.int .i64 0) ∧ (Y1).cell? ⟨w.heap.size + 1, 5, none⟩ = some (.int .i64 0) ∧ (Y1).cell? ⟨w.heap.size + 1, 6, none⟩ = some (.int .i64 0) ∧ (Y1).cell? ⟨w.heap.size + 1, 7, none⟩ = some (.string ⟨#[]⟩) := ⟨c0, c1, c2, c3, c4, c5, c6, c7⟩
  have hyz : w.heap.size ≠ w.heap.size + 1 := by omega
  have hyy : w.heap.size + 1 ≠ w.heap.size := by omega
  refine wp_region_held_drew (S := (fun W => W.cell? ⟨w.heap.size + 1, 0, none⟩ = some (.int .i64 8) ∧ W.cell? ⟨w.heap.size + 1, 1, none⟩ = some (.string u) ∧ W.cell? ⟨w.heap.size + 1, 2, none⟩ = some (.string ⟨#[]⟩) ∧ W.cell? ⟨w.heap.size + 1, 3, none⟩ = some (.int .i64 i) ∧ W.cell? ⟨w.heap.size + 1, 4, none⟩ = some (.int .i64 0) ∧ W.cell? ⟨w.heap.size + 1, 5, none⟩ = some (.int .i64 0) ∧ W.cell? ⟨w.heap.size + 1, 6, none⟩ = some (.int .i64 0) ∧ W.cell? ⟨w.heap.size + 1, 7, none⟩ = some (.string ⟨#[]⟩))) (by kernel_rfl) hS (fun hHeld => ?_)
  refine wpAnyH_take (i := 0) (v := ?vx1) rfl (by kernel_rfl) (by kernel_rfl) (by kernel_rfl) (fun _ _ _ h => h) (Or.inl ⟨by rfl, ?hyx1⟩) (by assumption) ?restx1
  case hyx1 => (intro w hSw; (try dsimp only at hSw); go_simp; (try (first | with_reducible rfl | rw [if_neg (by omega)])))
  try simp only [Act.put, List.getElem_toArray, List.getElem_cons_succ, List.getElem_cons_zero, List.setIfInBounds_toArray, List.set_cons_zero, List.set_cons_succ]
  refine wpAnyH_take (i := 1) (v := ?vx2) rfl (by kernel_rfl) (by kernel_rfl) (by kernel_rfl) (fun _ _ _ h => h) (Or.inl ⟨by rfl, ?hyx2⟩) (by assumption) ?restx2
  case hyx2 => (intro w hSw; (try dsimp only at hSw); go_simp; (try (first | with_reducible rfl | rw [if_neg (by omega)])))
  try simp only [Act.put, List.getElem_toArray, List.getElem_cons_succ, List.getElem_cons_zero, List.setIfInBounds_toArray, List.set_cons_zero, List.set_cons_succ]
  refine wpAnyH_take (i := 2) (v := ?vx3) rfl (by kernel_rfl) (by kernel_rfl) (by kernel_rfl) (fun _ _ _ h => h) (Or.inl ⟨by rfl, ?hyx3⟩) (by assumption) ?restx3
  case hyx3 => (intro w hSw; (try dsimp only at hSw); go_simp; (try (first | with_reducible rfl | rw [if_neg (by omega)])))
  try simp only [Act.put, List.getElem_toArray, List.getElem_cons_succ, List.getElem_cons_zero, List.setIfInBounds_toArray, List.set_cons_zero, List.set_cons_succ]
  refine wpAnyH_take (i := 3) (v := ?vx4) rfl (by kernel_rfl) (by kernel_rfl) (by kernel_rfl) (fun _ _ _ h => h) (Or.inl ⟨by rfl, ?hyx4⟩) (by assumption) ?restx4
  case hyx4 => (intro w hSw; (try dsimp only at hSw); go_simp; (try (first | with_reducible rfl | rw [if_neg (by omega)])))
  try simp only [Act.put, List.getElem_toArray, List.getElem_cons_succ, List.getElem_cons_zero, List.setIfInBounds_toArray, List.set_cons_zero, List.set_cons_succ]
  refine wpAnyH_take (i := 4) (v := ?vx5) rfl (by kernel_rfl) (by kernel_rfl) (by kernel_rfl) (fun _ _ _ h => h) (Or.inl ⟨by rfl, ?hyx5⟩) (by assumption) ?restx5
  case hyx5 => (intro w hSw; (try dsimp only at hSw); go_simp; (try (first | with_reducible rfl | rw [if_neg (by omega)])))
  try simp only [Act.put, List.getElem_toArray, List.getElem_cons_succ, List.getElem_cons_zero, List.setIfInBounds_toArray, List.set_cons_zero, List.set_cons_succ]
  refine wpAnyH_take (i := 5) (v := ?vx6) rfl (by kernel_rfl) (by kernel_rfl) (by kernel_rfl) (fun _ _ _ h => h) (Or.inl ⟨by rfl, ?hyx6⟩) (by assumption) ?restx6
  case hyx6 => (intro w hSw; (try dsimp only at hSw); go_simp; (try (first | with_reducible rfl | rw [if_neg (by omega)])))
  try simp only [Act.put, List.getElem_toArray, List.getElem_cons_succ, List.getElem_cons_zero, List.setIfInBounds_toArray, List.set_cons_zero, List.set_cons_succ]
  refine wpAnyH_take (i := 6) (v := ?vx7) rfl (by kernel_rfl) (by kernel_rfl) (by kernel_rfl) (fun _ _ _ h => h) (Or.inl ⟨by rfl, ?hyx7⟩) (by assumption) ?restx7
  case hyx7 => (intro w hSw; (try dsimp only at hSw); go_simp; (try (first | with_reducible rfl | rw [if_neg (by omega)])))
  try simp only [Act.put, List.getElem_toArray, List.getElem_cons_succ, List.getElem_cons_zero, List.setIfInBounds_toArray, List.set_cons_zero, List.set_cons_succ]
  refine wpAnyH_take (i := 7) (v := ?vx8) rfl (by kernel_rfl) (by kernel_rfl) (by kernel_rfl) (fun _ _ _ h => h) (Or.inl ⟨by rfl, ?hyx8⟩) (by assumption) ?restx8
  case hyx8 => (intro w hSw; (try dsimp only at hSw); go_simp; (try (first | with_reducible rfl | rw [if_neg (by omega)])))
  try simp only [Act.put, List.getElem_toArray, List.getElem_cons_succ, List.getElem_cons_zero, List.setIfInBounds_toArray, List.set_cons_zero, List.set_cons_succ]
  refine wpAnyH_take (i := 8) (v := ?vx9) rfl (by kernel_rfl) (by kernel_rfl) (by kernel_rfl) (fun _ _ _ h => h) (Or.inl ⟨by rfl, ?hyx9⟩) (by assumption) ?restx9
  case hyx9 => (intro w hSw; (try dsimp only at hSw); go_simp; (try (first | with_reducible rfl | rw [if_neg (by omega)])))
  try simp only [Act.put, List.getElem_toArray, List.getElem_cons_succ, List.getElem_cons_zero, List.setIfInBounds_toArray, List.set_cons_zero, List.set_cons_succ]
  refine wpAnyH_take (i := 9) (v := ?vx10) rfl (by kernel_rfl) (by kernel_rfl) (by kernel_rfl) (fun _ _ _ h => h) (Or.inl ⟨by rfl, ?hyx10⟩) (by assumption) ?restx10
  case hyx10 => (intro w hSw; (try dsimp only at hSw); go_simp; (try (first | with_reducible rfl | rw [if_neg (by omega)])))
  try simp only [Act.put, List.getElem_toArray, List.getElem_cons_succ, List.getElem_cons_zero, List.setIfInBounds_toArray, List.set_cons_zero, List.set_cons_succ]
  refine wpAnyH_ready (rs := [10]) (by kernel_rfl) (by simp) ?_
  refine AllReadyH.cons rfl (fun K hK => ?_) ?_
  · go_simp
    go_at_call 43
    refine (re_ (mayE_calls (8) (u) (⟨#[]⟩) (i) (0) (0) (0) (⟨#[]⟩) _ (by omega) (by first | omega | decide) (by first | omega | decide)) (ret_bool HM.out)).mono ?_
    rintro e wx ⟨rfl, hbx⟩
    have hbx := undrew hbx
    have RX := RF.below hbx
    have p0 := RX.cell 0 (.int .i64 8) rfl
    have p1 := RX.cell 1 (.string u) rfl
    have p2 := RX.cell 2 (.string ⟨#[]⟩) rfl
    have p3 := RX.cell 3 (.int .i64 i) rfl
    have p4 := RX.cell 4 (.int .i64 0) rfl
    have p5 := RX.cell 5 (.int .i64 0) rfl
    have p6 := RX.cell 6 (.int .i64 0) rfl
    have p7 := RX.cell 7 (.string ⟨#[]⟩) rfl
    have q0 := RX.cell0 0 (.int .i64 0) rfl
    have q1 := RX.cell0 1 (.string ⟨#[]⟩) rfl
    have q2 := RX.cell0 2 (.string ⟨#[]⟩) rfl
    have q3 := RX.cell0 3 (.int .i64 0) rfl
    have q4 := RX.cell0 4 (.int .i64 0) rfl
    have q5 := RX.cell0 5 (.int .i64 0) rfl
    have q6 := RX.cell0 6 (.int .i64 0) rfl
    have q7 := RX.cell0 7 (.string ⟨#[]⟩) rfl
    have g0 := RX.free0 0
    have g1 := RX.free0 1
    have g2 := RX.free0 2
    have g3 := RX.free0 3
    have g4 := RX.free0 4
    have g5 := RX.free0 5
    have g6 := RX.free0 6
    have g7 := RX.free0 7
    have hSx : wx.cell? ⟨w.heap.size + 1, 0, none⟩ = some (.int .i64 8) ∧ wx.cell? ⟨w.heap.size + 1, 1, none⟩ = some (.string u) ∧ wx.cell? ⟨w.heap.size + 1, 2, none⟩ = some (.string ⟨#[]⟩) ∧ wx.cell? ⟨w.heap.size + 1, 3, none⟩ = some (.int .i64 i) ∧ wx.cell? ⟨w.heap.size + 1, 4, none⟩ = some (.int .i64 0) ∧ wx.cell? ⟨w.heap.size + 1, 5, none⟩ = some (.int .i64 0) ∧ wx.cell? ⟨w.heap.size + 1, 6, none⟩ = some (.int .i64 0) ∧ wx.cell? ⟨w.heap.size + 1, 7, none⟩ = some (.string ⟨#[]⟩) := ⟨p0, p1, p2, p3, p4, p5, p6, p7⟩
    refine hK.out _ _ (by (try dsimp only); (first | with_reducible exact hSx | with_reducible exact s8_of (keep8 _ _ _ _ _ _ _ _ _ _) hSx)) (fun hHeld => ?_)
    clear hK K
    try simp only [Act.put, List.getElem_toArray, List.getElem_cons_succ, List.getElem_cons_zero, List.setIfInBounds_toArray, List.set_cons_zero, List.set_cons_succ]
    refine wpAnyH_take (i := 11) (v := ?vx11) rfl (by kernel_rfl) (by kernel_rfl) (by kernel_rfl) (fun _ _ _ h => h) (Or.inl ⟨by rfl, ?hyx11⟩) (by assumption) ?restx11
    case hyx11 => (intro w hSw; (try dsimp only at hSw); go_simp; (try (first | with_reducible rfl | rw [if_neg (by omega)])))
    try simp only [Act.put, List.getElem_toArray, List.getElem_cons_succ, List.getElem_cons_zero, List.setIfInBounds_toArray, List.set_cons_zero, List.set_cons_succ]
    refine wpAnyH_ready (rs := [12]) (by kernel_rfl) (by simp) ?_
    refine AllReadyH.cons rfl (fun K hK => ?_) ?_
    · go_simp
      refine hK.out _ _ (by (try dsimp only); (first | with_reducible exact hSx | with_reducible exact s8_of (keep8 _ _ _ _ _ _ _ _ _ _) hSx)) (fun hHeld => ?_)
      clear hK K
      try simp only [Act.put, List.getElem_toArray, List.getElem_cons_succ, List.getElem_cons_zero, List.setIfInBounds_toArray, List.set_cons_zero, List.set_cons_succ]
      refine wpAnyH_take (i := 13) (v := ?vx12) rfl (by kernel_rfl) (by kernel_rfl) (by kernel_rfl) (fun _ _ _ h => h) (Or.inl ⟨by rfl, ?hyx12⟩) (by assumption) ?restx12
      case hyx12 => (intro w hSw; (try dsimp only at hSw); go_simp; (try (first | with_reducible rfl | rw [if_neg (by omega)])))
      try simp only [Act.put, List.getElem_toArray, List.getElem_cons_succ, List.getElem_cons_zero, List.setIfInBounds_toArray, List.set_cons_zero, List.set_cons_succ]
      refine wpAnyH_done (by kernel_rfl) ?_ _
      go_wp2
      (try simp only [Exit.inBlock, Exit.then])
      refine bodyPost_ret (v := .tuple #[evV ⟨8, u, ⟨#[]⟩, i, 0, 0, 0, ⟨#[]⟩⟩, .bool b]) (by simp [results, Tryz.results53, go_sem, evV, q0, q1, q2, q3, q4, q5, q6, q7]) rfl ⟨_, rfl, ?_, ?_⟩
      · exact (fun _ => rfl)
      · repeat (first | with_reducible exact RX.bel | with_reducible exact RF.bel | with_reducible refine Below.drew ?_ | with_reducible refine bset ?_ _ _ _ (Nat.le_refl _))
    exact AllReadyH.nil
  exact AllReadyH.nil
set_option maxHeartbeats 4000000 in
set_option maxRecDepth 100000 in
theorem read_0_ne (s : ByteArray) (w : World) (hs : s.size ≤ 140737488351232) (h0 : 0 < s.size) (k : Nat) (hk : (s[0]'h0).toNat = k) (k0 : k = 0 ∨ 8 < k) (u : ByteArray) (m : Nat) (hu : u.size ≤ 140737488351232) (hm : m ≤ s.size) (HU : Hid (takeN s 1 = (u, (m : Int), 0))) (hne : ((m : Int) == (s.size : Int)) = false) (ev : Ev) :
    Calls Tryz.prog 53 #[.string s] w (RdPost ev false w) := by
  have HK : Hid (hasK (k : Int) = 0) := by show _ = _; unfold hasK; rw [if_neg (by omega), if_neg (by omega), if_neg (by omega)]
  have e1 : bits .and .i64 0 1 = 0 := by decide
  have e2 : bits .and .i64 0 2 = 0 := by decide
  have e4 : bits .and .i64 0 4 = 0 := by decide
  go_enter Tryz.func53, Tryz.ntmps53
  go_wp2_with fail
  refine (take_int s 0 (w.heap.size + 1) 0 (.int .i64 0) k _ hs h0 hk ((RW.start w).cell 0 _ rfl) ((RW.start w).free 0)).mono ?_
  rintro e W1 ⟨rfl, hW⟩
  have R1 : RW w #[.int .i64 k, .string ⟨#[]⟩, .string ⟨#[]⟩, .int .i64 0, .int .i64 0, .int .i64 0, .int .i64 0, .string ⟨#[]⟩] W1 := by rw [hW]; exact (RW.start w).set 0 _
  clear hW
  have c0 := R1.cell 0 (.int .i64 k) rfl
  have hz := R1.siz
  have hz' : w.heap.size < W1.heap.size := by omega
  have O0 : Own enJ 1 20 (W1.alloc (.cells #[fStr w 1] 20)) (w.heap.size + 2) (.slice (some ⟨W1.heap.size, 0, none⟩) 1 1) [fStr w 1] := Own.lit enJ_len W1 [fStr w 1] #[fStr w 1] 1 rfl rfl (by omega) (by omega)
  have Q0 := R1.alloc (.cells #[fStr w 1] 20)
  have hzz : (W1.alloc (.cells #[fStr w 1] 20)).heap.size = W1.heap.size + 1 := Array.size_push ..
  have HZZ := Lib.hid hzz
  clear hzz
  have zz : w.heap.size + 2 ≤ (W1.alloc (.cells #[fStr w 1] 20)).heap.size := by simp; omega
  go_wp2_with (first | (go_at_call 48; refine (has_is _ 0 _ HK).mono ?_; rintro e wh ⟨rfl, rfl⟩))
  have OF := O0
  have RF := Q0
  refine wp_loop_rounds 2 ?_
  rw [rounds_succ]
  have el0 : _ = _ := own_elem OF 0 (fStr w 1) rfl
  go_wp2_with fail
  refine (take_str s 1 (w.heap.size + 1) 1 (.string ⟨#[]⟩) u (m : Int) 0 _ hs (RF.cell 1 _ rfl) (RF.free 1) (by have := RF.siz; omega) HU).mono ?_
  rintro e Y0 ⟨rfl, V0, bm, hW⟩
  have R' : RW w #[.int .i64 k, .string u, .string ⟨#[]⟩, .int .i64 0, .int .i64 0, .int .i64 0, .int .i64 0, .string ⟨#[]⟩] Y0 := by rw [hW]; exact (RF.below bm).set 1 _
  have O' := own_set (OF.below bm) 1 (.string u)
  rw [← hW] at O'
  clear hW bm
  clear RF OF el0
  have RF := R'
  have OF := O'
  clear R' O'
  go_wp2_with fail
  rw [rounds_succ]
  go_wp2_with fail
  have c0 := RF.cell 0 (.int .i64 k) rfl
  have c1 := RF.cell 1 (.string u) rfl
  have c2 := RF.cell 2 (.string ⟨#[]⟩) rfl
  have c3 := RF.cell 3 (.int .i64 0) rfl
  have c4 := RF.cell 4 (.int .i64 0) rfl
  have c5 := RF.cell 5 (.int .i64 0) rfl
  have c6 := RF.cell 6 (.int .i64 0) rfl
  have c7 := RF.cell 7 (.string ⟨#[]⟩) rfl
  have d0 := RF.cell0 0 (.int .i64 0) rfl
  have f0 := RF.free0 0
  have d1 := RF.cell0 1 (.string ⟨#[]⟩) rfl
  have f1 := RF.free0 1
  have d2 := RF.cell0 2 (.string ⟨#[]⟩) rfl
  have f2 := RF.free0 2
  have d3 := RF.cell0 3 (.int .i64 0) rfl
  have f3 := RF.free0 3
  have d4 := RF.cell0 4 (.int .i64 0) rfl
  have f4 := RF.free0 4
  have d5 := RF.cell0 5 (.int .i64 0) rfl
  have f5 := RF.free0 5
  have d6 := RF.cell0 6 (.int .i64 0) rfl
  have f6 := RF.free0 6
  have d7 := RF.cell0 7 (.string ⟨#[]⟩) rfl
  have f7 := RF.free0 7
  have hS : (Y0).cell? ⟨w.heap.size + 1, 0, none⟩ = some (.int .i64 k) ∧ (Y0).cell? ⟨w.heap.size + 1, 1, none⟩ = some (.string u) ∧ (Y0).cell? ⟨w.heap.size + 1, 2, none⟩ = some (.string ⟨#[]⟩) ∧ (Y0).cell? ⟨w.heap.size + 1, 3, none⟩ = some (.int .i64 0) ∧ (Y0).cell? ⟨w.heap.size + 1, 4, none⟩ = some (.int .i64 0) ∧ (Y0).cell? ⟨w.heap.size + 1, 5, none⟩ = some (.int .i64 0) ∧ (Y0).cell? ⟨w.heap.size + 1, 6, none⟩ = some (.int .i64 0) ∧ (Y0).cell? ⟨w.heap.size + 1, 7, none⟩ = some (.string ⟨#[]⟩) := ⟨c0, c1, c2, c3, c4, c5, c6, c7⟩
  have hyz : w.heap.size ≠ w.heap.size + 1 := by omega
  have hyy : w.heap.size + 1 ≠ w.heap.size := by omega
  refine wp_region_held_drew (S := (fun W => W.cell? ⟨w.heap.size + 1, 0, none⟩ = some (.int .i64 k) ∧ W.cell? ⟨w.heap.size + 1, 1, none⟩ = some (.string u) ∧ W.cell? ⟨w.heap.size + 1, 2, none⟩ = some (.string ⟨#[]⟩) ∧ W.cell? ⟨w.heap.size + 1, 3, none⟩ = some (.int .i64 0) ∧ W.cell? ⟨w.heap.size + 1, 4, none⟩ = some (.int .i64 0) ∧ W.cell? ⟨w.heap.size + 1, 5, none⟩ = some (.int .i64 0) ∧ W.cell? ⟨w.heap.size + 1, 6, none⟩ = some (.int .i64 0) ∧ W.cell? ⟨w.heap.size + 1, 7, none⟩ = some (.string ⟨#[]⟩))) (by kernel_rfl) hS (fun hHeld => ?_)
  refine wpAnyH_take (i := 0) (v := ?vx1) rfl (by kernel_rfl) (by kernel_rfl) (by kernel_rfl) (fun _ _ _ h => h) (Or.inl ⟨by rfl, ?hyx1⟩) (by assumption) ?restx1
  case hyx1 => (intro w hSw; (try dsimp only at hSw); go_simp; (try (first | with_reducible rfl | rw [if_neg (by omega)])))
  try simp only [Act.put, List.getElem_toArray, List.getElem_cons_succ, List.getElem_cons_zero, List.setIfInBounds_toArray, List.set_cons_zero, List.set_cons_succ]
  refine wpAnyH_take (i := 1) (v := ?vx2) rfl (by kernel_rfl) (by kernel_rfl) (by kernel_rfl) (fun _ _ _ h => h) (Or.inl ⟨by rfl, ?hyx2⟩) (by assumption) ?restx2
  case hyx2 => (intro w hSw; (try dsimp only at hSw); go_simp; (try (first | with_reducible rfl | rw [if_neg (by omega)])))
  try simp only [Act.put, List.getElem_toArray, List.getElem_cons_succ, List.getElem_cons_zero, List.setIfInBounds_toArray, List.set_cons_zero, List.set_cons_succ]
  refine wpAnyH_take (i := 2) (v := ?vx3) rfl (by kernel_rfl) (by kernel_rfl) (by kernel_rfl) (fun _ _ _ h => h) (Or.inl ⟨by rfl, ?hyx3⟩) (by assumption) ?restx3
  case hyx3 => (intro w hSw; (try dsimp only at hSw); go_simp; (try (first | with_reducible rfl | rw [if_neg (by omega)])))
  try simp only [Act.put, List.getElem_toArray, List.getElem_cons_succ, List.getElem_cons_zero, List.setIfInBounds_toArray, List.set_cons_zero, List.set_cons_succ]
  refine wpAnyH_take (i := 3) (v := ?vx4) rfl (by kernel_rfl) (by kernel_rfl) (by kernel_rfl) (fun _ _ _ h => h) (Or.inl ⟨by rfl, ?hyx4⟩) (by assumption) ?restx4
  case hyx4 => (intro w hSw; (try dsimp only at hSw); go_simp; (try (first | with_reducible rfl | rw [if_neg (by omega)])))
  try simp only [Act.put, List.getElem_toArray, List.getElem_cons_succ, List.getElem_cons_zero, List.setIfInBounds_toArray, List.set_cons_zero, List.set_cons_succ]
  refine wpAnyH_take (i := 4) (v := ?vx5) rfl (by kernel_rfl) (by kernel_rfl) (by kernel_rfl) (fun _ _ _ h => h) (Or.inl ⟨by rfl, ?hyx5⟩) (by assumption) ?restx5
  case hyx5 => (intro w hSw; (try dsimp only at hSw); go_simp; (try (first | with_reducible rfl | rw [if_neg (by omega)])))
  try simp only [Act.put, List.getElem_toArray, List.getElem_cons_succ, List.getElem_cons_zero, List.setIfInBounds_toArray, List.set_cons_zero, List.set_cons_succ]
  refine wpAnyH_take (i := 5) (v := ?vx6) rfl (by kernel_rfl) (by kernel_rfl) (by kernel_rfl) (fun _ _ _ h => h) (Or.inl ⟨by rfl, ?hyx6⟩) (by assumption) ?restx6
  case hyx6 => (intro w hSw; (try dsimp only at hSw); go_simp; (try (first | with_reducible rfl | rw [if_neg (by omega)])))
  try simp only [Act.put, List.getElem_toArray, List.getElem_cons_succ, List.getElem_cons_zero, List.setIfInBounds_toArray, List.set_cons_zero, List.set_cons_succ]
  refine wpAnyH_take (i := 6) (v := ?vx7) rfl (by kernel_rfl) (by kernel_rfl) (by kernel_rfl) (fun _ _ _ h => h) (Or.inl ⟨by rfl, ?hyx7⟩) (by assumption) ?restx7
  case hyx7 => (intro w hSw; (try dsimp only at hSw); go_simp; (try (first | with_reducible rfl | rw [if_neg (by omega)])))
  try simp only [Act.put, List.getElem_toArray, List.getElem_cons_succ, List.getElem_cons_zero, List.setIfInBounds_toArray, List.set_cons_zero, List.set_cons_succ]
  refine wpAnyH_take (i := 7) (v := ?vx8) rfl (by kernel_rfl) (by kernel_rfl) (by kernel_rfl) (fun _ _ _ h => h) (Or.inl ⟨by rfl, ?hyx8⟩) (by assumption) ?restx8
  case hyx8 => (intro w hSw; (try dsimp only at hSw); go_simp; (try (first | with_reducible rfl | rw [if_neg (by omega)])))
  try simp only [Act.put, List.getElem_toArray, List.getElem_cons_succ, List.getElem_cons_zero, List.setIfInBounds_toArray, List.set_cons_zero, List.set_cons_succ]
  refine wpAnyH_take (i := 8) (v := ?vx9) rfl (by kernel_rfl) (by kernel_rfl) (by kernel_rfl) (fun _ _ _ h => h) (Or.inl ⟨by rfl, ?hyx9⟩) (by assumption) ?restx9
  case hyx9 => (intro w hSw; (try dsimp only at hSw); go_simp; (try (first | with_reducible rfl | rw [if_neg (by omega)])))
  try simp only [Act.put, List.getElem_toArray, List.getElem_cons_succ, List.getElem_cons_zero, List.setIfInBounds_toArray, List.set_cons_zero, List.set_cons_succ]
  refine wpAnyH_take (i := 9) (v := undef) rfl (by kernel_rfl) (by kernel_rfl) (by kernel_rfl) (fun _ _ _ h => h) (Or.inr ⟨by rfl, rfl⟩) (by assumption) ?_
  try simp only [Act.put, List.getElem_toArray, List.getElem_cons_succ, List.getElem_cons_zero, List.setIfInBounds_toArray, List.set_cons_zero, List.set_cons_succ]
  refine wpAnyH_take (i := 10) (v := undef) rfl (by kernel_rfl) (by kernel_rfl) (by kernel_rfl) (fun _ _ _ h => h) (Or.inr ⟨by rfl, rfl⟩) (by assumption) ?_
  try simp only [Act.put, List.getElem_toArray, List.getElem_cons_succ, List.getElem_cons_zero, List.setIfInBounds_toArray, List.set_cons_zero, List.set_cons_succ]
  refine wpAnyH_take (i := 11) (v := ?vx12) rfl (by kernel_rfl) (by kernel_rfl) (by kernel_rfl) (fun _ _ _ h => h) (Or.inl ⟨by rfl, ?hyx12⟩) (by assumption) ?restx12
  case hyx12 => (intro w hSw; (try dsimp only at hSw); go_simp; (try (first | with_reducible rfl | rw [if_neg (by omega)])))
  try simp only [Act.put, List.getElem_toArray, List.getElem_cons_succ, List.getElem_cons_zero, List.setIfInBounds_toArray, List.set_cons_zero, List.set_cons_succ]
  refine wpAnyH_ready (rs := [12]) (by kernel_rfl) (by simp) ?_
  refine AllReadyH.cons rfl (fun K hK => ?_) ?_
  · go_simp
    refine hK.out _ _ (by (try dsimp only); (with_reducible exact s8_of (keep8d _ _ _ _ _ _ _ _ _ _) hS)) (fun hHeld => ?_)
    clear hK K
    try simp only [Act.put, List.getElem_toArray, List.getElem_cons_succ, List.getElem_cons_zero, List.setIfInBounds_toArray, List.set_cons_zero, List.set_cons_succ]
    refine wpAnyH_take (i := 13) (v := ?vx13) rfl (by kernel_rfl) (by kernel_rfl) (by kernel_rfl) (fun _ _ _ h => h) (Or.inl ⟨by rfl, ?hyx13⟩) (by assumption) ?restx13
    case hyx13 => (intro w hSw; (try dsimp only at hSw); go_simp; (try (first | with_reducible rfl | rw [if_neg (by omega)])))
    try simp only [Act.put, List.getElem_toArray, List.getElem_cons_succ, List.getElem_cons_zero, List.setIfInBounds_toArray, List.set_cons_zero, List.set_cons_succ]
    refine wpAnyH_done (by kernel_rfl) ?_ _
    go_wp2
    (try simp only [Exit.inBlock, Exit.then])
    refine bodyPost_ret (v := .tuple #[evV ⟨k, u, ⟨#[]⟩, 0, 0, 0, 0, ⟨#[]⟩⟩, .bool false]) (by simp [results, Tryz.results53, go_sem, evV, d0, d1, d2, d3, d4, d5, d6, d7]) rfl ⟨_, rfl, ?_, ?_⟩
    · exact (fun h => by cases h)
    · repeat (first | with_reducible exact RX.bel | with_reducible exact RF.bel | with_reducible refine Below.drew ?_ | with_reducible refine bset ?_ _ _ _ (Nat.le_refl _))
  exact AllReadyH.nil
set_option maxHeartbeats 4000000 in
set_option maxRecDepth 100000 in
theorem read_0_yes (s : ByteArray) (w : World) (hs : s.size ≤ 140737488351232) (h0 : 0 < s.size) (k : Nat) (hk : (s[0]'h0).toNat = k) (k0 : k = 0 ∨ 8 < k) (u : ByteArray) (m : Nat) (hu : u.size ≤ 140737488351232) (hm : m ≤ s.size) (HU : Hid (takeN s 1 = (u, (m : Int), 0))) (hq : ((m : Int) == (s.size : Int)) = true) (ev : Ev) (HM : Hid (mayE8 k u ⟨#[]⟩ 0 0 0 0 ⟨#[]⟩ = false)) :
    Calls Tryz.prog 53 #[.string s] w (RdPost ev false w) := by
  have HK : Hid (hasK (k : Int) = 0) := by show _ = _; unfold hasK; rw [if_neg (by omega), if_neg (by omega), if_neg (by omega)]
  have e1 : bits .and .i64 0 1 = 0 := by decide
  have e2 : bits .and .i64 0 2 = 0 := by decide
  have e4 : bits .and .i64 0 4 = 0 := by decide
  go_enter Tryz.func53, Tryz.ntmps53
  go_wp2_with fail
  refine (take_int s 0 (w.heap.size + 1) 0 (.int .i64 0) k _ hs h0 hk ((RW.start w).cell 0 _ rfl) ((RW.start w).free 0)).mono ?_
  rintro e W1 ⟨rfl, hW⟩
  have R1 : RW w #[.int .i64 k, .string ⟨#[]⟩, .string ⟨#[]⟩, .int .i64 0, .int .i64 0, .int .i64 0, .int .i64 0, .string ⟨#[]⟩] W1 := by rw [hW]; exact (RW.start w).set 0 _
  clear hW
  have c0 := R1.cell 0 (.int .i64 k) rfl
  have hz := R1.siz
  have hz' : w.heap.size < W1.heap.size := by omega
  have O0 : Own enJ 1 20 (W1.alloc (.cells #[fStr w 1] 20)) (w.heap.size + 2) (.slice (some ⟨W1.heap.size, 0, none⟩) 1 1) [fStr w 1] := Own.lit enJ_len W1 [fStr w 1] #[fStr w 1] 1 rfl rfl (by omega) (by omega)
  have Q0 := R1.alloc (.cells #[fStr w 1] 20)
  have hzz : (W1.alloc (.cells #[fStr w 1] 20)).heap.size = W1.heap.size + 1 := Array.size_push ..
  have HZZ := Lib.hid hzz
  clear hzz
  have zz : w.heap.size + 2 ≤ (W1.alloc (.cells #[fStr w 1] 20)).heap.size := by simp; omega
  go_wp2_with (first | (go_at_call 48; refine (has_is _ 0 _ HK).mono ?_; rintro e wh ⟨rfl, rfl⟩))
  have OF := O0
  have RF := Q0
  refine wp_loop_rounds 2 ?_
  rw [rounds_succ]
  have el0 : _ = _ := own_elem OF 0 (fStr w 1) rfl
  go_wp2_with fail
  refine (take_str s 1 (w.heap.size + 1) 1 (.string ⟨#[]⟩) u (m : Int) 0 _ hs (RF.cell 1 _ rfl) (RF.free 1) (by have := RF.siz; omega) HU).mono ?_
  rintro e Y0 ⟨rfl, V0, bm, hW⟩
  have R' : RW w #[.int .i64 k, .string u, .string ⟨#[]⟩, .int .i64 0, .int .i64 0, .int .i64 0, .int .i64 0, .string ⟨#[]⟩] Y0 := by rw [hW]; exact (RF.below bm).set 1 _
  have O' := own_set (OF.below bm) 1 (.string u)
  rw [← hW] at O'
  clear hW bm
  clear RF OF el0
  have RF := R'
  have OF := O'
  clear R' O'
  go_wp2_with fail
  rw [rounds_succ]
  go_wp2_with fail
  have c0 := RF.cell 0 (.int .i64 k) rfl
  have c1 := RF.cell 1 (.string u) rfl
  have c2 := RF.cell 2 (.string ⟨#[]⟩) rfl
  have c3 := RF.cell 3 (.int .i64 0) rfl
  have c4 := RF.cell 4 (.int .i64 0) rfl
  have c5 := RF.cell 5 (.int .i64 0) rfl
  have c6 := RF.cell 6 (.int .i64 0) rfl
  have c7 := RF.cell 7 (.string ⟨#[]⟩) rfl
  have d0 := RF.cell0 0 (.int .i64 0) rfl
  have f0 := RF.free0 0
  have d1 := RF.cell0 1 (.string ⟨#[]⟩) rfl
  have f1 := RF.free0 1
  have d2 := RF.cell0 2 (.string ⟨#[]⟩) rfl
  have f2 := RF.free0 2
  have d3 := RF.cell0 3 (.int .i64 0) rfl
  have f3 := RF.free0 3
  have d4 := RF.cell0 4 (.int .i64 0) rfl
  have f4 := RF.free0 4
  have d5 := RF.cell0 5 (.int .i64 0) rfl
  have f5 := RF.free0 5
  have d6 := RF.cell0 6 (.int .i64 0) rfl
  have f6 := RF.free0 6
  have d7 := RF.cell0 7 (.string ⟨#[]⟩) rfl
  have f7 := RF.free0 7
  have hS : (Y0).cell? ⟨w.heap.size + 1, 0, none⟩ = some (.int .i64 k) ∧ (Y0).cell? ⟨w.heap.size + 1, 1, none⟩ = some (.string u) ∧ (Y0).cell? ⟨w.heap.size + 1, 2, none⟩ = some (.string ⟨#[]⟩) ∧ (Y0).cell? ⟨w.heap.size + 1, 3, none⟩ = some (.int .i64 0) ∧ (Y0).cell? ⟨w.heap.size + 1, 4, none⟩ = some (.int .i64 0) ∧ (Y0).cell? ⟨w.heap.size + 1, 5, none⟩ = some (.int .i64 0) ∧ (Y0).cell? ⟨w.heap.size + 1, 6, none⟩ = some (.int .i64 0) ∧ (Y0).cell? ⟨w.heap.size + 1, 7, none⟩ = some (.string ⟨#[]⟩) := ⟨c0, c1, c2, c3, c4, c5, c6, c7⟩
  have hyz : w.heap.size ≠ w.heap.size + 1 := by omega
  have hyy : w.heap.size + 1 ≠ w.heap.size := by omega
  refine wp_region_held_drew (S := (fun W => W.cell? ⟨w.heap.size + 1, 0, none⟩ = some (.int .i64 k) ∧ W.cell? ⟨w.heap.size + 1, 1, none⟩ = some (.string u) ∧ W.cell? ⟨w.heap.size + 1, 2, none⟩ = some (.string ⟨#[]⟩) ∧ W.cell? ⟨w.heap.size + 1, 3, none⟩ = some (.int .i64 0) ∧ W.cell? ⟨w.heap.size + 1, 4, none⟩ = some (.int .i64 0) ∧ W.cell? ⟨w.heap.size + 1, 5, none⟩ = some (.int .i64 0) ∧ W.cell? ⟨w.heap.size + 1, 6, none⟩ = some (.int .i64 0) ∧ W.cell? ⟨w.heap.size + 1, 7, none⟩ = some (.string ⟨#[]⟩))) (by kernel_rfl) hS (fun hHeld => ?_)
  refine wpAnyH_take (i := 0) (v := ?vx1) rfl (by kernel_rfl) (by kernel_rfl) (by kernel_rfl) (fun _ _ _ h => h) (Or.inl ⟨by rfl, ?hyx1⟩) (by assumption) ?restx1
  case hyx1 => (intro w hSw; (try dsimp only at hSw); go_simp; (try (first | with_reducible rfl | rw [if_neg (by omega)])))
  try simp only [Act.put, List.getElem_toArray, List.getElem_cons_succ, List.getElem_cons_zero, List.setIfInBounds_toArray, List.set_cons_zero, List.set_cons_succ]
  refine wpAnyH_take (i := 1) (v := ?vx2) rfl (by kernel_rfl) (by kernel_rfl) (by kernel_rfl) (fun _ _ _ h => h) (Or.inl ⟨by rfl, ?hyx2⟩) (by assumption) ?restx2
  case hyx2 => (intro w hSw; (try dsimp only at hSw); go_simp; (try (first | with_reducible rfl | rw [if_neg (by omega)])))
  try simp only [Act.put, List.getElem_toArray, List.getElem_cons_succ, List.getElem_cons_zero, List.setIfInBounds_toArray, List.set_cons_zero, List.set_cons_succ]
  refine wpAnyH_take (i := 2) (v := ?vx3) rfl (by kernel_rfl) (by kernel_rfl) (by kernel_rfl) (fun _ _ _ h => h) (Or.inl ⟨by rfl, ?hyx3⟩) (by assumption) ?restx3
  case hyx3 => (intro w hSw; (try dsimp only at hSw); go_simp; (try (first | with_reducible rfl | rw [if_neg (by omega)])))
  try simp only [Act.put, List.getElem_toArray, List.getElem_cons_succ, List.getElem_cons_zero, List.setIfInBounds_toArray, List.set_cons_zero, List.set_cons_succ]
  refine wpAnyH_take (i := 3) (v := ?vx4) rfl (by kernel_rfl) (by kernel_rfl) (by kernel_rfl) (fun _ _ _ h => h) (Or.inl ⟨by rfl, ?hyx4⟩) (by assumption) ?restx4
  case hyx4 => (intro w hSw; (try dsimp only at hSw); go_simp; (try (first | with_reducible rfl | rw [if_neg (by omega)])))
  try simp only [Act.put, List.getElem_toArray, List.getElem_cons_succ, List.getElem_cons_zero, List.setIfInBounds_toArray, List.set_cons_zero, List.set_cons_succ]
  refine wpAnyH_take (i := 4) (v := ?vx5) rfl (by kernel_rfl) (by kernel_rfl) (by kernel_rfl) (fun _ _ _ h => h) (Or.inl ⟨by rfl, ?hyx5⟩) (by assumption) ?restx5
  case hyx5 => (intro w hSw; (try dsimp only at hSw); go_simp; (try (first | with_reducible rfl | rw [if_neg (by omega)])))
  try simp only [Act.put, List.getElem_toArray, List.getElem_cons_succ, List.getElem_cons_zero, List.setIfInBounds_toArray, List.set_cons_zero, List.set_cons_succ]
  refine wpAnyH_take (i := 5) (v := ?vx6) rfl (by kernel_rfl) (by kernel_rfl) (by kernel_rfl) (fun _ _ _ h => h) (Or.inl ⟨by rfl, ?hyx6⟩) (by assumption) ?restx6
  case hyx6 => (intro w hSw; (try dsimp only at hSw); go_simp; (try (first | with_reducible rfl | rw [if_neg (by omega)])))
  try simp only [Act.put, List.getElem_toArray, List.getElem_cons_succ, List.getElem_cons_zero, List.setIfInBounds_toArray, List.set_cons_zero, List.set_cons_succ]
  refine wpAnyH_take (i := 6) (v := ?vx7) rfl (by kernel_rfl) (by kernel_rfl) (by kernel_rfl) (fun _ _ _ h => h) (Or.inl ⟨by rfl, ?hyx7⟩) (by assumption) ?restx7
  case hyx7 => (intro w hSw; (try dsimp only at hSw); go_simp; (try (first | with_reducible rfl | rw [if_neg (by omega)])))
  try simp only [Act.put, List.getElem_toArray, List.getElem_cons_succ, List.getElem_cons_zero, List.setIfInBounds_toArray, List.set_cons_zero, List.set_cons_succ]
  refine wpAnyH_take (i := 7) (v := ?vx8) rfl (by kernel_rfl) (by kernel_rfl) (by kernel_rfl) (fun _ _ _ h => h) (Or.inl ⟨by rfl, ?hyx8⟩) (by assumption) ?restx8
  case hyx8 => (intro w hSw; (try dsimp only at hSw); go_simp; (try (first | with_reducible rfl | rw [if_neg (by omega)])))
  try simp only [Act.put, List.getElem_toArray, List.getElem_cons_succ, List.getElem_cons_zero, List.setIfInBounds_toArray, List.set_cons_zero, List.set_cons_succ]
  refine wpAnyH_take (i := 8) (v := ?vx9) rfl (by kernel_rfl) (by kernel_rfl) (by kernel_rfl) (fun _ _ _ h => h) (Or.inl ⟨by rfl, ?hyx9⟩) (by assumption) ?restx9
  case hyx9 => (intro w hSw; (try dsimp only at hSw); go_simp; (try (first | with_reducible rfl | rw [if_neg (by omega)])))
  try simp only [Act.put, List.getElem_toArray, List.getElem_cons_succ, List.getElem_cons_zero, List.setIfInBounds_toArray, List.set_cons_zero, List.set_cons_succ]
  refine wpAnyH_take (i := 9) (v := ?vx10) rfl (by kernel_rfl) (by kernel_rfl) (by kernel_rfl) (fun _ _ _ h => h) (Or.inl ⟨by rfl, ?hyx10⟩) (by assumption) ?restx10
  case hyx10 => (intro w hSw; (try dsimp only at hSw); go_simp; (try (first | with_reducible rfl | rw [if_neg (by omega)])))
  try simp only [Act.put, List.getElem_toArray, List.getElem_cons_succ, List.getElem_cons_zero, List.setIfInBounds_toArray, List.set_cons_zero, List.set_cons_succ]
  refine wpAnyH_ready (rs := [10]) (by kernel_rfl) (by simp) ?_
  refine AllReadyH.cons rfl (fun K hK => ?_) ?_
  · go_simp
    go_at_call 43
    refine (re_ (mayE_calls (k) (u) (⟨#[]⟩) (0) (0) (0) (0) (⟨#[]⟩) _ (by omega) (by first | omega | decide) (by first | omega | decide)) (ret_bool HM.out)).mono ?_
    rintro e wx ⟨rfl, hbx⟩
    have hbx := undrew hbx
    have RX := RF.below hbx
    have p0 := RX.cell 0 (.int .i64 k) rfl
    have p1 := RX.cell 1 (.string u) rfl
    have p2 := RX.cell 2 (.string ⟨#[]⟩) rfl
    have p3 := RX.cell 3 (.int .i64 0) rfl
    have p4 := RX.cell 4 (.int .i64 0) rfl
    have p5 := RX.cell 5 (.int .i64 0) rfl
    have p6 := RX.cell 6 (.int .i64 0) rfl
    have p7 := RX.cell 7 (.string ⟨#[]⟩) rfl
    have q0 := RX.cell0 0 (.int .i64 0) rfl
    have q1 := RX.cell0 1 (.string ⟨#[]⟩) rfl
    have q2 := RX.cell0 2 (.string ⟨#[]⟩) rfl
    have q3 := RX.cell0 3 (.int .i64 0) rfl
    have q4 := RX.cell0 4 (.int .i64 0) rfl
    have q5 := RX.cell0 5 (.int .i64 0) rfl
    have q6 := RX.cell0 6 (.int .i64 0) rfl
    have q7 := RX.cell0 7 (.string ⟨#[]⟩) rfl
    have g0 := RX.free0 0
    have g1 := RX.free0 1
    have g2 := RX.free0 2
    have g3 := RX.free0 3
    have g4 := RX.free0 4
    have g5 := RX.free0 5
    have g6 := RX.free0 6
    have g7 := RX.free0 7
    have hSx : wx.cell? ⟨w.heap.size + 1, 0, none⟩ = some (.int .i64 k) ∧ wx.cell? ⟨w.heap.size + 1, 1, none⟩ = some (.string u) ∧ wx.cell? ⟨w.heap.size + 1, 2, none⟩ = some (.string ⟨#[]⟩) ∧ wx.cell? ⟨w.heap.size + 1, 3, none⟩ = some (.int .i64 0) ∧ wx.cell? ⟨w.heap.size + 1, 4, none⟩ = some (.int .i64 0) ∧ wx.cell? ⟨w.heap.size + 1, 5, none⟩ = some (.int .i64 0) ∧ wx.cell? ⟨w.heap.size + 1, 6, none⟩ = some (.int .i64 0) ∧ wx.cell? ⟨w.heap.size + 1, 7, none⟩ = some (.string ⟨#[]⟩) := ⟨p0, p1, p2, p3, p4, p5, p6, p7⟩
    refine hK.out _ _ (by (try dsimp only); (first | with_reducible exact hSx | with_reducible exact s8_of (keep8 _ _ _ _ _ _ _ _ _ _) hSx)) (fun hHeld => ?_)
    clear hK K
    try simp only [Act.put, List.getElem_toArray, List.getElem_cons_succ, List.getElem_cons_zero, List.setIfInBounds_toArray, List.set_cons_zero, List.set_cons_succ]
    refine wpAnyH_take (i := 11) (v := ?vx11) rfl (by kernel_rfl) (by kernel_rfl) (by kernel_rfl) (fun _ _ _ h => h) (Or.inl ⟨by rfl, ?hyx11⟩) (by assumption) ?restx11
    case hyx11 => (intro w hSw; (try dsimp only at hSw); go_simp; (try (first | with_reducible rfl | rw [if_neg (by omega)])))
    try simp only [Act.put, List.getElem_toArray, List.getElem_cons_succ, List.getElem_cons_zero, List.setIfInBounds_toArray, List.set_cons_zero, List.set_cons_succ]
    refine wpAnyH_ready (rs := [12]) (by kernel_rfl) (by simp) ?_
    refine AllReadyH.cons rfl (fun K hK => ?_) ?_
    · go_simp
      refine hK.out _ _ (by (try dsimp only); (first | with_reducible exact hSx | with_reducible exact s8_of (keep8 _ _ _ _ _ _ _ _ _ _) hSx)) (fun hHeld => ?_)
      clear hK K
      try simp only [Act.put, List.getElem_toArray, List.getElem_cons_succ, List.getElem_cons_zero, List.setIfInBounds_toArray, List.set_cons_zero, List.set_cons_succ]
      refine wpAnyH_take (i := 13) (v := ?vx12) rfl (by kernel_rfl) (by kernel_rfl) (by kernel_rfl) (fun _ _ _ h => h) (Or.inl ⟨by rfl, ?hyx12⟩) (by assumption) ?restx12
      case hyx12 => (intro w hSw; (try dsimp only at hSw); go_simp; (try (first | with_reducible rfl | rw [if_neg (by omega)])))
      try simp only [Act.put, List.getElem_toArray, List.getElem_cons_succ, List.getElem_cons_zero, List.setIfInBounds_toArray, List.set_cons_zero, List.set_cons_succ]
      refine wpAnyH_done (by kernel_rfl) ?_ _
      go_wp2
      (try simp only [Exit.inBlock, Exit.then])
      refine bodyPost_ret (v := .tuple #[evV ⟨k, u, ⟨#[]⟩, 0, 0, 0, 0, ⟨#[]⟩⟩, .bool false]) (by simp [results, Tryz.results53, go_sem, evV, q0, q1, q2, q3, q4, q5, q6, q7]) rfl ⟨_, rfl, ?_, ?_⟩
      · exact (fun h => by cases h)
      · repeat (first | with_reducible exact RX.bel | with_reducible exact RF.bel | with_reducible refine Below.drew ?_ | with_reducible refine bset ?_ _ _ _ (Nat.le_refl _))
    exact AllReadyH.nil
  exact AllReadyH.nil
end Go.Proofs.YtbpfcjdjhponaaaGreat
namespace Go.Proofs.YtbpfcjdjhponaaaGreat
open Go.RowKit
open Sp
set_option maxHeartbeats 4000000 in
set_option maxRecDepth 100000 in
theorem read_A (s : ByteArray) (w : World) (hs : s.size ≤ 140737488351232)  (h : s.size = 0) (ev : Ev) :
    Calls Tryz.prog 53 #[.string s] w (RdPost ev false w) := by
  have HK : Hid (hasK 0 = 0) := by show _ = _; unfold hasK; simp
  have e1 : bits .and .i64 0 1 = 0 := by decide
  have e2 : bits .and .i64 0 2 = 0 := by decide
  have e4 : bits .and .i64 0 4 = 0 := by decide
  go_enter Tryz.func53, Tryz.ntmps53
  go_wp2_with fail
  refine (take_int_no s 0 (w.heap.size + 1) 0 _ hs (by omega)).mono ?_
  rintro e W1 ⟨rfl, hW⟩
  have R1 : RW w #[.int .i64 0, .string ⟨#[]⟩, .string ⟨#[]⟩, .int .i64 0, .int .i64 0, .int .i64 0, .int .i64 0, .string ⟨#[]⟩] W1 := by rw [hW]; exact RW.start w
  clear hW
  have c0 := R1.cell 0 (.int .i64 0) rfl
  have hz := R1.siz
  have hz' : w.heap.size < W1.heap.size := by omega
  have O0 : Own enJ 1 20 (W1.alloc (.cells #[fStr w 1] 20)) (w.heap.size + 2) (.slice (some ⟨W1.heap.size, 0, none⟩) 1 1) [fStr w 1] := Own.lit enJ_len W1 [fStr w 1] #[fStr w 1] 1 rfl rfl (by omega) (by omega)
  have Q0 := R1.alloc (.cells #[fStr w 1] 20)
  have hzz : (W1.alloc (.cells #[fStr w 1] 20)).heap.size = W1.heap.size + 1 := Array.size_push ..
  have HZZ := Lib.hid hzz
  clear hzz
  have zz : w.heap.size + 2 ≤ (W1.alloc (.cells #[fStr w 1] 20)).heap.size := by simp; omega
  go_wp2_with (first | (go_at_call 48; refine (has_is _ 0 _ HK).mono ?_; rintro e wh ⟨rfl, rfl⟩))
  have OF := O0
  have RF := Q0
  refine wp_loop_rounds 2 ?_
  rw [rounds_succ]
  have el0 : _ = _ := own_elem OF 0 (fStr w 1) rfl
  go_wp2_with fail
  clear el0
  rw [rounds_succ]
  go_wp2_with fail
  clear O0 Q0 OF zz HZZ
  generalize hY : (W1.alloc (.cells #[fStr w 1] 20)) = Y at RF ⊢
  clear hY
  have c0 := RF.cell 0 (.int .i64 0) rfl
  have c1 := RF.cell 1 (.string ⟨#[]⟩) rfl
  have c2 := RF.cell 2 (.string ⟨#[]⟩) rfl
  have c3 := RF.cell 3 (.int .i64 0) rfl
  have c4 := RF.cell 4 (.int .i64 0) rfl
  have c5 := RF.cell 5 (.int .i64 0) rfl
  have c6 := RF.cell 6 (.int .i64 0) rfl
  have c7 := RF.cell 7 (.string ⟨#[]⟩) rfl
  have d0 := RF.cell0 0 (.int .i64 0) rfl
  have f0 := RF.free0 0
  have d1 := RF.cell0 1 (.string ⟨#[]⟩) rfl
  have f1 := RF.free0 1
  have d2 := RF.cell0 2 (.string ⟨#[]⟩) rfl
  have f2 := RF.free0 2
  have d3 := RF.cell0 3 (.int .i64 0) rfl
  have f3 := RF.free0 3
  have d4 := RF.cell0 4 (.int .i64 0) rfl
  have f4 := RF.free0 4
  have d5 := RF.cell0 5 (.int .i64 0) rfl
  have f5 := RF.free0 5
  have d6 := RF.cell0 6 (.int .i64 0) rfl
  have f6 := RF.free0 6
  have d7 := RF.cell0 7 (.string ⟨#[]⟩) rfl
  have f7 := RF.free0 7
  have hS : (Y).cell? ⟨w.heap.size + 1, 0, none⟩ = some (.int .i64 0) ∧ (Y).cell? ⟨w.heap.size + 1, 1, none⟩ = some (.string ⟨#[]⟩) ∧ (Y).cell? ⟨w.heap.size + 1, 2, none⟩ = some (.string ⟨#[]⟩) ∧ (Y).cell? ⟨w.heap.size + 1, 3, none⟩ = some (.int .i64 0) ∧ (Y).cell? ⟨w.heap.size + 1, 4, none⟩ = some (.int .i64 0) ∧ (Y).cell? ⟨w.heap.size + 1, 5, none⟩ = some (.int .i64 0) ∧ (Y).cell? ⟨w.heap.size + 1, 6, none⟩ = some (.int .i64 0) ∧ (Y).cell? ⟨w.heap.size + 1, 7, none⟩ = some (.string ⟨#[]⟩) := ⟨c0, c1, c2, c3, c4, c5, c6, c7⟩
  have hyz : w.heap.size ≠ w.heap.size + 1 := by omega
  have hyy : w.heap.size + 1 ≠ w.heap.size := by omega
  refine wp_region_held_drew (S := (fun W => W.cell? ⟨w.heap.size + 1, 0, none⟩ = some (.int .i64 0) ∧ W.cell? ⟨w.heap.size + 1, 1, none⟩ = some (.string ⟨#[]⟩) ∧ W.cell? ⟨w.heap.size + 1, 2, none⟩ = some (.string ⟨#[]⟩) ∧ W.cell? ⟨w.heap.size + 1, 3, none⟩ = some (.int .i64 0) ∧ W.cell? ⟨w.heap.size + 1, 4, none⟩ = some (.int .i64 0) ∧ W.cell? ⟨w.heap.size + 1, 5, none⟩ = some (.int .i64 0) ∧ W.cell? ⟨w.heap.size + 1, 6, none⟩ = some (.int .i64 0) ∧ W.cell? ⟨w.heap.size + 1, 7, none⟩ = some (.string ⟨#[]⟩))) (by kernel_rfl) hS (fun hHeld => ?_)
  refine wpAnyH_take (i := 0) (v := ?vx1) rfl (by kernel_rfl) (by kernel_rfl) (by kernel_rfl) (fun _ _ _ h => h) (Or.inl ⟨by rfl, ?hyx1⟩) (by assumption) ?restx1
  case hyx1 => (intro w hSw; (try dsimp only at hSw); go_simp; (try (first | with_reducible rfl | rw [if_neg (by omega)])))
  try simp only [Act.put, List.getElem_toArray, List.getElem_cons_succ, List.getElem_cons_zero, List.setIfInBounds_toArray, List.set_cons_zero, List.set_cons_succ]
  refine wpAnyH_take (i := 1) (v := ?vx2) rfl (by kernel_rfl) (by kernel_rfl) (by kernel_rfl) (fun _ _ _ h => h) (Or.inl ⟨by rfl, ?hyx2⟩) (by assumption) ?restx2
  case hyx2 => (intro w hSw; (try dsimp only at hSw); go_simp; (try (first | with_reducible rfl | rw [if_neg (by omega)])))
  try simp only [Act.put, List.getElem_toArray, List.getElem_cons_succ, List.getElem_cons_zero, List.setIfInBounds_toArray, List.set_cons_zero, List.set_cons_succ]
  refine wpAnyH_take (i := 2) (v := ?vx3) rfl (by kernel_rfl) (by kernel_rfl) (by kernel_rfl) (fun _ _ _ h => h) (Or.inl ⟨by rfl, ?hyx3⟩) (by assumption) ?restx3
  case hyx3 => (intro w hSw; (try dsimp only at hSw); go_simp; (try (first | with_reducible rfl | rw [if_neg (by omega)])))
  try simp only [Act.put, List.getElem_toArray, List.getElem_cons_succ, List.getElem_cons_zero, List.setIfInBounds_toArray, List.set_cons_zero, List.set_cons_succ]
  refine wpAnyH_take (i := 3) (v := undef) rfl (by kernel_rfl) (by kernel_rfl) (by kernel_rfl) (fun _ _ _ h => h) (Or.inr ⟨by rfl, rfl⟩) (by assumption) ?_
  try simp only [Act.put, List.getElem_toArray, List.getElem_cons_succ, List.getElem_cons_zero, List.setIfInBounds_toArray, List.set_cons_zero, List.set_cons_succ]
  refine wpAnyH_take (i := 4) (v := undef) rfl (by kernel_rfl) (by kernel_rfl) (by kernel_rfl) (fun _ _ _ h => h) (Or.inr ⟨by rfl, rfl⟩) (by assumption) ?_
  try simp only [Act.put, List.getElem_toArray, List.getElem_cons_succ, List.getElem_cons_zero, List.setIfInBounds_toArray, List.set_cons_zero, List.set_cons_succ]
  refine wpAnyH_take (i := 5) (v := undef) rfl (by kernel_rfl) (by kernel_rfl) (by kernel_rfl) (fun _ _ _ h => h) (Or.inr ⟨by rfl, rfl⟩) (by assumption) ?_
  try simp only [Act.put, List.getElem_toArray, List.getElem_cons_succ, List.getElem_cons_zero, List.setIfInBounds_toArray, List.set_cons_zero, List.set_cons_succ]
  refine wpAnyH_take (i := 6) (v := undef) rfl (by kernel_rfl) (by kernel_rfl) (by kernel_rfl) (fun _ _ _ h => h) (Or.inr ⟨by rfl, rfl⟩) (by assumption) ?_
  try simp only [Act.put, List.getElem_toArray, List.getElem_cons_succ, List.getElem_cons_zero, List.setIfInBounds_toArray, List.set_cons_zero, List.set_cons_succ]
  refine wpAnyH_take (i := 7) (v := ?vx8) rfl (by kernel_rfl) (by kernel_rfl) (by kernel_rfl) (fun _ _ _ h => h) (Or.inl ⟨by rfl, ?hyx8⟩) (by assumption) ?restx8
  case hyx8 => (intro w hSw; (try dsimp only at hSw); go_simp; (try (first | with_reducible rfl | rw [if_neg (by omega)])))
  try simp only [Act.put, List.getElem_toArray, List.getElem_cons_succ, List.getElem_cons_zero, List.setIfInBounds_toArray, List.set_cons_zero, List.set_cons_succ]
  refine wpAnyH_take (i := 8) (v := ?vx9) rfl (by kernel_rfl) (by kernel_rfl) (by kernel_rfl) (fun _ _ _ h => h) (Or.inl ⟨by rfl, ?hyx9⟩) (by assumption) ?restx9
  case hyx9 => (intro w hSw; (try dsimp only at hSw); go_simp; (try (first | with_reducible rfl | rw [if_neg (by omega)])))
  try simp only [Act.put, List.getElem_toArray, List.getElem_cons_succ, List.getElem_cons_zero, List.setIfInBounds_toArray, List.set_cons_zero, List.set_cons_succ]
  refine wpAnyH_take (i := 9) (v := undef) rfl (by kernel_rfl) (by kernel_rfl) (by kernel_rfl) (fun _ _ _ h => h) (Or.inr ⟨by rfl, rfl⟩) (by assumption) ?_
  try simp only [Act.put, List.getElem_toArray, List.getElem_cons_succ, List.getElem_cons_zero, List.setIfInBounds_toArray, List.set_cons_zero, List.set_cons_succ]
  refine wpAnyH_take (i := 10) (v := undef) rfl (by kernel_rfl) (by kernel_rfl) (by kernel_rfl) (fun _ _ _ h => h) (Or.inr ⟨by rfl, rfl⟩) (by assumption) ?_
  try simp only [Act.put, List.getElem_toArray, List.getElem_cons_succ, List.getElem_cons_zero, List.setIfInBounds_toArray, List.set_cons_zero, List.set_cons_succ]
  refine wpAnyH_take (i := 11) (v := ?vx12) rfl (by kernel_rfl) (by kernel_rfl) (by kernel_rfl) (fun _ _ _ h => h) (Or.inl ⟨by rfl, ?hyx12⟩) (by assumption) ?restx12
  case hyx12 => (intro w hSw; (try dsimp only at hSw); go_simp; (try (first | with_reducible rfl | rw [if_neg (by omega)])))
  try simp only [Act.put, List.getElem_toArray, List.getElem_cons_succ, List.getElem_cons_zero, List.setIfInBounds_toArray, List.set_cons_zero, List.set_cons_succ]
  refine wpAnyH_ready (rs := [12]) (by kernel_rfl) (by simp) ?_
  refine AllReadyH.cons rfl (fun K hK => ?_) ?_
  · go_simp
    refine hK.out _ _ (by (try dsimp only); (with_reducible exact s8_of (keep8d _ _ _ _ _ _ _ _ _ _) hS)) (fun hHeld => ?_)
    clear hK K
    try simp only [Act.put, List.getElem_toArray, List.getElem_cons_succ, List.getElem_cons_zero, List.setIfInBounds_toArray, List.set_cons_zero, List.set_cons_succ]
    refine wpAnyH_take (i := 13) (v := ?vx13) rfl (by kernel_rfl) (by kernel_rfl) (by kernel_rfl) (fun _ _ _ h => h) (Or.inl ⟨by rfl, ?hyx13⟩) (by assumption) ?restx13
    case hyx13 => (intro w hSw; (try dsimp only at hSw); go_simp; (try (first | with_reducible rfl | rw [if_neg (by omega)])))
    try simp only [Act.put, List.getElem_toArray, List.getElem_cons_succ, List.getElem_cons_zero, List.setIfInBounds_toArray, List.set_cons_zero, List.set_cons_succ]
    refine wpAnyH_done (by kernel_rfl) ?_ _
    go_wp2
    (try simp only [Exit.inBlock, Exit.then])
    refine bodyPost_ret (v := .tuple #[evV ⟨0, ⟨#[]⟩, ⟨#[]⟩, 0, 0, 0, 0, ⟨#[]⟩⟩, .bool false]) (by simp [results, Tryz.results53, go_sem, evV, d0, d1, d2, d3, d4, d5, d6, d7]) rfl ⟨_, rfl, ?_, ?_⟩
    · exact (fun h => by cases h)
    · repeat (first | with_reducible exact RX.bel | with_reducible exact RF.bel | with_reducible refine Below.drew ?_ | with_reducible refine bset ?_ _ _ _ (Nat.le_refl _))
  exact AllReadyH.nil
end Go.Proofs.YtbpfcjdjhponaaaGreat
namespace Go.Proofs.YtbpfcjdjhponaaaGreat
open Go.RowKit
open Sp
theorem beq_no {a b : Int} (h : ¬ a = b) : (a == b) = false := by simpa using h
theorem beq_yes {a b : Int} (h : a = b) : (a == b) = true := by simpa using h
theorem rd_if {s : ByteArray} {w : World} {c : Prop} [Decidable c] {x : Ev} (ev : Ev) (b : Bool) (hb : c ↔ b = true) (h : Calls Tryz.prog 53 #[.string s] w (RdPost ev b w)) (hx : x = ev) :
    Calls Tryz.prog 53 #[.string s] w (RdPost (if c then (x, true) else (zeroE, false)).1 (if c then (x, true) else (zeroE, false)).2 w) := by
  subst hx
  by_cases hc : c
  · have := hb.1 hc
    subst this
    simp only [if_pos hc]; exact h
  · have : b = false := by cases b with | false => rfl | true => exact absurd (hb.2 rfl) hc
    subst this
    simp only [if_neg hc]
    exact h.mono fun e w' ⟨r, h1, h2, h3⟩ => ⟨r, h1, (fun h => by cases h), h3⟩
theorem rd_no {s : ByteArray} {w : World} {p : Ev × Bool} (hp : p = (zeroE, false)) (h : Calls Tryz.prog 53 #[.string s] w (RdPost zeroE false w)) : Calls Tryz.prog 53 #[.string s] w (RdPost p.1 p.2 w) := by rw [hp]; exact h
theorem read_calls (s : ByteArray) (w : World) (hs : s.size ≤ 140737488351232) : Calls Tryz.prog 53 #[.string s] w (RdPost (readP s).1 (readP s).2 w) := by
  by_cases h : s.size = 0
  · exact rd_no (by unfold readP; rw [if_pos h]) (read_A s w hs h zeroE)
  have h0 : 0 < s.size := by omega
  have hul := takeN_len s 1
  obtain ⟨u, a1, er, hu⟩ : ∃ u a e, takeN s 1 = (u, a, e) := ⟨_, _, _, rfl⟩
  rw [hu] at hul
  simp only at hul
  obtain ⟨k, hk⟩ : ∃ k, (s[0]'h0).toNat = k := ⟨_, rfl⟩
  have hb0 : byteAt s 0 = k := by rw [byteAt_is s 0 h0, hk]
  have hkl : k < 256 := by rw [← hk]; exact UInt8.toNat_lt _
  by_cases he : er = 0
  · subst he
    obtain ⟨_, e2, e3, hun, _⟩ := takeN_ok s 1 u a1 hu
    obtain ⟨m, rfl⟩ := Int.eq_ofNat_of_zero_le (show 0 ≤ a1 by omega)
    have hm : m ≤ s.size := by omega
    unfold readP
    rw [if_neg h]
    simp only [hu, hb0, Int.toNat_natCast]
    rw [if_neg (by simp)]
    by_cases hlo : 1 ≤ (k : Int) ∧ (k : Int) ≤ 6
    · rw [if_pos hlo]
      have hol := takeN_len s m
      obtain ⟨o, a2, er2, ho⟩ : ∃ u a e, takeN s m = (u, a, e) := ⟨_, _, _, rfl⟩
      rw [ho] at hol
      simp only [ho] at hol ⊢
      by_cases h2 : er2 = 0
      · subst h2
        by_cases ha : a2 = s.size
        · subst ha
          refine rd_if ⟨k, u, o, 0, zeroV⟩ (mayE8 k u o 0 0 0 0 ⟨#[]⟩) (by simp) ?_ rfl
          exact read_lo_yes s w hs h0 k hk hlo.1 hlo.2 u m (by omega) hm hu o (by omega) ho _ rfl
        · exact rd_no (by rw [if_neg (by intro h; exact ha h.2.1)]) (read_lo_ne s w hs h0 k hk hlo.1 hlo.2 u m (by omega) hm hu o a2 (by omega) ho (beq_no ha) _)
      · exact rd_no (by rw [if_neg (by intro h; exact h2 h.1)]) (read_lo_no2 s w hs h0 k hk hlo.1 hlo.2 u m (by omega) hm hu o a2 er2 (by omega) ho (beq_no h2) _)
    · rw [if_neg hlo]
      by_cases h7 : (k : Int) = 7
      · obtain rfl : k = 7 := by omega
        by_cases hge : s.size ≤ m
        · exact rd_no (by rw [if_pos (by omega)]) (read_7_ino s w hs h0 hk u m (by omega) hm hu hge _)
        · have hlt : m < s.size := by omega
          rw [if_neg (by omega), if_pos h7, byteAt_is s m hlt]
          have hvl := takeVal_len s ((m : Int) + 1)
          obtain ⟨⟨va, vp, vn, vt⟩, a3, er3, hv⟩ : ∃ u a e, takeVal s ((m : Int) + 1) = (u, a, e) := ⟨_, _, _, rfl⟩
          rw [hv] at hvl
          simp only [hv] at hvl ⊢
          by_cases h2 : er3 = 0
          · subst h2
            by_cases ha : a3 = s.size
            · subst ha
              refine rd_if ⟨7, u, ⟨#[]⟩, s[m].toNat, va, vp, vn, vt⟩ (mayE8 7 u ⟨#[]⟩ s[m].toNat va vp vn vt) (by simp [mayE]) ?_ rfl
              exact read_7_yes s w hs h0 hk u m (by omega) hm hu hlt _ rfl va vp vn vt (by omega) hv _ rfl
            · exact rd_no (by rw [if_neg (by intro h; exact ha h.2.1)]) (read_7_ne s w hs h0 hk u m (by omega) hm hu hlt _ rfl va vp vn vt a3 (by omega) hv (beq_no ha) _)
          · exact rd_no (by rw [if_neg (by intro h; exact h2 h.1)]) (read_7_vno s w hs h0 hk u m (by omega) hm hu hlt _ rfl va vp vn vt a3 er3 (by omega) hv (beq_no h2) _)
      · by_cases h8 : (k : Int) = 8
        · obtain rfl : k = 8 := by omega
          by_cases hge : s.size ≤ m
          · exact rd_no (by rw [if_pos (by omega)]) (read_8_ino s w hs h0 hk u m (by omega) hm hu hge _)
          · have hlt : m < s.size := by omega
            rw [if_neg (by omega), if_neg (by omega), if_pos h8, byteAt_is s m hlt]
            by_cases ha : (m : Int) + 1 = s.size
            · refine rd_if ⟨8, u, ⟨#[]⟩, s[m].toNat, zeroV⟩ (mayE8 8 u ⟨#[]⟩ s[m].toNat 0 0 0 ⟨#[]⟩) (by simp [ha]) ?_ rfl
              exact read_8_yes s w hs h0 hk u m (by omega) hm hu hlt _ rfl (beq_yes ha) _ rfl
            · exact rd_no (by rw [if_neg (by intro h; exact ha h.1)]) (read_8_ne s w hs h0 hk u m (by omega) hm hu hlt _ rfl (beq_no ha) _)
        · have hno : k = 0 ∨ 8 < k := by omega
          have hf : mayE8 k u ⟨#[]⟩ 0 0 0 0 ⟨#[]⟩ = false := by unfold mayE8; rw [if_pos (by omega)]
          refine rd_no (by rw [if_neg h7, if_neg h8]; split <;> rfl) ?_
          by_cases ha : (m : Int) = s.size
          · exact read_0_yes s w hs h0 k hk hno u m (by omega) hm hu (beq_yes ha) _ hf
          · exact read_0_ne s w hs h0 k hk hno u m (by omega) hm hu (beq_no ha) _
  · refine rd_no (by unfold readP; rw [if_neg h]; simp only [hu]; rw [if_pos he]) ?_
    by_cases hlo : 1 ≤ (k : Int) ∧ (k : Int) ≤ 6
    · exact read_no_lo s w hs h0 k hk hlo.1 hlo.2 u a1 er (beq_no he) (by omega) hu _
    · by_cases h7 : (k : Int) = 7
      · obtain rfl : k = 7 := by omega
        exact read_no_7 s w hs h0 hk u a1 er (beq_no he) (by omega) hu _
      · by_cases h8 : (k : Int) = 8
        · obtain rfl : k = 8 := by omega
          exact read_no_8 s w hs h0 hk u a1 er (beq_no he) (by omega) hu _
        · exact read_no_0 s w hs h0 k hk (by omega) u a1 er (beq_no he) (by omega) hu _
namespace Sp
def decP (s : ByteArray) : Ev × Int :=
  if (openS s).2 ≠ 0 then (zeroE, (openS s).2) else if (readP (openS s).1).2 = true then ((readP (openS s).1).1, 0) else (zeroE, 3)
end Sp
set_option maxHeartbeats 20000000 in
set_option maxRecDepth 100000 in
theorem dec_w (s t : ByteArray) (er : Int) (f : Ev) (b : Bool) (w : World) (hs : s.size ≤ 140737488351232) (ht : t.size ≤ 140737488351232) (HO : Hid (openS s = (t, er))) (HR : Hid (readP t = (f, b))) (r : Ev) (er2 : Int)
    (H1 : er ≠ 0 → Hid (r = zeroE ∧ er2 = er)) (H2 : er = 0 → b = false → Hid (r = zeroE ∧ er2 = 3)) (H3 : er = 0 → b = true → Hid (r = f ∧ er2 = 0)) :
    Calls Tryz.prog 15 #[.string s] w fun e w' => e = .returned (.tuple #[evV r, .int .i64 er2]) ∧ Below w.heap.size w w' := by
  by_cases he : er = 0
  · subst he
    cases b with
    | true =>
      obtain ⟨HA, HB⟩ := (H3 rfl rfl).out
      have HA' := Lib.hid HA
      have HB' := Lib.hid HB
      clear H1 H2 H3 HA HB
      go_enter Tryz.func15, Tryz.ntmps15
      go_wp2_with fail
      refine (re_ (crcOpen_calls s _ hs) (by rw [HO.out])).mono ?_
      rintro e w1 ⟨rfl, b1⟩
      have B1 := below_call (below_box _) b1
      obtain ⟨hc1, hf1⟩ := bcell b1
      have hz1 : w.heap.size < w1.heap.size := Nat.lt_of_lt_of_le (by simp) b1.size
      clear b1
      go_wp2_with fail
      refine (read_calls t _ ht).mono ?_
      rintro e w2 ⟨⟨k, u, o, i, a, p, n, x⟩, rfl, hr, b2⟩
      rw [HR.out] at hr
      have HF := Lib.hid (hr rfl)
      clear hr
      rw [HR.out]
      unfold evV
      have B2 := below_call B1 b2
      obtain ⟨hc2, hf2⟩ := bcell b2
      have hz2 : w.heap.size < w2.heap.size := Nat.lt_of_lt_of_le hz1 b2.size
      clear b2
      go_wp2
      (try simp only [Exit.inBlock, Exit.then])
      refine bodyPost_ret (v := .tuple #[evV ⟨k, u, o, i, a, p, n, x⟩, .int .i64 0]) (by simp [results, Tryz.results15, go_sem, evV, hc1, hc2, hz1, hz2, Nat.ne_of_lt hz2, Nat.ne_of_gt hz2, Nat.lt_succ_of_lt hz2, Nat.lt_succ_of_lt hz1]) rfl ⟨by rw [HA'.out, HB'.out, ← HF.out], ?_⟩
      repeat (first | with_reducible exact B2 | with_reducible refine bset ?_ _ _ _ (Nat.le_refl _) | with_reducible refine below_alloc0 ?_ _)
    | false =>
      obtain ⟨HA, HB⟩ := (H2 rfl rfl).out
      have HA' := Lib.hid HA
      have HB' := Lib.hid HB
      clear H1 H2 H3 HA HB
      go_enter Tryz.func15, Tryz.ntmps15
      go_wp2_with fail
      refine (re_ (crcOpen_calls s _ hs) (by rw [HO.out])).mono ?_
      rintro e w1 ⟨rfl, b1⟩
      have B1 := below_call (below_box _) b1
      obtain ⟨hc1, hf1⟩ := bcell b1
      have hz1 : w.heap.size < w1.heap.size := Nat.lt_of_lt_of_le (by simp) b1.size
      clear b1
      go_wp2_with fail
      refine (read_calls t _ ht).mono ?_
      rintro e w2 ⟨⟨k, u, o, i, a, p, n, x⟩, rfl, hr, b2⟩
      clear hr
      rw [HR.out]
      unfold evV
      have B2 := below_call B1 b2
      obtain ⟨hc2, hf2⟩ := bcell b2
      have hz2 : w.heap.size < w2.heap.size := Nat.lt_of_lt_of_le hz1 b2.size
      clear b2
      go_wp2
      (try simp only [Exit.inBlock, Exit.then])
      refine bodyPost_ret (v := .tuple #[evV zeroE, .int .i64 3]) (by simp [results, Tryz.results15, go_sem, evV, zeroE, zeroV, hc1, hc2, hz1, hz2, Nat.ne_of_lt hz2, Nat.ne_of_gt hz2, Nat.lt_succ_of_lt hz2, Nat.lt_succ_of_lt hz1]) rfl ⟨by rw [HA'.out, HB'.out], ?_⟩
      repeat (first | with_reducible exact B2 | with_reducible refine bset ?_ _ _ _ (Nat.le_refl _) | with_reducible refine below_alloc0 ?_ _)
  · obtain ⟨HA, HB⟩ := (H1 he).out
    have HA' := Lib.hid HA
    have HB' := Lib.hid HB
    have heb : (er != 0) = true := by simpa using he
    clear H1 H2 H3 HA HB he
    go_enter Tryz.func15, Tryz.ntmps15
    go_wp2_with fail
    refine (re_ (crcOpen_calls s _ hs) (by rw [HO.out])).mono ?_
    rintro e w1 ⟨rfl, b1⟩
    have B1 := below_call (below_box _) b1
    obtain ⟨hc1, hf1⟩ := bcell b1
    clear b1
    go_wp2
    (try simp only [Exit.inBlock, Exit.then])
    refine bodyPost_ret (v := .tuple #[evV zeroE, .int .i64 er]) (by simp [results, Tryz.results15, go_sem, evV, zeroE, zeroV, hc1]) rfl ⟨by rw [HA'.out, HB'.out], ?_⟩
    repeat (first | with_reducible exact B1 | with_reducible refine bset ?_ _ _ _ (Nat.le_refl _) | with_reducible refine below_alloc0 ?_ _)
theorem dec_calls (s : ByteArray) (w : World) (hs : s.size ≤ 140737488351232) :
    Calls Tryz.prog 15 #[.string s] w fun e w' => e = .returned (.tuple #[evV (decP s).1, .int .i64 (decP s).2]) ∧ Below w.heap.size w w' := by
  obtain ⟨t, er, ho⟩ : ∃ t er, openS s = (t, er) := ⟨_, _, rfl⟩
  have htl := openS_len s
  obtain ⟨f, b, hr⟩ : ∃ r b, readP t = (r, b) := ⟨_, _, rfl⟩
  rw [ho] at htl
  simp only at htl
  refine dec_w s t er f b w hs (by omega) ho hr (decP s).1 (decP s).2 (fun h => ?_) (fun h h2 => ?_) (fun h h2 => ?_)
  all_goals (unfold Hid decP; simp only [ho, hr])
  · rw [if_pos h]; exact ⟨rfl, rfl⟩
  · rw [if_neg (by simpa using h), if_neg (by rw [h2]; exact Bool.false_ne_true)]; exact ⟨rfl, rfl⟩
  · rw [if_neg (by simpa using h), if_pos h2]; exact ⟨rfl, rfl⟩
end Go.Proofs.YtbpfcjdjhponaaaGreat
namespace Go.Proofs.YtbpfcjdjhponaaaGreat
open Go.RowKit
namespace Sp
end Sp
open Sp
def enE (e : Ev) : List Value := [.int .i64 e.k, .string e.u, .string e.o, .int .i64 e.i, .int .i64 e.v.1, .int .i64 e.v.2.1, .int .i64 e.v.2.2.1, .string e.v.2.2.2]
theorem enE_len (e : Ev) : (enE e).length = 8 := rfl
theorem enE_one (e : Ev) : ∀ u ∈ enE e, u.oneCell' = true := by intro u hu; simp only [enE, List.mem_cons, List.mem_nil_iff, or_false] at hu; rcases hu with rfl | rfl | rfl | rfl | rfl | rfl | rfl | rfl <;> rfl
theorem row_ev {W : World} {A : Option Addr} {n c : Nat} {l : List Ev} (h : Row enE 8 W (.slice A n c) l) (i : Nat) (hi : i < l.length) (k : Int) (u o : ByteArray) (x a p m : Int) (t : ByteArray) (he : l[i] = ⟨k, u, o, x, a, p, m, t⟩) :
    ∃ ad, A = some ad ∧ W.cell? (ad.add (i * 8)) = some (.int .i64 k) ∧ W.cell? ⟨(ad.add (i * 8)).block, (ad.add (i * 8)).off + 1, none⟩ = some (.string u) ∧ W.cell? ⟨(ad.add (i * 8)).block, (ad.add (i * 8)).off + 2, none⟩ = some (.string o) ∧ W.cell? ⟨(ad.add (i * 8)).block, (ad.add (i * 8)).off + 3, none⟩ = some (.int .i64 x) ∧ W.cell? ⟨(ad.add (i * 8)).block, (ad.add (i * 8)).off + 4, none⟩ = some (.int .i64 a) ∧ W.cell? ⟨(ad.add (i * 8)).block, (ad.add (i * 8)).off + 5, none⟩ = some (.int .i64 p) ∧ W.cell? ⟨(ad.add (i * 8)).block, (ad.add (i * 8)).off + 6, none⟩ = some (.int .i64 m) ∧ W.cell? ⟨(ad.add (i * 8)).block, (ad.add (i * 8)).off + 7, none⟩ = some (.string t) := by
  obtain ⟨ad, e, hc⟩ := h.get enE_len i hi
  rw [he] at hc
  exact ⟨ad, e, hc 0 (by omega), hc 1 (by omega), hc 2 (by omega), hc 3 (by omega), hc 4 (by omega), hc 5 (by omega), hc 6 (by omega), hc 7 (by omega)⟩
end Go.Proofs.YtbpfcjdjhponaaaGreat
namespace Go.Proofs.YtbpfcjdjhponaaaGreat
open Go.RowKit
open Sp
set_option maxHeartbeats 8000000 in
set_option maxRecDepth 100000 in
theorem neq_ev (k : Int) (u o : ByteArray) (x a p q : Int) (t : ByteArray) (k' : Int) (u' o' : ByteArray) (x' a' p' q' : Int) (t' : ByteArray) (W : World) :
    (binOp .neq 29 (.agg #[.int .i64 k, .string u, .string o, .int .i64 x, .int .i64 a, .int .i64 p, .int .i64 q, .string t]) (.agg #[.int .i64 k', .string u', .string o', .int .i64 x', .int .i64 a', .int .i64 p', .int .i64 q', .string t'])).run Tryz.prog W =
      .ok (.bool (!(k == k' && (u.toList == u'.toList && (o.toList == o'.toList && (x == x' && (a == a' && (p == p' && (q == q' && t.toList == t'.toList))))))))) W := by
  cases h1 : k == k'
  · simp [go_sem, h1]
  cases h2 : u.toList == u'.toList
  · simp [go_sem, h1, h2]
  cases h3 : o.toList == o'.toList
  · simp [go_sem, h1, h2, h3]
  cases h4 : x == x'
  · simp [go_sem, h1, h2, h3, h4]
  cases h5 : a == a'
  · simp [go_sem, h1, h2, h3, h4, h5]
  cases h6 : p == p'
  · simp [go_sem, h1, h2, h3, h4, h5, h6]
  cases h7 : q == q'
  · simp [go_sem, h1, h2, h3, h4, h5, h6, h7]
  cases h8 : t.toList == t'.toList <;> simp [go_sem, h1, h2, h3, h4, h5, h6, h7, h8]
theorem ev_iff (k : Int) (u o : ByteArray) (x a p q : Int) (t : ByteArray) (k' : Int) (u' o' : ByteArray) (x' a' p' q' : Int) (t' : ByteArray) :
    (k == k' && (u.toList == u'.toList && (o.toList == o'.toList && (x == x' && (a == a' && (p == p' && (q == q' && t.toList == t'.toList))))))) = true ↔ (⟨k, u, o, x, a, p, q, t⟩ : Ev) = ⟨k', u', o', x', a', p', q', t'⟩ := by
  simp only [Bool.and_eq_true, beq_iff_eq, toList_inj', Ev.mk.injEq, Prod.mk.injEq]
set_option maxHeartbeats 8000000 in
set_option maxRecDepth 100000 in
theorem sameE_calls (n c n2 c2 : Nat) (A B : Option Addr) (l m : List Ev) (w : World) (hl : Row enE 8 w (.slice A n c) l) (hm : Row enE 8 w (.slice B n2 c2) m) :
    Calls Tryz.prog 42 #[.slice A n c, .slice B n2 c2] w fun e w' => ∃ b, e = .returned (.bool b) ∧ (b = true ↔ l = m) ∧ Below w.heap.size w w' := by
  have EA := Lib.hid hl.len_eq
  have EB := Lib.hid hm.len_eq
  have hnl : n ≤ 9223372036854775807 := by rw [EA.out]; exact hl.len
  by_cases hn : n = n2
  · subst hn
    go_enter Tryz.func42, Tryz.ntmps42
    go_wp2
    go_loopw [5] (fun v5 wr => ∃ i : Nat, v5 = .int .i64 i ∧ i ≤ n ∧ Below w.heap.size w wr ∧ Hid (l.take i = m.take i)) (fun v5 _ => (n - intOf v5).toNat)
    case atStart => exact ⟨0, rfl, Nat.zero_le _, Below.refl _ _, rfl⟩
    case round =>
      obtain ⟨i, rfl, hi, hB, HT⟩ := hrel
      by_cases hlt : i < n
      · have hil : i < l.length := by have := EA.out; omega
        have him : i < m.length := by have := EB.out; omega
        obtain ⟨⟨k, u, o, x, a, p, q, t⟩, he⟩ : ∃ e, l[i] = e := ⟨_, rfl⟩
        obtain ⟨⟨k', u', o', x', a', p', q', t'⟩, he'⟩ : ∃ e, m[i] = e := ⟨_, rfl⟩
        obtain ⟨ad, rfl, c0, c1, c2, c3, c4, c5, c6, c7⟩ := row_ev (hl.below hB) i hil k u o x a p q t he
        obtain ⟨bd, rfl, d0, d1, d2, d3, d4, d5, d6, d7⟩ := row_ev (hm.below hB) i him k' u' o' x' a' p' q' t' he'
        have HE := Lib.hid he
        have HE' := Lib.hid he'
        clear he he'
        have x1 : (0 : Int) ≤ (i : Int) := by omega
        have x2 : (i : Int) < (n : Int) := by omega
        obtain ⟨b, hb⟩ : ∃ b, (k == k' && (u.toList == u'.toList && (o.toList == o'.toList && (x == x' && (a == a' && (p == p' && (q == q' && t.toList == t'.toList))))))) = b := ⟨_, rfl⟩
        have hcmp := neq_ev k u o x a p q t k' u' o' x' a' p' q' t'
        rw [hb] at hcmp
        have hiff := ev_iff k u o x a p q t k' u' o' x' a' p' q' t'
        rw [hb] at hiff
        have HB := Lib.hid hiff
        clear hb hiff
        cases b with
        | true =>
          have HEQ : Hid (l[i] = m[i]) := by show _ = _; rw [HE.out, HE'.out]; exact HB.out.1 rfl
          go_wp2_with fail
          go_region
          have hB1 : Below w.heap.size w wr.drew := hB.drew
          go_wp2
          exact ⟨⟨i + 1, by go_num, by omega, hB1, by show _ = _; rw [List.take_succ_eq_append_getElem hil, List.take_succ_eq_append_getElem him, HT.out, HEQ.out]⟩, by simp [intOf]; omega⟩
        | false =>
          have HNE : Hid (¬ l = m) := by
            show ¬ _
            intro h
            subst h
            have : (⟨k, u, o, x, a, p, q, t⟩ : Ev) = ⟨k', u', o', x', a', p', q', t'⟩ := by rw [← HE.out, ← HE'.out]
            exact absurd (HB.out.2 this) (by simp)
          go_wp2_with fail
          go_region
          have hB1 : Below w.heap.size w wr.drew := hB.drew
          go_wp2
          go_ret
          exact ⟨false, rfl, ⟨(fun h => by cases h), fun h => absurd h HNE.out⟩, hB1⟩
      · have hin : i = n := by omega
        subst hin
        have HEQ : Hid (l = m) := by
          show _ = _
          have h1 : l.take i = l := List.take_of_length_le (by rw [EA.out]; exact Nat.le_refl _)
          have h2 : m.take i = m := List.take_of_length_le (by rw [EB.out]; exact Nat.le_refl _)
          rw [← h1, ← h2]; exact HT.out
        go_wp2
        go_ret
        exact ⟨true, rfl, ⟨fun _ => HEQ.out, fun _ => rfl⟩, hB⟩
  · have HNE : Hid (¬ l = m) := by
      show ¬ _
      intro h
      have h1 := EA.out
      have h2 := EB.out
      rw [h] at h1
      omega
    have hnb : ((n : Int) == (n2 : Int)) = false := by simpa using (by omega : ¬ (n : Int) = n2)
    clear hn
    go_enter Tryz.func42, Tryz.ntmps42
    go_wp2
    go_ret
    exact ⟨false, rfl, ⟨(fun h => by cases h), fun h => absurd h HNE.out⟩, Below.refl _ _⟩
end Go.Proofs.YtbpfcjdjhponaaaGreat
namespace Go.Proofs.YtbpfcjdjhponaaaGreat
open Go.RowKit
namespace Sp
def txE (e : Ev) : List UInt8 := (textV (encE e).1).data.toList
def batchE (l : List Ev) : ByteArray × Int := if 100 < l.length then (⟨#[]⟩, 1) else if l.all mayE then (strOf (l.flatMap txE), 0) else (⟨#[]⟩, 1)
end Sp
open Sp
theorem encE_yes (e : Ev) (h : mayE e = true) : (encE e).2 = 0 ∧ (encE e).1.size ≤ 130 := by
  have hz := mayE8_sz _ _ _ _ _ _ _ _ h
  have h1 := textV_size e.u (by omega)
  have h2 := textV_size e.o (by omega)
  have h3 := putVal_size e.v.1 e.v.2.1 e.v.2.2.1 e.v.2.2.2
  unfold encE encE8
  rw [if_neg (by rw [show mayE8 _ _ _ _ _ _ _ _ = true from h]; simp)]
  refine ⟨rfl, ?_⟩
  simp only [sealS_size]
  split
  · simp only [ByteArray.size_append, strOf_size, List.length_cons, List.length_nil]; omega
  · split <;> (simp only [ByteArray.size_append, strOf_size, List.length_cons, List.length_nil]; omega)
theorem encE_no (e : Ev) (h : mayE e = false) : encE e = (⟨#[]⟩, 1) := by
  unfold encE encE8
  rw [if_pos (by rw [show mayE8 _ _ _ _ _ _ _ _ = false from h]; simp)]
theorem txE_len (e : Ev) (h : mayE e = true) : (txE e).length ≤ 140 := by
  unfold txE
  have h1 := (encE_yes e h).2
  have h2 := textV_size (encE e).1 (by omega)
  rw [← size_eq_length]; omega
theorem txs_len (l : List Ev) : ∀ i, (∀ j (h : j < l.length), j < i → mayE l[j] = true) → ((l.take i).flatMap txE).length ≤ 140 * i
  | 0, _ => by simp
  | i + 1, h => by
    have ih := txs_len l i (fun j hj hji => h j hj (by omega))
    by_cases hi : i < l.length
    · rw [List.take_succ_eq_append_getElem hi, List.flatMap_append, List.length_append]
      have := txE_len l[i] (h i hi (by omega))
      simp only [List.flatMap_cons, List.flatMap_nil, List.append_nil]
      omega
    · rw [List.take_of_length_le (by omega)]
      rw [List.take_of_length_le (by omega)] at ih
      omega
theorem txs_succ (l : List Ev) (i : Nat) (h : i < l.length) : (l.take (i + 1)).flatMap txE = (l.take i).flatMap txE ++ txE l[i] := by
  rw [List.take_succ_eq_append_getElem h, List.flatMap_append]; simp
theorem batch_big (l : List Ev) (h : 100 < l.length) : batchE l = (⟨#[]⟩, 1) := by unfold batchE; rw [if_pos h]
theorem batch_no (l : List Ev) (i : Nat) (h : i < l.length) (hm : mayE l[i] = false) : batchE l = (⟨#[]⟩, 1) := by
  unfold batchE
  split
  · rfl
  · rw [if_neg]
    intro ha
    rw [List.all_eq_true] at ha
    rw [ha _ (List.getElem_mem h)] at hm
    cases hm
theorem batch_yes (l : List Ev) (h : l.length ≤ 100) (hm : ∀ j (h : j < l.length), j < l.length → mayE l[j] = true) : batchE l = (strOf (l.flatMap txE), 0) := by
  unfold batchE
  rw [if_neg (by omega), if_pos]
  rw [List.all_eq_true]
  intro e he
  obtain ⟨j, hj, rfl⟩ := List.getElem_of_mem he
  exact hm j hj hj
theorem enc_is (k : Int) (u o : ByteArray) (i a p n : Int) (t q : ByteArray) (er : Int) (w : World) (hu : u.size ≤ 140737488351232) (ho : o.size ≤ 140737488351232) (ht : t.size ≤ 140737488351232) (h : Hid (encE ⟨k, u, o, i, a, p, n, t⟩ = (q, er))) :
    Calls Tryz.prog 14 #[.agg #[.int .i64 k, .string u, .string o, .int .i64 i, .int .i64 a, .int .i64 p, .int .i64 n, .string t]] w fun e w' => e = .returned (.tuple #[.string q, .int .i64 er]) ∧ Below w.heap.size w w' := by
  have := enc_calls k u o i a p n t w hu ho ht
  rw [show encE8 k u o i a p n t = (q, er) from h.out] at this
  exact this
def SzEvs (l : List Ev) : Prop := ∀ e ∈ l, e.u.size ≤ 140737488351232 ∧ e.o.size ≤ 140737488351232 ∧ e.v.2.2.2.size ≤ 140737488351232
end Go.Proofs.YtbpfcjdjhponaaaGreat
namespace Go.Proofs.YtbpfcjdjhponaaaGreat
open Go.RowKit
open Sp
set_option maxHeartbeats 8000000 in
set_option maxRecDepth 100000 in
theorem batch_calls (n c : Nat) (A : Option Addr) (l : List Ev) (w : World) (hl : Row enE 8 w (.slice A n c) l) (hz : SzEvs l) :
    Calls Tryz.prog 40 #[.slice A n c] w fun e w' => e = .returned (.tuple #[.string (batchE l).1, .int .i64 (batchE l).2]) ∧ Below w.heap.size w w' := by
  have EA := Lib.hid hl.len_eq
  have HZ := Lib.hid hz
  clear hz
  obtain ⟨r, er, hr⟩ : ∃ r er, batchE l = (r, er) := ⟨_, _, rfl⟩
  rw [hr]
  have HR := Lib.hid hr
  clear hr
  by_cases hm : 100 < (n : Int)
  · have HF : Hid (r = ⟨#[]⟩ ∧ er = 1) := by
      have := HR.out
      rw [batch_big l (by have := EA.out; omega)] at this
      injection this with h1 h2
      exact ⟨h1.symm, h2.symm⟩
    go_enter Tryz.func40, Tryz.ntmps40
    go_wp2
    go_ret2
    rw [HF.out.1, HF.out.2]
    exact ⟨rfl, Below.refl _ _⟩
  · have hm' : (n : Int) ≤ 100 := by omega
    clear hm
    go_enter Tryz.func40, Tryz.ntmps40
    go_wp2
    go_loopw [14] (fun v14 wr => ∃ i : Nat, v14 = .int .i64 i ∧ i ≤ n ∧ Bld w.heap.size w.heap.size ((l.take i).flatMap txE) wr ∧ Below w.heap.size w wr ∧ Hid (∀ j (h : j < l.length), j < i → mayE l[j] = true)) (fun v14 _ => (n - intOf v14).toNat)
    case atStart => exact ⟨0, rfl, Nat.zero_le _, Bld.fresh w, below_box _, fun j h hj => absurd hj (by omega)⟩
    case round =>
      obtain ⟨i, rfl, hi, hb, hB, HT⟩ := hrel
      by_cases hlt : i < n
      · have hil : i < l.length := by have := EA.out; omega
        obtain ⟨⟨k, u, o, x, a, p, m, t⟩, he⟩ : ∃ e, l[i] = e := ⟨_, rfl⟩
        obtain ⟨z1, z2, z3⟩ := HZ.out l[i] (List.getElem_mem _)
        rw [he] at z1 z2 z3
        simp only at z1 z2 z3
        obtain ⟨ad, rfl, c0, c1, c2, c3, c4, c5, c6, c7⟩ := row_ev (hl.below hB) i hil k u o x a p m t he
        have HE := Lib.hid he
        clear he
        have hBx := below_alloc0 hB (.cells #[.int .i64 k, .string u, .string o, .int .i64 x, .int .i64 a, .int .i64 p, .int .i64 m, .string t] 29)
        have hbx := hb.below (below_box (.cells #[.int .i64 k, .string u, .string o, .int .i64 x, .int .i64 a, .int .i64 p, .int .i64 m, .string t] 29))
        cases hb' : mayE ⟨k, u, o, x, a, p, m, t⟩ with
        | true =>
          obtain ⟨y1, y2⟩ := encE_yes _ hb'
          obtain ⟨g, eg, hg⟩ : ∃ g eg, encE ⟨k, u, o, x, a, p, m, t⟩ = (g, eg) := ⟨_, _, rfl⟩
          rw [hg] at y1 y2
          simp only at y1 y2
          subst y1
          obtain ⟨tx, htx⟩ : ∃ tx, textV g = tx := ⟨_, rfl⟩
          have ztx : tx.size ≤ 140 := by rw [← htx]; have := textV_size g (by omega); omega
          have HTX : Hid ((l.take (i + 1)).flatMap txE = (l.take i).flatMap txE ++ tx.data.toList) := by
            show _ = _
            rw [txs_succ l i hil, HE.out]
            show _ ++ (textV (encE ⟨k, u, o, x, a, p, m, t⟩).1).data.toList = _
            rw [hg, htx]
          have HM : Hid (∀ j (h : j < l.length), j < i + 1 → mayE l[j] = true) := fun j h hj => by
            rcases Nat.lt_or_ge j i with h' | h'
            · exact HT.out j h h'
            · obtain rfl : j = i := by omega
              rw [HE.out]; exact hb'
          have zl := txs_len l i HT.out
          have HG := Lib.hid hg
          have HX := Lib.hid htx
          clear hb' hg htx
          go_wp2_with fail
          refine (enc_is k u o x a p m t g 0 _ z1 z2 z3 HG).mono ?_
          rintro e w1 ⟨rfl, b1⟩
          have hB1 := below_call hBx b1
          have hb1 := hbx.below b1
          clear c0 c1 c2 c3 c4 c5 c6 c7 b1 hB hBx hbx hb
          go_wp2_with fail
          refine (varText_w g tx _ (by omega) HX).mono ?_
          rintro e w2 ⟨rfl, b2⟩
          have hB2 := below_call hB1 b2
          have hb2 := hb1.below b2
          clear b2 hB1 hb1
          go_wp2_with fail
          refine (bldStr w.heap.size w.heap.size _ tx _ hb2 (by omega) hB2.size).mono ?_
          rintro e w3 ⟨rfl, hb3, b3, _⟩
          have hB3 := hB2.trans b3
          rw [← HTX.out] at hb3
          clear b3 hB2 hb2 zl
          go_wp2
          exact ⟨⟨i + 1, by go_num, by omega, hb3, hB3, HM⟩, by simp [intOf]; omega⟩
        | false =>
          have HF : Hid (r = ⟨#[]⟩ ∧ er = 1) := by
            have := HR.out
            rw [batch_no l i hil (by rw [HE.out]; exact hb')] at this
            injection this with h1 h2
            exact ⟨h1.symm, h2.symm⟩
          have HG := Lib.hid (encE_no _ hb')
          clear hb'
          go_wp2_with fail
          refine (enc_is k u o x a p m t ⟨#[]⟩ 1 _ z1 z2 z3 HG).mono ?_
          rintro e w1 ⟨rfl, b1⟩
          have hB1 := below_call hBx b1
          clear c0 c1 c2 c3 c4 c5 c6 c7 b1 hB hBx hbx hb
          go_wp2
          go_ret2
          rw [HF.out.1, HF.out.2]
          exact ⟨rfl, hB1⟩
      · have hin : i = n := by omega
        subst hin
        have HF : Hid (strOf ((l.take i).flatMap txE) = r ∧ er = 0) := by
          have := HR.out
          rw [batch_yes l (by have := EA.out; omega) (fun j h _ => HT.out j h (by rw [EA.out]; exact h))] at this
          injection this with h1 h2
          refine ⟨?_, h2.symm⟩
          rw [← h1, List.take_of_length_le (by rw [EA.out]; exact Nat.le_refl _)]
        go_wp2_with fail
        refine (bldString w.heap.size w.heap.size _ _ hb hB.size).mono ?_
        rw [HF.out.1]
        rintro e w1 ⟨rfl, _, b1, _⟩
        have hB1 := hB.trans b1
        clear b1 hB hb
        go_wp2
        go_ret2
        rw [HF.out.2]
        exact ⟨rfl, hB1⟩
end Go.Proofs.YtbpfcjdjhponaaaGreat
namespace Go.Proofs.YtbpfcjdjhponaaaGreat
open Go.RowKit
open Sp
namespace Sp
theorem getL_text : ∀ (l : List UInt8) (i n N k : Nat), getL l i n = some (some (N, k)) → ∃ M rest, l = putV M ++ rest ∧ N = n + M * 128 ^ i ∧ k = i + (putV M).length ∧ (0 < i → 0 < M)
  | [], i, n, N, k, h => by simp [getL] at h
  | b :: l, i, n, N, k, h => by
    have hb := b.toNat_lt
    rw [getL] at h
    split at h
    · simp at h
    · split at h
      · rename_i h1 h2
        obtain ⟨M', rest, e1, e2, e3, e4⟩ := getL_text l (i + 1) _ N k h
        have hM := e4 (by omega)
        refine ⟨b.toNat % 128 + 128 * M', rest, ?_, ?_, ?_, fun _ => by omega⟩
        · rw [putV_big (n := b.toNat % 128 + 128 * M') (by omega), e1]
          have hb2 : UInt8.ofNat ((b.toNat % 128 + 128 * M') % 128 + 128) = b := by
            rw [show (b.toNat % 128 + 128 * M') % 128 + 128 = b.toNat by omega]
            exact UInt8.ofNat_toNat
          rw [hb2, show (b.toNat % 128 + 128 * M') / 128 = M' by omega]
          rfl
        · rw [e2, Nat.pow_succ, Nat.add_mul, show M' * (128 ^ i * 128) = 128 * M' * 128 ^ i by rw [Nat.mul_comm (128 ^ i) 128, ← Nat.mul_assoc, Nat.mul_comm M' 128]]
          omega
        · rw [e3, putV_big (n := b.toNat % 128 + 128 * M') (by omega), show (b.toNat % 128 + 128 * M') / 128 = M' by omega]
          simp; omega
      · split at h
        · simp at h
        · rename_i h1 h2 h3
          simp only [Option.some.injEq, Prod.mk.injEq] at h
          obtain ⟨rfl, rfl⟩ := h
          refine ⟨b.toNat, l, ?_, ?_, ?_, fun _ => by omega⟩
          · rw [putV_small (by omega), UInt8.ofNat_toNat]; rfl
          · rw [Nat.mod_eq_of_lt (by omega)]
          · rw [putV_small (by omega)]; rfl
theorem getV_text (s : ByteArray) (a : Int) (n : Nat) (to : Int) (h : getV s a = (n, to, 0)) : s.data.toList.drop a.toNat = putV n ++ s.data.toList.drop to.toNat ∧ to.toNat = a.toNat + (putV n).length := by
  have hok := getV_ok s a n to h
  obtain ⟨m, rfl⟩ := Int.eq_ofNat_of_zero_le hok.1
  rw [getV_in s m (by omega)] at h
  cases hg : getL (s.data.toList.drop m) 0 0 with
  | none => rw [hg] at h; simp [getR] at h
  | some r =>
    cases r with
    | none => rw [hg] at h; simp [getR] at h
    | some p =>
      obtain ⟨N, k⟩ := p
      rw [hg] at h
      simp only [getR, Prod.mk.injEq] at h
      obtain ⟨rfl, rfl, _⟩ := h
      obtain ⟨M, rest, e1, e2, e3, _⟩ := getL_text _ _ _ _ _ hg
      have hNM : N = M := by rw [e2]; simp
      subst hNM
      have hk : ((m : Int) + (k : Int)).toNat = m + (putV N).length := by rw [e3]; omega
      refine ⟨?_, by rw [hk, Int.toNat_natCast]⟩
      rw [hk, Int.toNat_natCast, ← List.drop_drop, e1, List.drop_left]
theorem takeV_text (s : ByteArray) (a : Int) (m : Nat) (t : ByteArray) (to : Int) (h : takeV s a m = (t, to, 0)) : s.data.toList.drop a.toNat = (textV t).data.toList ++ s.data.toList.drop to.toNat ∧ to.toNat = a.toNat + (textV t).size := by
  obtain ⟨n, fr, er, hg⟩ : ∃ n fr er, getV s a = (n, fr, er) := ⟨_, _, _, rfl⟩
  by_cases he : er = 0
  · subst he
    by_cases h1 : (m : Int) < 0 ∨ (m : Int) < n
    · rw [takeV_form s a m n fr hg h1] at h; simp at h
    · by_cases h2 : s.size < fr.toNat + n
      · rw [takeV_cut s a m n fr hg h1 h2] at h; simp at h
      · rw [takeV_ok s a m n fr hg h1 h2] at h
        simp only [Prod.mk.injEq] at h
        obtain ⟨rfl, rfl, _⟩ := h
        obtain ⟨e1, e2⟩ := getV_text s a n fr hg
        have hok := getV_ok s a n fr hg
        have hsz : (s.extract fr.toNat (fr.toNat + n)).size = n := by rw [ByteArray.size_extract]; omega
        have hto : (fr + (n : Int)).toNat = fr.toNat + n := by omega
        have hd : (s.extract fr.toNat (fr.toNat + n)).data.toList = (s.data.toList.drop fr.toNat).take n := by
          rw [ByteArray.data_extract, Array.toList_extract]
          simp [List.extract]
        constructor
        · rw [e1, hto]
          show _ = (putV (s.extract fr.toNat (fr.toNat + n)).size ++ _ : List UInt8).toArray.toList ++ _
          rw [hsz, hd]
          simp only [List.append_assoc]
          congr 1
          rw [← List.drop_drop, List.take_append_drop]
        · have : (textV (s.extract fr.toNat (fr.toNat + n))).size = (putV n).length + n := by
            rw [size_eq_length]
            show (putV (s.extract fr.toNat (fr.toNat + n)).size ++ _ : List UInt8).toArray.toList.length = _
            rw [hsz]; simp only [List.toList_toArray, List.length_append, ← size_eq_length, hsz]
          rw [this]; omega
  · rw [takeV_err s a m n fr er hg he] at h
    simp only [Prod.mk.injEq] at h
    exact absurd h.2.2 he
theorem takeN_text (s : ByteArray) (a : Int) (t : ByteArray) (to : Int) (h : takeN s a = (t, to, 0)) : s.data.toList.drop a.toNat = (textV t).data.toList ++ s.data.toList.drop to.toNat ∧ to.toNat = a.toNat + (textV t).size := by
  refine takeV_text s a 16 t to ?_
  simp only [takeN] at h
  split at h
  · rename_i h1
    injection h with _ h2
    injection h2 with _ h3
    exact absurd h3 h1
  · split at h
    · exact h
    · injection h with _ h2
      injection h2 with _ h3
      cases h3
theorem takeN_bad (s : ByteArray) (a : Int) (t : ByteArray) (to er : Int) (h : takeN s a = (t, to, er)) (he : er ≠ 0) : t = ⟨#[]⟩ := by
  simp only [takeN] at h
  split at h
  · injection h with h1 _; exact h1.symm
  · rename_i h1
    split at h
    · rw [h] at h1; exact absurd h1 (by simpa using he)
    · injection h with h1 _; exact h1.symm
end Sp
end Go.Proofs.YtbpfcjdjhponaaaGreat
