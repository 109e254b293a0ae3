import Derived.Test.YtbpfcjdjhponaaaGreatPScriptApplies14
set_option linter.unusedVariables false
set_option linter.unusedSimpArgs false
namespace Go.Proofs.YtbpfcjdjhponaaaGreat
open Go.RowKit
open Sp
set_option maxHeartbeats 4000000 in
set_option maxRecDepth 100000 in
theorem read_7_vno (s : ByteArray) (w : World) (hs : s.size ≤ 140737488351232) (h0 : 0 < s.size) (hk : (s[0]'h0).toNat = 7) (u : ByteArray) (m : Nat) (hu : u.size ≤ 140737488351232) (hm : m ≤ s.size) (HU : Hid (takeN s 1 = (u, (m : Int), 0))) (hlt : m < s.size) (i : Nat) (hi : (s[m]'hlt).toNat = i) (va vp vn : Int) (vt : ByteArray) (a3 er3 : Int) (hvt : vt.size ≤ 140737488351232) (HV : Hid (takeVal s ((m : Int) + 1) = ((va, vp, vn, vt), a3, er3))) (he : (er3 == 0) = false) (ev : Ev) :
    Calls Tryz.prog 53 #[.string s] w (RdPost ev false w) := by
  have HK : Hid (hasK 7 = 6) := by show _ = _; unfold hasK; simp
  have e1 : bits .and .i64 6 1 = 0 := by decide
  have e2 : bits .and .i64 6 2 = 2 := by decide
  have e4 : bits .and .i64 6 4 = 4 := by decide
  go_enter Tryz.func53, Tryz.ntmps53
  go_wp2_with fail
  refine (take_int s 0 (w.heap.size + 1) 0 (.int .i64 0) 7 _ hs h0 hk ((RW.start w).cell 0 _ rfl) ((RW.start w).free 0)).mono ?_
  rintro e W1 ⟨rfl, hW⟩
  have R1 : RW w #[.int .i64 7, .string ⟨#[]⟩, .string ⟨#[]⟩, .int .i64 0, .int .i64 0, .int .i64 0, .int .i64 0, .string ⟨#[]⟩] W1 := by rw [hW]; exact (RW.start w).set 0 _
  clear hW
  have c0 := R1.cell 0 (.int .i64 7) rfl
  have hz := R1.siz
  have hz' : w.heap.size < W1.heap.size := by omega
  have O0 : Own enJ 1 20 (W1.alloc (.cells #[fStr w 1] 20)) (w.heap.size + 2) (.slice (some ⟨W1.heap.size, 0, none⟩) 1 1) [fStr w 1] := Own.lit enJ_len W1 [fStr w 1] #[fStr w 1] 1 rfl rfl (by omega) (by omega)
  have Q0 := R1.alloc (.cells #[fStr w 1] 20)
  have hzz : (W1.alloc (.cells #[fStr w 1] 20)).heap.size = W1.heap.size + 1 := Array.size_push ..
  have HZZ := Lib.hid hzz
  clear hzz
  have zz : w.heap.size + 2 ≤ (W1.alloc (.cells #[fStr w 1] 20)).heap.size := by simp; omega
  go_wp2_with (first | (go_at_call 48; refine (has_is _ 6 _ HK).mono ?_; rintro e wh ⟨rfl, rfl⟩) | (at_builtin; refine Own.append (w0 := (W1.alloc (.cells #[fStr w 1] 20))) (w.heap.size + 2) rfl (.tmp 35) (.tmp 38) 139 20 .nilIface 1 16 rfl Tryz.underlying139 info_any rfl (by decide) (.slice (some ⟨W1.heap.size, 0, none⟩) 1 1) [fStr w 1] (fInt w 3) [fInt w 3] rfl (by rw [HZZ.out]; rfl) rfl rfl (by simp [Value.oneCell']) O0 (Below.refl _ _) zz (by simp) (by simp) ?_; intro v1 x1 O1 B1 _ _; have Q1 := Q0.belowB B1; have zz1 : w.heap.size + 2 ≤ x1.heap.size := Nat.le_trans zz B1.size) | (at_builtin; refine Own.append (w0 := x1) (w.heap.size + 2) rfl (.tmp 43) (.tmp 46) 139 20 .nilIface 1 16 rfl Tryz.underlying139 info_any rfl (by decide) v1 [fStr w 1, fInt w 3] (fVal w 4) [fVal w 4] rfl rfl rfl rfl (by simp [Value.oneCell']) O1 (Below.refl _ _) zz1 (by simp) (by simp) ?_; intro v2 x2 O2 B2 _ _; have Q2 := Q1.belowB B2; have zz2 : w.heap.size + 2 ≤ x2.heap.size := Nat.le_trans zz1 B2.size; obtain ⟨ad, cc, hv⟩ := own_slice_n O2 3 rfl (by omega); subst hv))
  have OF : Own enJ 1 20 x2 (w.heap.size + 2) (.slice (some ad) 3 cc) [fStr w 1, fInt w 3, fVal w 4] := O2
  have RF := Q2
  refine wp_loop_rounds 4 ?_
  rw [rounds_succ]
  have el0 : (x2).cell? ad = some (fStr w 1) := own_elem OF 0 (fStr w 1) rfl
  have el1 : (x2).cell? ⟨ad.block, ad.off + 1, none⟩ = some (fInt w 3) := own_elem OF 1 (fInt w 3) rfl
  have el2 : (x2).cell? ⟨ad.block, ad.off + 2, none⟩ = some (fVal w 4) := own_elem OF 2 (fVal w 4) rfl
  go_wp2_with fail
  refine (take_str s 1 (w.heap.size + 1) 1 (.string ⟨#[]⟩) u (m : Int) 0 _ hs (RF.cell 1 _ rfl) (RF.free 1) (by have := RF.siz; omega) HU).mono ?_
  rintro e Y0 ⟨rfl, V0, bm, hW⟩
  have R' : RW w #[.int .i64 7, .string u, .string ⟨#[]⟩, .int .i64 0, .int .i64 0, .int .i64 0, .int .i64 0, .string ⟨#[]⟩] Y0 := by rw [hW]; exact (RF.below bm).set 1 _
  have O' := own_set (OF.below bm) 1 (.string u)
  rw [← hW] at O'
  clear hW bm
  clear RF OF el0 el1 el2
  have RF := R'
  have OF := O'
  clear R' O'
  go_wp2_with fail
  rw [rounds_succ]
  have el0 : (Y0).cell? ad = some (fStr w 1) := own_elem OF 0 (fStr w 1) rfl
  have el1 : (Y0).cell? ⟨ad.block, ad.off + 1, none⟩ = some (fInt w 3) := own_elem OF 1 (fInt w 3) rfl
  have el2 : (Y0).cell? ⟨ad.block, ad.off + 2, none⟩ = some (fVal w 4) := own_elem OF 2 (fVal w 4) rfl
  go_wp2_with fail
  refine (take_int s m (w.heap.size + 1) 3 (.int .i64 0) i _ hs hlt hi (RF.cell 3 _ rfl) (RF.free 3)).mono ?_
  rintro e Y1 ⟨rfl, hW⟩
  have R' : RW w #[.int .i64 7, .string u, .string ⟨#[]⟩, .int .i64 i, .int .i64 0, .int .i64 0, .int .i64 0, .string ⟨#[]⟩] Y1 := by rw [hW]; exact RF.set 3 _
  have O' := own_set OF 3 (.int .i64 i)
  rw [← hW] at O'
  clear hW
  clear RF OF el0 el1 el2
  have RF := R'
  have OF := O'
  clear R' O'
  go_wp2_with fail
  rw [rounds_succ]
  have el0 : (Y1).cell? ad = some (fStr w 1) := own_elem OF 0 (fStr w 1) rfl
  have el1 : (Y1).cell? ⟨ad.block, ad.off + 1, none⟩ = some (fInt w 3) := own_elem OF 1 (fInt w 3) rfl
  have el2 : (Y1).cell? ⟨ad.block, ad.off + 2, none⟩ = some (fVal w 4) := own_elem OF 2 (fVal w 4) rfl
  go_wp2_with fail
  refine (take_val s ((m : Int) + 1) (w.heap.size + 1) 4 (.int .i64 0) (.int .i64 0) (.int .i64 0) (.string ⟨#[]⟩) (va, vp, vn, vt) a3 er3 _ hs (RF.cell 4 _ rfl) (RF.cell 5 _ rfl) (RF.cell 6 _ rfl) (RF.cell 7 _ rfl) (RF.free 4) (RF.free 5) (RF.free 6) (RF.free 7) (by have := RF.siz; omega) HV).mono ?_
  rintro e Y2 ⟨rfl, V2, bm, hW⟩
  have R' : RW w #[.int .i64 7, .string u, .string ⟨#[]⟩, .int .i64 i, .int .i64 va, .int .i64 vp, .int .i64 vn, .string vt] Y2 := by rw [hW]; exact ((((RF.below bm).set 4 _).set 5 _).set 6 _).set 7 _
  have O' := own_set (own_set (own_set (own_set (OF.below bm) 4 (.int .i64 va)) 5 (.int .i64 vp)) 6 (.int .i64 vn)) 7 (.string vt)
  rw [← hW] at O'
  clear hW bm
  clear RF OF el0 el1 el2
  have RF := R'
  have OF := O'
  clear R' O'
  go_wp2_with fail
  rw [rounds_succ]
  go_wp2_with fail
  have c0 := RF.cell 0 (.int .i64 7) rfl
  have c1 := RF.cell 1 (.string u) rfl
  have c2 := RF.cell 2 (.string ⟨#[]⟩) rfl
  have c3 := RF.cell 3 (.int .i64 i) rfl
  have c4 := RF.cell 4 (.int .i64 va) rfl
  have c5 := RF.cell 5 (.int .i64 vp) rfl
  have c6 := RF.cell 6 (.int .i64 vn) rfl
  have c7 := RF.cell 7 (.string vt) rfl
  have d0 := RF.cell0 0 (.int .i64 0) rfl
  have f0 := RF.free0 0
  have d1 := RF.cell0 1 (.string ⟨#[]⟩) rfl
  have f1 := RF.free0 1
  have d2 := RF.cell0 2 (.string ⟨#[]⟩) rfl
  have f2 := RF.free0 2
  have d3 := RF.cell0 3 (.int .i64 0) rfl
  have f3 := RF.free0 3
  have d4 := RF.cell0 4 (.int .i64 0) rfl
  have f4 := RF.free0 4
  have d5 := RF.cell0 5 (.int .i64 0) rfl
  have f5 := RF.free0 5
  have d6 := RF.cell0 6 (.int .i64 0) rfl
  have f6 := RF.free0 6
  have d7 := RF.cell0 7 (.string ⟨#[]⟩) rfl
  have f7 := RF.free0 7
  have hS : (Y2).cell? ⟨w.heap.size + 1, 0, none⟩ = some (.int .i64 7) ∧ (Y2).cell? ⟨w.heap.size + 1, 1, none⟩ = some (.string u) ∧ (Y2).cell? ⟨w.heap.size + 1, 2, none⟩ = some (.string ⟨#[]⟩) ∧ (Y2).cell? ⟨w.heap.size + 1, 3, none⟩ = some (.int .i64 i) ∧ (Y2).cell? ⟨w.heap.size + 1, 4, none⟩ = some (.int .i64 va) ∧ (Y2).cell? ⟨w.heap.size + 1, 5, none⟩ = some (.int .i64 vp) ∧ (Y2).cell? ⟨w.heap.size + 1, 6, none⟩ = some (.int .i64 vn) ∧ (Y2).cell? ⟨w.heap.size + 1, 7, none⟩ = some (.string vt) := ⟨c0, c1, c2, c3, c4, c5, c6, c7⟩
  have hyz : w.heap.size ≠ w.heap.size + 1 := by omega
  have hyy : w.heap.size + 1 ≠ w.heap.size := by omega
  refine wp_region_held_drew (S := (fun W => W.cell? ⟨w.heap.size + 1, 0, none⟩ = some (.int .i64 7) ∧ W.cell? ⟨w.heap.size + 1, 1, none⟩ = some (.string u) ∧ W.cell? ⟨w.heap.size + 1, 2, none⟩ = some (.string ⟨#[]⟩) ∧ W.cell? ⟨w.heap.size + 1, 3, none⟩ = some (.int .i64 i) ∧ W.cell? ⟨w.heap.size + 1, 4, none⟩ = some (.int .i64 va) ∧ W.cell? ⟨w.heap.size + 1, 5, none⟩ = some (.int .i64 vp) ∧ W.cell? ⟨w.heap.size + 1, 6, none⟩ = some (.int .i64 vn) ∧ W.cell? ⟨w.heap.size + 1, 7, none⟩ = some (.string vt))) (by kernel_rfl) hS (fun hHeld => ?_)
  refine wpAnyH_take (i := 0) (v := ?vx1) rfl (by kernel_rfl) (by kernel_rfl) (by kernel_rfl) (fun _ _ _ h => h) (Or.inl ⟨by rfl, ?hyx1⟩) (by assumption) ?restx1
  case hyx1 => (intro w hSw; (try dsimp only at hSw); go_simp; (try (first | with_reducible rfl | rw [if_neg (by omega)])))
  try simp only [Act.put, List.getElem_toArray, List.getElem_cons_succ, List.getElem_cons_zero, List.setIfInBounds_toArray, List.set_cons_zero, List.set_cons_succ]
  refine wpAnyH_take (i := 1) (v := ?vx2) rfl (by kernel_rfl) (by kernel_rfl) (by kernel_rfl) (fun _ _ _ h => h) (Or.inl ⟨by rfl, ?hyx2⟩) (by assumption) ?restx2
  case hyx2 => (intro w hSw; (try dsimp only at hSw); go_simp; (try (first | with_reducible rfl | rw [if_neg (by omega)])))
  try simp only [Act.put, List.getElem_toArray, List.getElem_cons_succ, List.getElem_cons_zero, List.setIfInBounds_toArray, List.set_cons_zero, List.set_cons_succ]
  refine wpAnyH_take (i := 2) (v := ?vx3) rfl (by kernel_rfl) (by kernel_rfl) (by kernel_rfl) (fun _ _ _ h => h) (Or.inl ⟨by rfl, ?hyx3⟩) (by assumption) ?restx3
  case hyx3 => (intro w hSw; (try dsimp only at hSw); go_simp; (try (first | with_reducible rfl | rw [if_neg (by omega)])))
  try simp only [Act.put, List.getElem_toArray, List.getElem_cons_succ, List.getElem_cons_zero, List.setIfInBounds_toArray, List.set_cons_zero, List.set_cons_succ]
  refine wpAnyH_take (i := 3) (v := undef) rfl (by kernel_rfl) (by kernel_rfl) (by kernel_rfl) (fun _ _ _ h => h) (Or.inr ⟨by rfl, rfl⟩) (by assumption) ?_
  try simp only [Act.put, List.getElem_toArray, List.getElem_cons_succ, List.getElem_cons_zero, List.setIfInBounds_toArray, List.set_cons_zero, List.set_cons_succ]
  refine wpAnyH_take (i := 4) (v := undef) rfl (by kernel_rfl) (by kernel_rfl) (by kernel_rfl) (fun _ _ _ h => h) (Or.inr ⟨by rfl, rfl⟩) (by assumption) ?_
  try simp only [Act.put, List.getElem_toArray, List.getElem_cons_succ, List.getElem_cons_zero, List.setIfInBounds_toArray, List.set_cons_zero, List.set_cons_succ]
  refine wpAnyH_take (i := 5) (v := undef) rfl (by kernel_rfl) (by kernel_rfl) (by kernel_rfl) (fun _ _ _ h => h) (Or.inr ⟨by rfl, rfl⟩) (by assumption) ?_
  try simp only [Act.put, List.getElem_toArray, List.getElem_cons_succ, List.getElem_cons_zero, List.setIfInBounds_toArray, List.set_cons_zero, List.set_cons_succ]
  refine wpAnyH_take (i := 6) (v := undef) rfl (by kernel_rfl) (by kernel_rfl) (by kernel_rfl) (fun _ _ _ h => h) (Or.inr ⟨by rfl, rfl⟩) (by assumption) ?_
  try simp only [Act.put, List.getElem_toArray, List.getElem_cons_succ, List.getElem_cons_zero, List.setIfInBounds_toArray, List.set_cons_zero, List.set_cons_succ]
  refine wpAnyH_take (i := 7) (v := ?vx8) rfl (by kernel_rfl) (by kernel_rfl) (by kernel_rfl) (fun _ _ _ h => h) (Or.inl ⟨by rfl, ?hyx8⟩) (by assumption) ?restx8
  case hyx8 => (intro w hSw; (try dsimp only at hSw); go_simp; (try (first | with_reducible rfl | rw [if_neg (by omega)])))
  try simp only [Act.put, List.getElem_toArray, List.getElem_cons_succ, List.getElem_cons_zero, List.setIfInBounds_toArray, List.set_cons_zero, List.set_cons_succ]
  refine wpAnyH_take (i := 8) (v := ?vx9) rfl (by kernel_rfl) (by kernel_rfl) (by kernel_rfl) (fun _ _ _ h => h) (Or.inl ⟨by rfl, ?hyx9⟩) (by assumption) ?restx9
  case hyx9 => (intro w hSw; (try dsimp only at hSw); go_simp; (try (first | with_reducible rfl | rw [if_neg (by omega)])))
  try simp only [Act.put, List.getElem_toArray, List.getElem_cons_succ, List.getElem_cons_zero, List.setIfInBounds_toArray, List.set_cons_zero, List.set_cons_succ]
  refine wpAnyH_take (i := 9) (v := undef) rfl (by kernel_rfl) (by kernel_rfl) (by kernel_rfl) (fun _ _ _ h => h) (Or.inr ⟨by rfl, rfl⟩) (by assumption) ?_
  try simp only [Act.put, List.getElem_toArray, List.getElem_cons_succ, List.getElem_cons_zero, List.setIfInBounds_toArray, List.set_cons_zero, List.set_cons_succ]
  refine wpAnyH_take (i := 10) (v := undef) rfl (by kernel_rfl) (by kernel_rfl) (by kernel_rfl) (fun _ _ _ h => h) (Or.inr ⟨by rfl, rfl⟩) (by assumption) ?_
  try simp only [Act.put, List.getElem_toArray, List.getElem_cons_succ, List.getElem_cons_zero, List.setIfInBounds_toArray, List.set_cons_zero, List.set_cons_succ]
  refine wpAnyH_take (i := 11) (v := ?vx12) rfl (by kernel_rfl) (by kernel_rfl) (by kernel_rfl) (fun _ _ _ h => h) (Or.inl ⟨by rfl, ?hyx12⟩) (by assumption) ?restx12
  case hyx12 => (intro w hSw; (try dsimp only at hSw); go_simp; (try (first | with_reducible rfl | rw [if_neg (by omega)])))
  try simp only [Act.put, List.getElem_toArray, List.getElem_cons_succ, List.getElem_cons_zero, List.setIfInBounds_toArray, List.set_cons_zero, List.set_cons_succ]
  refine wpAnyH_ready (rs := [12]) (by kernel_rfl) (by simp) ?_
  refine AllReadyH.cons rfl (fun K hK => ?_) ?_
  · go_simp
    refine hK.out _ _ (by (try dsimp only); (with_reducible exact s8_of (keep8d _ _ _ _ _ _ _ _ _ _) hS)) (fun hHeld => ?_)
    clear hK K
    try simp only [Act.put, List.getElem_toArray, List.getElem_cons_succ, List.getElem_cons_zero, List.setIfInBounds_toArray, List.set_cons_zero, List.set_cons_succ]
    refine wpAnyH_take (i := 13) (v := ?vx13) rfl (by kernel_rfl) (by kernel_rfl) (by kernel_rfl) (fun _ _ _ h => h) (Or.inl ⟨by rfl, ?hyx13⟩) (by assumption) ?restx13
    case hyx13 => (intro w hSw; (try dsimp only at hSw); go_simp; (try (first | with_reducible rfl | rw [if_neg (by omega)])))
    try simp only [Act.put, List.getElem_toArray, List.getElem_cons_succ, List.getElem_cons_zero, List.setIfInBounds_toArray, List.set_cons_zero, List.set_cons_succ]
    refine wpAnyH_done (by kernel_rfl) ?_ _
    go_wp2
    (try simp only [Exit.inBlock, Exit.then])
    refine bodyPost_ret (v := .tuple #[evV ⟨7, u, ⟨#[]⟩, i, va, vp, vn, vt⟩, .bool false]) (by simp [results, Tryz.results53, go_sem, evV, d0, d1, d2, d3, d4, d5, d6, d7]) rfl ⟨_, rfl, ?_, ?_⟩
    · exact (fun h => by cases h)
    · repeat (first | with_reducible exact RX.bel | with_reducible exact RF.bel | with_reducible refine Below.drew ?_ | with_reducible refine bset ?_ _ _ _ (Nat.le_refl _))
  exact AllReadyH.nil
set_option maxHeartbeats 4000000 in
set_option maxRecDepth 100000 in
theorem read_7_ne (s : ByteArray) (w : World) (hs : s.size ≤ 140737488351232) (h0 : 0 < s.size) (hk : (s[0]'h0).toNat = 7) (u : ByteArray) (m : Nat) (hu : u.size ≤ 140737488351232) (hm : m ≤ s.size) (HU : Hid (takeN s 1 = (u, (m : Int), 0))) (hlt : m < s.size) (i : Nat) (hi : (s[m]'hlt).toNat = i) (va vp vn : Int) (vt : ByteArray) (a3 : Int) (hvt : vt.size ≤ 140737488351232) (HV : Hid (takeVal s ((m : Int) + 1) = ((va, vp, vn, vt), a3, 0))) (hne : (a3 == (s.size : Int)) = false) (ev : Ev) :
    Calls Tryz.prog 53 #[.string s] w (RdPost ev false w) := by
  have HK : Hid (hasK 7 = 6) := by show _ = _; unfold hasK; simp
  have e1 : bits .and .i64 6 1 = 0 := by decide
  have e2 : bits .and .i64 6 2 = 2 := by decide
  have e4 : bits .and .i64 6 4 = 4 := by decide
  go_enter Tryz.func53, Tryz.ntmps53
  go_wp2_with fail
  refine (take_int s 0 (w.heap.size + 1) 0 (.int .i64 0) 7 _ hs h0 hk ((RW.start w).cell 0 _ rfl) ((RW.start w).free 0)).mono ?_
  rintro e W1 ⟨rfl, hW⟩
  have R1 : RW w #[.int .i64 7, .string ⟨#[]⟩, .string ⟨#[]⟩, .int .i64 0, .int .i64 0, .int .i64 0, .int .i64 0, .string ⟨#[]⟩] W1 := by rw [hW]; exact (RW.start w).set 0 _
  clear hW
  have c0 := R1.cell 0 (.int .i64 7) rfl
  have hz := R1.siz
  have hz' : w.heap.size < W1.heap.size := by omega
  have O0 : Own enJ 1 20 (W1.alloc (.cells #[fStr w 1] 20)) (w.heap.size + 2) (.slice (some ⟨W1.heap.size, 0, none⟩) 1 1) [fStr w 1] := Own.lit enJ_len W1 [fStr w 1] #[fStr w 1] 1 rfl rfl (by omega) (by omega)
  have Q0 := R1.alloc (.cells #[fStr w 1] 20)
  have hzz : (W1.alloc (.cells #[fStr w 1] 20)).heap.size = W1.heap.size + 1 := Array.size_push ..
  have HZZ := Lib.hid hzz
  clear hzz
  have zz : w.heap.size + 2 ≤ (W1.alloc (.cells #[fStr w 1] 20)).heap.size := by simp; omega
  go_wp2_with (first | (go_at_call 48; refine (has_is _ 6 _ HK).mono ?_; rintro e wh ⟨rfl, rfl⟩) | (at_builtin; refine Own.append (w0 := (W1.alloc (.cells #[fStr w 1] 20))) (w.heap.size + 2) rfl (.tmp 35) (.tmp 38) 139 20 .nilIface 1 16 rfl Tryz.underlying139 info_any rfl (by decide) (.slice (some ⟨W1.heap.size, 0, none⟩) 1 1) [fStr w 1] (fInt w 3) [fInt w 3] rfl (by rw [HZZ.out]; rfl) rfl rfl (by simp [Value.oneCell']) O0 (Below.refl _ _) zz (by simp) (by simp) ?_; intro v1 x1 O1 B1 _ _; have Q1 := Q0.belowB B1; have zz1 : w.heap.size + 2 ≤ x1.heap.size := Nat.le_trans zz B1.size) | (at_builtin; refine Own.append (w0 := x1) (w.heap.size + 2) rfl (.tmp 43) (.tmp 46) 139 20 .nilIface 1 16 rfl Tryz.underlying139 info_any rfl (by decide) v1 [fStr w 1, fInt w 3] (fVal w 4) [fVal w 4] rfl rfl rfl rfl (by simp [Value.oneCell']) O1 (Below.refl _ _) zz1 (by simp) (by simp) ?_; intro v2 x2 O2 B2 _ _; have Q2 := Q1.belowB B2; have zz2 : w.heap.size + 2 ≤ x2.heap.size := Nat.le_trans zz1 B2.size; obtain ⟨ad, cc, hv⟩ := own_slice_n O2 3 rfl (by omega); subst hv))
  have OF : Own enJ 1 20 x2 (w.heap.size + 2) (.slice (some ad) 3 cc) [fStr w 1, fInt w 3, fVal w 4] := O2
  have RF := Q2
  refine wp_loop_rounds 4 ?_
  rw [rounds_succ]
  have el0 : (x2).cell? ad = some (fStr w 1) := own_elem OF 0 (fStr w 1) rfl
  have el1 : (x2).cell? ⟨ad.block, ad.off + 1, none⟩ = some (fInt w 3) := own_elem OF 1 (fInt w 3) rfl
  have el2 : (x2).cell? ⟨ad.block, ad.off + 2, none⟩ = some (fVal w 4) := own_elem OF 2 (fVal w 4) rfl
  go_wp2_with fail
  refine (take_str s 1 (w.heap.size + 1) 1 (.string ⟨#[]⟩) u (m : Int) 0 _ hs (RF.cell 1 _ rfl) (RF.free 1) (by have := RF.siz; omega) HU).mono ?_
  rintro e Y0 ⟨rfl, V0, bm, hW⟩
  have R' : RW w #[.int .i64 7, .string u, .string ⟨#[]⟩, .int .i64 0, .int .i64 0, .int .i64 0, .int .i64 0, .string ⟨#[]⟩] Y0 := by rw [hW]; exact (RF.below bm).set 1 _
  have O' := own_set (OF.below bm) 1 (.string u)
  rw [← hW] at O'
  clear hW bm
  clear RF OF el0 el1 el2
  have RF := R'
  have OF := O'
  clear R' O'
  go_wp2_with fail
  rw [rounds_succ]
  have el0 : (Y0).cell? ad = some (fStr w 1) := own_elem OF 0 (fStr w 1) rfl
  have el1 : (Y0).cell? ⟨ad.block, ad.off + 1, none⟩ = some (fInt w 3) := own_elem OF 1 (fInt w 3) rfl
  have el2 : (Y0).cell? ⟨ad.block, ad.off + 2, none⟩ = some (fVal w 4) := own_elem OF 2 (fVal w 4) rfl
  go_wp2_with fail
  refine (take_int s m (w.heap.size + 1) 3 (.int .i64 0) i _ hs hlt hi (RF.cell 3 _ rfl) (RF.free 3)).mono ?_
  rintro e Y1 ⟨rfl, hW⟩
  have R' : RW w #[.int .i64 7, .string u, .string ⟨#[]⟩, .int .i64 i, .int .i64 0, .int .i64 0, .int .i64 0, .string ⟨#[]⟩] Y1 := by rw [hW]; exact RF.set 3 _
  have O' := own_set OF 3 (.int .i64 i)
  rw [← hW] at O'
  clear hW
  clear RF OF el0 el1 el2
  have RF := R'
  have OF := O'
  clear R' O'
  go_wp2_with fail
  rw [rounds_succ]
  have el0 : (Y1).cell? ad = some (fStr w 1) := own_elem OF 0 (fStr w 1) rfl
  have el1 : (Y1).cell? ⟨ad.block, ad.off + 1, none⟩ = some (fInt w 3) := own_elem OF 1 (fInt w 3) rfl
  have el2 : (Y1).cell? ⟨ad.block, ad.off + 2, none⟩ = some (fVal w 4) := own_elem OF 2 (fVal w 4) rfl
  go_wp2_with fail
  refine (take_val s ((m : Int) + 1) (w.heap.size + 1) 4 (.int .i64 0) (.int .i64 0) (.int .i64 0) (.string ⟨#[]⟩) (va, vp, vn, vt) a3 0 _ hs (RF.cell 4 _ rfl) (RF.cell 5 _ rfl) (RF.cell 6 _ rfl) (RF.cell 7 _ rfl) (RF.free 4) (RF.free 5) (RF.free 6) (RF.free 7) (by have := RF.siz; omega) HV).mono ?_
  rintro e Y2 ⟨rfl, V2, bm, hW⟩
  have R' : RW w #[.int .i64 7, .string u, .string ⟨#[]⟩, .int .i64 i, .int .i64 va, .int .i64 vp, .int .i64 vn, .string vt] Y2 := by rw [hW]; exact ((((RF.below bm).set 4 _).set 5 _).set 6 _).set 7 _
  have O' := own_set (own_set (own_set (own_set (OF.below bm) 4 (.int .i64 va)) 5 (.int .i64 vp)) 6 (.int .i64 vn)) 7 (.string vt)
  rw [← hW] at O'
  clear hW bm
  clear RF OF el0 el1 el2
  have RF := R'
  have OF := O'
  clear R' O'
  go_wp2_with fail
  rw [rounds_succ]
  go_wp2_with fail
  have c0 := RF.cell 0 (.int .i64 7) rfl
  have c1 := RF.cell 1 (.string u) rfl
  have c2 := RF.cell 2 (.string ⟨#[]⟩) rfl
  have c3 := RF.cell 3 (.int .i64 i) rfl
  have c4 := RF.cell 4 (.int .i64 va) rfl
  have c5 := RF.cell 5 (.int .i64 vp) rfl
  have c6 := RF.cell 6 (.int .i64 vn) rfl
  have c7 := RF.cell 7 (.string vt) rfl
  have d0 := RF.cell0 0 (.int .i64 0) rfl
  have f0 := RF.free0 0
  have d1 := RF.cell0 1 (.string ⟨#[]⟩) rfl
  have f1 := RF.free0 1
  have d2 := RF.cell0 2 (.string ⟨#[]⟩) rfl
  have f2 := RF.free0 2
  have d3 := RF.cell0 3 (.int .i64 0) rfl
  have f3 := RF.free0 3
  have d4 := RF.cell0 4 (.int .i64 0) rfl
  have f4 := RF.free0 4
  have d5 := RF.cell0 5 (.int .i64 0) rfl
  have f5 := RF.free0 5
  have d6 := RF.cell0 6 (.int .i64 0) rfl
  have f6 := RF.free0 6
  have d7 := RF.cell0 7 (.string ⟨#[]⟩) rfl
  have f7 := RF.free0 7
  have hS : (Y2).cell? ⟨w.heap.size + 1, 0, none⟩ = some (.int .i64 7) ∧ (Y2).cell? ⟨w.heap.size + 1, 1, none⟩ = some (.string u) ∧ (Y2).cell? ⟨w.heap.size + 1, 2, none⟩ = some (.string ⟨#[]⟩) ∧ (Y2).cell? ⟨w.heap.size + 1, 3, none⟩ = some (.int .i64 i) ∧ (Y2).cell? ⟨w.heap.size + 1, 4, none⟩ = some (.int .i64 va) ∧ (Y2).cell? ⟨w.heap.size + 1, 5, none⟩ = some (.int .i64 vp) ∧ (Y2).cell? ⟨w.heap.size + 1, 6, none⟩ = some (.int .i64 vn) ∧ (Y2).cell? ⟨w.heap.size + 1, 7, none⟩ = some (.string vt) := ⟨c0, c1, c2, c3, c4, c5, c6, c7⟩
  have hyz : w.heap.size ≠ w.heap.size + 1 := by omega
  have hyy : w.heap.size + 1 ≠ w.heap.size := by omega
  refine wp_region_held_drew (S := (fun W => W.cell? ⟨w.heap.size + 1, 0, none⟩ = some (.int .i64 7) ∧ W.cell? ⟨w.heap.size + 1, 1, none⟩ = some (.string u) ∧ W.cell? ⟨w.heap.size + 1, 2, none⟩ = some (.string ⟨#[]⟩) ∧ W.cell? ⟨w.heap.size + 1, 3, none⟩ = some (.int .i64 i) ∧ W.cell? ⟨w.heap.size + 1, 4, none⟩ = some (.int .i64 va) ∧ W.cell? ⟨w.heap.size + 1, 5, none⟩ = some (.int .i64 vp) ∧ W.cell? ⟨w.heap.size + 1, 6, none⟩ = some (.int .i64 vn) ∧ W.cell? ⟨w.heap.size + 1, 7, none⟩ = some (.string vt))) (by kernel_rfl) hS (fun hHeld => ?_)
  refine wpAnyH_take (i := 0) (v := ?vx1) rfl (by kernel_rfl) (by kernel_rfl) (by kernel_rfl) (fun _ _ _ h => h) (Or.inl ⟨by rfl, ?hyx1⟩) (by assumption) ?restx1
  case hyx1 => (intro w hSw; (try dsimp only at hSw); go_simp; (try (first | with_reducible rfl | rw [if_neg (by omega)])))
  try simp only [Act.put, List.getElem_toArray, List.getElem_cons_succ, List.getElem_cons_zero, List.setIfInBounds_toArray, List.set_cons_zero, List.set_cons_succ]
  refine wpAnyH_take (i := 1) (v := ?vx2) rfl (by kernel_rfl) (by kernel_rfl) (by kernel_rfl) (fun _ _ _ h => h) (Or.inl ⟨by rfl, ?hyx2⟩) (by assumption) ?restx2
  case hyx2 => (intro w hSw; (try dsimp only at hSw); go_simp; (try (first | with_reducible rfl | rw [if_neg (by omega)])))
  try simp only [Act.put, List.getElem_toArray, List.getElem_cons_succ, List.getElem_cons_zero, List.setIfInBounds_toArray, List.set_cons_zero, List.set_cons_succ]
  refine wpAnyH_take (i := 2) (v := ?vx3) rfl (by kernel_rfl) (by kernel_rfl) (by kernel_rfl) (fun _ _ _ h => h) (Or.inl ⟨by rfl, ?hyx3⟩) (by assumption) ?restx3
  case hyx3 => (intro w hSw; (try dsimp only at hSw); go_simp; (try (first | with_reducible rfl | rw [if_neg (by omega)])))
  try simp only [Act.put, List.getElem_toArray, List.getElem_cons_succ, List.getElem_cons_zero, List.setIfInBounds_toArray, List.set_cons_zero, List.set_cons_succ]
  refine wpAnyH_take (i := 3) (v := ?vx4) rfl (by kernel_rfl) (by kernel_rfl) (by kernel_rfl) (fun _ _ _ h => h) (Or.inl ⟨by rfl, ?hyx4⟩) (by assumption) ?restx4
  case hyx4 => (intro w hSw; (try dsimp only at hSw); go_simp; (try (first | with_reducible rfl | rw [if_neg (by omega)])))
  try simp only [Act.put, List.getElem_toArray, List.getElem_cons_succ, List.getElem_cons_zero, List.setIfInBounds_toArray, List.set_cons_zero, List.set_cons_succ]
  refine wpAnyH_take (i := 4) (v := ?vx5) rfl (by kernel_rfl) (by kernel_rfl) (by kernel_rfl) (fun _ _ _ h => h) (Or.inl ⟨by rfl, ?hyx5⟩) (by assumption) ?restx5
  case hyx5 => (intro w hSw; (try dsimp only at hSw); go_simp; (try (first | with_reducible rfl | rw [if_neg (by omega)])))
  try simp only [Act.put, List.getElem_toArray, List.getElem_cons_succ, List.getElem_cons_zero, List.setIfInBounds_toArray, List.set_cons_zero, List.set_cons_succ]
  refine wpAnyH_take (i := 5) (v := ?vx6) rfl (by kernel_rfl) (by kernel_rfl) (by kernel_rfl) (fun _ _ _ h => h) (Or.inl ⟨by rfl, ?hyx6⟩) (by assumption) ?restx6
  case hyx6 => (intro w hSw; (try dsimp only at hSw); go_simp; (try (first | with_reducible rfl | rw [if_neg (by omega)])))
  try simp only [Act.put, List.getElem_toArray, List.getElem_cons_succ, List.getElem_cons_zero, List.setIfInBounds_toArray, List.set_cons_zero, List.set_cons_succ]
  refine wpAnyH_take (i := 6) (v := ?vx7) rfl (by kernel_rfl) (by kernel_rfl) (by kernel_rfl) (fun _ _ _ h => h) (Or.inl ⟨by rfl, ?hyx7⟩) (by assumption) ?restx7
  case hyx7 => (intro w hSw; (try dsimp only at hSw); go_simp; (try (first | with_reducible rfl | rw [if_neg (by omega)])))
  try simp only [Act.put, List.getElem_toArray, List.getElem_cons_succ, List.getElem_cons_zero, List.setIfInBounds_toArray, List.set_cons_zero, List.set_cons_succ]
  refine wpAnyH_take (i := 7) (v := ?vx8) rfl (by kernel_rfl) (by kernel_rfl) (by kernel_rfl) (fun _ _ _ h => h) (Or.inl ⟨by rfl, ?hyx8⟩) (by assumption) ?restx8
  case hyx8 => (intro w hSw; (try dsimp only at hSw); go_simp; (try (first | with_reducible rfl | rw [if_neg (by omega)])))
  try simp only [Act.put, List.getElem_toArray, List.getElem_cons_succ, List.getElem_cons_zero, List.setIfInBounds_toArray, List.set_cons_zero, List.set_cons_succ]
  refine wpAnyH_take (i := 8) (v := ?vx9) rfl (by kernel_rfl) (by kernel_rfl) (by kernel_rfl) (fun _ _ _ h => h) (Or.inl ⟨by rfl, ?hyx9⟩) (by assumption) ?restx9
  case hyx9 => (intro w hSw; (try dsimp only at hSw); go_simp; (try (first | with_reducible rfl | rw [if_neg (by omega)])))
  try simp only [Act.put, List.getElem_toArray, List.getElem_cons_succ, List.getElem_cons_zero, List.setIfInBounds_toArray, List.set_cons_zero, List.set_cons_succ]
  refine wpAnyH_take (i := 9) (v := undef) rfl (by kernel_rfl) (by kernel_rfl) (by kernel_rfl) (fun _ _ _ h => h) (Or.inr ⟨by rfl, rfl⟩) (by assumption) ?_
  try simp only [Act.put, List.getElem_toArray, List.getElem_cons_succ, List.getElem_cons_zero, List.setIfInBounds_toArray, List.set_cons_zero, List.set_cons_succ]
  refine wpAnyH_take (i := 10) (v := undef) rfl (by kernel_rfl) (by kernel_rfl) (by kernel_rfl) (fun _ _ _ h => h) (Or.inr ⟨by rfl, rfl⟩) (by assumption) ?_
  try simp only [Act.put, List.getElem_toArray, List.getElem_cons_succ, List.getElem_cons_zero, List.setIfInBounds_toArray, List.set_cons_zero, List.set_cons_succ]
  refine wpAnyH_take (i := 11) (v := ?vx12) rfl (by kernel_rfl) (by kernel_rfl) (by kernel_rfl) (fun _ _ _ h => h) (Or.inl ⟨by rfl, ?hyx12⟩) (by assumption) ?restx12
  case hyx12 => (intro w hSw; (try dsimp only at hSw); go_simp; (try (first | with_reducible rfl | rw [if_neg (by omega)])))
  try simp only [Act.put, List.getElem_toArray, List.getElem_cons_succ, List.getElem_cons_zero, List.setIfInBounds_toArray, List.set_cons_zero, List.set_cons_succ]
  refine wpAnyH_ready (rs := [12]) (by kernel_rfl) (by simp) ?_
  refine AllReadyH.cons rfl (fun K hK => ?_) ?_
  · go_simp
    refine hK.out _ _ (by (try dsimp only); (with_reducible exact s8_of (keep8d _ _ _ _ _ _ _ _ _ _) hS)) (fun hHeld => ?_)
    clear hK K
    try simp only [Act.put, List.getElem_toArray, List.getElem_cons_succ, List.getElem_cons_zero, List.setIfInBounds_toArray, List.set_cons_zero, List.set_cons_succ]
    refine wpAnyH_take (i := 13) (v := ?vx13) rfl (by kernel_rfl) (by kernel_rfl) (by kernel_rfl) (fun _ _ _ h => h) (Or.inl ⟨by rfl, ?hyx13⟩) (by assumption) ?restx13
    case hyx13 => (intro w hSw; (try dsimp only at hSw); go_simp; (try (first | with_reducible rfl | rw [if_neg (by omega)])))
    try simp only [Act.put, List.getElem_toArray, List.getElem_cons_succ, List.getElem_cons_zero, List.setIfInBounds_toArray, List.set_cons_zero, List.set_cons_succ]
    refine wpAnyH_done (by kernel_rfl) ?_ _
    go_wp2
    (try simp only [Exit.inBlock, Exit.then])
    refine bodyPost_ret (v := .tuple #[evV ⟨7, u, ⟨#[]⟩, i, va, vp, vn, vt⟩, .bool false]) (by simp [results, Tryz.results53, go_sem, evV, d0, d1, d2, d3, d4, d5, d6, d7]) rfl ⟨_, rfl, ?_, ?_⟩
    · exact (fun h => by cases h)
    · repeat (first | with_reducible exact RX.bel | with_reducible exact RF.bel | with_reducible refine Below.drew ?_ | with_reducible refine bset ?_ _ _ _ (Nat.le_refl _))
  exact AllReadyH.nil
set_option maxHeartbeats 4000000 in
set_option maxRecDepth 100000 in
theorem read_7_yes (s : ByteArray) (w : World) (hs : s.size ≤ 140737488351232) (h0 : 0 < s.size) (hk : (s[0]'h0).toNat = 7) (u : ByteArray) (m : Nat) (hu : u.size ≤ 140737488351232) (hm : m ≤ s.size) (HU : Hid (takeN s 1 = (u, (m : Int), 0))) (hlt : m < s.size) (i : Nat) (hi : (s[m]'hlt).toNat = i) (va vp vn : Int) (vt : ByteArray) (hvt : vt.size ≤ 140737488351232) (HV : Hid (takeVal s ((m : Int) + 1) = ((va, vp, vn, vt), (s.size : Int), 0))) (b : Bool) (HM : Hid (mayE8 7 u ⟨#[]⟩ i va vp vn vt = b)) :
    Calls Tryz.prog 53 #[.string s] w (RdPost ⟨7, u, ⟨#[]⟩, i, va, vp, vn, vt⟩ b w) := by
  have HK : Hid (hasK 7 = 6) := by show _ = _; unfold hasK; simp
  have e1 : bits .and .i64 6 1 = 0 := by decide
  have e2 : bits .and .i64 6 2 = 2 := by decide
  have e4 : bits .and .i64 6 4 = 4 := by decide
  go_enter Tryz.func53, Tryz.ntmps53
  go_wp2_with fail
  refine (take_int s 0 (w.heap.size + 1) 0 (.int .i64 0) 7 _ hs h0 hk ((RW.start w).cell 0 _ rfl) ((RW.start w).free 0)).mono ?_
  rintro e W1 ⟨rfl, hW⟩
  have R1 : RW w #[.int .i64 7, .string ⟨#[]⟩, .string ⟨#[]⟩, .int .i64 0, .int .i64 0, .int .i64 0, .int .i64 0, .string ⟨#[]⟩] W1 := by rw [hW]; exact (RW.start w).set 0 _
  clear hW
  have c0 := R1.cell 0 (.int .i64 7) rfl
  have hz := R1.siz
  have hz' : w.heap.size < W1.heap.size := by omega
  have O0 : Own enJ 1 20 (W1.alloc (.cells #[fStr w 1] 20)) (w.heap.size + 2) (.slice (some ⟨W1.heap.size, 0, none⟩) 1 1) [fStr w 1] := Own.lit enJ_len W1 [fStr w 1] #[fStr w 1] 1 rfl rfl (by omega) (by omega)
  have Q0 := R1.alloc (.cells #[fStr w 1] 20)
  have hzz : (W1.alloc (.cells #[fStr w 1] 20)).heap.size = W1.heap.size + 1 := Array.size_push ..
  have HZZ := Lib.hid hzz
  clear hzz
  have zz : w.heap.size + 2 ≤ (W1.alloc (.cells #[fStr w 1] 20)).heap.size := by simp; omega
  go_wp2_with (first | (go_at_call 48; refine (has_is _ 6 _ HK).mono ?_; rintro e wh ⟨rfl, rfl⟩) | (at_builtin; refine Own.append (w0 := (W1.alloc (.cells #[fStr w 1] 20))) (w.heap.size + 2) rfl (.tmp 35) (.tmp 38) 139 20 .nilIface 1 16 rfl Tryz.underlying139 info_any rfl (by decide) (.slice (some ⟨W1.heap.size, 0, none⟩) 1 1) [fStr w 1] (fInt w 3) [fInt w 3] rfl (by rw [HZZ.out]; rfl) rfl rfl (by simp [Value.oneCell']) O0 (Below.refl _ _) zz (by simp) (by simp) ?_; intro v1 x1 O1 B1 _ _; have Q1 := Q0.belowB B1; have zz1 : w.heap.size + 2 ≤ x1.heap.size := Nat.le_trans zz B1.size) | (at_builtin; refine Own.append (w0 := x1) (w.heap.size + 2) rfl (.tmp 43) (.tmp 46) 139 20 .nilIface 1 16 rfl Tryz.underlying139 info_any rfl (by decide) v1 [fStr w 1, fInt w 3] (fVal w 4) [fVal w 4] rfl rfl rfl rfl (by simp [Value.oneCell']) O1 (Below.refl _ _) zz1 (by simp) (by simp) ?_; intro v2 x2 O2 B2 _ _; have Q2 := Q1.belowB B2; have zz2 : w.heap.size + 2 ≤ x2.heap.size := Nat.le_trans zz1 B2.size; obtain ⟨ad, cc, hv⟩ := own_slice_n O2 3 rfl (by omega); subst hv))
  have OF : Own enJ 1 20 x2 (w.heap.size + 2) (.slice (some ad) 3 cc) [fStr w 1, fInt w 3, fVal w 4] := O2
  have RF := Q2
  refine wp_loop_rounds 4 ?_
  rw [rounds_succ]
  have el0 : (x2).cell? ad = some (fStr w 1) := own_elem OF 0 (fStr w 1) rfl
  have el1 : (x2).cell? ⟨ad.block, ad.off + 1, none⟩ = some (fInt w 3) := own_elem OF 1 (fInt w 3) rfl
  have el2 : (x2).cell? ⟨ad.block, ad.off + 2, none⟩ = some (fVal w 4) := own_elem OF 2 (fVal w 4) rfl
  go_wp2_with fail
  refine (take_str s 1 (w.heap.size + 1) 1 (.string ⟨#[]⟩) u (m : Int) 0 _ hs (RF.cell 1 _ rfl) (RF.free 1) (by have := RF.siz; omega) HU).mono ?_
  rintro e Y0 ⟨rfl, V0, bm, hW⟩
  have R' : RW w #[.int .i64 7, .string u, .string ⟨#[]⟩, .int .i64 0, .int .i64 0, .int .i64 0, .int .i64 0, .string ⟨#[]⟩] Y0 := by rw [hW]; exact (RF.below bm).set 1 _
  have O' := own_set (OF.below bm) 1 (.string u)
  rw [← hW] at O'
  clear hW bm
  clear RF OF el0 el1 el2
  have RF := R'
  have OF := O'
  clear R' O'
  go_wp2_with fail
  rw [rounds_succ]
  have el0 : (Y0).cell? ad = some (fStr w 1) := own_elem OF 0 (fStr w 1) rfl
  have el1 : (Y0).cell? ⟨ad.block, ad.off + 1, none⟩ = some (fInt w 3) := own_elem OF 1 (fInt w 3) rfl
  have el2 : (Y0).cell? ⟨ad.block, ad.off + 2, none⟩ = some (fVal w 4) := own_elem OF 2 (fVal w 4) rfl
  go_wp2_with fail
  refine (take_int s m (w.heap.size + 1) 3 (.int .i64 0) i _ hs hlt hi (RF.cell 3 _ rfl) (RF.free 3)).mono ?_
  rintro e Y1 ⟨rfl, hW⟩
  have R' : RW w #[.int .i64 7, .string u, .string ⟨#[]⟩, .int .i64 i, .int .i64 0, .int .i64 0, .int .i64 0, .string ⟨#[]⟩] Y1 := by rw [hW]; exact RF.set 3 _
  have O' := own_set OF 3 (.int .i64 i)
  rw [← hW] at O'
  clear hW
  clear RF OF el0 el1 el2
  have RF := R'
  have OF := O'
  clear R' O'
  go_wp2_with fail
  rw [rounds_succ]
  have el0 : (Y1).cell? ad = some (fStr w 1) := own_elem OF 0 (fStr w 1) rfl
  have el1 : (Y1).cell? ⟨ad.block, ad.off + 1, none⟩ = some (fInt w 3) := own_elem OF 1 (fInt w 3) rfl
  have el2 : (Y1).cell? ⟨ad.block, ad.off + 2, none⟩ = some (fVal w 4) := own_elem OF 2 (fVal w 4) rfl
  go_wp2_with fail
  refine (take_val s ((m : Int) + 1) (w.heap.size + 1) 4 (.int .i64 0) (.int .i64 0) (.int .i64 0) (.string ⟨#[]⟩) (va, vp, vn, vt) (s.size : Int) 0 _ hs (RF.cell 4 _ rfl) (RF.cell 5 _ rfl) (RF.cell 6 _ rfl) (RF.cell 7 _ rfl) (RF.free 4) (RF.free 5) (RF.free 6) (RF.free 7) (by have := RF.siz; omega) HV).mono ?_
  rintro e Y2 ⟨rfl, V2, bm, hW⟩
  have R' : RW w #[.int .i64 7, .string u, .string ⟨#[]⟩, .int .i64 i, .int .i64 va, .int .i64 vp, .int .i64 vn, .string vt] Y2 := by rw [hW]; exact ((((RF.below bm).set 4 _).set 5 _).set 6 _).set 7 _
  have O' := own_set (own_set (own_set (own_set (OF.below bm) 4 (.int .i64 va)) 5 (.int .i64 vp)) 6 (.int .i64 vn)) 7 (.string vt)
  rw [← hW] at O'
  clear hW bm
  clear RF OF el0 el1 el2
  have RF := R'
  have OF := O'
  clear R' O'
  go_wp2_with fail
  rw [rounds_succ]
  go_wp2_with fail
  have c0 := RF.cell 0 (.int .i64 7) rfl
  have c1 := RF.cell 1 (.string u) rfl
  have c2 := RF.cell 2 (.string ⟨#[]⟩) rfl
  have c3 := RF.cell 3 (.int .i64 i) rfl
  have c4 := RF.cell 4 (.int .i64 va) rfl
  have c5 := RF.cell 5 (.int .i64 vp) rfl
  have c6 := RF.cell 6 (.int .i64 vn) rfl
  have c7 := RF.cell 7 (.string vt) rfl
  have d0 := RF.cell0 0 (.int .i64 0) rfl
  have f0 := RF.free0 0
  have d1 := RF.cell0 1 (.string ⟨#[]⟩) rfl
  have f1 := RF.free0 1
  have d2 := RF.cell0 2 (.string ⟨#[]⟩) rfl
  have f2 := RF.free0 2
  have d3 := RF.cell0 3 (.int .i64 0) rfl
  have f3 := RF.free0 3
  have d4 := RF.cell0 4 (.int .i64 0) rfl
  have f4 := RF.free0 4
  have d5 := RF.cell0 5 (.int .i64 0) rfl
  have f5 := RF.free0 5
  have d6 := RF.cell0 6 (.int .i64 0) rfl
  have f6 := RF.free0 6
  have d7 := RF.cell0 7 (.string ⟨#[]⟩) rfl
  have f7 := RF.free0 7
  have hS : (Y2).cell? ⟨w.heap.size + 1, 0, none⟩ = some (.int .i64 7) ∧ (Y2).cell? ⟨w.heap.size + 1, 1, none⟩ = some (.string u) ∧ (Y2).cell? ⟨w.heap.size + 1, 2, none⟩ = some (.string ⟨#[]⟩) ∧ (Y2).cell? ⟨w.heap.size + 1, 3, none⟩ = some (.int .i64 i) ∧ (Y2).cell? ⟨w.heap.size + 1, 4, none⟩ = some (.int .i64 va) ∧ (Y2).cell? ⟨w.heap.size + 1, 5, none⟩ = some (.int .i64 vp) ∧ (Y2).cell? ⟨w.heap.size + 1, 6, none⟩ = some (.int .i64 vn) ∧ (Y2).cell? ⟨w.heap.size + 1, 7, none⟩ = some (.string vt) := ⟨c0, c1, c2, c3, c4, c5, c6, c7⟩
  have hyz : w.heap.size ≠ w.heap.size + 1 := by omega
  have hyy : w.heap.size + 1 ≠ w.heap.size := by omega
  refine wp_region_held_drew (S := (fun W => W.cell? ⟨w.heap.size + 1, 0, none⟩ = some (.int .i64 7) ∧ W.cell? ⟨w.heap.size + 1, 1, none⟩ = some (.string u) ∧ W.cell? ⟨w.heap.size + 1, 2, none⟩ = some (.string ⟨#[]⟩) ∧ W.cell? ⟨w.heap.size + 1, 3, none⟩ = some (.int .i64 i) ∧ W.cell? ⟨w.heap.size + 1, 4, none⟩ = some (.int .i64 va) ∧ W.cell? ⟨w.heap.size + 1, 5, none⟩ = some (.int .i64 vp) ∧ W.cell? ⟨w.heap.size + 1, 6, none⟩ = some (.int .i64 vn) ∧ W.cell? ⟨w.heap.size + 1, 7, none⟩ = some (.string vt))) (by kernel_rfl) hS (fun hHeld => ?_)
  refine wpAnyH_take (i := 0) (v := ?vx1) rfl (by kernel_rfl) (by kernel_rfl) (by kernel_rfl) (fun _ _ _ h => h) (Or.inl ⟨by rfl, ?hyx1⟩) (by assumption) ?restx1
  case hyx1 => (intro w hSw; (try dsimp only at hSw); go_simp; (try (first | with_reducible rfl | rw [if_neg (by omega)])))
  try simp only [Act.put, List.getElem_toArray, List.getElem_cons_succ, List.getElem_cons_zero, List.setIfInBounds_toArray, List.set_cons_zero, List.set_cons_succ]
  refine wpAnyH_take (i := 1) (v := ?vx2) rfl (by kernel_rfl) (by kernel_rfl) (by kernel_rfl) (fun _ _ _ h => h) (Or.inl ⟨by rfl, ?hyx2⟩) (by assumption) ?restx2
  case hyx2 => (intro w hSw; (try dsimp only at hSw); go_simp; (try (first | with_reducible rfl | rw [if_neg (by omega)])))
  try simp only [Act.put, List.getElem_toArray, List.getElem_cons_succ, List.getElem_cons_zero, List.setIfInBounds_toArray, List.set_cons_zero, List.set_cons_succ]
  refine wpAnyH_take (i := 2) (v := ?vx3) rfl (by kernel_rfl) (by kernel_rfl) (by kernel_rfl) (fun _ _ _ h => h) (Or.inl ⟨by rfl, ?hyx3⟩) (by assumption) ?restx3
  case hyx3 => (intro w hSw; (try dsimp only at hSw); go_simp; (try (first | with_reducible rfl | rw [if_neg (by omega)])))
  try simp only [Act.put, List.getElem_toArray, List.getElem_cons_succ, List.getElem_cons_zero, List.setIfInBounds_toArray, List.set_cons_zero, List.set_cons_succ]
  refine wpAnyH_take (i := 3) (v := ?vx4) rfl (by kernel_rfl) (by kernel_rfl) (by kernel_rfl) (fun _ _ _ h => h) (Or.inl ⟨by rfl, ?hyx4⟩) (by assumption) ?restx4
  case hyx4 => (intro w hSw; (try dsimp only at hSw); go_simp; (try (first | with_reducible rfl | rw [if_neg (by omega)])))
  try simp only [Act.put, List.getElem_toArray, List.getElem_cons_succ, List.getElem_cons_zero, List.setIfInBounds_toArray, List.set_cons_zero, List.set_cons_succ]
  refine wpAnyH_take (i := 4) (v := ?vx5) rfl (by kernel_rfl) (by kernel_rfl) (by kernel_rfl) (fun _ _ _ h => h) (Or.inl ⟨by rfl, ?hyx5⟩) (by assumption) ?restx5
  case hyx5 => (intro w hSw; (try dsimp only at hSw); go_simp; (try (first | with_reducible rfl | rw [if_neg (by omega)])))
  try simp only [Act.put, List.getElem_toArray, List.getElem_cons_succ, List.getElem_cons_zero, List.setIfInBounds_toArray, List.set_cons_zero, List.set_cons_succ]
  refine wpAnyH_take (i := 5) (v := ?vx6) rfl (by kernel_rfl) (by kernel_rfl) (by kernel_rfl) (fun _ _ _ h => h) (Or.inl ⟨by rfl, ?hyx6⟩) (by assumption) ?restx6
  case hyx6 => (intro w hSw; (try dsimp only at hSw); go_simp; (try (first | with_reducible rfl | rw [if_neg (by omega)])))
  try simp only [Act.put, List.getElem_toArray, List.getElem_cons_succ, List.getElem_cons_zero, List.setIfInBounds_toArray, List.set_cons_zero, List.set_cons_succ]
  refine wpAnyH_take (i := 6) (v := ?vx7) rfl (by kernel_rfl) (by kernel_rfl) (by kernel_rfl) (fun _ _ _ h => h) (Or.inl ⟨by rfl, ?hyx7⟩) (by assumption) ?restx7
  case hyx7 => (intro w hSw; (try dsimp only at hSw); go_simp; (try (first | with_reducible rfl | rw [if_neg (by omega)])))
  try simp only [Act.put, List.getElem_toArray, List.getElem_cons_succ, List.getElem_cons_zero, List.setIfInBounds_toArray, List.set_cons_zero, List.set_cons_succ]
  refine wpAnyH_take (i := 7) (v := ?vx8) rfl (by kernel_rfl) (by kernel_rfl) (by kernel_rfl) (fun _ _ _ h => h) (Or.inl ⟨by rfl, ?hyx8⟩) (by assumption) ?restx8
  case hyx8 => (intro w hSw; (try dsimp only at hSw); go_simp; (try (first | with_reducible rfl | rw [if_neg (by omega)])))
  try simp only [Act.put, List.getElem_toArray, List.getElem_cons_succ, List.getElem_cons_zero, List.setIfInBounds_toArray, List.set_cons_zero, List.set_cons_succ]
  refine wpAnyH_take (i := 8) (v := ?vx9) rfl (by kernel_rfl) (by kernel_rfl) (by kernel_rfl) (fun _ _ _ h => h) (Or.inl ⟨by rfl, ?hyx9⟩) (by assumption) ?restx9
  case hyx9 => (intro w hSw; (try dsimp only at hSw); go_simp; (try (first | with_reducible rfl | rw [if_neg (by omega)])))
  try simp only [Act.put, List.getElem_toArray, List.getElem_cons_succ, List.getElem_cons_zero, List.setIfInBounds_toArray, List.set_cons_zero, List.set_cons_succ]
  refine wpAnyH_take (i := 9) (v := ?vx10) rfl (by kernel_rfl) (by kernel_rfl) (by kernel_rfl) (fun _ _ _ h => h) (Or.inl ⟨by rfl, ?hyx10⟩) (by assumption) ?restx10
  case hyx10 => (intro w hSw; (try dsimp only at hSw); go_simp; (try (first | with_reducible rfl | rw [if_neg (by omega)])))
  try simp only [Act.put, List.getElem_toArray, List.getElem_cons_succ, List.getElem_cons_zero, List.setIfInBounds_toArray, List.set_cons_zero, List.set_cons_succ]
  refine wpAnyH_ready (rs := [10]) (by kernel_rfl) (by simp) ?_
  refine AllReadyH.cons rfl (fun K hK => ?_) ?_
  · go_simp
    go_at_call 43
    refine (re_ (mayE_calls (7) (u) (⟨#[]⟩) (i) (va) (vp) (vn) (vt) _ (by omega) (by first | omega | decide) (by first | omega | decide)) (ret_bool HM.out)).mono ?_
    rintro e wx ⟨rfl, hbx⟩
    have hbx := undrew hbx
    have RX := RF.below hbx
    have p0 := RX.cell 0 (.int .i64 7) rfl
    have p1 := RX.cell 1 (.string u) rfl
    have p2 := RX.cell 2 (.string ⟨#[]⟩) rfl
    have p3 := RX.cell 3 (.int .i64 i) rfl
    have p4 := RX.cell 4 (.int .i64 va) rfl
    have p5 := RX.cell 5 (.int .i64 vp) rfl
    have p6 := RX.cell 6 (.int .i64 vn) rfl
    have p7 := RX.cell 7 (.string vt) rfl
    have q0 := RX.cell0 0 (.int .i64 0) rfl
    have q1 := RX.cell0 1 (.string ⟨#[]⟩) rfl
    have q2 := RX.cell0 2 (.string ⟨#[]⟩) rfl
    have q3 := RX.cell0 3 (.int .i64 0) rfl
    have q4 := RX.cell0 4 (.int .i64 0) rfl
    have q5 := RX.cell0 5 (.int .i64 0) rfl
    have q6 := RX.cell0 6 (.int .i64 0) rfl
    have q7 := RX.cell0 7 (.string ⟨#[]⟩) rfl
    have g0 := RX.free0 0
    have g1 := RX.free0 1
    have g2 := RX.free0 2
    have g3 := RX.free0 3
    have g4 := RX.free0 4
    have g5 := RX.free0 5
    have g6 := RX.free0 6
    have g7 := RX.free0 7
    have hSx : wx.cell? ⟨w.heap.size + 1, 0, none⟩ = some (.int .i64 7) ∧ wx.cell? ⟨w.heap.size + 1, 1, none⟩ = some (.string u) ∧ wx.cell? ⟨w.heap.size + 1, 2, none⟩ = some (.string ⟨#[]⟩) ∧ wx.cell? ⟨w.heap.size + 1, 3, none⟩ = some (.int .i64 i) ∧ wx.cell? ⟨w.heap.size + 1, 4, none⟩ = some (.int .i64 va) ∧ wx.cell? ⟨w.heap.size + 1, 5, none⟩ = some (.int .i64 vp) ∧ wx.cell? ⟨w.heap.size + 1, 6, none⟩ = some (.int .i64 vn) ∧ wx.cell? ⟨w.heap.size + 1, 7, none⟩ = some (.string vt) := ⟨p0, p1, p2, p3, p4, p5, p6, p7⟩
    refine hK.out _ _ (by (try dsimp only); (first | with_reducible exact hSx | with_reducible exact s8_of (keep8 _ _ _ _ _ _ _ _ _ _) hSx)) (fun hHeld => ?_)
    clear hK K
    try simp only [Act.put, List.getElem_toArray, List.getElem_cons_succ, List.getElem_cons_zero, List.setIfInBounds_toArray, List.set_cons_zero, List.set_cons_succ]
    refine wpAnyH_take (i := 11) (v := ?vx11) rfl (by kernel_rfl) (by kernel_rfl) (by kernel_rfl) (fun _ _ _ h => h) (Or.inl ⟨by rfl, ?hyx11⟩) (by assumption) ?restx11
    case hyx11 => (intro w hSw; (try dsimp only at hSw); go_simp; (try (first | with_reducible rfl | rw [if_neg (by omega)])))
    try simp only [Act.put, List.getElem_toArray, List.getElem_cons_succ, List.getElem_cons_zero, List.setIfInBounds_toArray, List.set_cons_zero, List.set_cons_succ]
    refine wpAnyH_ready (rs := [12]) (by kernel_rfl) (by simp) ?_
    refine AllReadyH.cons rfl (fun K hK => ?_) ?_
    · go_simp
      refine hK.out _ _ (by (try dsimp only); (first | with_reducible exact hSx | with_reducible exact s8_of (keep8 _ _ _ _ _ _ _ _ _ _) hSx)) (fun hHeld => ?_)
      clear hK K
      try simp only [Act.put, List.getElem_toArray, List.getElem_cons_succ, List.getElem_cons_zero, List.setIfInBounds_toArray, List.set_cons_zero, List.set_cons_succ]
      refine wpAnyH_take (i := 13) (v := ?vx12) rfl (by kernel_rfl) (by kernel_rfl) (by kernel_rfl) (fun _ _ _ h => h) (Or.inl ⟨by rfl, ?hyx12⟩) (by assumption) ?restx12
      case hyx12 => (intro w hSw; (try dsimp only at hSw); go_simp; (try (first | with_reducible rfl | rw [if_neg (by omega)])))
      try simp only [Act.put, List.getElem_toArray, List.getElem_cons_succ, List.getElem_cons_zero, List.setIfInBounds_toArray, List.set_cons_zero, List.set_cons_succ]
      refine wpAnyH_done (by kernel_rfl) ?_ _
      go_wp2
      (try simp only [Exit.inBlock, Exit.then])
      refine bodyPost_ret (v := .tuple #[evV ⟨7, u, ⟨#[]⟩, i, va, vp, vn, vt⟩, .bool b]) (by simp [results, Tryz.results53, go_sem, evV, q0, q1, q2, q3, q4, q5, q6, q7]) rfl ⟨_, rfl, ?_, ?_⟩
      · exact (fun _ => rfl)
      · repeat (first | with_reducible exact RX.bel | with_reducible exact RF.bel | with_reducible refine Below.drew ?_ | with_reducible refine bset ?_ _ _ _ (Nat.le_refl _))
    exact AllReadyH.nil
  exact AllReadyH.nil
set_option maxHeartbeats 4000000 in
set_option maxRecDepth 100000 in
theorem read_8_ino (s : ByteArray) (w : World) (hs : s.size ≤ 140737488351232) (h0 : 0 < s.size) (hk : (s[0]'h0).toNat = 8) (u : ByteArray) (m : Nat) (hu : u.size ≤ 140737488351232) (hm : m ≤ s.size) (HU : Hid (takeN s 1 = (u, (m : Int), 0))) (hge : s.size ≤ m) (ev : Ev) :
    Calls Tryz.prog 53 #[.string s] w (RdPost ev false w) := by
  have HK : Hid (hasK 8 = 2) := by show _ = _; unfold hasK; simp
  have e1 : bits .and .i64 2 1 = 0 := by decide
  have e2 : bits .and .i64 2 2 = 2 := by decide
  have e4 : bits .and .i64 2 4 = 0 := by decide
  go_enter Tryz.func53, Tryz.ntmps53
  go_wp2_with fail
  refine (take_int s 0 (w.heap.size + 1) 0 (.int .i64 0) 8 _ hs h0 hk ((RW.start w).cell 0 _ rfl) ((RW.start w).free 0)).mono ?_
  rintro e W1 ⟨rfl, hW⟩
  have R1 : RW w #[.int .i64 8, .string ⟨#[]⟩, .string ⟨#[]⟩, .int .i64 0, .int .i64 0, .int .i64 0, .int .i64 0, .string ⟨#[]⟩] W1 := by rw [hW]; exact (RW.start w).set 0 _
  clear hW
  have c0 := R1.cell 0 (.int .i64 8) rfl
  have hz := R1.siz
  have hz' : w.heap.size < W1.heap.size := by omega
  have O0 : Own enJ 1 20 (W1.alloc (.cells #[fStr w 1] 20)) (w.heap.size + 2) (.slice (some ⟨W1.heap.size, 0, none⟩) 1 1) [fStr w 1] := Own.lit enJ_len W1 [fStr w 1] #[fStr w 1] 1 rfl rfl (by omega) (by omega)
  have Q0 := R1.alloc (.cells #[fStr w 1] 20)
  have hzz : (W1.alloc (.cells #[fStr w 1] 20)).heap.size = W1.heap.size + 1 := Array.size_push ..
  have HZZ := Lib.hid hzz
  clear hzz
  have zz : w.heap.size + 2 ≤ (W1.alloc (.cells #[fStr w 1] 20)).heap.size := by simp; omega
  go_wp2_with (first | (go_at_call 48; refine (has_is _ 2 _ HK).mono ?_; rintro e wh ⟨rfl, rfl⟩) | (at_builtin; refine Own.append (w0 := (W1.alloc (.cells #[fStr w 1] 20))) (w.heap.size + 2) rfl (.tmp 35) (.tmp 38) 139 20 .nilIface 1 16 rfl Tryz.underlying139 info_any rfl (by decide) (.slice (some ⟨W1.heap.size, 0, none⟩) 1 1) [fStr w 1] (fInt w 3) [fInt w 3] rfl (by rw [HZZ.out]; rfl) rfl rfl (by simp [Value.oneCell']) O0 (Below.refl _ _) zz (by simp) (by simp) ?_; intro v1 x1 O1 B1 _ _; have Q1 := Q0.belowB B1; have zz1 : w.heap.size + 2 ≤ x1.heap.size := Nat.le_trans zz B1.size; obtain ⟨ad, cc, hv⟩ := own_slice_n O1 2 rfl (by omega); subst hv))
  have OF : Own enJ 1 20 x1 (w.heap.size + 2) (.slice (some ad) 2 cc) [fStr w 1, fInt w 3] := O1
  have RF := Q1
  refine wp_loop_rounds 3 ?_
  rw [rounds_succ]
  have el0 : (x1).cell? ad = some (fStr w 1) := own_elem OF 0 (fStr w 1) rfl
  have el1 : (x1).cell? ⟨ad.block, ad.off + 1, none⟩ = some (fInt w 3) := own_elem OF 1 (fInt w 3) rfl
  go_wp2_with fail
  refine (take_str s 1 (w.heap.size + 1) 1 (.string ⟨#[]⟩) u (m : Int) 0 _ hs (RF.cell 1 _ rfl) (RF.free 1) (by have := RF.siz; omega) HU).mono ?_
  rintro e Y0 ⟨rfl, V0, bm, hW⟩
  have R' : RW w #[.int .i64 8, .string u, .string ⟨#[]⟩, .int .i64 0, .int .i64 0, .int .i64 0, .int .i64 0, .string ⟨#[]⟩] Y0 := by rw [hW]; exact (RF.below bm).set 1 _
  have O' := own_set (OF.below bm) 1 (.string u)
  rw [← hW] at O'
  clear hW bm
  clear RF OF el0 el1
  have RF := R'
  have OF := O'
  clear R' O'
  go_wp2_with fail
  rw [rounds_succ]
  have el0 : (Y0).cell? ad = some (fStr w 1) := own_elem OF 0 (fStr w 1) rfl
  have el1 : (Y0).cell? ⟨ad.block, ad.off + 1, none⟩ = some (fInt w 3) := own_elem OF 1 (fInt w 3) rfl
  go_wp2_with fail
  refine (take_int_no s m (w.heap.size + 1) 3 _ hs (by omega)).mono ?_
  rintro e Y1 ⟨rfl, hW⟩
  have R' : RW w #[.int .i64 8, .string u, .string ⟨#[]⟩, .int .i64 0, .int .i64 0, .int .i64 0, .int .i64 0, .string ⟨#[]⟩] Y1 := by rw [hW]; exact RF
  have O' := OF
  rw [← hW] at O'
  clear hW
  clear RF OF el0 el1
  have RF := R'
  have OF := O'
  clear R' O'
  go_wp2_with fail
  rw [rounds_succ]
  go_wp2_with fail
  have c0 := RF.cell 0 (.int .i64 8) rfl
  have c1 := RF.cell 1 (.string u) rfl
  have c2 := RF.cell 2 (.string ⟨#[]⟩) rfl
  have c3 := RF.cell 3 (.int .i64 0) rfl
  have c4 := RF.cell 4 (.int .i64 0) rfl
  have c5 := RF.cell 5 (.int .i64 0) rfl
  have c6 := RF.cell 6 (.int .i64 0) rfl
  have c7 := RF.cell 7 (.string ⟨#[]⟩) rfl
  have d0 := RF.cell0 0 (.int .i64 0) rfl
  have f0 := RF.free0 0
  have d1 := RF.cell0 1 (.string ⟨#[]⟩) rfl
  have f1 := RF.free0 1
  have d2 := RF.cell0 2 (.string ⟨#[]⟩) rfl
  have f2 := RF.free0 2
  have d3 := RF.cell0 3 (.int .i64 0) rfl
  have f3 := RF.free0 3
  have d4 := RF.cell0 4 (.int .i64 0) rfl
  have f4 := RF.free0 4
  have d5 := RF.cell0 5 (.int .i64 0) rfl
  have f5 := RF.free0 5
  have d6 := RF.cell0 6 (.int .i64 0) rfl
  have f6 := RF.free0 6
  have d7 := RF.cell0 7 (.string ⟨#[]⟩) rfl
  have f7 := RF.free0 7
  have hS : (Y1).cell? ⟨w.heap.size + 1, 0, none⟩ = some (.int .i64 8) ∧ (Y1).cell? ⟨w.heap.size + 1, 1, none⟩ = some (.string u) ∧ (Y1).cell? ⟨w.heap.size + 1, 2, none⟩ = some (.string ⟨#[]⟩) ∧ (Y1).cell? ⟨w.heap.size + 1, 3, none⟩ = some (.int .i64 0) ∧ (Y1).cell? ⟨w.heap.size + 1, 4, none⟩ = some (.int .i64 0) ∧ (Y1).cell? ⟨w.heap.size + 1, 5, none⟩ = some (.int .i64 0) ∧ (Y1).cell? ⟨w.heap.size + 1, 6, none⟩ = some (.int .i64 0) ∧ (Y1).cell? ⟨w.heap.size + 1, 7, none⟩ = some (.string ⟨#[]⟩) := ⟨c0, c1, c2, c3, c4, c5, c6, c7⟩
  have hyz : w.heap.size ≠ w.heap.size + 1 := by omega
  have hyy : w.heap.size + 1 ≠ w.heap.size := by omega
  refine wp_region_held_drew (S := (fun W => W.cell? ⟨w.heap.size + 1, 0, none⟩ = some (.int .i64 8) ∧ W.cell? ⟨w.heap.size + 1, 1, none⟩ = some (.string u) ∧ W.cell? ⟨w.heap.size + 1, 2, none⟩ = some (.string ⟨#[]⟩) ∧ W.cell? ⟨w.heap.size + 1, 3, none⟩ = some (.int .i64 0) ∧ W.cell? ⟨w.heap.size + 1, 4, none⟩ = some (.int .i64 0) ∧ W.cell? ⟨w.heap.size + 1, 5, none⟩ = some (.int .i64 0) ∧ W.cell? ⟨w.heap.size + 1, 6, none⟩ = some (.int .i64 0) ∧ W.cell? ⟨w.heap.size + 1, 7, none⟩ = some (.string ⟨#[]⟩))) (by kernel_rfl) hS (fun hHeld => ?_)
  refine wpAnyH_take (i := 0) (v := ?vx1) rfl (by kernel_rfl) (by kernel_rfl) (by kernel_rfl) (fun _ _ _ h => h) (Or.inl ⟨by rfl, ?hyx1⟩) (by assumption) ?restx1
  case hyx1 => (intro w hSw; (try dsimp only at hSw); go_simp; (try (first | with_reducible rfl | rw [if_neg (by omega)])))
  try simp only [Act.put, List.getElem_toArray, List.getElem_cons_succ, List.getElem_cons_zero, List.setIfInBounds_toArray, List.set_cons_zero, List.set_cons_succ]
  refine wpAnyH_take (i := 1) (v := ?vx2) rfl (by kernel_rfl) (by kernel_rfl) (by kernel_rfl) (fun _ _ _ h => h) (Or.inl ⟨by rfl, ?hyx2⟩) (by assumption) ?restx2
  case hyx2 => (intro w hSw; (try dsimp only at hSw); go_simp; (try (first | with_reducible rfl | rw [if_neg (by omega)])))
  try simp only [Act.put, List.getElem_toArray, List.getElem_cons_succ, List.getElem_cons_zero, List.setIfInBounds_toArray, List.set_cons_zero, List.set_cons_succ]
  refine wpAnyH_take (i := 2) (v := ?vx3) rfl (by kernel_rfl) (by kernel_rfl) (by kernel_rfl) (fun _ _ _ h => h) (Or.inl ⟨by rfl, ?hyx3⟩) (by assumption) ?restx3
  case hyx3 => (intro w hSw; (try dsimp only at hSw); go_simp; (try (first | with_reducible rfl | rw [if_neg (by omega)])))
  try simp only [Act.put, List.getElem_toArray, List.getElem_cons_succ, List.getElem_cons_zero, List.setIfInBounds_toArray, List.set_cons_zero, List.set_cons_succ]
  refine wpAnyH_take (i := 3) (v := undef) rfl (by kernel_rfl) (by kernel_rfl) (by kernel_rfl) (fun _ _ _ h => h) (Or.inr ⟨by rfl, rfl⟩) (by assumption) ?_
  try simp only [Act.put, List.getElem_toArray, List.getElem_cons_succ, List.getElem_cons_zero, List.setIfInBounds_toArray, List.set_cons_zero, List.set_cons_succ]
  refine wpAnyH_take (i := 4) (v := undef) rfl (by kernel_rfl) (by kernel_rfl) (by kernel_rfl) (fun _ _ _ h => h) (Or.inr ⟨by rfl, rfl⟩) (by assumption) ?_
  try simp only [Act.put, List.getElem_toArray, List.getElem_cons_succ, List.getElem_cons_zero, List.setIfInBounds_toArray, List.set_cons_zero, List.set_cons_succ]
  refine wpAnyH_take (i := 5) (v := undef) rfl (by kernel_rfl) (by kernel_rfl) (by kernel_rfl) (fun _ _ _ h => h) (Or.inr ⟨by rfl, rfl⟩) (by assumption) ?_
  try simp only [Act.put, List.getElem_toArray, List.getElem_cons_succ, List.getElem_cons_zero, List.setIfInBounds_toArray, List.set_cons_zero, List.set_cons_succ]
  refine wpAnyH_take (i := 6) (v := undef) rfl (by kernel_rfl) (by kernel_rfl) (by kernel_rfl) (fun _ _ _ h => h) (Or.inr ⟨by rfl, rfl⟩) (by assumption) ?_
  try simp only [Act.put, List.getElem_toArray, List.getElem_cons_succ, List.getElem_cons_zero, List.setIfInBounds_toArray, List.set_cons_zero, List.set_cons_succ]
  refine wpAnyH_take (i := 7) (v := ?vx8) rfl (by kernel_rfl) (by kernel_rfl) (by kernel_rfl) (fun _ _ _ h => h) (Or.inl ⟨by rfl, ?hyx8⟩) (by assumption) ?restx8
  case hyx8 => (intro w hSw; (try dsimp only at hSw); go_simp; (try (first | with_reducible rfl | rw [if_neg (by omega)])))
  try simp only [Act.put, List.getElem_toArray, List.getElem_cons_succ, List.getElem_cons_zero, List.setIfInBounds_toArray, List.set_cons_zero, List.set_cons_succ]
  refine wpAnyH_take (i := 8) (v := ?vx9) rfl (by kernel_rfl) (by kernel_rfl) (by kernel_rfl) (fun _ _ _ h => h) (Or.inl ⟨by rfl, ?hyx9⟩) (by assumption) ?restx9
  case hyx9 => (intro w hSw; (try dsimp only at hSw); go_simp; (try (first | with_reducible rfl | rw [if_neg (by omega)])))
  try simp only [Act.put, List.getElem_toArray, List.getElem_cons_succ, List.getElem_cons_zero, List.setIfInBounds_toArray, List.set_cons_zero, List.set_cons_succ]
  refine wpAnyH_take (i := 9) (v := undef) rfl (by kernel_rfl) (by kernel_rfl) (by kernel_rfl) (fun _ _ _ h => h) (Or.inr ⟨by rfl, rfl⟩) (by assumption) ?_
  try simp only [Act.put, List.getElem_toArray, List.getElem_cons_succ, List.getElem_cons_zero, List.setIfInBounds_toArray, List.set_cons_zero, List.set_cons_succ]
  refine wpAnyH_take (i := 10) (v := undef) rfl (by kernel_rfl) (by kernel_rfl) (by kernel_rfl) (fun _ _ _ h => h) (Or.inr ⟨by rfl, rfl⟩) (by assumption) ?_
  try simp only [Act.put, List.getElem_toArray, List.getElem_cons_succ, List.getElem_cons_zero, List.setIfInBounds_toArray, List.set_cons_zero, List.set_cons_succ]
  refine wpAnyH_take (i := 11) (v := ?vx12) rfl (by kernel_rfl) (by kernel_rfl) (by kernel_rfl) (fun _ _ _ h => h) (Or.inl ⟨by rfl, ?hyx12⟩) (by assumption) ?restx12
  case hyx12 => (intro w hSw; (try dsimp only at hSw); go_simp; (try (first | with_reducible rfl | rw [if_neg (by omega)])))
  try simp only [Act.put, List.getElem_toArray, List.getElem_cons_succ, List.getElem_cons_zero, List.setIfInBounds_toArray, List.set_cons_zero, List.set_cons_succ]
  refine wpAnyH_ready (rs := [12]) (by kernel_rfl) (by simp) ?_
  refine AllReadyH.cons rfl (fun K hK => ?_) ?_
  · go_simp
    refine hK.out _ _ (by (try dsimp only); (with_reducible exact s8_of (keep8d _ _ _ _ _ _ _ _ _ _) hS)) (fun hHeld => ?_)
    clear hK K
    try simp only [Act.put, List.getElem_toArray, List.getElem_cons_succ, List.getElem_cons_zero, List.setIfInBounds_toArray, List.set_cons_zero, List.set_cons_succ]
    refine wpAnyH_take (i := 13) (v := ?vx13) rfl (by kernel_rfl) (by kernel_rfl) (by kernel_rfl) (fun _ _ _ h => h) (Or.inl ⟨by rfl, ?hyx13⟩) (by assumption) ?restx13
    case hyx13 => (intro w hSw; (try dsimp only at hSw); go_simp; (try (first | with_reducible rfl | rw [if_neg (by omega)])))
    try simp only [Act.put, List.getElem_toArray, List.getElem_cons_succ, List.getElem_cons_zero, List.setIfInBounds_toArray, List.set_cons_zero, List.set_cons_succ]
    refine wpAnyH_done (by kernel_rfl) ?_ _
    go_wp2
    (try simp only [Exit.inBlock, Exit.then])
    refine bodyPost_ret (v := .tuple #[evV ⟨8, u, ⟨#[]⟩, 0, 0, 0, 0, ⟨#[]⟩⟩, .bool false]) (by simp [results, Tryz.results53, go_sem, evV, d0, d1, d2, d3, d4, d5, d6, d7]) rfl ⟨_, rfl, ?_, ?_⟩
    · exact (fun h => by cases h)
    · repeat (first | with_reducible exact RX.bel | with_reducible exact RF.bel | with_reducible refine Below.drew ?_ | with_reducible refine bset ?_ _ _ _ (Nat.le_refl _))
  exact AllReadyH.nil
end Go.Proofs.YtbpfcjdjhponaaaGreat
