/-
Layer 23: 'live' of the statements on scripts.
-/
import Derived.Test.YtobhlcogopcbdaaScrU
set_option linter.unusedVariables false
set_option linter.unusedSimpArgs false
namespace Go.Proofs.Ytobhlcogopcbdaa
open Go.RowKit
open Sp
instance : DecidableEq Sp.Ev := fun a b => decidable_of_iff (a.k = b.k ∧ a.u = b.u ∧ a.o = b.o ∧ a.i = b.i ∧ a.v = b.v) ⟨fun h => by cases a; cases b; simp only at h; obtain ⟨h1, h2, h3, h4, h5⟩ := h; subst h1 h2 h3 h4 h5; rfl, fun h => by subst h; exact ⟨rfl, rfl, rfl, rfl, rfl⟩⟩
abbrev bA : ByteArray := ⟨#[97]⟩
abbrev bBob : ByteArray := ⟨#[98, 111, 98]⟩
abbrev b0 : ByteArray := ⟨#[]⟩
abbrev eX : Ev := ⟨8, bA, b0, 2, 0, 0, 0, b0⟩
abbrev eY : Ev := ⟨5, bA, bBob, 0, 0, 0, 0, b0⟩
abbrev sX : ByteArray := ⟨#[8, 1, 97, 2, 14, 166, 218, 119]⟩
abbrev sY : ByteArray := ⟨#[5, 1, 97, 3, 98, 111, 98, 61, 186, 101, 184]⟩
abbrev sZ : ByteArray := ⟨#[9, 1, 97, 2, 107, 193, 102, 207]⟩
abbrev sM : ByteArray := ⟨#[8, 8, 1, 97, 2, 14, 166, 218, 119, 11, 5, 1, 97, 3, 98, 111, 98, 61, 186, 101, 184]⟩
theorem lv1 : encE eX = (sX, 0) := by decide +kernel
theorem lv2 : encE eY = (sY, 0) := by decide +kernel
theorem lv3 : encE ⟨5, bA, b0, 0, 0, 0, 0, b0⟩ = (b0, 1) := by decide +kernel
theorem lv4 : sealS ⟨#[9, 1, 97, 2]⟩ = sZ := by decide +kernel
theorem lv5 : sealS ⟨#[8, 1, 97, 2]⟩ = sX := by decide +kernel
theorem lv6 : sealS ⟨#[5, 1, 97, 3, 98, 111, 98]⟩ = sY := by decide +kernel
theorem lv7 : decR sY = (eY, 0) := by decide +kernel
theorem lv8 : decR ⟨#[97, 98, 99]⟩ = (zeroE, 2) := by decide +kernel
theorem lv9 : decR sZ = (zeroE, 3) := by decide +kernel
theorem lv10 : batchE [eX, eY] = (sM, 0) := by decide +kernel
theorem lv11 : unbE sM = ([eX, eY], 0) := by decide +kernel
theorem lv12 : unbE ⟨#[120]⟩ = ([], 3) := by decide +kernel
theorem lv13 : foldE ⟨5, ⟨#[65]⟩, ⟨#[66, 111, 98]⟩, 0, 0, 0, 0, b0⟩ = (eY, true) := by decide +kernel
theorem lv14 : mayE8 8 bA b0 2 0 0 0 b0 = true := by decide +kernel
theorem lv15 : mayE8 0 b0 b0 0 0 0 0 b0 = false := by decide +kernel
theorem lv16 : foldV ⟨#[65]⟩ = (bA, true) := by decide +kernel
theorem lv17 : foldV ⟨#[66, 111, 98]⟩ = (bBob, true) := by decide +kernel
theorem ev_x : evV eX = .agg #[.int .i64 8, .string ⟨#[97]⟩, .string ⟨#[]⟩, .int .i64 2, .int .i64 0, .int .i64 0, .int .i64 0, .string ⟨#[]⟩] := rfl
theorem ev_y : evV eY = .agg #[.int .i64 5, .string ⟨#[97]⟩, .string ⟨#[98, 111, 98]⟩, .int .i64 0, .int .i64 0, .int .i64 0, .int .i64 0, .string ⟨#[]⟩] := rfl
theorem ev_z : evV zeroE = .agg #[.int .i64 0, .string ⟨#[]⟩, .string ⟨#[]⟩, .int .i64 0, .int .i64 0, .int .i64 0, .int .i64 0, .string ⟨#[]⟩] := rfl
theorem hcall {W W' : World} {g : Nat} {o : Obj} (h : W.heap[g]? = some o) (b : Below W.heap.size W W') : W'.heap[g]? = some o := (b.block g (Array.getElem?_eq_some_iff.1 h).1).trans h
theorem halloc {W : World} {g : Nat} {o : Obj} (h : W.heap[g]? = some o) (x : Obj) : (W.alloc x).heap[g]? = some o := (Below.heap_alloc _ _ _ (Array.getElem?_eq_some_iff.1 h).1).trans h
abbrev cX : Obj := .cells #[.int .i64 8, .string ⟨#[97]⟩, .string ⟨#[]⟩, .int .i64 2, .int .i64 0, .int .i64 0, .int .i64 0, .string ⟨#[]⟩] 44
abbrev cY : Obj := .cells #[.int .i64 5, .string ⟨#[97]⟩, .string ⟨#[98, 111, 98]⟩, .int .i64 0, .int .i64 0, .int .i64 0, .int .i64 0, .string ⟨#[]⟩] 44
theorem cells8 {W : World} {g : Nat} {a0 a1 a2 a3 a4 a5 a6 a7 : Value} {T : TypeId} (h : W.heap[g]? = some (.cells #[a0, a1, a2, a3, a4, a5, a6, a7] T)) :
    W.cell? ⟨g, 0, none⟩ = some a0 ∧ W.cell? ⟨g, 1, none⟩ = some a1 ∧ W.cell? ⟨g, 2, none⟩ = some a2 ∧ W.cell? ⟨g, 3, none⟩ = some a3 ∧ W.cell? ⟨g, 4, none⟩ = some a4 ∧ W.cell? ⟨g, 5, none⟩ = some a5 ∧ W.cell? ⟨g, 6, none⟩ = some a6 ∧ W.cell? ⟨g, 7, none⟩ = some a7 ∧ g < W.heap.size :=
  ⟨by simp [World.cell?, h], by simp [World.cell?, h], by simp [World.cell?, h], by simp [World.cell?, h], by simp [World.cell?, h], by simp [World.cell?, h], by simp [World.cell?, h], by simp [World.cell?, h], (Array.getElem?_eq_some_iff.1 h).1⟩
abbrev cZ : Obj := .cells #[.int .i64 0, .string ⟨#[]⟩, .string ⟨#[]⟩, .int .i64 0, .int .i64 0, .int .i64 0, .int .i64 0, .string ⟨#[]⟩] 44
theorem lvS : SzE [eX, eY] := by
  intro e he
  simp only [List.mem_cons, List.mem_nil_iff, or_false] at he
  rcases he with rfl | rfl <;> decide
set_option maxHeartbeats 8000000 in
set_option maxRecDepth 100000 in
theorem live23 (w : World) : Calls Try.prog 30 #[] w fun e w' => e = .returned (.bool true) ∧ Below w.heap.size w w' := by
  go_enter Try.func30, Try.ntmps30
  have hx0 : ((w.alloc cX).alloc cY).heap[w.heap.size]? = some cX := halloc (heap_alloc_new w cX) _
  have hy0 : ((w.alloc cX).alloc cY).heap[w.heap.size + 1]? = some cY := by have := heap_alloc_new (w.alloc cX) cY; rwa [show (w.alloc cX).heap.size = w.heap.size + 1 from Array.size_push ..] at this
  go_wp2_with fail
  refine (enc_is 8 bA b0 2 0 0 0 b0 sX 0 _ (by decide) (by decide) (by decide) lv1).mono ?_
  rintro e w1 ⟨rfl, b1⟩
  have B1 := below_call (below_alloc0 (below_alloc0 (Below.refl w.heap.size w) _) _) b1
  have hx1 : w1.heap[w.heap.size]? = some cX := hcall (hx0) b1
  have hy1 : w1.heap[(w.heap.size + 1)]? = some cY := hcall (hy0) b1
  obtain ⟨chx0_1, chx1_1, chx2_1, chx3_1, chx4_1, chx5_1, chx6_1, chx7_1, zhx_1⟩ := cells8 hx1
  obtain ⟨chy0_1, chy1_1, chy2_1, chy3_1, chy4_1, chy5_1, chy6_1, chy7_1, zhy_1⟩ := cells8 hy1
  clear b1
  go_wp2_with fail
  refine (enc_is 5 bA bBob 0 0 0 0 b0 sY 0 _ (by decide) (by decide) (by decide) lv2).mono ?_
  rintro e w2 ⟨rfl, b2⟩
  have B2 := below_call B1 b2
  have hx2 : w2.heap[w.heap.size]? = some cX := hcall (hx1) b2
  have hy2 : w2.heap[(w.heap.size + 1)]? = some cY := hcall (hy1) b2
  obtain ⟨chx0_2, chx1_2, chx2_2, chx3_2, chx4_2, chx5_2, chx6_2, chx7_2, zhx_2⟩ := cells8 hx2
  obtain ⟨chy0_2, chy1_2, chy2_2, chy3_2, chy4_2, chy5_2, chy6_2, chy7_2, zhy_2⟩ := cells8 hy2
  clear b2 B1 hx1 hy1 chx0_1 chx1_1 chx2_1 chx3_1 chx4_1 chx5_1 chx6_1 chx7_1 chy0_1 chy1_1 chy2_1 chy3_1 chy4_1 chy5_1 chy6_1 chy7_1 zhx_1 zhy_1
  go_wp2_with fail
  refine (enc_is 5 bA b0 0 0 0 0 b0 b0 1 _ (by decide) (by decide) (by decide) lv3).mono ?_
  rintro e w3 ⟨rfl, b3⟩
  have B3 := below_call B2 b3
  have hx3 : w3.heap[w.heap.size]? = some cX := hcall (hx2) b3
  have hy3 : w3.heap[(w.heap.size + 1)]? = some cY := hcall (hy2) b3
  obtain ⟨chx0_3, chx1_3, chx2_3, chx3_3, chx4_3, chx5_3, chx6_3, chx7_3, zhx_3⟩ := cells8 hx3
  obtain ⟨chy0_3, chy1_3, chy2_3, chy3_3, chy4_3, chy5_3, chy6_3, chy7_3, zhy_3⟩ := cells8 hy3
  clear b3 B2 hx2 hy2 chx0_2 chx1_2 chx2_2 chx3_2 chx4_2 chx5_2 chx6_2 chx7_2 chy0_2 chy1_2 chy2_2 chy3_2 chy4_2 chy5_2 chy6_2 chy7_2 zhx_2 zhy_2
  go_wp2_with fail
  refine (dec_is sY eY 0 _ (by decide) lv7).mono ?_
  rintro e w4 ⟨rfl, b4⟩
  have B4 := below_call B3 b4
  have hx4 : w4.heap[w.heap.size]? = some cX := hcall (hx3) b4
  have hy4 : w4.heap[(w.heap.size + 1)]? = some cY := hcall (hy3) b4
  obtain ⟨chx0_4, chx1_4, chx2_4, chx3_4, chx4_4, chx5_4, chx6_4, chx7_4, zhx_4⟩ := cells8 hx4
  obtain ⟨chy0_4, chy1_4, chy2_4, chy3_4, chy4_4, chy5_4, chy6_4, chy7_4, zhy_4⟩ := cells8 hy4
  clear b4 B3 hx3 hy3 chx0_3 chx1_3 chx2_3 chx3_3 chx4_3 chx5_3 chx6_3 chx7_3 chy0_3 chy1_3 chy2_3 chy3_3 chy4_3 chy5_3 chy6_3 chy7_3 zhx_3 zhy_3
  rw [ev_y]
  go_wp2_with fail
  refine (dec_is ⟨#[97, 98, 99]⟩ zeroE 2 _ (by decide) lv8).mono ?_
  rintro e w5 ⟨rfl, b5⟩
  have B5 := below_call (below_alloc0 B4 _) b5
  have hx5 : w5.heap[w.heap.size]? = some cX := hcall (halloc (hx4) _) b5
  have hy5 : w5.heap[(w.heap.size + 1)]? = some cY := hcall (halloc (hy4) _) b5
  have hu5 : w5.heap[w4.heap.size]? = some cY := hcall (heap_alloc_new w4 cY) b5
  obtain ⟨chx0_5, chx1_5, chx2_5, chx3_5, chx4_5, chx5_5, chx6_5, chx7_5, zhx_5⟩ := cells8 hx5
  obtain ⟨chy0_5, chy1_5, chy2_5, chy3_5, chy4_5, chy5_5, chy6_5, chy7_5, zhy_5⟩ := cells8 hy5
  obtain ⟨chu0_5, chu1_5, chu2_5, chu3_5, chu4_5, chu5_5, chu6_5, chu7_5, zhu_5⟩ := cells8 hu5
  clear b5 B4 hx4 hy4 chx0_4 chx1_4 chx2_4 chx3_4 chx4_4 chx5_4 chx6_4 chx7_4 chy0_4 chy1_4 chy2_4 chy3_4 chy4_4 chy5_4 chy6_4 chy7_4 zhx_4 zhy_4
  rw [ev_z]
  go_wp2_with fail
  refine ((re_ (refSeal_calls ⟨#[9, 1, 97, 2]⟩ _ (by decide)) (by rw [lv4]) : Calls _ _ _ _ fun e w' => e = .returned (.string sZ) ∧ Below _ _ w')).mono ?_
  rintro e w6 ⟨rfl, b6⟩
  have B6 := below_call (below_alloc0 B5 _) b6
  have hx6 : w6.heap[w.heap.size]? = some cX := hcall (halloc (hx5) _) b6
  have hy6 : w6.heap[(w.heap.size + 1)]? = some cY := hcall (halloc (hy5) _) b6
  have hu6 : w6.heap[w4.heap.size]? = some cY := hcall (halloc (hu5) _) b6
  obtain ⟨chx0_6, chx1_6, chx2_6, chx3_6, chx4_6, chx5_6, chx6_6, chx7_6, zhx_6⟩ := cells8 hx6
  obtain ⟨chy0_6, chy1_6, chy2_6, chy3_6, chy4_6, chy5_6, chy6_6, chy7_6, zhy_6⟩ := cells8 hy6
  obtain ⟨chu0_6, chu1_6, chu2_6, chu3_6, chu4_6, chu5_6, chu6_6, chu7_6, zhu_6⟩ := cells8 hu6
  clear b6 B5 hx5 hy5 hu5 chx0_5 chx1_5 chx2_5 chx3_5 chx4_5 chx5_5 chx6_5 chx7_5 chy0_5 chy1_5 chy2_5 chy3_5 chy4_5 chy5_5 chy6_5 chy7_5 chu0_5 chu1_5 chu2_5 chu3_5 chu4_5 chu5_5 chu6_5 chu7_5 zhx_5 zhy_5 zhu_5
  go_wp2_with fail
  refine (dec_is sZ zeroE 3 _ (by decide) lv9).mono ?_
  rintro e w7 ⟨rfl, b7⟩
  have B7 := below_call B6 b7
  have hx7 : w7.heap[w.heap.size]? = some cX := hcall (hx6) b7
  have hy7 : w7.heap[(w.heap.size + 1)]? = some cY := hcall (hy6) b7
  have hu7 : w7.heap[w4.heap.size]? = some cY := hcall (hu6) b7
  obtain ⟨chx0_7, chx1_7, chx2_7, chx3_7, chx4_7, chx5_7, chx6_7, chx7_7, zhx_7⟩ := cells8 hx7
  obtain ⟨chy0_7, chy1_7, chy2_7, chy3_7, chy4_7, chy5_7, chy6_7, chy7_7, zhy_7⟩ := cells8 hy7
  obtain ⟨chu0_7, chu1_7, chu2_7, chu3_7, chu4_7, chu5_7, chu6_7, chu7_7, zhu_7⟩ := cells8 hu7
  clear b7 B6 hx6 hy6 hu6 chx0_6 chx1_6 chx2_6 chx3_6 chx4_6 chx5_6 chx6_6 chx7_6 chy0_6 chy1_6 chy2_6 chy3_6 chy4_6 chy5_6 chy6_6 chy7_6 chu0_6 chu1_6 chu2_6 chu3_6 chu4_6 chu5_6 chu6_6 chu7_6 zhx_6 zhy_6 zhu_6
  rw [ev_z]
  have hb7 := (Own.lit (e := 44) (base := 0) enE_len (w7.alloc cZ) [eX, eY] #[.int .i64 8, .string ⟨#[97]⟩, .string ⟨#[]⟩, .int .i64 2, .int .i64 0, .int .i64 0, .int .i64 0, .string ⟨#[]⟩, .int .i64 5, .string ⟨#[97]⟩, .string ⟨#[98, 111, 98]⟩, .int .i64 0, .int .i64 0, .int .i64 0, .int .i64 0, .string ⟨#[]⟩] 2 rfl rfl (Nat.zero_le _) (by omega)).row
  rw [show (w7.alloc cZ).heap.size = w7.heap.size + 1 from Array.size_push ..] at hb7
  go_wp2_with fail
  refine ((re_ (batch_calls 2 2 _ [eX, eY] _ hb7 lvS) (by rw [lv10]) : Calls _ _ _ _ fun e w' => e = .returned (.tuple #[.string sM, .int .i64 0]) ∧ Below _ _ w')).mono ?_
  rintro e w8 ⟨rfl, b8⟩
  have B8 := below_call (below_alloc0 (below_alloc0 B7 _) _) b8
  have hx8 : w8.heap[w.heap.size]? = some cX := hcall (halloc (halloc (hx7) _) _) b8
  have hy8 : w8.heap[(w.heap.size + 1)]? = some cY := hcall (halloc (halloc (hy7) _) _) b8
  have hu8 : w8.heap[w4.heap.size]? = some cY := hcall (halloc (halloc (hu7) _) _) b8
  obtain ⟨chx0_8, chx1_8, chx2_8, chx3_8, chx4_8, chx5_8, chx6_8, chx7_8, zhx_8⟩ := cells8 hx8
  obtain ⟨chy0_8, chy1_8, chy2_8, chy3_8, chy4_8, chy5_8, chy6_8, chy7_8, zhy_8⟩ := cells8 hy8
  obtain ⟨chu0_8, chu1_8, chu2_8, chu3_8, chu4_8, chu5_8, chu6_8, chu7_8, zhu_8⟩ := cells8 hu8
  clear b8 B7 hx7 hy7 hu7 chx0_7 chx1_7 chx2_7 chx3_7 chx4_7 chx5_7 chx6_7 chx7_7 chy0_7 chy1_7 chy2_7 chy3_7 chy4_7 chy5_7 chy6_7 chy7_7 chu0_7 chu1_7 chu2_7 chu3_7 chu4_7 chu5_7 chu6_7 chu7_7 zhx_7 zhy_7 zhu_7
  clear hb7
  go_wp2_with fail
  refine (unb_calls sM _ (by decide)).mono ?_
  rintro e w9 ⟨v, rfl, ho, b9⟩
  have B9 := below_call B8 b9
  have hx9 : w9.heap[w.heap.size]? = some cX := hcall (hx8) b9
  have hy9 : w9.heap[(w.heap.size + 1)]? = some cY := hcall (hy8) b9
  have hu9 : w9.heap[w4.heap.size]? = some cY := hcall (hu8) b9
  obtain ⟨chx0_9, chx1_9, chx2_9, chx3_9, chx4_9, chx5_9, chx6_9, chx7_9, zhx_9⟩ := cells8 hx9
  obtain ⟨chy0_9, chy1_9, chy2_9, chy3_9, chy4_9, chy5_9, chy6_9, chy7_9, zhy_9⟩ := cells8 hy9
  obtain ⟨chu0_9, chu1_9, chu2_9, chu3_9, chu4_9, chu5_9, chu6_9, chu7_9, zhu_9⟩ := cells8 hu9
  clear b9 B8 hx8 hy8 hu8 chx0_8 chx1_8 chx2_8 chx3_8 chx4_8 chx5_8 chx6_8 chx7_8 chy0_8 chy1_8 chy2_8 chy3_8 chy4_8 chy5_8 chy6_8 chy7_8 chu0_8 chu1_8 chu2_8 chu3_8 chu4_8 chu5_8 chu6_8 chu7_8 zhx_8 zhy_8 zhu_8
  rw [lv11] at ho
  have hl9 : Row enE 8 w9 v [eX, eY] := ho.row
  obtain ⟨A, m, c, rfl⟩ : ∃ A m c, v = .slice A m c := by obtain ⟨A, c, rfl, _⟩ := hl9; exact ⟨_, _, _, rfl⟩
  clear ho
  rw [lv11]
  go_wp2_with fail
  refine (unb_calls ⟨#[120]⟩ _ (by decide)).mono ?_
  rintro e w10 ⟨v2, rfl, ho, b10⟩
  have B10 := below_call B9 b10
  have hx10 : w10.heap[w.heap.size]? = some cX := hcall (hx9) b10
  have hy10 : w10.heap[(w.heap.size + 1)]? = some cY := hcall (hy9) b10
  have hu10 : w10.heap[w4.heap.size]? = some cY := hcall (hu9) b10
  obtain ⟨chx0_10, chx1_10, chx2_10, chx3_10, chx4_10, chx5_10, chx6_10, chx7_10, zhx_10⟩ := cells8 hx10
  obtain ⟨chy0_10, chy1_10, chy2_10, chy3_10, chy4_10, chy5_10, chy6_10, chy7_10, zhy_10⟩ := cells8 hy10
  obtain ⟨chu0_10, chu1_10, chu2_10, chu3_10, chu4_10, chu5_10, chu6_10, chu7_10, zhu_10⟩ := cells8 hu10
  have hl10 := hl9.below b10
  clear b10 hl9 B9 hx9 hy9 hu9 chx0_9 chx1_9 chx2_9 chx3_9 chx4_9 chx5_9 chx6_9 chx7_9 chy0_9 chy1_9 chy2_9 chy3_9 chy4_9 chy5_9 chy6_9 chy7_9 chu0_9 chu1_9 chu2_9 chu3_9 chu4_9 chu5_9 chu6_9 chu7_9 zhx_9 zhy_9 zhu_9
  rw [lv12]
  clear ho
  go_wp2_with fail
  refine (foldE_w 5 ⟨#[65]⟩ ⟨#[66, 111, 98]⟩ 0 0 0 0 b0 bA bBob true true _ (by decide) (by decide) (by decide) lv16 lv17 (by decide) (by decide)).mono ?_
  rintro e w11 ⟨rfl, b11⟩
  have B11 := below_call B10 b11
  have hx11 : w11.heap[w.heap.size]? = some cX := hcall (hx10) b11
  have hy11 : w11.heap[(w.heap.size + 1)]? = some cY := hcall (hy10) b11
  have hu11 : w11.heap[w4.heap.size]? = some cY := hcall (hu10) b11
  obtain ⟨chx0_11, chx1_11, chx2_11, chx3_11, chx4_11, chx5_11, chx6_11, chx7_11, zhx_11⟩ := cells8 hx11
  obtain ⟨chy0_11, chy1_11, chy2_11, chy3_11, chy4_11, chy5_11, chy6_11, chy7_11, zhy_11⟩ := cells8 hy11
  obtain ⟨chu0_11, chu1_11, chu2_11, chu3_11, chu4_11, chu5_11, chu6_11, chu7_11, zhu_11⟩ := cells8 hu11
  have hl11 := hl10.below b11
  clear b11 hl10 B10 hx10 hy10 hu10 chx0_10 chx1_10 chx2_10 chx3_10 chx4_10 chx5_10 chx6_10 chx7_10 chy0_10 chy1_10 chy2_10 chy3_10 chy4_10 chy5_10 chy6_10 chy7_10 chu0_10 chu1_10 chu2_10 chu3_10 chu4_10 chu5_10 chu6_10 chu7_10 zhx_10 zhy_10 zhu_10
  rw [lv13, ev_y]
  go_wp2_with fail
  refine ((re_ (refSeal_calls ⟨#[8, 1, 97, 2]⟩ _ (by decide)) (by rw [lv5]) : Calls _ _ _ _ fun e w' => e = .returned (.string sX) ∧ Below _ _ w')).mono ?_
  rintro e w12 ⟨rfl, b12⟩
  have B12 := below_call (below_alloc0 B11 _) b12
  have hx12 : w12.heap[w.heap.size]? = some cX := hcall (halloc (hx11) _) b12
  have hy12 : w12.heap[(w.heap.size + 1)]? = some cY := hcall (halloc (hy11) _) b12
  have hu12 : w12.heap[w4.heap.size]? = some cY := hcall (halloc (hu11) _) b12
  have hw12 : w12.heap[w11.heap.size]? = some cY := hcall (heap_alloc_new w11 cY) b12
  obtain ⟨chx0_12, chx1_12, chx2_12, chx3_12, chx4_12, chx5_12, chx6_12, chx7_12, zhx_12⟩ := cells8 hx12
  obtain ⟨chy0_12, chy1_12, chy2_12, chy3_12, chy4_12, chy5_12, chy6_12, chy7_12, zhy_12⟩ := cells8 hy12
  obtain ⟨chu0_12, chu1_12, chu2_12, chu3_12, chu4_12, chu5_12, chu6_12, chu7_12, zhu_12⟩ := cells8 hu12
  obtain ⟨chw0_12, chw1_12, chw2_12, chw3_12, chw4_12, chw5_12, chw6_12, chw7_12, zhw_12⟩ := cells8 hw12
  have hl12 := (hl11.below ((Below.refl _ _).alloc (Nat.le_refl _) _)).below b12
  clear b12 hl11 B11 hx11 hy11 hu11 chx0_11 chx1_11 chx2_11 chx3_11 chx4_11 chx5_11 chx6_11 chx7_11 chy0_11 chy1_11 chy2_11 chy3_11 chy4_11 chy5_11 chy6_11 chy7_11 chu0_11 chu1_11 chu2_11 chu3_11 chu4_11 chu5_11 chu6_11 chu7_11 zhx_11 zhy_11 zhu_11
  go_wp2_with fail
  refine ((re_ (refSeal_calls ⟨#[5, 1, 97, 3, 98, 111, 98]⟩ _ (by decide)) (by rw [lv6]) : Calls _ _ _ _ fun e w' => e = .returned (.string sY) ∧ Below _ _ w')).mono ?_
  rintro e w13 ⟨rfl, b13⟩
  have B13 := below_call B12 b13
  have hx13 : w13.heap[w.heap.size]? = some cX := hcall (hx12) b13
  have hy13 : w13.heap[(w.heap.size + 1)]? = some cY := hcall (hy12) b13
  have hu13 : w13.heap[w4.heap.size]? = some cY := hcall (hu12) b13
  have hw13 : w13.heap[w11.heap.size]? = some cY := hcall (hw12) b13
  obtain ⟨chx0_13, chx1_13, chx2_13, chx3_13, chx4_13, chx5_13, chx6_13, chx7_13, zhx_13⟩ := cells8 hx13
  obtain ⟨chy0_13, chy1_13, chy2_13, chy3_13, chy4_13, chy5_13, chy6_13, chy7_13, zhy_13⟩ := cells8 hy13
  obtain ⟨chu0_13, chu1_13, chu2_13, chu3_13, chu4_13, chu5_13, chu6_13, chu7_13, zhu_13⟩ := cells8 hu13
  obtain ⟨chw0_13, chw1_13, chw2_13, chw3_13, chw4_13, chw5_13, chw6_13, chw7_13, zhw_13⟩ := cells8 hw13
  have hl13 := hl12.below b13
  clear b13 hl12 B12 hx12 hy12 hu12 hw12 chx0_12 chx1_12 chx2_12 chx3_12 chx4_12 chx5_12 chx6_12 chx7_12 chy0_12 chy1_12 chy2_12 chy3_12 chy4_12 chy5_12 chy6_12 chy7_12 chu0_12 chu1_12 chu2_12 chu3_12 chu4_12 chu5_12 chu6_12 chu7_12 chw0_12 chw1_12 chw2_12 chw3_12 chw4_12 chw5_12 chw6_12 chw7_12 zhx_12 zhy_12 zhu_12 zhw_12
  have hb13 := (Own.lit (e := 44) (base := 0) enE_len w13 [eX, eY] #[.int .i64 8, .string ⟨#[97]⟩, .string ⟨#[]⟩, .int .i64 2, .int .i64 0, .int .i64 0, .int .i64 0, .string ⟨#[]⟩, .int .i64 5, .string ⟨#[97]⟩, .string ⟨#[98, 111, 98]⟩, .int .i64 0, .int .i64 0, .int .i64 0, .int .i64 0, .string ⟨#[]⟩] 2 rfl rfl (Nat.zero_le _) (by omega)).row
  go_wp2_with fail
  refine (sameE_calls m c 2 2 _ _ [eX, eY] [eX, eY] _ (hl13.below ((Below.refl _ _).alloc (Nat.le_refl _) _)) hb13).mono ?_
  rintro e w14 ⟨bs, rfl, hs, b14⟩
  have B14 := below_call (below_alloc0 B13 _) b14
  have hx14 : w14.heap[w.heap.size]? = some cX := hcall (halloc (hx13) _) b14
  have hy14 : w14.heap[(w.heap.size + 1)]? = some cY := hcall (halloc (hy13) _) b14
  have hu14 : w14.heap[w4.heap.size]? = some cY := hcall (halloc (hu13) _) b14
  have hw14 : w14.heap[w11.heap.size]? = some cY := hcall (halloc (hw13) _) b14
  obtain ⟨chx0_14, chx1_14, chx2_14, chx3_14, chx4_14, chx5_14, chx6_14, chx7_14, zhx_14⟩ := cells8 hx14
  obtain ⟨chy0_14, chy1_14, chy2_14, chy3_14, chy4_14, chy5_14, chy6_14, chy7_14, zhy_14⟩ := cells8 hy14
  obtain ⟨chu0_14, chu1_14, chu2_14, chu3_14, chu4_14, chu5_14, chu6_14, chu7_14, zhu_14⟩ := cells8 hu14
  obtain ⟨chw0_14, chw1_14, chw2_14, chw3_14, chw4_14, chw5_14, chw6_14, chw7_14, zhw_14⟩ := cells8 hw14
  clear b14 B13 hx13 hy13 hu13 hw13 chx0_13 chx1_13 chx2_13 chx3_13 chx4_13 chx5_13 chx6_13 chx7_13 chy0_13 chy1_13 chy2_13 chy3_13 chy4_13 chy5_13 chy6_13 chy7_13 chu0_13 chu1_13 chu2_13 chu3_13 chu4_13 chu5_13 chu6_13 chu7_13 chw0_13 chw1_13 chw2_13 chw3_13 chw4_13 chw5_13 chw6_13 chw7_13 zhx_13 zhy_13 zhu_13 zhw_13
  obtain rfl : bs = true := hs.2 rfl
  clear hs hl13 hb13
  go_wp2_with fail
  refine ((re_ (mayE_calls 8 bA b0 2 0 0 0 b0 _ (by decide) (by decide) (by decide)) (by rw [lv14]) : Calls _ _ _ _ fun e w' => e = .returned (.bool true) ∧ Below _ _ w')).mono ?_
  rintro e w15 ⟨rfl, b15⟩
  have B15 := below_call B14 b15
  have hx15 : w15.heap[w.heap.size]? = some cX := hcall (hx14) b15
  have hy15 : w15.heap[(w.heap.size + 1)]? = some cY := hcall (hy14) b15
  have hu15 : w15.heap[w4.heap.size]? = some cY := hcall (hu14) b15
  have hw15 : w15.heap[w11.heap.size]? = some cY := hcall (hw14) b15
  obtain ⟨chx0_15, chx1_15, chx2_15, chx3_15, chx4_15, chx5_15, chx6_15, chx7_15, zhx_15⟩ := cells8 hx15
  obtain ⟨chy0_15, chy1_15, chy2_15, chy3_15, chy4_15, chy5_15, chy6_15, chy7_15, zhy_15⟩ := cells8 hy15
  obtain ⟨chu0_15, chu1_15, chu2_15, chu3_15, chu4_15, chu5_15, chu6_15, chu7_15, zhu_15⟩ := cells8 hu15
  obtain ⟨chw0_15, chw1_15, chw2_15, chw3_15, chw4_15, chw5_15, chw6_15, chw7_15, zhw_15⟩ := cells8 hw15
  clear b15 B14 hx14 hy14 hu14 hw14 chx0_14 chx1_14 chx2_14 chx3_14 chx4_14 chx5_14 chx6_14 chx7_14 chy0_14 chy1_14 chy2_14 chy3_14 chy4_14 chy5_14 chy6_14 chy7_14 chu0_14 chu1_14 chu2_14 chu3_14 chu4_14 chu5_14 chu6_14 chu7_14 chw0_14 chw1_14 chw2_14 chw3_14 chw4_14 chw5_14 chw6_14 chw7_14 zhx_14 zhy_14 zhu_14 zhw_14
  go_wp2_with fail
  refine ((re_ (mayE_calls 0 b0 b0 0 0 0 0 b0 _ (by decide) (by decide) (by decide)) (by rw [lv15]) : Calls _ _ _ _ fun e w' => e = .returned (.bool false) ∧ Below _ _ w')).mono ?_
  rintro e w16 ⟨rfl, b16⟩
  have B16 := below_call B15 b16
  have hx16 : w16.heap[w.heap.size]? = some cX := hcall (hx15) b16
  have hy16 : w16.heap[(w.heap.size + 1)]? = some cY := hcall (hy15) b16
  have hu16 : w16.heap[w4.heap.size]? = some cY := hcall (hu15) b16
  have hw16 : w16.heap[w11.heap.size]? = some cY := hcall (hw15) b16
  obtain ⟨chx0_16, chx1_16, chx2_16, chx3_16, chx4_16, chx5_16, chx6_16, chx7_16, zhx_16⟩ := cells8 hx16
  obtain ⟨chy0_16, chy1_16, chy2_16, chy3_16, chy4_16, chy5_16, chy6_16, chy7_16, zhy_16⟩ := cells8 hy16
  obtain ⟨chu0_16, chu1_16, chu2_16, chu3_16, chu4_16, chu5_16, chu6_16, chu7_16, zhu_16⟩ := cells8 hu16
  obtain ⟨chw0_16, chw1_16, chw2_16, chw3_16, chw4_16, chw5_16, chw6_16, chw7_16, zhw_16⟩ := cells8 hw16
  clear b16 B15 hx15 hy15 hu15 hw15 chx0_15 chx1_15 chx2_15 chx3_15 chx4_15 chx5_15 chx6_15 chx7_15 chy0_15 chy1_15 chy2_15 chy3_15 chy4_15 chy5_15 chy6_15 chy7_15 chu0_15 chu1_15 chu2_15 chu3_15 chu4_15 chu5_15 chu6_15 chu7_15 chw0_15 chw1_15 chw2_15 chw3_15 chw4_15 chw5_15 chw6_15 chw7_15 zhx_15 zhy_15 zhu_15 zhw_15
  go_wp2
  go_ret
  exact ⟨rfl, B16⟩
end Go.Proofs.Ytobhlcogopcbdaa
