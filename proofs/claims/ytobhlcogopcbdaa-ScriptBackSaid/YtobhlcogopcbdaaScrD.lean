/-
Layer 23: an event as bytes, by the document's answer.
-/
import Derived.Test.YtobhlcogopcbdaaScrC
set_option linter.unusedVariables false
set_option linter.unusedSimpArgs false
namespace Go.Proofs.Ytobhlcogopcbdaa
open Go.RowKit
namespace Sp
def encE8 (k : Int) (u o : ByteArray) (i a p n : Int) (t : ByteArray) : ByteArray × Int :=
  if ¬ mayE8 k u o i a p n t = true then (⟨#[]⟩, 1)
  else (sealS (if k ≤ 6 then strOf [UInt8.ofNat k.toNat] ++ textV u ++ textV o else if k = 7 then strOf [UInt8.ofNat k.toNat] ++ textV u ++ strOf [UInt8.ofNat i.toNat] ++ (putVal a p n t).1 else strOf [UInt8.ofNat k.toNat] ++ textV u ++ strOf [UInt8.ofNat i.toNat]), 0)
def encE (e : Ev) : ByteArray × Int := encE8 e.k e.u e.o e.i e.v.1 e.v.2.1 e.v.2.2.1 e.v.2.2.2
end Sp
open Sp
theorem mayE8_sz (k : Int) (u o : ByteArray) (i a p n : Int) (t : ByteArray) (h : mayE8 k u o i a p n t = true) : 1 ≤ k ∧ k ≤ 8 ∧ u.size ≤ 16 ∧ o.size ≤ 16 ∧ t.size ≤ 32 ∧ (6 < k → 0 ≤ i) ∧ (6 < k → i < 4) := by
  unfold mayE8 at h
  split at h
  · cases h
  · rename_i h1
    have hn : isName u = true := by cases hq : isName u <;> simp_all
    have hu := ((isName_iff u).mp hn).2.1
    split at h
    · rename_i h6
      simp only [isZ, Bool.and_eq_true, decide_eq_true_eq] at h
      have ho := ((isName_iff o).mp h.1).2.1
      have ht := (toList_nil_iff t).1 h.2.2.2.2.2
      exact ⟨by omega, by omega, hu, ho, by omega, by omega, by omega⟩
    · rename_i h6
      split at h
      · cases h
      · rename_i h2
        have ho : o.size = 0 := (toList_nil_iff o).1 (by by_cases e : o.toList = [] <;> simp_all)
        split at h
        · have ht := ((mayV_iff a p n t).1 h).2.2.2.2.2.2.1
          exact ⟨by omega, by omega, hu, by omega, by omega, by omega, by omega⟩
        · simp only [isZ, Bool.and_eq_true, decide_eq_true_eq] at h
          have ht := (toList_nil_iff t).1 h.2.2.2
          exact ⟨by omega, by omega, hu, by omega, by omega, by omega, by omega⟩
theorem putVal_size (a p n : Int) (t : ByteArray) : (putVal a p n t).1.size ≤ 60 := by
  unfold putVal
  split
  · rename_i h
    have hh := (mayV_iff a p n t).1 h
    have h1 := textV_size t (by omega)
    have h2 := putV_len n.toNat (by omega)
    simp only [ByteArray.size_append, strOf_size]
    have h3 : (valL a p n).length = 2 := rfl
    omega
  · simp [ByteArray.size]

/-- A text made of bytes that were just laid. -/
theorem lit_bytes (cs : Array Value) (m : Nat) (l : List UInt8) (q : ByteArray) (hl : Hid (cs.toList = l.map fun b : UInt8 => (.int .u8 b.toNat : Value))) (hq : Hid (strOf l = q)) (W : World) (hm : m = l.length := by rfl) (hm2 : m ≤ 1000 := by omega) :
    (convert 39 9 (.slice (some ⟨W.heap.size, 0, none⟩) m m)).run Try.prog (W.alloc (.cells cs 5)) = .ok (.string q) (W.alloc (.cells cs 5)) := by
  have := (Own.lit (e := 5) (base := 0) enB_len W l cs m (by rw [enB_flat]; exact hl.out) hm (Nat.zero_le _) (by omega)).row
  rw [← hq.out]
  exact Row.string (P := Try.prog) Try.underlying39 Try.underlying5 Try.underlying9 this
theorem lit_bytes_drew (cs : Array Value) (m : Nat) (l : List UInt8) (q : ByteArray) (hl : Hid (cs.toList = l.map fun b : UInt8 => (.int .u8 b.toNat : Value))) (hq : Hid (strOf l = q)) (W : World) (hm : m = l.length := by rfl) (hm2 : m ≤ 1000 := by omega) :
    (convert 39 9 (.slice (some ⟨W.heap.size, 0, none⟩) m m)).run Try.prog (W.alloc (.cells cs 5)).drew = .ok (.string q) (W.alloc (.cells cs 5)).drew := by
  have := (Own.lit (e := 5) (base := 0) enB_len W l cs m (by rw [enB_flat]; exact hl.out) hm (Nat.zero_le _) (by omega)).row
  rw [← hq.out]
  exact Row.string (P := Try.prog) (w := (W.alloc (.cells cs 5)).drew) Try.underlying39 Try.underlying5 Try.underlying9 this
theorem lit_bytes_later (cs : Array Value) (m : Nat) (l : List UInt8) (q : ByteArray) (hl : Hid (cs.toList = l.map fun b : UInt8 => (.int .u8 b.toNat : Value))) (hq : Hid (strOf l = q)) (W W' : World) (hb : Below (W.alloc (.cells cs 5)).heap.size (W.alloc (.cells cs 5)) W') (hm : m = l.length := by rfl) (hm2 : m ≤ 1000 := by omega) :
    (convert 39 9 (.slice (some ⟨W.heap.size, 0, none⟩) m m)).run Try.prog W' = .ok (.string q) W' := by
  have := (Own.lit (e := 5) (base := 0) enB_len W l cs m (by rw [enB_flat]; exact hl.out) hm (Nat.zero_le _) (by omega)).row.below hb
  rw [← hq.out]
  exact Row.string (P := Try.prog) Try.underlying39 Try.underlying5 Try.underlying9 this
theorem lit_bytes_two (cs : Array Value) (m : Nat) (l : List UInt8) (q : ByteArray) (hl : Hid (cs.toList = l.map fun b : UInt8 => (.int .u8 b.toNat : Value))) (hq : Hid (strOf l = q)) (W : World) (x : Obj) (hm : m = l.length := by rfl) (hm2 : m ≤ 1000 := by omega) :
    (convert 39 9 (.slice (some ⟨W.heap.size + 1, 0, none⟩) m m)).run Try.prog ((W.alloc x).alloc (.cells cs 5)) = .ok (.string q) ((W.alloc x).alloc (.cells cs 5)) := by
  have := lit_bytes cs m l q hl hq (W.alloc x) hm hm2
  rwa [show (W.alloc x).heap.size = W.heap.size + 1 from Array.size_push ..] at this
theorem one_map2 (k : Int) (h0 : 0 ≤ k) (h1 : k < 256) : (#[.int .u8 k] : Array Value).toList = [UInt8.ofNat k.toNat].map fun b : UInt8 => (.int .u8 b.toNat : Value) := by
  simp only [List.map_cons, List.map_nil, byte_mod]
  rw [show ((k.toNat : Nat) : Int) = k by omega, show k % 256 = k by omega]
theorem one_map (k : Int) (h0 : 0 ≤ k) (h1 : k < 256) : (#[.int .u8 (IntKind.u8.wrap k)] : Array Value).toList = [UInt8.ofNat k.toNat].map fun b : UInt8 => (.int .u8 b.toNat : Value) := by
  rw [← one_map2 k h0 h1, IntKind.wrap_u8, show k % 256 = k by omega]
/-- An event's cells. -/
def S8 (g : Nat) (k : Int) (u o : ByteArray) (i a p n : Int) (t : ByteArray) (W : World) : Prop :=
  W.cell? ⟨g, 0, none⟩ = some (.int .i64 k) ∧ W.cell? ⟨g, 1, none⟩ = some (.string u) ∧ W.cell? ⟨g, 2, none⟩ = some (.string o) ∧ W.cell? ⟨g, 3, none⟩ = some (.int .i64 i) ∧ W.cell? ⟨g, 4, none⟩ = some (.int .i64 a) ∧ W.cell? ⟨g, 5, none⟩ = some (.int .i64 p) ∧ W.cell? ⟨g, 6, none⟩ = some (.int .i64 n) ∧ W.cell? ⟨g, 7, none⟩ = some (.string t)
theorem S8.below {g : Nat} {k : Int} {u o : ByteArray} {i a p n : Int} {t : ByteArray} {W W' : World} (h : S8 g k u o i a p n t W) (hb : Below W.heap.size W W') : S8 g k u o i a p n t W' :=
  ⟨cell_below hb h.1, cell_below hb h.2.1, cell_below hb h.2.2.1, cell_below hb h.2.2.2.1, cell_below hb h.2.2.2.2.1, cell_below hb h.2.2.2.2.2.1, cell_below hb h.2.2.2.2.2.2.1, cell_below hb h.2.2.2.2.2.2.2⟩
theorem S8.alloc {g : Nat} {k : Int} {u o : ByteArray} {i a p n : Int} {t : ByteArray} {W : World} (h : S8 g k u o i a p n t W) (x : Obj) : S8 g k u o i a p n t (W.alloc x) := h.below ((Below.refl _ _).alloc (Nat.le_refl _) _)

set_option maxHeartbeats 4000000 in
set_option maxRecDepth 100000 in
theorem refEnc_lo (k : Int) (u o : ByteArray) (i a p n : Int) (t : ByteArray) (w : World) (hu : u.size ≤ 140737488351232) (ho : o.size ≤ 140737488351232) (ht : t.size ≤ 140737488351232) (hm : mayE8 k u o i a p n t = true) (h6 : k ≤ 6) :
    Calls Try.prog 61 #[.agg #[.int .i64 k, .string u, .string o, .int .i64 i, .int .i64 a, .int .i64 p, .int .i64 n, .string t]] w fun e w' => e = .returned (.tuple #[.string (encE8 k u o i a p n t).1, .int .i64 (encE8 k u o i a p n t).2]) ∧ Below w.heap.size w w' := by
  have HM := Lib.hid hm
  obtain ⟨k1, k8, zu, zo, zt, zi0, zi4⟩ := mayE8_sz k u o i a p n t hm
  obtain ⟨qk, hqk⟩ : ∃ q, strOf [UInt8.ofNat k.toNat] = q := ⟨_, rfl⟩
  obtain ⟨qi, hqi⟩ : ∃ q, strOf [UInt8.ofNat i.toNat] = q := ⟨_, rfl⟩
  obtain ⟨qu, hqu⟩ : ∃ q, textV u = q := ⟨_, rfl⟩
  obtain ⟨qo, hqo⟩ : ∃ q, textV o = q := ⟨_, rfl⟩
  obtain ⟨qv, bv, hqv⟩ : ∃ q b, putVal a p n t = (q, b) := ⟨_, _, rfl⟩
  have zqk : qk.size ≤ 1 := by rw [← hqk, strOf_size]; exact Nat.le_refl _
  have zqi : qi.size ≤ 1 := by rw [← hqi, strOf_size]; exact Nat.le_refl _
  have zqu : qu.size ≤ 26 := by rw [← hqu]; have := textV_size u hu; omega
  have zqo : qo.size ≤ 26 := by rw [← hqo]; have := textV_size o ho; omega
  have zqv : qv.size ≤ 60 := by have := putVal_size a p n t; rw [hqv] at this; exact this
  have HE : Hid (encE8 k u o i a p n t = (sealS (qk ++ qu ++ qo), 0)) := by
    show _ = _
    unfold encE8
    rw [hm, if_neg (by simp), hqk, hqi, hqu, hqo, hqv]
    rw [if_pos h6]
  have HQK := Lib.hid hqk
  have HQI := Lib.hid hqi
  have HQU := Lib.hid hqu
  have HQO := Lib.hid hqo
  have HQV := Lib.hid hqv
  have HL := Lib.hid (one_map k (by omega) (by omega))
  have HL2 := Lib.hid (one_map2 k (by omega) (by omega))
  have hcv := lit_bytes _ 1 _ qk HL HQK
  have hcd := lit_bytes_drew _ 1 _ qk HL HQK
  have hcv2 := lit_bytes _ 1 _ qk HL2 HQK
  have hcd2 := lit_bytes_drew _ 1 _ qk HL2 HQK
  clear hm hqk hqi hqu hqo hqv zi0 zi4
  go_enter Try.func61, Try.ntmps61
  go_wp2_with fail
  refine (re_ (refMayE_calls k u o i a p n t _ hu ho ht) (by rw [HM.out])).mono ?_
  rintro e w1 ⟨rfl, b1⟩
  have hS : S8 w.heap.size k u o i a p n t w1 := S8.below ⟨cell_new _ _ _ _ _ rfl, cell_new _ _ _ _ _ rfl, cell_new _ _ _ _ _ rfl, cell_new _ _ _ _ _ rfl, cell_new _ _ _ _ _ rfl, cell_new _ _ _ _ _ rfl, cell_new _ _ _ _ _ rfl, cell_new _ _ _ _ _ rfl⟩ b1
  have hB1 := below_call (below_alloc0 (Below.refl _ _) _) b1
  have hzw1 : w.heap.size < w1.heap.size := Nat.lt_of_lt_of_le (by simp) b1.size
  go_wp2_with fail
  refine wp_region_held_drew (S := (fun W => W.cell? ⟨w.heap.size, 0, none⟩ = some (.int .i64 k) ∧ W.cell? ⟨w.heap.size, 1, none⟩ = some (.string u) ∧ W.cell? ⟨w.heap.size, 2, none⟩ = some (.string o) ∧ W.cell? ⟨w.heap.size, 3, none⟩ = some (.int .i64 i) ∧ W.cell? ⟨w.heap.size, 4, none⟩ = some (.int .i64 a) ∧ W.cell? ⟨w.heap.size, 5, none⟩ = some (.int .i64 p) ∧ W.cell? ⟨w.heap.size, 6, none⟩ = some (.int .i64 n) ∧ W.cell? ⟨w.heap.size, 7, none⟩ = some (.string t))) (by kernel_rfl) hS (fun hHeld => ?_)
  refine wpAnyH_take (i := 0) (v := ?vx1) rfl (by kernel_rfl) (by kernel_rfl) (by kernel_rfl) (fun _ _ _ h => h) (Or.inl ⟨by rfl, ?hyx1⟩) (by assumption) ?restx1
  case hyx1 => (intro w hSw; (try dsimp only at hSw); go_simp; (try (first | with_reducible rfl | rw [if_neg (by omega)])))
  try simp only [Act.put, List.getElem_toArray, List.getElem_cons_succ, List.getElem_cons_zero, List.setIfInBounds_toArray, List.set_cons_zero, List.set_cons_succ]
  refine wpAnyH_take (i := 1) (v := ?vx2) rfl (by kernel_rfl) (by kernel_rfl) (by kernel_rfl) (fun _ _ _ h => h) (Or.inl ⟨by rfl, ?hyx2⟩) (by assumption) ?restx2
  case hyx2 => (intro w hSw; (try dsimp only at hSw); go_simp; (try (first | with_reducible rfl | rw [if_neg (by omega)])))
  try simp only [Act.put, List.getElem_toArray, List.getElem_cons_succ, List.getElem_cons_zero, List.setIfInBounds_toArray, List.set_cons_zero, List.set_cons_succ]
  refine wpAnyH_take (i := 2) (v := ?vx3) rfl (by kernel_rfl) (by kernel_rfl) (by kernel_rfl) (fun _ _ _ h => h) (Or.inl ⟨by rfl, ?hyx3⟩) (by assumption) ?restx3
  case hyx3 => (intro w hSw; (try dsimp only at hSw); go_simp; (try (first | with_reducible rfl | rw [if_neg (by omega)])))
  try simp only [Act.put, List.getElem_toArray, List.getElem_cons_succ, List.getElem_cons_zero, List.setIfInBounds_toArray, List.set_cons_zero, List.set_cons_succ]
  refine wpAnyH_take (i := 5) (v := ?vx4) rfl (by kernel_rfl) (by kernel_rfl) (by kernel_rfl) (fun _ _ _ h => h) (Or.inl ⟨by rfl, ?hyx4⟩) (by assumption) ?restx4
  case hyx4 => (intro w hSw; (try dsimp only at hSw); go_simp; (try (first | with_reducible rfl | rw [if_neg (by omega)])))
  try simp only [Act.put, List.getElem_toArray, List.getElem_cons_succ, List.getElem_cons_zero, List.setIfInBounds_toArray, List.set_cons_zero, List.set_cons_succ]
  refine wpAnyH_take (i := 6) (v := ?vx5) rfl (by kernel_rfl) (by kernel_rfl) (by kernel_rfl) (fun _ _ _ h => h) (Or.inl ⟨by rfl, ?hyx5⟩) (by assumption) ?restx5
  case hyx5 => (intro w hSw; (try dsimp only at hSw); go_simp; (try (first | with_reducible rfl | rw [if_neg (by omega)])))
  try simp only [Act.put, List.getElem_toArray, List.getElem_cons_succ, List.getElem_cons_zero, List.setIfInBounds_toArray, List.set_cons_zero, List.set_cons_succ]
  refine wpAnyH_ready (rs := [3, 7]) (by kernel_rfl) (by simp) ?_
  refine AllReadyH.cons rfl (fun K hK => ?_) ?_
  · go_simp
    refine hK.out _ _ (by (try dsimp only); (first | exact hS | exact hSx | exact hS.alloc _ | exact hSx.alloc _)) (fun hHeld => ?_)
    clear hK K
    try simp only [Act.put, List.getElem_toArray, List.getElem_cons_succ, List.getElem_cons_zero, List.setIfInBounds_toArray, List.set_cons_zero, List.set_cons_succ]
    refine wpAnyH_ready (rs := [4, 7]) (by kernel_rfl) (by simp) ?_
    refine AllReadyH.cons rfl (fun K hK => ?_) ?_
    · go_simp
      refine hK.out _ _ (by (try dsimp only); (first | exact hS | exact hSx | exact hS.alloc _ | exact hSx.alloc _)) (fun hHeld => ?_)
      clear hK K
      try simp only [Act.put, List.getElem_toArray, List.getElem_cons_succ, List.getElem_cons_zero, List.setIfInBounds_toArray, List.set_cons_zero, List.set_cons_succ]
      refine wpAnyH_ready (rs := [7]) (by kernel_rfl) (by simp) ?_
      refine AllReadyH.cons rfl (fun K hK => ?_) ?_
      · go_simp
        go_at_call 48
        refine (refText_w u qu _ hu HQU).mono ?_
        rintro e wx ⟨rfl, hbx⟩
        (first | replace hbx := undrew hbx | skip)
        (first | have hSx := hS.below hbx | have hSx := (hS.alloc _).below hbx)
        (first | have hBx := below_call hB1 hbx | have hBx := below_call (below_alloc0 hB1 _) hbx)
        (first | have hcx := lit_bytes_later _ 1 _ _ HL HQK w1 _ hbx | skip)
        refine hK.out _ _ (by (try dsimp only); (first | exact hS | exact hSx | exact hS.alloc _ | exact hSx.alloc _)) (fun hHeld => ?_)
        clear hK K
        try simp only [Act.put, List.getElem_toArray, List.getElem_cons_succ, List.getElem_cons_zero, List.setIfInBounds_toArray, List.set_cons_zero, List.set_cons_succ]
        refine wpAnyH_take (i := 8) (v := ?vx6) rfl (by kernel_rfl) (by kernel_rfl) (by kernel_rfl) (fun _ _ _ h => h) (Or.inl ⟨by rfl, ?hyx6⟩) (by assumption) ?restx6
        case hyx6 => (intro w hSw; (try dsimp only at hSw); go_simp; (try (first | with_reducible rfl | rw [if_neg (by omega)])))
        try simp only [Act.put, List.getElem_toArray, List.getElem_cons_succ, List.getElem_cons_zero, List.setIfInBounds_toArray, List.set_cons_zero, List.set_cons_succ]
        refine wpAnyH_take (i := 9) (v := ?vx7) rfl (by kernel_rfl) (by kernel_rfl) (by kernel_rfl) (fun _ _ _ h => h) (Or.inl ⟨by rfl, ?hyx7⟩) (by assumption) ?restx7
        case hyx7 => (intro w hSw; (try dsimp only at hSw); go_simp; (try (first | with_reducible rfl | rw [if_neg (by omega)])))
        try simp only [Act.put, List.getElem_toArray, List.getElem_cons_succ, List.getElem_cons_zero, List.setIfInBounds_toArray, List.set_cons_zero, List.set_cons_succ]
        refine wpAnyH_done (by kernel_rfl) ?_ _
        first | obtain ⟨c0, c1, c2, c3, c4, c5, c6, c7⟩ := hSx
        first | have hzx : w.heap.size < wx.heap.size := Nat.lt_of_lt_of_le hzw1 (by have := hbx.size; (try simp at this); omega)
        go_wp2_with (first | (go_at_call 48; refine (refText_w o qo _ ho HQO).mono ?_; rintro e wt ⟨rfl, bt⟩; obtain ⟨hct, hft⟩ := bcell bt) | (go_at_call 33; refine (refSeal_calls _ _ (by simp; omega)).mono ?_; rintro e wz ⟨rfl, bz⟩))
        go_ret2
        rw [HE.out]
        refine ⟨rfl, by first | exact below_call (below_call hBx bt) bz | exact below_call (below_call (below_alloc0 hBx _) bt) bz⟩
      exact AllReadyH.nil
    refine AllReadyH.cons rfl (fun K hK => ?_) ?_
    · go_simp
      go_at_call 48
      refine (refText_w u qu _ hu HQU).mono ?_
      rintro e wx ⟨rfl, hbx⟩
      (first | replace hbx := undrew hbx | skip)
      (first | have hSx := hS.below hbx | have hSx := (hS.alloc _).below hbx)
      (first | have hBx := below_call hB1 hbx | have hBx := below_call (below_alloc0 hB1 _) hbx)
      (first | have hcx := lit_bytes_later _ 1 _ _ HL HQK w1 _ hbx | skip)
      refine hK.out _ _ (by (try dsimp only); (first | exact hS | exact hSx | exact hS.alloc _ | exact hSx.alloc _)) (fun hHeld => ?_)
      clear hK K
      try simp only [Act.put, List.getElem_toArray, List.getElem_cons_succ, List.getElem_cons_zero, List.setIfInBounds_toArray, List.set_cons_zero, List.set_cons_succ]
      refine wpAnyH_ready (rs := [4]) (by kernel_rfl) (by simp) ?_
      refine AllReadyH.cons rfl (fun K hK => ?_) ?_
      · go_simp
        refine hK.out _ _ (by (try dsimp only); (first | exact hS | exact hSx | exact hS.alloc _ | exact hSx.alloc _)) (fun hHeld => ?_)
        clear hK K
        try simp only [Act.put, List.getElem_toArray, List.getElem_cons_succ, List.getElem_cons_zero, List.setIfInBounds_toArray, List.set_cons_zero, List.set_cons_succ]
        refine wpAnyH_take (i := 8) (v := ?vx8) rfl (by kernel_rfl) (by kernel_rfl) (by kernel_rfl) (fun _ _ _ h => h) (Or.inl ⟨by rfl, ?hyx8⟩) (by assumption) ?restx8
        case hyx8 => (intro w hSw; (try dsimp only at hSw); go_simp; (try (first | with_reducible rfl | rw [if_neg (by omega)])))
        try simp only [Act.put, List.getElem_toArray, List.getElem_cons_succ, List.getElem_cons_zero, List.setIfInBounds_toArray, List.set_cons_zero, List.set_cons_succ]
        refine wpAnyH_take (i := 9) (v := ?vx9) rfl (by kernel_rfl) (by kernel_rfl) (by kernel_rfl) (fun _ _ _ h => h) (Or.inl ⟨by rfl, ?hyx9⟩) (by assumption) ?restx9
        case hyx9 => (intro w hSw; (try dsimp only at hSw); go_simp; (try (first | with_reducible rfl | rw [if_neg (by omega)])))
        try simp only [Act.put, List.getElem_toArray, List.getElem_cons_succ, List.getElem_cons_zero, List.setIfInBounds_toArray, List.set_cons_zero, List.set_cons_succ]
        refine wpAnyH_done (by kernel_rfl) ?_ _
        first | obtain ⟨c0, c1, c2, c3, c4, c5, c6, c7⟩ := hSx
        first | have hzx : w.heap.size < wx.heap.size := Nat.lt_of_lt_of_le hzw1 (by have := hbx.size; (try simp at this); omega)
        go_wp2_with (first | (go_at_call 48; refine (refText_w o qo _ ho HQO).mono ?_; rintro e wt ⟨rfl, bt⟩; obtain ⟨hct, hft⟩ := bcell bt) | (go_at_call 33; refine (refSeal_calls _ _ (by simp; omega)).mono ?_; rintro e wz ⟨rfl, bz⟩))
        go_ret2
        rw [HE.out]
        refine ⟨rfl, by first | exact below_call (below_call hBx bt) bz | exact below_call (below_call (below_alloc0 hBx _) bt) bz⟩
      exact AllReadyH.nil
    exact AllReadyH.nil
  refine AllReadyH.cons rfl (fun K hK => ?_) ?_
  · go_simp
    go_at_call 48
    refine (refText_w u qu _ hu HQU).mono ?_
    rintro e wx ⟨rfl, hbx⟩
    (first | replace hbx := undrew hbx | skip)
    (first | have hSx := hS.below hbx | have hSx := (hS.alloc _).below hbx)
    (first | have hBx := below_call hB1 hbx | have hBx := below_call (below_alloc0 hB1 _) hbx)
    (first | have hcx := lit_bytes_later _ 1 _ _ HL HQK w1 _ hbx | skip)
    refine hK.out _ _ (by (try dsimp only); (first | exact hS | exact hSx | exact hS.alloc _ | exact hSx.alloc _)) (fun hHeld => ?_)
    clear hK K
    try simp only [Act.put, List.getElem_toArray, List.getElem_cons_succ, List.getElem_cons_zero, List.setIfInBounds_toArray, List.set_cons_zero, List.set_cons_succ]
    refine wpAnyH_ready (rs := [3]) (by kernel_rfl) (by simp) ?_
    refine AllReadyH.cons rfl (fun K hK => ?_) ?_
    · go_simp
      refine hK.out _ _ (by (try dsimp only); (first | exact hS | exact hSx | exact hS.alloc _ | exact hSx.alloc _)) (fun hHeld => ?_)
      clear hK K
      try simp only [Act.put, List.getElem_toArray, List.getElem_cons_succ, List.getElem_cons_zero, List.setIfInBounds_toArray, List.set_cons_zero, List.set_cons_succ]
      refine wpAnyH_ready (rs := [4]) (by kernel_rfl) (by simp) ?_
      refine AllReadyH.cons rfl (fun K hK => ?_) ?_
      · go_simp
        refine hK.out _ _ (by (try dsimp only); (first | exact hS | exact hSx | exact hS.alloc _ | exact hSx.alloc _)) (fun hHeld => ?_)
        clear hK K
        try simp only [Act.put, List.getElem_toArray, List.getElem_cons_succ, List.getElem_cons_zero, List.setIfInBounds_toArray, List.set_cons_zero, List.set_cons_succ]
        refine wpAnyH_take (i := 8) (v := ?vx10) rfl (by kernel_rfl) (by kernel_rfl) (by kernel_rfl) (fun _ _ _ h => h) (Or.inl ⟨by rfl, ?hyx10⟩) (by assumption) ?restx10
        case hyx10 => (intro w hSw; (try dsimp only at hSw); go_simp; (try (first | with_reducible rfl | rw [if_neg (by omega)])))
        try simp only [Act.put, List.getElem_toArray, List.getElem_cons_succ, List.getElem_cons_zero, List.setIfInBounds_toArray, List.set_cons_zero, List.set_cons_succ]
        refine wpAnyH_take (i := 9) (v := ?vx11) rfl (by kernel_rfl) (by kernel_rfl) (by kernel_rfl) (fun _ _ _ h => h) (Or.inl ⟨by rfl, ?hyx11⟩) (by assumption) ?restx11
        case hyx11 => (intro w hSw; (try dsimp only at hSw); go_simp; (try (first | with_reducible rfl | rw [if_neg (by omega)])))
        try simp only [Act.put, List.getElem_toArray, List.getElem_cons_succ, List.getElem_cons_zero, List.setIfInBounds_toArray, List.set_cons_zero, List.set_cons_succ]
        refine wpAnyH_done (by kernel_rfl) ?_ _
        first | obtain ⟨c0, c1, c2, c3, c4, c5, c6, c7⟩ := hSx
        first | have hzx : w.heap.size < wx.heap.size := Nat.lt_of_lt_of_le hzw1 (by have := hbx.size; (try simp at this); omega)
        go_wp2_with (first | (go_at_call 48; refine (refText_w o qo _ ho HQO).mono ?_; rintro e wt ⟨rfl, bt⟩; obtain ⟨hct, hft⟩ := bcell bt) | (go_at_call 33; refine (refSeal_calls _ _ (by simp; omega)).mono ?_; rintro e wz ⟨rfl, bz⟩))
        go_ret2
        rw [HE.out]
        refine ⟨rfl, by first | exact below_call (below_call hBx bt) bz | exact below_call (below_call (below_alloc0 hBx _) bt) bz⟩
      exact AllReadyH.nil
    exact AllReadyH.nil
  exact AllReadyH.nil
set_option maxHeartbeats 4000000 in
set_option maxRecDepth 100000 in
theorem refEnc_7 (u o : ByteArray) (i a p n : Int) (t : ByteArray) (w : World) (hu : u.size ≤ 140737488351232) (ho : o.size ≤ 140737488351232) (ht : t.size ≤ 140737488351232) (hm : mayE8 7 u o i a p n t = true)  :
    Calls Try.prog 61 #[.agg #[.int .i64 7, .string u, .string o, .int .i64 i, .int .i64 a, .int .i64 p, .int .i64 n, .string t]] w fun e w' => e = .returned (.tuple #[.string (encE8 7 u o i a p n t).1, .int .i64 (encE8 7 u o i a p n t).2]) ∧ Below w.heap.size w w' := by
  have HM := Lib.hid hm
  obtain ⟨_, _, zu, zo, zt, zi0, zi4⟩ := mayE8_sz 7 u o i a p n t hm
  obtain ⟨qk, hqk⟩ : ∃ q, strOf [UInt8.ofNat (7 : Int).toNat] = q := ⟨_, rfl⟩
  obtain ⟨qi, hqi⟩ : ∃ q, strOf [UInt8.ofNat i.toNat] = q := ⟨_, rfl⟩
  obtain ⟨qu, hqu⟩ : ∃ q, textV u = q := ⟨_, rfl⟩
  obtain ⟨qo, hqo⟩ : ∃ q, textV o = q := ⟨_, rfl⟩
  obtain ⟨qv, bv, hqv⟩ : ∃ q b, putVal a p n t = (q, b) := ⟨_, _, rfl⟩
  have zqk : qk.size ≤ 1 := by rw [← hqk, strOf_size]; exact Nat.le_refl _
  have zqi : qi.size ≤ 1 := by rw [← hqi, strOf_size]; exact Nat.le_refl _
  have zqu : qu.size ≤ 26 := by rw [← hqu]; have := textV_size u hu; omega
  have zqo : qo.size ≤ 26 := by rw [← hqo]; have := textV_size o ho; omega
  have zqv : qv.size ≤ 60 := by have := putVal_size a p n t; rw [hqv] at this; exact this
  have HE : Hid (encE8 7 u o i a p n t = (sealS (qk ++ qu ++ qi ++ qv), 0)) := by
    show _ = _
    unfold encE8
    rw [hm, if_neg (by simp), hqk, hqi, hqu, hqo, hqv]
    rfl
  have HQK := Lib.hid hqk
  have HQI := Lib.hid hqi
  have HQU := Lib.hid hqu
  have HQO := Lib.hid hqo
  have HQV := Lib.hid hqv
  have HL := Lib.hid (one_map 7 (by omega) (by omega))
  have HL2 := Lib.hid (one_map2 7 (by omega) (by omega))
  have hcv := lit_bytes _ 1 _ qk HL HQK
  have hcd := lit_bytes_drew _ 1 _ qk HL HQK
  have hcv2 := lit_bytes _ 1 _ qk HL2 HQK
  have hcd2 := lit_bytes_drew _ 1 _ qk HL2 HQK
  have hi0 : 0 ≤ i := zi0 (by omega)
  have hi4 : i < 4 := zi4 (by omega)
  have HI := Lib.hid (one_map i hi0 (by omega))
  have HI2 := Lib.hid (one_map2 i hi0 (by omega))
  have hiv := lit_bytes _ 1 _ qi HI HQI
  have hiv2 := lit_bytes _ 1 _ qi HI2 HQI
  have hiv3 := lit_bytes_two _ 1 _ qi HI HQI
  have hiv4 := lit_bytes_two _ 1 _ qi HI2 HQI
  clear hm hqk hqi hqu hqo hqv zi0 zi4
  go_enter Try.func61, Try.ntmps61
  go_wp2_with fail
  refine (re_ (refMayE_calls 7 u o i a p n t _ hu ho ht) (by rw [HM.out])).mono ?_
  rintro e w1 ⟨rfl, b1⟩
  have hS : S8 w.heap.size 7 u o i a p n t w1 := S8.below ⟨cell_new _ _ _ _ _ rfl, cell_new _ _ _ _ _ rfl, cell_new _ _ _ _ _ rfl, cell_new _ _ _ _ _ rfl, cell_new _ _ _ _ _ rfl, cell_new _ _ _ _ _ rfl, cell_new _ _ _ _ _ rfl, cell_new _ _ _ _ _ rfl⟩ b1
  have hB1 := below_call (below_alloc0 (Below.refl _ _) _) b1
  have hzw1 : w.heap.size < w1.heap.size := Nat.lt_of_lt_of_le (by simp) b1.size
  go_wp2_with fail
  refine wp_region_held_drew (S := (fun W => W.cell? ⟨w.heap.size, 0, none⟩ = some (.int .i64 7) ∧ W.cell? ⟨w.heap.size, 1, none⟩ = some (.string u) ∧ W.cell? ⟨w.heap.size, 2, none⟩ = some (.string o) ∧ W.cell? ⟨w.heap.size, 3, none⟩ = some (.int .i64 i) ∧ W.cell? ⟨w.heap.size, 4, none⟩ = some (.int .i64 a) ∧ W.cell? ⟨w.heap.size, 5, none⟩ = some (.int .i64 p) ∧ W.cell? ⟨w.heap.size, 6, none⟩ = some (.int .i64 n) ∧ W.cell? ⟨w.heap.size, 7, none⟩ = some (.string t))) (by kernel_rfl) hS (fun hHeld => ?_)
  refine wpAnyH_take (i := 0) (v := ?vx1) rfl (by kernel_rfl) (by kernel_rfl) (by kernel_rfl) (fun _ _ _ h => h) (Or.inl ⟨by rfl, ?hyx1⟩) (by assumption) ?restx1
  case hyx1 => (intro w hSw; (try dsimp only at hSw); go_simp; (try (first | with_reducible rfl | rw [if_neg (by omega)])))
  try simp only [Act.put, List.getElem_toArray, List.getElem_cons_succ, List.getElem_cons_zero, List.setIfInBounds_toArray, List.set_cons_zero, List.set_cons_succ]
  refine wpAnyH_take (i := 1) (v := ?vx2) rfl (by kernel_rfl) (by kernel_rfl) (by kernel_rfl) (fun _ _ _ h => h) (Or.inl ⟨by rfl, ?hyx2⟩) (by assumption) ?restx2
  case hyx2 => (intro w hSw; (try dsimp only at hSw); go_simp; (try (first | with_reducible rfl | rw [if_neg (by omega)])))
  try simp only [Act.put, List.getElem_toArray, List.getElem_cons_succ, List.getElem_cons_zero, List.setIfInBounds_toArray, List.set_cons_zero, List.set_cons_succ]
  refine wpAnyH_take (i := 2) (v := ?vx3) rfl (by kernel_rfl) (by kernel_rfl) (by kernel_rfl) (fun _ _ _ h => h) (Or.inl ⟨by rfl, ?hyx3⟩) (by assumption) ?restx3
  case hyx3 => (intro w hSw; (try dsimp only at hSw); go_simp; (try (first | with_reducible rfl | rw [if_neg (by omega)])))
  try simp only [Act.put, List.getElem_toArray, List.getElem_cons_succ, List.getElem_cons_zero, List.setIfInBounds_toArray, List.set_cons_zero, List.set_cons_succ]
  refine wpAnyH_take (i := 5) (v := ?vx4) rfl (by kernel_rfl) (by kernel_rfl) (by kernel_rfl) (fun _ _ _ h => h) (Or.inl ⟨by rfl, ?hyx4⟩) (by assumption) ?restx4
  case hyx4 => (intro w hSw; (try dsimp only at hSw); go_simp; (try (first | with_reducible rfl | rw [if_neg (by omega)])))
  try simp only [Act.put, List.getElem_toArray, List.getElem_cons_succ, List.getElem_cons_zero, List.setIfInBounds_toArray, List.set_cons_zero, List.set_cons_succ]
  refine wpAnyH_take (i := 6) (v := ?vx5) rfl (by kernel_rfl) (by kernel_rfl) (by kernel_rfl) (fun _ _ _ h => h) (Or.inl ⟨by rfl, ?hyx5⟩) (by assumption) ?restx5
  case hyx5 => (intro w hSw; (try dsimp only at hSw); go_simp; (try (first | with_reducible rfl | rw [if_neg (by omega)])))
  try simp only [Act.put, List.getElem_toArray, List.getElem_cons_succ, List.getElem_cons_zero, List.setIfInBounds_toArray, List.set_cons_zero, List.set_cons_succ]
  refine wpAnyH_ready (rs := [3, 7]) (by kernel_rfl) (by simp) ?_
  refine AllReadyH.cons rfl (fun K hK => ?_) ?_
  · go_simp
    refine hK.out _ _ (by (try dsimp only); (first | exact hS | exact hSx | exact hS.alloc _ | exact hSx.alloc _)) (fun hHeld => ?_)
    clear hK K
    try simp only [Act.put, List.getElem_toArray, List.getElem_cons_succ, List.getElem_cons_zero, List.setIfInBounds_toArray, List.set_cons_zero, List.set_cons_succ]
    refine wpAnyH_ready (rs := [4, 7]) (by kernel_rfl) (by simp) ?_
    refine AllReadyH.cons rfl (fun K hK => ?_) ?_
    · go_simp
      refine hK.out _ _ (by (try dsimp only); (first | exact hS | exact hSx | exact hS.alloc _ | exact hSx.alloc _)) (fun hHeld => ?_)
      clear hK K
      try simp only [Act.put, List.getElem_toArray, List.getElem_cons_succ, List.getElem_cons_zero, List.setIfInBounds_toArray, List.set_cons_zero, List.set_cons_succ]
      refine wpAnyH_ready (rs := [7]) (by kernel_rfl) (by simp) ?_
      refine AllReadyH.cons rfl (fun K hK => ?_) ?_
      · go_simp
        go_at_call 48
        refine (refText_w u qu _ hu HQU).mono ?_
        rintro e wx ⟨rfl, hbx⟩
        (first | replace hbx := undrew hbx | skip)
        (first | have hSx := hS.below hbx | have hSx := (hS.alloc _).below hbx)
        (first | have hBx := below_call hB1 hbx | have hBx := below_call (below_alloc0 hB1 _) hbx)
        (first | have hcx := lit_bytes_later _ 1 _ _ HL HQK w1 _ hbx | skip)
        refine hK.out _ _ (by (try dsimp only); (first | exact hS | exact hSx | exact hS.alloc _ | exact hSx.alloc _)) (fun hHeld => ?_)
        clear hK K
        try simp only [Act.put, List.getElem_toArray, List.getElem_cons_succ, List.getElem_cons_zero, List.setIfInBounds_toArray, List.set_cons_zero, List.set_cons_succ]
        refine wpAnyH_take (i := 8) (v := ?vx6) rfl (by kernel_rfl) (by kernel_rfl) (by kernel_rfl) (fun _ _ _ h => h) (Or.inl ⟨by rfl, ?hyx6⟩) (by assumption) ?restx6
        case hyx6 => (intro w hSw; (try dsimp only at hSw); go_simp; (try (first | with_reducible rfl | rw [if_neg (by omega)])))
        try simp only [Act.put, List.getElem_toArray, List.getElem_cons_succ, List.getElem_cons_zero, List.setIfInBounds_toArray, List.set_cons_zero, List.set_cons_succ]
        refine wpAnyH_take (i := 9) (v := ?vx7) rfl (by kernel_rfl) (by kernel_rfl) (by kernel_rfl) (fun _ _ _ h => h) (Or.inl ⟨by rfl, ?hyx7⟩) (by assumption) ?restx7
        case hyx7 => (intro w hSw; (try dsimp only at hSw); go_simp; (try (first | with_reducible rfl | rw [if_neg (by omega)])))
        try simp only [Act.put, List.getElem_toArray, List.getElem_cons_succ, List.getElem_cons_zero, List.setIfInBounds_toArray, List.set_cons_zero, List.set_cons_succ]
        refine wpAnyH_done (by kernel_rfl) ?_ _
        first | obtain ⟨c0, c1, c2, c3, c4, c5, c6, c7⟩ := hSx
        first | have hzx : w.heap.size < wx.heap.size := Nat.lt_of_lt_of_le hzw1 (by have := hbx.size; (try simp at this); omega)
        go_wp2_with (first | (go_at_call 82; refine (re_ (refPut04_calls a p n t _ ht) (by rw [HQV.out])).mono ?_; rintro e wp ⟨rfl, bp⟩; obtain ⟨hcp, hfp⟩ := bcell bp) | (go_at_call 33; refine (refSeal_calls _ _ (by simp; omega)).mono ?_; rintro e wz ⟨rfl, bz⟩))
        go_ret2
        rw [HE.out]
        refine ⟨rfl, by first | exact below_call (below_call (below_alloc0 hBx _) bp) bz | exact below_call (below_call (below_alloc0 (below_alloc0 hBx _) _) bp) bz⟩
      exact AllReadyH.nil
    refine AllReadyH.cons rfl (fun K hK => ?_) ?_
    · go_simp
      go_at_call 48
      refine (refText_w u qu _ hu HQU).mono ?_
      rintro e wx ⟨rfl, hbx⟩
      (first | replace hbx := undrew hbx | skip)
      (first | have hSx := hS.below hbx | have hSx := (hS.alloc _).below hbx)
      (first | have hBx := below_call hB1 hbx | have hBx := below_call (below_alloc0 hB1 _) hbx)
      (first | have hcx := lit_bytes_later _ 1 _ _ HL HQK w1 _ hbx | skip)
      refine hK.out _ _ (by (try dsimp only); (first | exact hS | exact hSx | exact hS.alloc _ | exact hSx.alloc _)) (fun hHeld => ?_)
      clear hK K
      try simp only [Act.put, List.getElem_toArray, List.getElem_cons_succ, List.getElem_cons_zero, List.setIfInBounds_toArray, List.set_cons_zero, List.set_cons_succ]
      refine wpAnyH_ready (rs := [4]) (by kernel_rfl) (by simp) ?_
      refine AllReadyH.cons rfl (fun K hK => ?_) ?_
      · go_simp
        refine hK.out _ _ (by (try dsimp only); (first | exact hS | exact hSx | exact hS.alloc _ | exact hSx.alloc _)) (fun hHeld => ?_)
        clear hK K
        try simp only [Act.put, List.getElem_toArray, List.getElem_cons_succ, List.getElem_cons_zero, List.setIfInBounds_toArray, List.set_cons_zero, List.set_cons_succ]
        refine wpAnyH_take (i := 8) (v := ?vx8) rfl (by kernel_rfl) (by kernel_rfl) (by kernel_rfl) (fun _ _ _ h => h) (Or.inl ⟨by rfl, ?hyx8⟩) (by assumption) ?restx8
        case hyx8 => (intro w hSw; (try dsimp only at hSw); go_simp; (try (first | with_reducible rfl | rw [if_neg (by omega)])))
        try simp only [Act.put, List.getElem_toArray, List.getElem_cons_succ, List.getElem_cons_zero, List.setIfInBounds_toArray, List.set_cons_zero, List.set_cons_succ]
        refine wpAnyH_take (i := 9) (v := ?vx9) rfl (by kernel_rfl) (by kernel_rfl) (by kernel_rfl) (fun _ _ _ h => h) (Or.inl ⟨by rfl, ?hyx9⟩) (by assumption) ?restx9
        case hyx9 => (intro w hSw; (try dsimp only at hSw); go_simp; (try (first | with_reducible rfl | rw [if_neg (by omega)])))
        try simp only [Act.put, List.getElem_toArray, List.getElem_cons_succ, List.getElem_cons_zero, List.setIfInBounds_toArray, List.set_cons_zero, List.set_cons_succ]
        refine wpAnyH_done (by kernel_rfl) ?_ _
        first | obtain ⟨c0, c1, c2, c3, c4, c5, c6, c7⟩ := hSx
        first | have hzx : w.heap.size < wx.heap.size := Nat.lt_of_lt_of_le hzw1 (by have := hbx.size; (try simp at this); omega)
        go_wp2_with (first | (go_at_call 82; refine (re_ (refPut04_calls a p n t _ ht) (by rw [HQV.out])).mono ?_; rintro e wp ⟨rfl, bp⟩; obtain ⟨hcp, hfp⟩ := bcell bp) | (go_at_call 33; refine (refSeal_calls _ _ (by simp; omega)).mono ?_; rintro e wz ⟨rfl, bz⟩))
        go_ret2
        rw [HE.out]
        refine ⟨rfl, by first | exact below_call (below_call (below_alloc0 hBx _) bp) bz | exact below_call (below_call (below_alloc0 (below_alloc0 hBx _) _) bp) bz⟩
      exact AllReadyH.nil
    exact AllReadyH.nil
  refine AllReadyH.cons rfl (fun K hK => ?_) ?_
  · go_simp
    go_at_call 48
    refine (refText_w u qu _ hu HQU).mono ?_
    rintro e wx ⟨rfl, hbx⟩
    (first | replace hbx := undrew hbx | skip)
    (first | have hSx := hS.below hbx | have hSx := (hS.alloc _).below hbx)
    (first | have hBx := below_call hB1 hbx | have hBx := below_call (below_alloc0 hB1 _) hbx)
    (first | have hcx := lit_bytes_later _ 1 _ _ HL HQK w1 _ hbx | skip)
    refine hK.out _ _ (by (try dsimp only); (first | exact hS | exact hSx | exact hS.alloc _ | exact hSx.alloc _)) (fun hHeld => ?_)
    clear hK K
    try simp only [Act.put, List.getElem_toArray, List.getElem_cons_succ, List.getElem_cons_zero, List.setIfInBounds_toArray, List.set_cons_zero, List.set_cons_succ]
    refine wpAnyH_ready (rs := [3]) (by kernel_rfl) (by simp) ?_
    refine AllReadyH.cons rfl (fun K hK => ?_) ?_
    · go_simp
      refine hK.out _ _ (by (try dsimp only); (first | exact hS | exact hSx | exact hS.alloc _ | exact hSx.alloc _)) (fun hHeld => ?_)
      clear hK K
      try simp only [Act.put, List.getElem_toArray, List.getElem_cons_succ, List.getElem_cons_zero, List.setIfInBounds_toArray, List.set_cons_zero, List.set_cons_succ]
      refine wpAnyH_ready (rs := [4]) (by kernel_rfl) (by simp) ?_
      refine AllReadyH.cons rfl (fun K hK => ?_) ?_
      · go_simp
        refine hK.out _ _ (by (try dsimp only); (first | exact hS | exact hSx | exact hS.alloc _ | exact hSx.alloc _)) (fun hHeld => ?_)
        clear hK K
        try simp only [Act.put, List.getElem_toArray, List.getElem_cons_succ, List.getElem_cons_zero, List.setIfInBounds_toArray, List.set_cons_zero, List.set_cons_succ]
        refine wpAnyH_take (i := 8) (v := ?vx10) rfl (by kernel_rfl) (by kernel_rfl) (by kernel_rfl) (fun _ _ _ h => h) (Or.inl ⟨by rfl, ?hyx10⟩) (by assumption) ?restx10
        case hyx10 => (intro w hSw; (try dsimp only at hSw); go_simp; (try (first | with_reducible rfl | rw [if_neg (by omega)])))
        try simp only [Act.put, List.getElem_toArray, List.getElem_cons_succ, List.getElem_cons_zero, List.setIfInBounds_toArray, List.set_cons_zero, List.set_cons_succ]
        refine wpAnyH_take (i := 9) (v := ?vx11) rfl (by kernel_rfl) (by kernel_rfl) (by kernel_rfl) (fun _ _ _ h => h) (Or.inl ⟨by rfl, ?hyx11⟩) (by assumption) ?restx11
        case hyx11 => (intro w hSw; (try dsimp only at hSw); go_simp; (try (first | with_reducible rfl | rw [if_neg (by omega)])))
        try simp only [Act.put, List.getElem_toArray, List.getElem_cons_succ, List.getElem_cons_zero, List.setIfInBounds_toArray, List.set_cons_zero, List.set_cons_succ]
        refine wpAnyH_done (by kernel_rfl) ?_ _
        first | obtain ⟨c0, c1, c2, c3, c4, c5, c6, c7⟩ := hSx
        first | have hzx : w.heap.size < wx.heap.size := Nat.lt_of_lt_of_le hzw1 (by have := hbx.size; (try simp at this); omega)
        go_wp2_with (first | (go_at_call 82; refine (re_ (refPut04_calls a p n t _ ht) (by rw [HQV.out])).mono ?_; rintro e wp ⟨rfl, bp⟩; obtain ⟨hcp, hfp⟩ := bcell bp) | (go_at_call 33; refine (refSeal_calls _ _ (by simp; omega)).mono ?_; rintro e wz ⟨rfl, bz⟩))
        go_ret2
        rw [HE.out]
        refine ⟨rfl, by first | exact below_call (below_call (below_alloc0 hBx _) bp) bz | exact below_call (below_call (below_alloc0 (below_alloc0 hBx _) _) bp) bz⟩
      exact AllReadyH.nil
    exact AllReadyH.nil
  exact AllReadyH.nil
set_option maxHeartbeats 4000000 in
set_option maxRecDepth 100000 in
theorem refEnc_8 (u o : ByteArray) (i a p n : Int) (t : ByteArray) (w : World) (hu : u.size ≤ 140737488351232) (ho : o.size ≤ 140737488351232) (ht : t.size ≤ 140737488351232) (hm : mayE8 8 u o i a p n t = true)  :
    Calls Try.prog 61 #[.agg #[.int .i64 8, .string u, .string o, .int .i64 i, .int .i64 a, .int .i64 p, .int .i64 n, .string t]] w fun e w' => e = .returned (.tuple #[.string (encE8 8 u o i a p n t).1, .int .i64 (encE8 8 u o i a p n t).2]) ∧ Below w.heap.size w w' := by
  have HM := Lib.hid hm
  obtain ⟨_, _, zu, zo, zt, zi0, zi4⟩ := mayE8_sz 8 u o i a p n t hm
  obtain ⟨qk, hqk⟩ : ∃ q, strOf [UInt8.ofNat (8 : Int).toNat] = q := ⟨_, rfl⟩
  obtain ⟨qi, hqi⟩ : ∃ q, strOf [UInt8.ofNat i.toNat] = q := ⟨_, rfl⟩
  obtain ⟨qu, hqu⟩ : ∃ q, textV u = q := ⟨_, rfl⟩
  obtain ⟨qo, hqo⟩ : ∃ q, textV o = q := ⟨_, rfl⟩
  obtain ⟨qv, bv, hqv⟩ : ∃ q b, putVal a p n t = (q, b) := ⟨_, _, rfl⟩
  have zqk : qk.size ≤ 1 := by rw [← hqk, strOf_size]; exact Nat.le_refl _
  have zqi : qi.size ≤ 1 := by rw [← hqi, strOf_size]; exact Nat.le_refl _
  have zqu : qu.size ≤ 26 := by rw [← hqu]; have := textV_size u hu; omega
  have zqo : qo.size ≤ 26 := by rw [← hqo]; have := textV_size o ho; omega
  have zqv : qv.size ≤ 60 := by have := putVal_size a p n t; rw [hqv] at this; exact this
  have HE : Hid (encE8 8 u o i a p n t = (sealS (qk ++ qu ++ qi), 0)) := by
    show _ = _
    unfold encE8
    rw [hm, if_neg (by simp), hqk, hqi, hqu, hqo, hqv]
    rfl
  have HQK := Lib.hid hqk
  have HQI := Lib.hid hqi
  have HQU := Lib.hid hqu
  have HQO := Lib.hid hqo
  have HQV := Lib.hid hqv
  have HL := Lib.hid (one_map 8 (by omega) (by omega))
  have HL2 := Lib.hid (one_map2 8 (by omega) (by omega))
  have hcv := lit_bytes _ 1 _ qk HL HQK
  have hcd := lit_bytes_drew _ 1 _ qk HL HQK
  have hcv2 := lit_bytes _ 1 _ qk HL2 HQK
  have hcd2 := lit_bytes_drew _ 1 _ qk HL2 HQK
  have hi0 : 0 ≤ i := zi0 (by omega)
  have hi4 : i < 4 := zi4 (by omega)
  have HI := Lib.hid (one_map i hi0 (by omega))
  have HI2 := Lib.hid (one_map2 i hi0 (by omega))
  have hiv := lit_bytes _ 1 _ qi HI HQI
  have hiv2 := lit_bytes _ 1 _ qi HI2 HQI
  have hiv3 := lit_bytes_two _ 1 _ qi HI HQI
  have hiv4 := lit_bytes_two _ 1 _ qi HI2 HQI
  clear hm hqk hqi hqu hqo hqv zi0 zi4
  go_enter Try.func61, Try.ntmps61
  go_wp2_with fail
  refine (re_ (refMayE_calls 8 u o i a p n t _ hu ho ht) (by rw [HM.out])).mono ?_
  rintro e w1 ⟨rfl, b1⟩
  have hS : S8 w.heap.size 8 u o i a p n t w1 := S8.below ⟨cell_new _ _ _ _ _ rfl, cell_new _ _ _ _ _ rfl, cell_new _ _ _ _ _ rfl, cell_new _ _ _ _ _ rfl, cell_new _ _ _ _ _ rfl, cell_new _ _ _ _ _ rfl, cell_new _ _ _ _ _ rfl, cell_new _ _ _ _ _ rfl⟩ b1
  have hB1 := below_call (below_alloc0 (Below.refl _ _) _) b1
  have hzw1 : w.heap.size < w1.heap.size := Nat.lt_of_lt_of_le (by simp) b1.size
  go_wp2_with fail
  refine wp_region_held_drew (S := (fun W => W.cell? ⟨w.heap.size, 0, none⟩ = some (.int .i64 8) ∧ W.cell? ⟨w.heap.size, 1, none⟩ = some (.string u) ∧ W.cell? ⟨w.heap.size, 2, none⟩ = some (.string o) ∧ W.cell? ⟨w.heap.size, 3, none⟩ = some (.int .i64 i) ∧ W.cell? ⟨w.heap.size, 4, none⟩ = some (.int .i64 a) ∧ W.cell? ⟨w.heap.size, 5, none⟩ = some (.int .i64 p) ∧ W.cell? ⟨w.heap.size, 6, none⟩ = some (.int .i64 n) ∧ W.cell? ⟨w.heap.size, 7, none⟩ = some (.string t))) (by kernel_rfl) hS (fun hHeld => ?_)
  refine wpAnyH_take (i := 0) (v := ?vx1) rfl (by kernel_rfl) (by kernel_rfl) (by kernel_rfl) (fun _ _ _ h => h) (Or.inl ⟨by rfl, ?hyx1⟩) (by assumption) ?restx1
  case hyx1 => (intro w hSw; (try dsimp only at hSw); go_simp; (try (first | with_reducible rfl | rw [if_neg (by omega)])))
  try simp only [Act.put, List.getElem_toArray, List.getElem_cons_succ, List.getElem_cons_zero, List.setIfInBounds_toArray, List.set_cons_zero, List.set_cons_succ]
  refine wpAnyH_take (i := 1) (v := ?vx2) rfl (by kernel_rfl) (by kernel_rfl) (by kernel_rfl) (fun _ _ _ h => h) (Or.inl ⟨by rfl, ?hyx2⟩) (by assumption) ?restx2
  case hyx2 => (intro w hSw; (try dsimp only at hSw); go_simp; (try (first | with_reducible rfl | rw [if_neg (by omega)])))
  try simp only [Act.put, List.getElem_toArray, List.getElem_cons_succ, List.getElem_cons_zero, List.setIfInBounds_toArray, List.set_cons_zero, List.set_cons_succ]
  refine wpAnyH_take (i := 2) (v := ?vx3) rfl (by kernel_rfl) (by kernel_rfl) (by kernel_rfl) (fun _ _ _ h => h) (Or.inl ⟨by rfl, ?hyx3⟩) (by assumption) ?restx3
  case hyx3 => (intro w hSw; (try dsimp only at hSw); go_simp; (try (first | with_reducible rfl | rw [if_neg (by omega)])))
  try simp only [Act.put, List.getElem_toArray, List.getElem_cons_succ, List.getElem_cons_zero, List.setIfInBounds_toArray, List.set_cons_zero, List.set_cons_succ]
  refine wpAnyH_take (i := 5) (v := ?vx4) rfl (by kernel_rfl) (by kernel_rfl) (by kernel_rfl) (fun _ _ _ h => h) (Or.inl ⟨by rfl, ?hyx4⟩) (by assumption) ?restx4
  case hyx4 => (intro w hSw; (try dsimp only at hSw); go_simp; (try (first | with_reducible rfl | rw [if_neg (by omega)])))
  try simp only [Act.put, List.getElem_toArray, List.getElem_cons_succ, List.getElem_cons_zero, List.setIfInBounds_toArray, List.set_cons_zero, List.set_cons_succ]
  refine wpAnyH_take (i := 6) (v := ?vx5) rfl (by kernel_rfl) (by kernel_rfl) (by kernel_rfl) (fun _ _ _ h => h) (Or.inl ⟨by rfl, ?hyx5⟩) (by assumption) ?restx5
  case hyx5 => (intro w hSw; (try dsimp only at hSw); go_simp; (try (first | with_reducible rfl | rw [if_neg (by omega)])))
  try simp only [Act.put, List.getElem_toArray, List.getElem_cons_succ, List.getElem_cons_zero, List.setIfInBounds_toArray, List.set_cons_zero, List.set_cons_succ]
  refine wpAnyH_ready (rs := [3, 7]) (by kernel_rfl) (by simp) ?_
  refine AllReadyH.cons rfl (fun K hK => ?_) ?_
  · go_simp
    refine hK.out _ _ (by (try dsimp only); (first | exact hS | exact hSx | exact hS.alloc _ | exact hSx.alloc _)) (fun hHeld => ?_)
    clear hK K
    try simp only [Act.put, List.getElem_toArray, List.getElem_cons_succ, List.getElem_cons_zero, List.setIfInBounds_toArray, List.set_cons_zero, List.set_cons_succ]
    refine wpAnyH_ready (rs := [4, 7]) (by kernel_rfl) (by simp) ?_
    refine AllReadyH.cons rfl (fun K hK => ?_) ?_
    · go_simp
      refine hK.out _ _ (by (try dsimp only); (first | exact hS | exact hSx | exact hS.alloc _ | exact hSx.alloc _)) (fun hHeld => ?_)
      clear hK K
      try simp only [Act.put, List.getElem_toArray, List.getElem_cons_succ, List.getElem_cons_zero, List.setIfInBounds_toArray, List.set_cons_zero, List.set_cons_succ]
      refine wpAnyH_ready (rs := [7]) (by kernel_rfl) (by simp) ?_
      refine AllReadyH.cons rfl (fun K hK => ?_) ?_
      · go_simp
        go_at_call 48
        refine (refText_w u qu _ hu HQU).mono ?_
        rintro e wx ⟨rfl, hbx⟩
        (first | replace hbx := undrew hbx | skip)
        (first | have hSx := hS.below hbx | have hSx := (hS.alloc _).below hbx)
        (first | have hBx := below_call hB1 hbx | have hBx := below_call (below_alloc0 hB1 _) hbx)
        (first | have hcx := lit_bytes_later _ 1 _ _ HL HQK w1 _ hbx | skip)
        refine hK.out _ _ (by (try dsimp only); (first | exact hS | exact hSx | exact hS.alloc _ | exact hSx.alloc _)) (fun hHeld => ?_)
        clear hK K
        try simp only [Act.put, List.getElem_toArray, List.getElem_cons_succ, List.getElem_cons_zero, List.setIfInBounds_toArray, List.set_cons_zero, List.set_cons_succ]
        refine wpAnyH_take (i := 8) (v := ?vx6) rfl (by kernel_rfl) (by kernel_rfl) (by kernel_rfl) (fun _ _ _ h => h) (Or.inl ⟨by rfl, ?hyx6⟩) (by assumption) ?restx6
        case hyx6 => (intro w hSw; (try dsimp only at hSw); go_simp; (try (first | with_reducible rfl | rw [if_neg (by omega)])))
        try simp only [Act.put, List.getElem_toArray, List.getElem_cons_succ, List.getElem_cons_zero, List.setIfInBounds_toArray, List.set_cons_zero, List.set_cons_succ]
        refine wpAnyH_take (i := 9) (v := ?vx7) rfl (by kernel_rfl) (by kernel_rfl) (by kernel_rfl) (fun _ _ _ h => h) (Or.inl ⟨by rfl, ?hyx7⟩) (by assumption) ?restx7
        case hyx7 => (intro w hSw; (try dsimp only at hSw); go_simp; (try (first | with_reducible rfl | rw [if_neg (by omega)])))
        try simp only [Act.put, List.getElem_toArray, List.getElem_cons_succ, List.getElem_cons_zero, List.setIfInBounds_toArray, List.set_cons_zero, List.set_cons_succ]
        refine wpAnyH_done (by kernel_rfl) ?_ _
        first | obtain ⟨c0, c1, c2, c3, c4, c5, c6, c7⟩ := hSx
        first | have hzx : w.heap.size < wx.heap.size := Nat.lt_of_lt_of_le hzw1 (by have := hbx.size; (try simp at this); omega)
        go_wp2_with (first | (go_at_call 33; refine (refSeal_calls _ _ (by simp; omega)).mono ?_; rintro e wz ⟨rfl, bz⟩))
        go_ret2
        rw [HE.out]
        refine ⟨rfl, by first | exact below_call (below_alloc0 hBx _) bz | exact below_call (below_alloc0 (below_alloc0 hBx _) _) bz⟩
      exact AllReadyH.nil
    refine AllReadyH.cons rfl (fun K hK => ?_) ?_
    · go_simp
      go_at_call 48
      refine (refText_w u qu _ hu HQU).mono ?_
      rintro e wx ⟨rfl, hbx⟩
      (first | replace hbx := undrew hbx | skip)
      (first | have hSx := hS.below hbx | have hSx := (hS.alloc _).below hbx)
      (first | have hBx := below_call hB1 hbx | have hBx := below_call (below_alloc0 hB1 _) hbx)
      (first | have hcx := lit_bytes_later _ 1 _ _ HL HQK w1 _ hbx | skip)
      refine hK.out _ _ (by (try dsimp only); (first | exact hS | exact hSx | exact hS.alloc _ | exact hSx.alloc _)) (fun hHeld => ?_)
      clear hK K
      try simp only [Act.put, List.getElem_toArray, List.getElem_cons_succ, List.getElem_cons_zero, List.setIfInBounds_toArray, List.set_cons_zero, List.set_cons_succ]
      refine wpAnyH_ready (rs := [4]) (by kernel_rfl) (by simp) ?_
      refine AllReadyH.cons rfl (fun K hK => ?_) ?_
      · go_simp
        refine hK.out _ _ (by (try dsimp only); (first | exact hS | exact hSx | exact hS.alloc _ | exact hSx.alloc _)) (fun hHeld => ?_)
        clear hK K
        try simp only [Act.put, List.getElem_toArray, List.getElem_cons_succ, List.getElem_cons_zero, List.setIfInBounds_toArray, List.set_cons_zero, List.set_cons_succ]
        refine wpAnyH_take (i := 8) (v := ?vx8) rfl (by kernel_rfl) (by kernel_rfl) (by kernel_rfl) (fun _ _ _ h => h) (Or.inl ⟨by rfl, ?hyx8⟩) (by assumption) ?restx8
        case hyx8 => (intro w hSw; (try dsimp only at hSw); go_simp; (try (first | with_reducible rfl | rw [if_neg (by omega)])))
        try simp only [Act.put, List.getElem_toArray, List.getElem_cons_succ, List.getElem_cons_zero, List.setIfInBounds_toArray, List.set_cons_zero, List.set_cons_succ]
        refine wpAnyH_take (i := 9) (v := ?vx9) rfl (by kernel_rfl) (by kernel_rfl) (by kernel_rfl) (fun _ _ _ h => h) (Or.inl ⟨by rfl, ?hyx9⟩) (by assumption) ?restx9
        case hyx9 => (intro w hSw; (try dsimp only at hSw); go_simp; (try (first | with_reducible rfl | rw [if_neg (by omega)])))
        try simp only [Act.put, List.getElem_toArray, List.getElem_cons_succ, List.getElem_cons_zero, List.setIfInBounds_toArray, List.set_cons_zero, List.set_cons_succ]
        refine wpAnyH_done (by kernel_rfl) ?_ _
        first | obtain ⟨c0, c1, c2, c3, c4, c5, c6, c7⟩ := hSx
        first | have hzx : w.heap.size < wx.heap.size := Nat.lt_of_lt_of_le hzw1 (by have := hbx.size; (try simp at this); omega)
        go_wp2_with (first | (go_at_call 33; refine (refSeal_calls _ _ (by simp; omega)).mono ?_; rintro e wz ⟨rfl, bz⟩))
        go_ret2
        rw [HE.out]
        refine ⟨rfl, by first | exact below_call (below_alloc0 hBx _) bz | exact below_call (below_alloc0 (below_alloc0 hBx _) _) bz⟩
      exact AllReadyH.nil
    exact AllReadyH.nil
  refine AllReadyH.cons rfl (fun K hK => ?_) ?_
  · go_simp
    go_at_call 48
    refine (refText_w u qu _ hu HQU).mono ?_
    rintro e wx ⟨rfl, hbx⟩
    (first | replace hbx := undrew hbx | skip)
    (first | have hSx := hS.below hbx | have hSx := (hS.alloc _).below hbx)
    (first | have hBx := below_call hB1 hbx | have hBx := below_call (below_alloc0 hB1 _) hbx)
    (first | have hcx := lit_bytes_later _ 1 _ _ HL HQK w1 _ hbx | skip)
    refine hK.out _ _ (by (try dsimp only); (first | exact hS | exact hSx | exact hS.alloc _ | exact hSx.alloc _)) (fun hHeld => ?_)
    clear hK K
    try simp only [Act.put, List.getElem_toArray, List.getElem_cons_succ, List.getElem_cons_zero, List.setIfInBounds_toArray, List.set_cons_zero, List.set_cons_succ]
    refine wpAnyH_ready (rs := [3]) (by kernel_rfl) (by simp) ?_
    refine AllReadyH.cons rfl (fun K hK => ?_) ?_
    · go_simp
      refine hK.out _ _ (by (try dsimp only); (first | exact hS | exact hSx | exact hS.alloc _ | exact hSx.alloc _)) (fun hHeld => ?_)
      clear hK K
      try simp only [Act.put, List.getElem_toArray, List.getElem_cons_succ, List.getElem_cons_zero, List.setIfInBounds_toArray, List.set_cons_zero, List.set_cons_succ]
      refine wpAnyH_ready (rs := [4]) (by kernel_rfl) (by simp) ?_
      refine AllReadyH.cons rfl (fun K hK => ?_) ?_
      · go_simp
        refine hK.out _ _ (by (try dsimp only); (first | exact hS | exact hSx | exact hS.alloc _ | exact hSx.alloc _)) (fun hHeld => ?_)
        clear hK K
        try simp only [Act.put, List.getElem_toArray, List.getElem_cons_succ, List.getElem_cons_zero, List.setIfInBounds_toArray, List.set_cons_zero, List.set_cons_succ]
        refine wpAnyH_take (i := 8) (v := ?vx10) rfl (by kernel_rfl) (by kernel_rfl) (by kernel_rfl) (fun _ _ _ h => h) (Or.inl ⟨by rfl, ?hyx10⟩) (by assumption) ?restx10
        case hyx10 => (intro w hSw; (try dsimp only at hSw); go_simp; (try (first | with_reducible rfl | rw [if_neg (by omega)])))
        try simp only [Act.put, List.getElem_toArray, List.getElem_cons_succ, List.getElem_cons_zero, List.setIfInBounds_toArray, List.set_cons_zero, List.set_cons_succ]
        refine wpAnyH_take (i := 9) (v := ?vx11) rfl (by kernel_rfl) (by kernel_rfl) (by kernel_rfl) (fun _ _ _ h => h) (Or.inl ⟨by rfl, ?hyx11⟩) (by assumption) ?restx11
        case hyx11 => (intro w hSw; (try dsimp only at hSw); go_simp; (try (first | with_reducible rfl | rw [if_neg (by omega)])))
        try simp only [Act.put, List.getElem_toArray, List.getElem_cons_succ, List.getElem_cons_zero, List.setIfInBounds_toArray, List.set_cons_zero, List.set_cons_succ]
        refine wpAnyH_done (by kernel_rfl) ?_ _
        first | obtain ⟨c0, c1, c2, c3, c4, c5, c6, c7⟩ := hSx
        first | have hzx : w.heap.size < wx.heap.size := Nat.lt_of_lt_of_le hzw1 (by have := hbx.size; (try simp at this); omega)
        go_wp2_with (first | (go_at_call 33; refine (refSeal_calls _ _ (by simp; omega)).mono ?_; rintro e wz ⟨rfl, bz⟩))
        go_ret2
        rw [HE.out]
        refine ⟨rfl, by first | exact below_call (below_alloc0 hBx _) bz | exact below_call (below_alloc0 (below_alloc0 hBx _) _) bz⟩
      exact AllReadyH.nil
    exact AllReadyH.nil
  exact AllReadyH.nil

theorem refEnc_calls (k : Int) (u o : ByteArray) (i a p n : Int) (t : ByteArray) (w : World) (hu : u.size ≤ 140737488351232) (ho : o.size ≤ 140737488351232) (ht : t.size ≤ 140737488351232) :
    Calls Try.prog 61 #[.agg #[.int .i64 k, .string u, .string o, .int .i64 i, .int .i64 a, .int .i64 p, .int .i64 n, .string t]] w fun e w' => e = .returned (.tuple #[.string (encE8 k u o i a p n t).1, .int .i64 (encE8 k u o i a p n t).2]) ∧ Below w.heap.size w w' := by
  cases hm : mayE8 k u o i a p n t with
  | false =>
    have HE : Hid (encE8 k u o i a p n t = (⟨#[]⟩, 1)) := by show _ = _; rw [encE8, hm, if_pos (by simp)]
    have HM := Lib.hid hm
    clear hm
    go_enter Try.func61, Try.ntmps61
    go_wp2_with fail
    refine (re_ (refMayE_calls k u o i a p n t _ hu ho ht) (by rw [HM.out])).mono ?_
    rintro e w1 ⟨rfl, b1⟩
    go_wp2
    go_ret2
    rw [HE.out]
    exact ⟨rfl, below_call (below_alloc0 (Below.refl _ _) _) b1⟩
  | true =>
    obtain ⟨k1, k8, _⟩ := mayE8_sz k u o i a p n t hm
    by_cases h6 : k ≤ 6
    · exact refEnc_lo k u o i a p n t w hu ho ht hm h6
    · obtain rfl | rfl : k = 7 ∨ k = 8 := by omega
      · exact refEnc_7 u o i a p n t w hu ho ht hm
      · exact refEnc_8 u o i a p n t w hu ho ht hm
end Go.Proofs.Ytobhlcogopcbdaa
