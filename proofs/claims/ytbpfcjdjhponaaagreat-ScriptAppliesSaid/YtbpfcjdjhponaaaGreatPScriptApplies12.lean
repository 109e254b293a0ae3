import Derived.LoopN
import Derived.Test.YtbpfcjdjhponaaaGreatPScriptApplies11
set_option linter.unusedVariables false
set_option linter.unusedSimpArgs false
namespace Go.Proofs.YtbpfcjdjhponaaaGreat
open Go.RowKit
namespace Sp
def byteAt (s : ByteArray) (i : Nat) : Int := ((s.data.toList.getD i 0).toNat : Int)
def readR (s : ByteArray) : Ev :=
  if s.toList = [] then zeroE
  else if (takeN s 1).2.2 ≠ 0 then zeroE
  else if byteAt s 0 ≤ 6 then ⟨byteAt s 0, (takeN s 1).1, (takeN s (takeN s 1).2.1).1, 0, zeroV⟩
  else if (s.size : Int) ≤ (takeN s 1).2.1 then zeroE
  else ⟨byteAt s 0, (takeN s 1).1, ⟨#[]⟩, byteAt s (takeN s 1).2.1.toNat, if byteAt s 0 = 7 then (takeVal s ((takeN s 1).2.1 + 1)).1 else zeroV⟩
end Sp
open Sp
theorem byteAt_is (s : ByteArray) (i : Nat) (h : i < s.size) : byteAt s i = ((s[i]'h).toNat : Int) := by
  unfold byteAt
  have hl : i < s.data.toList.length := by rw [← size_eq_length]; exact h
  rw [List.getD_eq_getElem?_getD, List.getElem?_eq_getElem hl]; rfl
theorem takeN_ok (s : ByteArray) (a : Int) (t : ByteArray) (to : Int) (h : takeN s a = (t, to, 0)) : 0 ≤ a ∧ a ≤ to ∧ to ≤ s.size ∧ isName t = true ∧ t.size ≤ 16 := by
  simp only [takeN] at h
  have hk : (takeV s a 16).2.2 = 0 → (takeV s a 16).1.size ≤ 16 ∧ 0 ≤ a ∧ a ≤ (takeV s a 16).2.1 ∧ (takeV s a 16).2.1 ≤ s.size := takeV_size s a 16
  split at h
  · rename_i h1
    injection h with _ h2
    injection h2 with _ h3
    exact absurd h3 h1
  · rename_i h1
    split at h
    · rename_i hn
      have h1' : (takeV s a 16).2.2 = 0 := by simpa using h1
      obtain ⟨e1, e2, e3, e4⟩ := hk h1'
      rw [h] at e1 e3 e4 hn
      exact ⟨e2, e3, e4, hn, e1⟩
    · injection h with _ h2
      injection h2 with _ h3
      cases h3
theorem valTake_is (s : ByteArray) (a : Int) (v : PV) (to er : Int) (w : World) (hs : s.size ≤ 140737488351232) (h : Hid (takeVal s a = (v, to, er))) :
    Calls Tryz.prog 138 #[.string s, .int .i64 a] w fun e w' => e = .returned (.tuple #[.agg #[.int .i64 v.1, .int .i64 v.2.1, .int .i64 v.2.2.1, .string v.2.2.2], .int .i64 to, .int .i64 er]) ∧ Below w.heap.size w w' := by
  have := valTake_calls s a w hs
  rw [h.out] at this
  exact this
end Go.Proofs.YtbpfcjdjhponaaaGreat
namespace Go.Proofs.YtbpfcjdjhponaaaGreat
open Go.RowKit
namespace Sp
def decR (s : ByteArray) : Ev × Int :=
  if (openS s).2 ≠ 0 then (zeroE, (openS s).2)
  else if (encE (readR (openS s).1)).2 ≠ 0 ∨ (encE (readR (openS s).1)).1.toList ≠ s.toList then (zeroE, 3)
  else (readR (openS s).1, 0)
end Sp
open Sp
theorem takeV_len (s : ByteArray) (a : Int) (m : Int) : (takeV s a m).1.size ≤ s.size := by
  unfold takeV
  simp only
  split
  · exact Nat.zero_le _
  · split
    · exact Nat.zero_le _
    · split
      · exact Nat.zero_le _
      · simp only [ByteArray.size_extract]; omega
theorem takeN_len (s : ByteArray) (a : Int) : (takeN s a).1.size ≤ s.size := by
  have := takeV_len s a 16
  simp only [takeN]
  split
  · exact Nat.zero_le _
  · split
    · exact this
    · exact Nat.zero_le _
theorem takeVal_len (s : ByteArray) (a : Int) : (takeVal s a).1.2.2.2.size ≤ s.size := by
  unfold takeVal
  simp only
  split
  · exact Nat.zero_le _
  · split
    · exact Nat.zero_le _
    · split
      · exact Nat.zero_le _
      · split
        · exact Nat.zero_le _
        · split
          · exact takeV_len _ _ _
          · exact Nat.zero_le _
theorem openS_len (s : ByteArray) : (openS s).1.size ≤ s.size := by
  unfold openS
  split
  · exact Nat.zero_le _
  · split
    · simp only [ByteArray.size_extract]; omega
    · exact Nat.zero_le _
end Go.Proofs.YtbpfcjdjhponaaaGreat
namespace Go.Proofs.YtbpfcjdjhponaaaGreat
open Go.RowKit Sp
set_option maxHeartbeats 2000000 in
set_option maxRecDepth 100000 in
theorem valPut_calls (a p n : Int) (t : ByteArray) (w : World) (ht : t.size ≤ 140737488351232) :
    Calls Tryz.prog 49 #[.agg #[.int .i64 a, .int .i64 p, .int .i64 n, .string t]] w fun e w' => e = .returned (.tuple #[.string (putVal a p n t).1, .bool (putVal a p n t).2]) ∧ Below w.heap.size w w' := by
  cases hm : mayV a p n t with
  | false =>
    have HV : Hid (putVal a p n t = (⟨#[]⟩, false)) := by show _ = _; rw [putVal, hm]; rfl
    have HM := Lib.hid hm
    clear hm
    go_enter Tryz.func49, Tryz.ntmps49
    go_wp2_with fail
    refine (may_is a p n t false _ ht HM).mono ?_
    rintro e w1 ⟨rfl, b1⟩
    go_wp2
    go_ret2
    rw [HV.out]
    exact ⟨rfl, below_call (below_alloc0 (Below.refl _ _) _) b1⟩
  | true =>
    obtain ⟨h0, h1, h2, h3, h4, h5, h6, h7⟩ := (mayV_iff a p n t).1 hm
    have HM := Lib.hid hm
    go_enter Tryz.func49, Tryz.ntmps49
    go_wp2_with fail
    refine (may_is a p n t true _ ht HM).mono ?_
    rintro e w1 ⟨rfl, b1⟩
    have hS : S4 w.heap.size a p n t w1 := S4.below ⟨cell_new _ _ _ _ _ rfl, cell_new _ _ _ _ _ rfl, cell_new _ _ _ _ _ rfl, cell_new _ _ _ _ _ rfl⟩ b1
    have HL := Lib.hid (valL_map a p n h0 h1 h2 h3)
    have HL2 := Lib.hid (valL_map2 a p n h0 h1 h2 h3)
    obtain ⟨q1, hq1⟩ : ∃ q, strOf (valL a p n) = q := ⟨_, rfl⟩
    obtain ⟨q2, hq2⟩ : ∃ q, strOf (putV n.toNat) = q := ⟨_, rfl⟩
    obtain ⟨q3, hq3⟩ : ∃ q, textV t = q := ⟨_, rfl⟩
    have z1 : q1.size ≤ 2 := by rw [← hq1, strOf_size]; exact Nat.le_refl _
    have z2 : q2.size ≤ 10 := by rw [← hq2, strOf_size]; exact putV_len _ (by omega)
    have z3 : q3.size ≤ 42 := by rw [← hq3]; have := textV_size t ht; omega
    have HQ1 := Lib.hid hq1
    have HQ2 := Lib.hid hq2
    have HQ3 := Lib.hid hq3
    have HV : Hid (putVal a p n t = (q1 ++ q2 ++ q3, true)) := by show _ = _; rw [putVal, hm, hq1, hq2, hq3]; rfl
    have hcv := two_bytes _ _ (valL a p n) q1 HL HQ1
    have hcd := two_bytes_drew _ _ (valL a p n) q1 HL HQ1
    have hcv2 := two_bytes _ _ (valL a p n) q1 HL2 HQ1
    have hcd2 := two_bytes_drew _ _ (valL a p n) q1 HL2 HQ1
    have HX : Hid (IntKind.u64.wrap n = ((n.toNat : Nat) : Int)) := by show _ = _; rw [IntKind.wrap_u64]; omega
    have hln : n.toNat < lim64 := by unfold lim64; omega
    clear hm h7 hq1 hq2 hq3
    have hB1 := below_call (below_alloc0 (Below.refl _ _) _) b1
    go_wp2_with fail
    refine wp_region_held_drew (S := (fun W => W.cell? ⟨w.heap.size, 0, none⟩ = some (.int .i64 a) ∧ W.cell? ⟨w.heap.size, 1, none⟩ = some (.int .i64 p) ∧ W.cell? ⟨w.heap.size, 2, none⟩ = some (.int .i64 n) ∧ W.cell? ⟨w.heap.size, 3, none⟩ = some (.string t))) (by kernel_rfl) hS (fun hHeld => ?_)
    refine wpAnyH_take (i := 0) (v := ?vx1) rfl (by kernel_rfl) (by kernel_rfl) (by kernel_rfl) (fun _ _ _ h => h) (Or.inl ⟨by rfl, ?hyx1⟩) (by assumption) ?restx1
    case hyx1 => (intro w hSw; (try dsimp only at hSw); go_simp; (try (first | with_reducible rfl | rw [if_neg (by omega)])))
    try simp only [Act.put, List.getElem_toArray, List.getElem_cons_succ, List.getElem_cons_zero, List.setIfInBounds_toArray, List.set_cons_zero, List.set_cons_succ]
    refine wpAnyH_take (i := 1) (v := ?vx2) rfl (by kernel_rfl) (by kernel_rfl) (by kernel_rfl) (fun _ _ _ h => h) (Or.inl ⟨by rfl, ?hyx2⟩) (by assumption) ?restx2
    case hyx2 => (intro w hSw; (try dsimp only at hSw); go_simp; (try (first | with_reducible rfl | rw [if_neg (by omega)])))
    try simp only [Act.put, List.getElem_toArray, List.getElem_cons_succ, List.getElem_cons_zero, List.setIfInBounds_toArray, List.set_cons_zero, List.set_cons_succ]
    refine wpAnyH_take (i := 2) (v := ?vx3) rfl (by kernel_rfl) (by kernel_rfl) (by kernel_rfl) (fun _ _ _ h => h) (Or.inl ⟨by rfl, ?hyx3⟩) (by assumption) ?restx3
    case hyx3 => (intro w hSw; (try dsimp only at hSw); go_simp; (try (first | with_reducible rfl | rw [if_neg (by omega)])))
    try simp only [Act.put, List.getElem_toArray, List.getElem_cons_succ, List.getElem_cons_zero, List.setIfInBounds_toArray, List.set_cons_zero, List.set_cons_succ]
    refine wpAnyH_take (i := 3) (v := ?vx4) rfl (by kernel_rfl) (by kernel_rfl) (by kernel_rfl) (fun _ _ _ h => h) (Or.inl ⟨by rfl, ?hyx4⟩) (by assumption) ?restx4
    case hyx4 => (intro w hSw; (try dsimp only at hSw); go_simp; (try (first | with_reducible rfl | rw [if_neg (by omega)])))
    try simp only [Act.put, List.getElem_toArray, List.getElem_cons_succ, List.getElem_cons_zero, List.setIfInBounds_toArray, List.set_cons_zero, List.set_cons_succ]
    refine wpAnyH_take (i := 4) (v := ?vx5) rfl (by kernel_rfl) (by kernel_rfl) (by kernel_rfl) (fun _ _ _ h => h) (Or.inl ⟨by rfl, ?hyx5⟩) (by assumption) ?restx5
    case hyx5 => (intro w hSw; (try dsimp only at hSw); go_simp; (try (first | with_reducible rfl | rw [if_neg (by omega)])))
    try simp only [Act.put, List.getElem_toArray, List.getElem_cons_succ, List.getElem_cons_zero, List.setIfInBounds_toArray, List.set_cons_zero, List.set_cons_succ]
    refine wpAnyH_take (i := 5) (v := ?vx6) rfl (by kernel_rfl) (by kernel_rfl) (by kernel_rfl) (fun _ _ _ h => h) (Or.inl ⟨by rfl, ?hyx6⟩) (by assumption) ?restx6
    case hyx6 => (intro w hSw; (try dsimp only at hSw); go_simp; (try (first | with_reducible rfl | rw [if_neg (by omega)])))
    try simp only [Act.put, List.getElem_toArray, List.getElem_cons_succ, List.getElem_cons_zero, List.setIfInBounds_toArray, List.set_cons_zero, List.set_cons_succ]
    refine wpAnyH_take (i := 6) (v := ?vx7) rfl (by kernel_rfl) (by kernel_rfl) (by kernel_rfl) (fun _ _ _ h => h) (Or.inl ⟨by rfl, ?hyx7⟩) (by assumption) ?restx7
    case hyx7 => (intro w hSw; (try dsimp only at hSw); go_simp; (try (first | with_reducible rfl | rw [if_neg (by omega)])))
    try simp only [Act.put, List.getElem_toArray, List.getElem_cons_succ, List.getElem_cons_zero, List.setIfInBounds_toArray, List.set_cons_zero, List.set_cons_succ]
    refine wpAnyH_take (i := 9) (v := ?vx8) rfl (by kernel_rfl) (by kernel_rfl) (by kernel_rfl) (fun _ _ _ h => h) (Or.inl ⟨by rfl, ?hyx8⟩) (by assumption) ?restx8
    case hyx8 => (intro w hSw; (try dsimp only at hSw); go_simp; (try (first | with_reducible rfl | rw [if_neg (by omega)])))
    try simp only [Act.put, List.getElem_toArray, List.getElem_cons_succ, List.getElem_cons_zero, List.setIfInBounds_toArray, List.set_cons_zero, List.set_cons_succ]
    refine wpAnyH_take (i := 10) (v := ?vx9) rfl (by kernel_rfl) (by kernel_rfl) (by kernel_rfl) (fun _ _ _ h => h) (Or.inl ⟨by rfl, ?hyx9⟩) (by assumption) ?restx9
    case hyx9 => (intro w hSw; (try dsimp only at hSw); go_simp; (try (first | with_reducible rfl | rw [if_neg (by omega)])))
    try simp only [Act.put, List.getElem_toArray, List.getElem_cons_succ, List.getElem_cons_zero, List.setIfInBounds_toArray, List.set_cons_zero, List.set_cons_succ]
    refine wpAnyH_take (i := 11) (v := ?vx10) rfl (by kernel_rfl) (by kernel_rfl) (by kernel_rfl) (fun _ _ _ h => h) (Or.inl ⟨by rfl, ?hyx10⟩) (by assumption) ?restx10
    case hyx10 => (intro w hSw; (try dsimp only at hSw); go_simp; (try (first | with_reducible rfl | rw [if_neg (by omega)])))
    try simp only [Act.put, List.getElem_toArray, List.getElem_cons_succ, List.getElem_cons_zero, List.setIfInBounds_toArray, List.set_cons_zero, List.set_cons_succ]
    refine wpAnyH_take (i := 14) (v := ?vx11) rfl (by kernel_rfl) (by kernel_rfl) (by kernel_rfl) (fun _ _ _ h => h) (Or.inl ⟨by rfl, ?hyx11⟩) (by assumption) ?restx11
    case hyx11 => (intro w hSw; (try dsimp only at hSw); go_simp; (try (first | with_reducible rfl | rw [if_neg (by omega)])))
    try simp only [Act.put, List.getElem_toArray, List.getElem_cons_succ, List.getElem_cons_zero, List.setIfInBounds_toArray, List.set_cons_zero, List.set_cons_succ]
    refine wpAnyH_take (i := 15) (v := ?vx12) rfl (by kernel_rfl) (by kernel_rfl) (by kernel_rfl) (fun _ _ _ h => h) (Or.inl ⟨by rfl, ?hyx12⟩) (by assumption) ?restx12
    case hyx12 => (intro w hSw; (try dsimp only at hSw); go_simp; (try (first | with_reducible rfl | rw [if_neg (by omega)])))
    try simp only [Act.put, List.getElem_toArray, List.getElem_cons_succ, List.getElem_cons_zero, List.setIfInBounds_toArray, List.set_cons_zero, List.set_cons_succ]
    refine wpAnyH_ready (rs := [7, 12]) (by kernel_rfl) (by simp) ?_
    refine AllReadyH.cons rfl (fun K hK => ?_) ?_
    · go_simp
      refine hK.out _ _ (by (try dsimp only); (first | exact hS | exact hSx | exact hSy | exact hS.alloc _ | exact hSx.alloc _ | exact hSy.alloc _)) (fun hHeld => ?_)
      clear hK K
      try simp only [Act.put, List.getElem_toArray, List.getElem_cons_succ, List.getElem_cons_zero, List.setIfInBounds_toArray, List.set_cons_zero, List.set_cons_succ]
      refine wpAnyH_ready (rs := [8, 12]) (by kernel_rfl) (by simp) ?_
      refine AllReadyH.cons rfl (fun K hK => ?_) ?_
      · go_simp
        refine hK.out _ _ (by (try dsimp only); (first | exact hS | exact hSx | exact hSy | exact hS.alloc _ | exact hSx.alloc _ | exact hSy.alloc _)) (fun hHeld => ?_)
        clear hK K
        try simp only [Act.put, List.getElem_toArray, List.getElem_cons_succ, List.getElem_cons_zero, List.setIfInBounds_toArray, List.set_cons_zero, List.set_cons_succ]
        refine wpAnyH_ready (rs := [12]) (by kernel_rfl) (by simp) ?_
        refine AllReadyH.cons rfl (fun K hK => ?_) ?_
        · go_simp
          go_at_call 91
          refine (varPut_w _ n.toNat q2 _ HX hln HQ2).mono ?_
          rintro e wx ⟨rfl, hbx⟩
          (first | replace hbx := undrew hbx | skip)
          (first | have hSx := hS.below hbx | have hSx := (hS.alloc _).below hbx)
          (first | have hBx := below_call hB1 hbx | have hBx := below_call (below_alloc0 hB1 _) hbx)
          (first | have hcx := two_bytes_later _ _ (valL a p n) q1 HL HQ1 w1 _ hbx | skip)
          refine hK.out _ _ (by (try dsimp only); (first | exact hS | exact hSx | exact hSy | exact hS.alloc _ | exact hSx.alloc _ | exact hSy.alloc _)) (fun hHeld => ?_)
          clear hK K
          try simp only [Act.put, List.getElem_toArray, List.getElem_cons_succ, List.getElem_cons_zero, List.setIfInBounds_toArray, List.set_cons_zero, List.set_cons_succ]
          refine wpAnyH_take (i := 13) (v := ?vx13) rfl (by kernel_rfl) (by kernel_rfl) (by kernel_rfl) (fun _ _ _ h => h) (Or.inl ⟨by rfl, ?hyx13⟩) (by assumption) ?restx13
          case hyx13 => (intro w hSw; (try dsimp only at hSw); go_simp; (try (first | with_reducible rfl | rw [if_neg (by omega)])))
          try simp only [Act.put, List.getElem_toArray, List.getElem_cons_succ, List.getElem_cons_zero, List.setIfInBounds_toArray, List.set_cons_zero, List.set_cons_succ]
          refine wpAnyH_ready (rs := [16]) (by kernel_rfl) (by simp) ?_
          refine AllReadyH.cons rfl (fun K hK => ?_) ?_
          · go_simp
            go_at_call 47
            refine (varText_w t q3 _ ht HQ3).mono ?_
            rintro e wy ⟨rfl, hby⟩
            (first | have hSy := hSx.below hby | have hSy := (hSx.alloc _).below hby)
            (first | have hBy := below_call hBx hby | have hBy := below_call (below_alloc0 hBx _) hby)
            (first | have hcy := two_bytes_later _ _ (valL a p n) q1 HL HQ1 wx _ hby | have hcy := two_bytes_later _ _ (valL a p n) q1 HL HQ1 w1 _ (below_call hbx hby) | skip)
            refine hK.out _ _ (by (try dsimp only); (first | exact hS | exact hSx | exact hSy | exact hS.alloc _ | exact hSx.alloc _ | exact hSy.alloc _)) (fun hHeld => ?_)
            clear hK K
            try simp only [Act.put, List.getElem_toArray, List.getElem_cons_succ, List.getElem_cons_zero, List.setIfInBounds_toArray, List.set_cons_zero, List.set_cons_succ]
            refine wpAnyH_take (i := 17) (v := ?vx14) rfl (by kernel_rfl) (by kernel_rfl) (by kernel_rfl) (fun _ _ _ h => h) (Or.inl ⟨by rfl, ?hyx14⟩) (by assumption) ?restx14
            case hyx14 => (intro w hSw; (try dsimp only at hSw); go_simp; (try (first | with_reducible rfl | rw [if_neg (by omega)])))
            try simp only [Act.put, List.getElem_toArray, List.getElem_cons_succ, List.getElem_cons_zero, List.setIfInBounds_toArray, List.set_cons_zero, List.set_cons_succ]
            refine wpAnyH_take (i := 18) (v := ?vx15) rfl (by kernel_rfl) (by kernel_rfl) (by kernel_rfl) (fun _ _ _ h => h) (Or.inl ⟨by rfl, ?hyx15⟩) (by assumption) ?restx15
            case hyx15 => (intro w hSw; (try dsimp only at hSw); go_simp; (try (first | with_reducible rfl | rw [if_neg (by omega)])))
            try simp only [Act.put, List.getElem_toArray, List.getElem_cons_succ, List.getElem_cons_zero, List.setIfInBounds_toArray, List.set_cons_zero, List.set_cons_succ]
            refine wpAnyH_take (i := 19) (v := ?vx16) rfl (by kernel_rfl) (by kernel_rfl) (by kernel_rfl) (fun _ _ _ h => h) (Or.inl ⟨by rfl, ?hyx16⟩) (by assumption) ?restx16
            case hyx16 => (intro w hSw; (try dsimp only at hSw); go_simp; (try (first | with_reducible rfl | rw [if_neg (by omega)])))
            try simp only [Act.put, List.getElem_toArray, List.getElem_cons_succ, List.getElem_cons_zero, List.setIfInBounds_toArray, List.set_cons_zero, List.set_cons_succ]
            refine wpAnyH_done (by kernel_rfl) ?_ _
            go_wp2
            go_ret2
            rw [HV.out]
            first | exact ⟨rfl, hBy⟩ | exact ⟨rfl, below_alloc0 hBy _⟩
          exact AllReadyH.nil
        exact AllReadyH.nil
      refine AllReadyH.cons rfl (fun K hK => ?_) ?_
      · go_simp
        go_at_call 91
        refine (varPut_w _ n.toNat q2 _ HX hln HQ2).mono ?_
        rintro e wx ⟨rfl, hbx⟩
        (first | replace hbx := undrew hbx | skip)
        (first | have hSx := hS.below hbx | have hSx := (hS.alloc _).below hbx)
        (first | have hBx := below_call hB1 hbx | have hBx := below_call (below_alloc0 hB1 _) hbx)
        (first | have hcx := two_bytes_later _ _ (valL a p n) q1 HL HQ1 w1 _ hbx | skip)
        refine hK.out _ _ (by (try dsimp only); (first | exact hS | exact hSx | exact hSy | exact hS.alloc _ | exact hSx.alloc _ | exact hSy.alloc _)) (fun hHeld => ?_)
        clear hK K
        try simp only [Act.put, List.getElem_toArray, List.getElem_cons_succ, List.getElem_cons_zero, List.setIfInBounds_toArray, List.set_cons_zero, List.set_cons_succ]
        refine wpAnyH_ready (rs := [8, 16]) (by kernel_rfl) (by simp) ?_
        refine AllReadyH.cons rfl (fun K hK => ?_) ?_
        · go_simp
          refine hK.out _ _ (by (try dsimp only); (first | exact hS | exact hSx | exact hSy | exact hS.alloc _ | exact hSx.alloc _ | exact hSy.alloc _)) (fun hHeld => ?_)
          clear hK K
          try simp only [Act.put, List.getElem_toArray, List.getElem_cons_succ, List.getElem_cons_zero, List.setIfInBounds_toArray, List.set_cons_zero, List.set_cons_succ]
          refine wpAnyH_take (i := 13) (v := ?vx17) rfl (by kernel_rfl) (by kernel_rfl) (by kernel_rfl) (fun _ _ _ h => h) (Or.inl ⟨by rfl, ?hyx17⟩) (by assumption) ?restx17
          case hyx17 => (intro w hSw; (try dsimp only at hSw); go_simp; (try (first | with_reducible rfl | rw [if_neg (by omega)])))
          try simp only [Act.put, List.getElem_toArray, List.getElem_cons_succ, List.getElem_cons_zero, List.setIfInBounds_toArray, List.set_cons_zero, List.set_cons_succ]
          refine wpAnyH_ready (rs := [16]) (by kernel_rfl) (by simp) ?_
          refine AllReadyH.cons rfl (fun K hK => ?_) ?_
          · go_simp
            go_at_call 47
            refine (varText_w t q3 _ ht HQ3).mono ?_
            rintro e wy ⟨rfl, hby⟩
            (first | have hSy := hSx.below hby | have hSy := (hSx.alloc _).below hby)
            (first | have hBy := below_call hBx hby | have hBy := below_call (below_alloc0 hBx _) hby)
            (first | have hcy := two_bytes_later _ _ (valL a p n) q1 HL HQ1 wx _ hby | have hcy := two_bytes_later _ _ (valL a p n) q1 HL HQ1 w1 _ (below_call hbx hby) | skip)
            refine hK.out _ _ (by (try dsimp only); (first | exact hS | exact hSx | exact hSy | exact hS.alloc _ | exact hSx.alloc _ | exact hSy.alloc _)) (fun hHeld => ?_)
            clear hK K
            try simp only [Act.put, List.getElem_toArray, List.getElem_cons_succ, List.getElem_cons_zero, List.setIfInBounds_toArray, List.set_cons_zero, List.set_cons_succ]
            refine wpAnyH_take (i := 17) (v := ?vx18) rfl (by kernel_rfl) (by kernel_rfl) (by kernel_rfl) (fun _ _ _ h => h) (Or.inl ⟨by rfl, ?hyx18⟩) (by assumption) ?restx18
            case hyx18 => (intro w hSw; (try dsimp only at hSw); go_simp; (try (first | with_reducible rfl | rw [if_neg (by omega)])))
            try simp only [Act.put, List.getElem_toArray, List.getElem_cons_succ, List.getElem_cons_zero, List.setIfInBounds_toArray, List.set_cons_zero, List.set_cons_succ]
            refine wpAnyH_take (i := 18) (v := ?vx19) rfl (by kernel_rfl) (by kernel_rfl) (by kernel_rfl) (fun _ _ _ h => h) (Or.inl ⟨by rfl, ?hyx19⟩) (by assumption) ?restx19
            case hyx19 => (intro w hSw; (try dsimp only at hSw); go_simp; (try (first | with_reducible rfl | rw [if_neg (by omega)])))
            try simp only [Act.put, List.getElem_toArray, List.getElem_cons_succ, List.getElem_cons_zero, List.setIfInBounds_toArray, List.set_cons_zero, List.set_cons_succ]
            refine wpAnyH_take (i := 19) (v := ?vx20) rfl (by kernel_rfl) (by kernel_rfl) (by kernel_rfl) (fun _ _ _ h => h) (Or.inl ⟨by rfl, ?hyx20⟩) (by assumption) ?restx20
            case hyx20 => (intro w hSw; (try dsimp only at hSw); go_simp; (try (first | with_reducible rfl | rw [if_neg (by omega)])))
            try simp only [Act.put, List.getElem_toArray, List.getElem_cons_succ, List.getElem_cons_zero, List.setIfInBounds_toArray, List.set_cons_zero, List.set_cons_succ]
            refine wpAnyH_done (by kernel_rfl) ?_ _
            go_wp2
            go_ret2
            rw [HV.out]
            first | exact ⟨rfl, hBy⟩ | exact ⟨rfl, below_alloc0 hBy _⟩
          exact AllReadyH.nil
        refine AllReadyH.cons rfl (fun K hK => ?_) ?_
        · go_simp
          go_at_call 47
          refine (varText_w t q3 _ ht HQ3).mono ?_
          rintro e wy ⟨rfl, hby⟩
          (first | have hSy := hSx.below hby | have hSy := (hSx.alloc _).below hby)
          (first | have hBy := below_call hBx hby | have hBy := below_call (below_alloc0 hBx _) hby)
          (first | have hcy := two_bytes_later _ _ (valL a p n) q1 HL HQ1 wx _ hby | have hcy := two_bytes_later _ _ (valL a p n) q1 HL HQ1 w1 _ (below_call hbx hby) | skip)
          refine hK.out _ _ (by (try dsimp only); (first | exact hS | exact hSx | exact hSy | exact hS.alloc _ | exact hSx.alloc _ | exact hSy.alloc _)) (fun hHeld => ?_)
          clear hK K
          try simp only [Act.put, List.getElem_toArray, List.getElem_cons_succ, List.getElem_cons_zero, List.setIfInBounds_toArray, List.set_cons_zero, List.set_cons_succ]
          refine wpAnyH_ready (rs := [8]) (by kernel_rfl) (by simp) ?_
          refine AllReadyH.cons rfl (fun K hK => ?_) ?_
          · go_simp
            refine hK.out _ _ (by (try dsimp only); (first | exact hS | exact hSx | exact hSy | exact hS.alloc _ | exact hSx.alloc _ | exact hSy.alloc _)) (fun hHeld => ?_)
            clear hK K
            try simp only [Act.put, List.getElem_toArray, List.getElem_cons_succ, List.getElem_cons_zero, List.setIfInBounds_toArray, List.set_cons_zero, List.set_cons_succ]
            refine wpAnyH_take (i := 13) (v := ?vx21) rfl (by kernel_rfl) (by kernel_rfl) (by kernel_rfl) (fun _ _ _ h => h) (Or.inl ⟨by rfl, ?hyx21⟩) (by assumption) ?restx21
            case hyx21 => (intro w hSw; (try dsimp only at hSw); go_simp; (try (first | with_reducible rfl | rw [if_neg (by omega)])))
            try simp only [Act.put, List.getElem_toArray, List.getElem_cons_succ, List.getElem_cons_zero, List.setIfInBounds_toArray, List.set_cons_zero, List.set_cons_succ]
            refine wpAnyH_take (i := 17) (v := ?vx22) rfl (by kernel_rfl) (by kernel_rfl) (by kernel_rfl) (fun _ _ _ h => h) (Or.inl ⟨by rfl, ?hyx22⟩) (by assumption) ?restx22
            case hyx22 => (intro w hSw; (try dsimp only at hSw); go_simp; (try (first | with_reducible rfl | rw [if_neg (by omega)])))
            try simp only [Act.put, List.getElem_toArray, List.getElem_cons_succ, List.getElem_cons_zero, List.setIfInBounds_toArray, List.set_cons_zero, List.set_cons_succ]
            refine wpAnyH_take (i := 18) (v := ?vx23) rfl (by kernel_rfl) (by kernel_rfl) (by kernel_rfl) (fun _ _ _ h => h) (Or.inl ⟨by rfl, ?hyx23⟩) (by assumption) ?restx23
            case hyx23 => (intro w hSw; (try dsimp only at hSw); go_simp; (try (first | with_reducible rfl | rw [if_neg (by omega)])))
            try simp only [Act.put, List.getElem_toArray, List.getElem_cons_succ, List.getElem_cons_zero, List.setIfInBounds_toArray, List.set_cons_zero, List.set_cons_succ]
            refine wpAnyH_take (i := 19) (v := ?vx24) rfl (by kernel_rfl) (by kernel_rfl) (by kernel_rfl) (fun _ _ _ h => h) (Or.inl ⟨by rfl, ?hyx24⟩) (by assumption) ?restx24
            case hyx24 => (intro w hSw; (try dsimp only at hSw); go_simp; (try (first | with_reducible rfl | rw [if_neg (by omega)])))
            try simp only [Act.put, List.getElem_toArray, List.getElem_cons_succ, List.getElem_cons_zero, List.setIfInBounds_toArray, List.set_cons_zero, List.set_cons_succ]
            refine wpAnyH_done (by kernel_rfl) ?_ _
            go_wp2
            go_ret2
            rw [HV.out]
            first | exact ⟨rfl, hBy⟩ | exact ⟨rfl, below_alloc0 hBy _⟩
          exact AllReadyH.nil
        exact AllReadyH.nil
      exact AllReadyH.nil
    refine AllReadyH.cons rfl (fun K hK => ?_) ?_
    · go_simp
      go_at_call 91
      refine (varPut_w _ n.toNat q2 _ HX hln HQ2).mono ?_
      rintro e wx ⟨rfl, hbx⟩
      (first | replace hbx := undrew hbx | skip)
      (first | have hSx := hS.below hbx | have hSx := (hS.alloc _).below hbx)
      (first | have hBx := below_call hB1 hbx | have hBx := below_call (below_alloc0 hB1 _) hbx)
      (first | have hcx := two_bytes_later _ _ (valL a p n) q1 HL HQ1 w1 _ hbx | skip)
      refine hK.out _ _ (by (try dsimp only); (first | exact hS | exact hSx | exact hSy | exact hS.alloc _ | exact hSx.alloc _ | exact hSy.alloc _)) (fun hHeld => ?_)
      clear hK K
      try simp only [Act.put, List.getElem_toArray, List.getElem_cons_succ, List.getElem_cons_zero, List.setIfInBounds_toArray, List.set_cons_zero, List.set_cons_succ]
      refine wpAnyH_ready (rs := [7, 16]) (by kernel_rfl) (by simp) ?_
      refine AllReadyH.cons rfl (fun K hK => ?_) ?_
      · go_simp
        refine hK.out _ _ (by (try dsimp only); (first | exact hS | exact hSx | exact hSy | exact hS.alloc _ | exact hSx.alloc _ | exact hSy.alloc _)) (fun hHeld => ?_)
        clear hK K
        try simp only [Act.put, List.getElem_toArray, List.getElem_cons_succ, List.getElem_cons_zero, List.setIfInBounds_toArray, List.set_cons_zero, List.set_cons_succ]
        refine wpAnyH_ready (rs := [8, 16]) (by kernel_rfl) (by simp) ?_
        refine AllReadyH.cons rfl (fun K hK => ?_) ?_
        · go_simp
          refine hK.out _ _ (by (try dsimp only); (first | exact hS | exact hSx | exact hSy | exact hS.alloc _ | exact hSx.alloc _ | exact hSy.alloc _)) (fun hHeld => ?_)
          clear hK K
          try simp only [Act.put, List.getElem_toArray, List.getElem_cons_succ, List.getElem_cons_zero, List.setIfInBounds_toArray, List.set_cons_zero, List.set_cons_succ]
          refine wpAnyH_take (i := 13) (v := ?vx25) rfl (by kernel_rfl) (by kernel_rfl) (by kernel_rfl) (fun _ _ _ h => h) (Or.inl ⟨by rfl, ?hyx25⟩) (by assumption) ?restx25
          case hyx25 => (intro w hSw; (try dsimp only at hSw); go_simp; (try (first | with_reducible rfl | rw [if_neg (by omega)])))
          try simp only [Act.put, List.getElem_toArray, List.getElem_cons_succ, List.getElem_cons_zero, List.setIfInBounds_toArray, List.set_cons_zero, List.set_cons_succ]
          refine wpAnyH_ready (rs := [16]) (by kernel_rfl) (by simp) ?_
          refine AllReadyH.cons rfl (fun K hK => ?_) ?_
          · go_simp
            go_at_call 47
            refine (varText_w t q3 _ ht HQ3).mono ?_
            rintro e wy ⟨rfl, hby⟩
            (first | have hSy := hSx.below hby | have hSy := (hSx.alloc _).below hby)
            (first | have hBy := below_call hBx hby | have hBy := below_call (below_alloc0 hBx _) hby)
            (first | have hcy := two_bytes_later _ _ (valL a p n) q1 HL HQ1 wx _ hby | have hcy := two_bytes_later _ _ (valL a p n) q1 HL HQ1 w1 _ (below_call hbx hby) | skip)
            refine hK.out _ _ (by (try dsimp only); (first | exact hS | exact hSx | exact hSy | exact hS.alloc _ | exact hSx.alloc _ | exact hSy.alloc _)) (fun hHeld => ?_)
            clear hK K
            try simp only [Act.put, List.getElem_toArray, List.getElem_cons_succ, List.getElem_cons_zero, List.setIfInBounds_toArray, List.set_cons_zero, List.set_cons_succ]
            refine wpAnyH_take (i := 17) (v := ?vx26) rfl (by kernel_rfl) (by kernel_rfl) (by kernel_rfl) (fun _ _ _ h => h) (Or.inl ⟨by rfl, ?hyx26⟩) (by assumption) ?restx26
            case hyx26 => (intro w hSw; (try dsimp only at hSw); go_simp; (try (first | with_reducible rfl | rw [if_neg (by omega)])))
            try simp only [Act.put, List.getElem_toArray, List.getElem_cons_succ, List.getElem_cons_zero, List.setIfInBounds_toArray, List.set_cons_zero, List.set_cons_succ]
            refine wpAnyH_take (i := 18) (v := ?vx27) rfl (by kernel_rfl) (by kernel_rfl) (by kernel_rfl) (fun _ _ _ h => h) (Or.inl ⟨by rfl, ?hyx27⟩) (by assumption) ?restx27
            case hyx27 => (intro w hSw; (try dsimp only at hSw); go_simp; (try (first | with_reducible rfl | rw [if_neg (by omega)])))
            try simp only [Act.put, List.getElem_toArray, List.getElem_cons_succ, List.getElem_cons_zero, List.setIfInBounds_toArray, List.set_cons_zero, List.set_cons_succ]
            refine wpAnyH_take (i := 19) (v := ?vx28) rfl (by kernel_rfl) (by kernel_rfl) (by kernel_rfl) (fun _ _ _ h => h) (Or.inl ⟨by rfl, ?hyx28⟩) (by assumption) ?restx28
            case hyx28 => (intro w hSw; (try dsimp only at hSw); go_simp; (try (first | with_reducible rfl | rw [if_neg (by omega)])))
            try simp only [Act.put, List.getElem_toArray, List.getElem_cons_succ, List.getElem_cons_zero, List.setIfInBounds_toArray, List.set_cons_zero, List.set_cons_succ]
            refine wpAnyH_done (by kernel_rfl) ?_ _
            go_wp2
            go_ret2
            rw [HV.out]
            first | exact ⟨rfl, hBy⟩ | exact ⟨rfl, below_alloc0 hBy _⟩
          exact AllReadyH.nil
        refine AllReadyH.cons rfl (fun K hK => ?_) ?_
        · go_simp
          go_at_call 47
          refine (varText_w t q3 _ ht HQ3).mono ?_
          rintro e wy ⟨rfl, hby⟩
          (first | have hSy := hSx.below hby | have hSy := (hSx.alloc _).below hby)
          (first | have hBy := below_call hBx hby | have hBy := below_call (below_alloc0 hBx _) hby)
          (first | have hcy := two_bytes_later _ _ (valL a p n) q1 HL HQ1 wx _ hby | have hcy := two_bytes_later _ _ (valL a p n) q1 HL HQ1 w1 _ (below_call hbx hby) | skip)
          refine hK.out _ _ (by (try dsimp only); (first | exact hS | exact hSx | exact hSy | exact hS.alloc _ | exact hSx.alloc _ | exact hSy.alloc _)) (fun hHeld => ?_)
          clear hK K
          try simp only [Act.put, List.getElem_toArray, List.getElem_cons_succ, List.getElem_cons_zero, List.setIfInBounds_toArray, List.set_cons_zero, List.set_cons_succ]
          refine wpAnyH_ready (rs := [8]) (by kernel_rfl) (by simp) ?_
          refine AllReadyH.cons rfl (fun K hK => ?_) ?_
          · go_simp
            refine hK.out _ _ (by (try dsimp only); (first | exact hS | exact hSx | exact hSy | exact hS.alloc _ | exact hSx.alloc _ | exact hSy.alloc _)) (fun hHeld => ?_)
            clear hK K
            try simp only [Act.put, List.getElem_toArray, List.getElem_cons_succ, List.getElem_cons_zero, List.setIfInBounds_toArray, List.set_cons_zero, List.set_cons_succ]
            refine wpAnyH_take (i := 13) (v := ?vx29) rfl (by kernel_rfl) (by kernel_rfl) (by kernel_rfl) (fun _ _ _ h => h) (Or.inl ⟨by rfl, ?hyx29⟩) (by assumption) ?restx29
            case hyx29 => (intro w hSw; (try dsimp only at hSw); go_simp; (try (first | with_reducible rfl | rw [if_neg (by omega)])))
            try simp only [Act.put, List.getElem_toArray, List.getElem_cons_succ, List.getElem_cons_zero, List.setIfInBounds_toArray, List.set_cons_zero, List.set_cons_succ]
            refine wpAnyH_take (i := 17) (v := ?vx30) rfl (by kernel_rfl) (by kernel_rfl) (by kernel_rfl) (fun _ _ _ h => h) (Or.inl ⟨by rfl, ?hyx30⟩) (by assumption) ?restx30
            case hyx30 => (intro w hSw; (try dsimp only at hSw); go_simp; (try (first | with_reducible rfl | rw [if_neg (by omega)])))
            try simp only [Act.put, List.getElem_toArray, List.getElem_cons_succ, List.getElem_cons_zero, List.setIfInBounds_toArray, List.set_cons_zero, List.set_cons_succ]
            refine wpAnyH_take (i := 18) (v := ?vx31) rfl (by kernel_rfl) (by kernel_rfl) (by kernel_rfl) (fun _ _ _ h => h) (Or.inl ⟨by rfl, ?hyx31⟩) (by assumption) ?restx31
            case hyx31 => (intro w hSw; (try dsimp only at hSw); go_simp; (try (first | with_reducible rfl | rw [if_neg (by omega)])))
            try simp only [Act.put, List.getElem_toArray, List.getElem_cons_succ, List.getElem_cons_zero, List.setIfInBounds_toArray, List.set_cons_zero, List.set_cons_succ]
            refine wpAnyH_take (i := 19) (v := ?vx32) rfl (by kernel_rfl) (by kernel_rfl) (by kernel_rfl) (fun _ _ _ h => h) (Or.inl ⟨by rfl, ?hyx32⟩) (by assumption) ?restx32
            case hyx32 => (intro w hSw; (try dsimp only at hSw); go_simp; (try (first | with_reducible rfl | rw [if_neg (by omega)])))
            try simp only [Act.put, List.getElem_toArray, List.getElem_cons_succ, List.getElem_cons_zero, List.setIfInBounds_toArray, List.set_cons_zero, List.set_cons_succ]
            refine wpAnyH_done (by kernel_rfl) ?_ _
            go_wp2
            go_ret2
            rw [HV.out]
            first | exact ⟨rfl, hBy⟩ | exact ⟨rfl, below_alloc0 hBy _⟩
          exact AllReadyH.nil
        exact AllReadyH.nil
      refine AllReadyH.cons rfl (fun K hK => ?_) ?_
      · go_simp
        go_at_call 47
        refine (varText_w t q3 _ ht HQ3).mono ?_
        rintro e wy ⟨rfl, hby⟩
        (first | have hSy := hSx.below hby | have hSy := (hSx.alloc _).below hby)
        (first | have hBy := below_call hBx hby | have hBy := below_call (below_alloc0 hBx _) hby)
        (first | have hcy := two_bytes_later _ _ (valL a p n) q1 HL HQ1 wx _ hby | have hcy := two_bytes_later _ _ (valL a p n) q1 HL HQ1 w1 _ (below_call hbx hby) | skip)
        refine hK.out _ _ (by (try dsimp only); (first | exact hS | exact hSx | exact hSy | exact hS.alloc _ | exact hSx.alloc _ | exact hSy.alloc _)) (fun hHeld => ?_)
        clear hK K
        try simp only [Act.put, List.getElem_toArray, List.getElem_cons_succ, List.getElem_cons_zero, List.setIfInBounds_toArray, List.set_cons_zero, List.set_cons_succ]
        refine wpAnyH_ready (rs := [7]) (by kernel_rfl) (by simp) ?_
        refine AllReadyH.cons rfl (fun K hK => ?_) ?_
        · go_simp
          refine hK.out _ _ (by (try dsimp only); (first | exact hS | exact hSx | exact hSy | exact hS.alloc _ | exact hSx.alloc _ | exact hSy.alloc _)) (fun hHeld => ?_)
          clear hK K
          try simp only [Act.put, List.getElem_toArray, List.getElem_cons_succ, List.getElem_cons_zero, List.setIfInBounds_toArray, List.set_cons_zero, List.set_cons_succ]
          refine wpAnyH_ready (rs := [8]) (by kernel_rfl) (by simp) ?_
          refine AllReadyH.cons rfl (fun K hK => ?_) ?_
          · go_simp
            refine hK.out _ _ (by (try dsimp only); (first | exact hS | exact hSx | exact hSy | exact hS.alloc _ | exact hSx.alloc _ | exact hSy.alloc _)) (fun hHeld => ?_)
            clear hK K
            try simp only [Act.put, List.getElem_toArray, List.getElem_cons_succ, List.getElem_cons_zero, List.setIfInBounds_toArray, List.set_cons_zero, List.set_cons_succ]
            refine wpAnyH_take (i := 13) (v := ?vx33) rfl (by kernel_rfl) (by kernel_rfl) (by kernel_rfl) (fun _ _ _ h => h) (Or.inl ⟨by rfl, ?hyx33⟩) (by assumption) ?restx33
            case hyx33 => (intro w hSw; (try dsimp only at hSw); go_simp; (try (first | with_reducible rfl | rw [if_neg (by omega)])))
            try simp only [Act.put, List.getElem_toArray, List.getElem_cons_succ, List.getElem_cons_zero, List.setIfInBounds_toArray, List.set_cons_zero, List.set_cons_succ]
            refine wpAnyH_take (i := 17) (v := ?vx34) rfl (by kernel_rfl) (by kernel_rfl) (by kernel_rfl) (fun _ _ _ h => h) (Or.inl ⟨by rfl, ?hyx34⟩) (by assumption) ?restx34
            case hyx34 => (intro w hSw; (try dsimp only at hSw); go_simp; (try (first | with_reducible rfl | rw [if_neg (by omega)])))
            try simp only [Act.put, List.getElem_toArray, List.getElem_cons_succ, List.getElem_cons_zero, List.setIfInBounds_toArray, List.set_cons_zero, List.set_cons_succ]
            refine wpAnyH_take (i := 18) (v := ?vx35) rfl (by kernel_rfl) (by kernel_rfl) (by kernel_rfl) (fun _ _ _ h => h) (Or.inl ⟨by rfl, ?hyx35⟩) (by assumption) ?restx35
            case hyx35 => (intro w hSw; (try dsimp only at hSw); go_simp; (try (first | with_reducible rfl | rw [if_neg (by omega)])))
            try simp only [Act.put, List.getElem_toArray, List.getElem_cons_succ, List.getElem_cons_zero, List.setIfInBounds_toArray, List.set_cons_zero, List.set_cons_succ]
            refine wpAnyH_take (i := 19) (v := ?vx36) rfl (by kernel_rfl) (by kernel_rfl) (by kernel_rfl) (fun _ _ _ h => h) (Or.inl ⟨by rfl, ?hyx36⟩) (by assumption) ?restx36
            case hyx36 => (intro w hSw; (try dsimp only at hSw); go_simp; (try (first | with_reducible rfl | rw [if_neg (by omega)])))
            try simp only [Act.put, List.getElem_toArray, List.getElem_cons_succ, List.getElem_cons_zero, List.setIfInBounds_toArray, List.set_cons_zero, List.set_cons_succ]
            refine wpAnyH_done (by kernel_rfl) ?_ _
            go_wp2
            go_ret2
            rw [HV.out]
            first | exact ⟨rfl, hBy⟩ | exact ⟨rfl, below_alloc0 hBy _⟩
          exact AllReadyH.nil
        exact AllReadyH.nil
      exact AllReadyH.nil
    exact AllReadyH.nil
end Go.Proofs.YtbpfcjdjhponaaaGreat
namespace Go.Proofs.YtbpfcjdjhponaaaGreat
open Go.RowKit
open Sp
theorem valPut_is (a p n : Int) (t q : ByteArray) (b : Bool) (w : World) (ht : t.size ≤ 140737488351232) (h : Hid (putVal a p n t = (q, b))) :
    Calls Tryz.prog 49 #[.agg #[.int .i64 a, .int .i64 p, .int .i64 n, .string t]] w fun e w' => e = .returned (.tuple #[.string q, .bool b]) ∧ Below w.heap.size w w' := by
  have := valPut_calls a p n t w ht
  rw [h.out] at this
  exact this
theorem size_list (s : ByteArray) : s.data.toList.length = s.size := (size_eq_length s).symm
set_option maxHeartbeats 4000000 in
set_option maxRecDepth 100000 in
theorem enc_lo (k : Int) (u o : ByteArray) (i a p n : Int) (t : ByteArray) (w : World) (hu : u.size ≤ 140737488351232) (ho : o.size ≤ 140737488351232) (ht : t.size ≤ 140737488351232) (hm : mayE8 k u o i a p n t = true) (h6 : k ≤ 6) :
    Calls Tryz.prog 14 #[.agg #[.int .i64 k, .string u, .string o, .int .i64 i, .int .i64 a, .int .i64 p, .int .i64 n, .string t]] w fun e w' => e = .returned (.tuple #[.string (encE8 k u o i a p n t).1, .int .i64 (encE8 k u o i a p n t).2]) ∧ Below w.heap.size w w' := by
  have HM := Lib.hid hm
  obtain ⟨k1, k8, zu, zo, zt, zi0, zi4⟩ := mayE8_sz k u o i a p n t hm
  obtain ⟨qu, hqu⟩ : ∃ q, textV u = q := ⟨_, rfl⟩
  obtain ⟨qo, hqo⟩ : ∃ q, textV o = q := ⟨_, rfl⟩
  obtain ⟨qv, bv, hqv⟩ : ∃ q b, putVal a p n t = (q, b) := ⟨_, _, rfl⟩
  have zqu : qu.size ≤ 26 := by rw [← hqu]; have := textV_size u hu; omega
  have zqo : qo.size ≤ 26 := by rw [← hqo]; have := textV_size o ho; omega
  have zqv : qv.size ≤ 60 := by have := putVal_size a p n t; rw [hqv] at this; exact this
  have HE : Hid (encE8 k u o i a p n t = (sealS (strOf ([] ++ [UInt8.ofNat k.toNat] ++ qu.data.toList ++ qo.data.toList)), 0)) := by
    show _ = _
    unfold encE8
    rw [hm, if_neg (by simp), hqu, hqo, hqv]
    rw [if_pos h6]
    simp only [append_strOf, strOf_list, List.nil_append]
  have HQU := Lib.hid hqu
  have HQO := Lib.hid hqo
  have HQV := Lib.hid hqv
  have e1 : bits .and .i64 1 1 = 1 := by decide
  have e2 : bits .and .i64 1 2 = 0 := by decide
  have e4 : bits .and .i64 1 4 = 0 := by decide
  clear hm hqu hqo hqv zi0 zi4
  go_enter Tryz.func14, Tryz.ntmps14
  go_wp2_with fail
  refine (re_ (mayE_calls k u o i a p n t _ hu ho ht) (by rw [HM.out])).mono ?_
  rintro e w1 ⟨rfl, b1⟩
  have BB0 := below_call (below_box _) b1
  obtain ⟨hc1, hf1⟩ := bcell b1
  have hz1 : w.heap.size < w1.heap.size := Nat.lt_of_lt_of_le (by simp) b1.size
  clear b1
  have HB1 := Bld.fresh w1
  have BB1 := below_alloc0 BB0 (.cells #[.pointer none, .slice none 0 0] 82)
  have HS1 : w1.heap.size ≤ (w1.alloc (.cells #[.pointer none, .slice none 0 0] 82)).heap.size := by simp
  go_wp2_with fail
  refine (bldByte w1.heap.size w1.heap.size _ (UInt8.ofNat k.toNat) _ (by rw [byte_mod]; omega) _ HB1 (by simp only [List.length_append, List.length_cons, List.length_nil, size_list]; omega) HS1).mono ?_
  rintro e w2 ⟨rfl, HB2, HC2, _⟩
  have BB2 : Below w.heap.size w w2 := BB1.trans (HC2.mono (Nat.le_of_lt hz1))
  have HS2 : w1.heap.size ≤ w2.heap.size := Nat.le_trans HS1 HC2.size
  have hz2 : w.heap.size < w2.heap.size := Nat.lt_of_lt_of_le hz1 HS2
  obtain ⟨hc2, hf2⟩ := bcellB HC2
  go_wp2_with fail
  refine (varText_w u qu _ hu HQU).mono ?_
  rintro e w3 ⟨rfl, HC3⟩
  have HB3 := HB2.below HC3
  have BB3 := below_call BB2 HC3
  have HS3 : w1.heap.size ≤ w3.heap.size := Nat.le_trans HS2 HC3.size
  have hz3 : w.heap.size < w3.heap.size := Nat.lt_of_lt_of_le hz1 HS3
  obtain ⟨hc3, hf3⟩ := bcell HC3
  go_wp2_with fail
  refine (bldStr w1.heap.size w1.heap.size _ qu _ HB3 (by simp only [List.length_append, List.length_cons, List.length_nil, size_list]; omega) HS3).mono ?_
  rintro e w4 ⟨rfl, HB4, HC4, _⟩
  have BB4 : Below w.heap.size w w4 := BB3.trans (HC4.mono (Nat.le_of_lt hz1))
  have HS4 : w1.heap.size ≤ w4.heap.size := Nat.le_trans HS3 HC4.size
  have hz4 : w.heap.size < w4.heap.size := Nat.lt_of_lt_of_le hz1 HS4
  obtain ⟨hc4, hf4⟩ := bcellB HC4
  go_wp2_with fail
  refine (has_is _ 1 _ (by unfold Hid; unfold hasK; rw [if_pos ⟨k1, h6⟩])).mono ?_
  rintro e wh ⟨rfl, rfl⟩
  go_wp2_with fail
  refine (varText_w o qo _ ho HQO).mono ?_
  rintro e w5 ⟨rfl, HC5⟩
  have HB5 := HB4.below HC5
  have BB5 := below_call BB4 HC5
  have HS5 : w1.heap.size ≤ w5.heap.size := Nat.le_trans HS4 HC5.size
  have hz5 : w.heap.size < w5.heap.size := Nat.lt_of_lt_of_le hz1 HS5
  obtain ⟨hc5, hf5⟩ := bcell HC5
  go_wp2_with fail
  refine (bldStr w1.heap.size w1.heap.size _ qo _ HB5 (by simp only [List.length_append, List.length_cons, List.length_nil, size_list]; omega) HS5).mono ?_
  rintro e w6 ⟨rfl, HB6, HC6, _⟩
  have BB6 : Below w.heap.size w w6 := BB5.trans (HC6.mono (Nat.le_of_lt hz1))
  have HS6 : w1.heap.size ≤ w6.heap.size := Nat.le_trans HS5 HC6.size
  have hz6 : w.heap.size < w6.heap.size := Nat.lt_of_lt_of_le hz1 HS6
  obtain ⟨hc6, hf6⟩ := bcellB HC6
  go_wp2_with fail
  refine (bldString w1.heap.size w1.heap.size _ _ HB6 HS6).mono ?_
  rintro e wa ⟨rfl, _, HCa, _⟩
  have BBa : Below w.heap.size w wa := BB6.trans (HCa.mono (Nat.le_of_lt hz1))
  go_wp2_with fail
  refine (crcSeal_calls _ _ (by simp only [strOf_size, List.length_append, List.length_cons, List.length_nil, size_list]; omega)).mono ?_
  rintro e wb ⟨rfl, HCb⟩
  go_wp2
  go_ret2
  rw [HE.out]
  refine ⟨?_, below_call BBa HCb⟩
  first | rfl | (simp; done)
set_option maxHeartbeats 4000000 in
set_option maxRecDepth 100000 in
theorem enc_7 (u o : ByteArray) (i a p n : Int) (t : ByteArray) (w : World) (hu : u.size ≤ 140737488351232) (ho : o.size ≤ 140737488351232) (ht : t.size ≤ 140737488351232) (hm : mayE8 7 u o i a p n t = true)  :
    Calls Tryz.prog 14 #[.agg #[.int .i64 7, .string u, .string o, .int .i64 i, .int .i64 a, .int .i64 p, .int .i64 n, .string t]] w fun e w' => e = .returned (.tuple #[.string (encE8 7 u o i a p n t).1, .int .i64 (encE8 7 u o i a p n t).2]) ∧ Below w.heap.size w w' := by
  have HM := Lib.hid hm
  obtain ⟨_, _, zu, zo, zt, zi0, zi4⟩ := mayE8_sz 7 u o i a p n t hm
  obtain ⟨qu, hqu⟩ : ∃ q, textV u = q := ⟨_, rfl⟩
  obtain ⟨qo, hqo⟩ : ∃ q, textV o = q := ⟨_, rfl⟩
  obtain ⟨qv, bv, hqv⟩ : ∃ q b, putVal a p n t = (q, b) := ⟨_, _, rfl⟩
  have zqu : qu.size ≤ 26 := by rw [← hqu]; have := textV_size u hu; omega
  have zqo : qo.size ≤ 26 := by rw [← hqo]; have := textV_size o ho; omega
  have zqv : qv.size ≤ 60 := by have := putVal_size a p n t; rw [hqv] at this; exact this
  have HE : Hid (encE8 7 u o i a p n t = (sealS (strOf ([] ++ [UInt8.ofNat (7 : Int).toNat] ++ qu.data.toList ++ [UInt8.ofNat i.toNat] ++ qv.data.toList)), 0)) := by
    show _ = _
    unfold encE8
    rw [hm, if_neg (by simp), hqu, hqo, hqv]
    rw [if_neg (by decide), if_pos rfl]
    simp only [append_strOf, strOf_list, List.nil_append]
  have HQU := Lib.hid hqu
  have HQO := Lib.hid hqo
  have HQV := Lib.hid hqv
  have hi0 : 0 ≤ i := zi0 (by omega)
  have hi4 : i < 4 := zi4 (by omega)
  have e1 : bits .and .i64 6 1 = 0 := by decide
  have e2 : bits .and .i64 6 2 = 2 := by decide
  have e4 : bits .and .i64 6 4 = 4 := by decide
  clear hm hqu hqo hqv zi0 zi4
  go_enter Tryz.func14, Tryz.ntmps14
  go_wp2_with fail
  refine (re_ (mayE_calls 7 u o i a p n t _ hu ho ht) (by rw [HM.out])).mono ?_
  rintro e w1 ⟨rfl, b1⟩
  have BB0 := below_call (below_box _) b1
  obtain ⟨hc1, hf1⟩ := bcell b1
  have hz1 : w.heap.size < w1.heap.size := Nat.lt_of_lt_of_le (by simp) b1.size
  clear b1
  have HB1 := Bld.fresh w1
  have BB1 := below_alloc0 BB0 (.cells #[.pointer none, .slice none 0 0] 82)
  have HS1 : w1.heap.size ≤ (w1.alloc (.cells #[.pointer none, .slice none 0 0] 82)).heap.size := by simp
  go_wp2_with fail
  refine (bldByte w1.heap.size w1.heap.size _ (UInt8.ofNat (7 : Int).toNat) _ (by rw [byte_mod]; omega) _ HB1 (by simp only [List.length_append, List.length_cons, List.length_nil, size_list]; omega) HS1).mono ?_
  rintro e w2 ⟨rfl, HB2, HC2, _⟩
  have BB2 : Below w.heap.size w w2 := BB1.trans (HC2.mono (Nat.le_of_lt hz1))
  have HS2 : w1.heap.size ≤ w2.heap.size := Nat.le_trans HS1 HC2.size
  have hz2 : w.heap.size < w2.heap.size := Nat.lt_of_lt_of_le hz1 HS2
  obtain ⟨hc2, hf2⟩ := bcellB HC2
  go_wp2_with fail
  refine (varText_w u qu _ hu HQU).mono ?_
  rintro e w3 ⟨rfl, HC3⟩
  have HB3 := HB2.below HC3
  have BB3 := below_call BB2 HC3
  have HS3 : w1.heap.size ≤ w3.heap.size := Nat.le_trans HS2 HC3.size
  have hz3 : w.heap.size < w3.heap.size := Nat.lt_of_lt_of_le hz1 HS3
  obtain ⟨hc3, hf3⟩ := bcell HC3
  go_wp2_with fail
  refine (bldStr w1.heap.size w1.heap.size _ qu _ HB3 (by simp only [List.length_append, List.length_cons, List.length_nil, size_list]; omega) HS3).mono ?_
  rintro e w4 ⟨rfl, HB4, HC4, _⟩
  have BB4 : Below w.heap.size w w4 := BB3.trans (HC4.mono (Nat.le_of_lt hz1))
  have HS4 : w1.heap.size ≤ w4.heap.size := Nat.le_trans HS3 HC4.size
  have hz4 : w.heap.size < w4.heap.size := Nat.lt_of_lt_of_le hz1 HS4
  obtain ⟨hc4, hf4⟩ := bcellB HC4
  go_wp2_with fail
  refine (has_is _ 6 _ (by unfold Hid; unfold hasK; rfl)).mono ?_
  rintro e wh ⟨rfl, rfl⟩
  go_wp2_with fail
  refine (bldByte w1.heap.size w1.heap.size _ (UInt8.ofNat i.toNat) _ (by rw [byte_mod]; omega) _ HB4 (by simp only [List.length_append, List.length_cons, List.length_nil, size_list]; omega) HS4).mono ?_
  rintro e w5 ⟨rfl, HB5, HC5, _⟩
  have BB5 : Below w.heap.size w w5 := BB4.trans (HC5.mono (Nat.le_of_lt hz1))
  have HS5 : w1.heap.size ≤ w5.heap.size := Nat.le_trans HS4 HC5.size
  have hz5 : w.heap.size < w5.heap.size := Nat.lt_of_lt_of_le hz1 HS5
  obtain ⟨hc5, hf5⟩ := bcellB HC5
  go_wp2_with fail
  refine (valPut_is a p n t qv bv _ ht HQV).mono ?_
  rintro e w6 ⟨rfl, HC6⟩
  have HB6 := HB5.below HC6
  have BB6 := below_call BB5 HC6
  have HS6 : w1.heap.size ≤ w6.heap.size := Nat.le_trans HS5 HC6.size
  have hz6 : w.heap.size < w6.heap.size := Nat.lt_of_lt_of_le hz1 HS6
  obtain ⟨hc6, hf6⟩ := bcell HC6
  go_wp2_with fail
  refine (bldStr w1.heap.size w1.heap.size _ qv _ HB6 (by simp only [List.length_append, List.length_cons, List.length_nil, size_list]; omega) HS6).mono ?_
  rintro e w7 ⟨rfl, HB7, HC7, _⟩
  have BB7 : Below w.heap.size w w7 := BB6.trans (HC7.mono (Nat.le_of_lt hz1))
  have HS7 : w1.heap.size ≤ w7.heap.size := Nat.le_trans HS6 HC7.size
  have hz7 : w.heap.size < w7.heap.size := Nat.lt_of_lt_of_le hz1 HS7
  obtain ⟨hc7, hf7⟩ := bcellB HC7
  go_wp2_with fail
  refine (bldString w1.heap.size w1.heap.size _ _ HB7 HS7).mono ?_
  rintro e wa ⟨rfl, _, HCa, _⟩
  have BBa : Below w.heap.size w wa := BB7.trans (HCa.mono (Nat.le_of_lt hz1))
  go_wp2_with fail
  refine (crcSeal_calls _ _ (by simp only [strOf_size, List.length_append, List.length_cons, List.length_nil, size_list]; omega)).mono ?_
  rintro e wb ⟨rfl, HCb⟩
  go_wp2
  go_ret2
  rw [HE.out]
  refine ⟨?_, below_call BBa HCb⟩
  first | rfl | (simp; done)
set_option maxHeartbeats 4000000 in
set_option maxRecDepth 100000 in
theorem enc_8 (u o : ByteArray) (i a p n : Int) (t : ByteArray) (w : World) (hu : u.size ≤ 140737488351232) (ho : o.size ≤ 140737488351232) (ht : t.size ≤ 140737488351232) (hm : mayE8 8 u o i a p n t = true)  :
    Calls Tryz.prog 14 #[.agg #[.int .i64 8, .string u, .string o, .int .i64 i, .int .i64 a, .int .i64 p, .int .i64 n, .string t]] w fun e w' => e = .returned (.tuple #[.string (encE8 8 u o i a p n t).1, .int .i64 (encE8 8 u o i a p n t).2]) ∧ Below w.heap.size w w' := by
  have HM := Lib.hid hm
  obtain ⟨_, _, zu, zo, zt, zi0, zi4⟩ := mayE8_sz 8 u o i a p n t hm
  obtain ⟨qu, hqu⟩ : ∃ q, textV u = q := ⟨_, rfl⟩
  obtain ⟨qo, hqo⟩ : ∃ q, textV o = q := ⟨_, rfl⟩
  obtain ⟨qv, bv, hqv⟩ : ∃ q b, putVal a p n t = (q, b) := ⟨_, _, rfl⟩
  have zqu : qu.size ≤ 26 := by rw [← hqu]; have := textV_size u hu; omega
  have zqo : qo.size ≤ 26 := by rw [← hqo]; have := textV_size o ho; omega
  have zqv : qv.size ≤ 60 := by have := putVal_size a p n t; rw [hqv] at this; exact this
  have HE : Hid (encE8 8 u o i a p n t = (sealS (strOf ([] ++ [UInt8.ofNat (8 : Int).toNat] ++ qu.data.toList ++ [UInt8.ofNat i.toNat])), 0)) := by
    show _ = _
    unfold encE8
    rw [hm, if_neg (by simp), hqu, hqo, hqv]
    rw [if_neg (by decide), if_neg (by decide)]
    simp only [append_strOf, strOf_list, List.nil_append]
  have HQU := Lib.hid hqu
  have HQO := Lib.hid hqo
  have HQV := Lib.hid hqv
  have hi0 : 0 ≤ i := zi0 (by omega)
  have hi4 : i < 4 := zi4 (by omega)
  have e1 : bits .and .i64 2 1 = 0 := by decide
  have e2 : bits .and .i64 2 2 = 2 := by decide
  have e4 : bits .and .i64 2 4 = 0 := by decide
  clear hm hqu hqo hqv zi0 zi4
  go_enter Tryz.func14, Tryz.ntmps14
  go_wp2_with fail
  refine (re_ (mayE_calls 8 u o i a p n t _ hu ho ht) (by rw [HM.out])).mono ?_
  rintro e w1 ⟨rfl, b1⟩
  have BB0 := below_call (below_box _) b1
  obtain ⟨hc1, hf1⟩ := bcell b1
  have hz1 : w.heap.size < w1.heap.size := Nat.lt_of_lt_of_le (by simp) b1.size
  clear b1
  have HB1 := Bld.fresh w1
  have BB1 := below_alloc0 BB0 (.cells #[.pointer none, .slice none 0 0] 82)
  have HS1 : w1.heap.size ≤ (w1.alloc (.cells #[.pointer none, .slice none 0 0] 82)).heap.size := by simp
  go_wp2_with fail
  refine (bldByte w1.heap.size w1.heap.size _ (UInt8.ofNat (8 : Int).toNat) _ (by rw [byte_mod]; omega) _ HB1 (by simp only [List.length_append, List.length_cons, List.length_nil, size_list]; omega) HS1).mono ?_
  rintro e w2 ⟨rfl, HB2, HC2, _⟩
  have BB2 : Below w.heap.size w w2 := BB1.trans (HC2.mono (Nat.le_of_lt hz1))
  have HS2 : w1.heap.size ≤ w2.heap.size := Nat.le_trans HS1 HC2.size
  have hz2 : w.heap.size < w2.heap.size := Nat.lt_of_lt_of_le hz1 HS2
  obtain ⟨hc2, hf2⟩ := bcellB HC2
  go_wp2_with fail
  refine (varText_w u qu _ hu HQU).mono ?_
  rintro e w3 ⟨rfl, HC3⟩
  have HB3 := HB2.below HC3
  have BB3 := below_call BB2 HC3
  have HS3 : w1.heap.size ≤ w3.heap.size := Nat.le_trans HS2 HC3.size
  have hz3 : w.heap.size < w3.heap.size := Nat.lt_of_lt_of_le hz1 HS3
  obtain ⟨hc3, hf3⟩ := bcell HC3
  go_wp2_with fail
  refine (bldStr w1.heap.size w1.heap.size _ qu _ HB3 (by simp only [List.length_append, List.length_cons, List.length_nil, size_list]; omega) HS3).mono ?_
  rintro e w4 ⟨rfl, HB4, HC4, _⟩
  have BB4 : Below w.heap.size w w4 := BB3.trans (HC4.mono (Nat.le_of_lt hz1))
  have HS4 : w1.heap.size ≤ w4.heap.size := Nat.le_trans HS3 HC4.size
  have hz4 : w.heap.size < w4.heap.size := Nat.lt_of_lt_of_le hz1 HS4
  obtain ⟨hc4, hf4⟩ := bcellB HC4
  go_wp2_with fail
  refine (has_is _ 2 _ (by unfold Hid; unfold hasK; rfl)).mono ?_
  rintro e wh ⟨rfl, rfl⟩
  go_wp2_with fail
  refine (bldByte w1.heap.size w1.heap.size _ (UInt8.ofNat i.toNat) _ (by rw [byte_mod]; omega) _ HB4 (by simp only [List.length_append, List.length_cons, List.length_nil, size_list]; omega) HS4).mono ?_
  rintro e w5 ⟨rfl, HB5, HC5, _⟩
  have BB5 : Below w.heap.size w w5 := BB4.trans (HC5.mono (Nat.le_of_lt hz1))
  have HS5 : w1.heap.size ≤ w5.heap.size := Nat.le_trans HS4 HC5.size
  have hz5 : w.heap.size < w5.heap.size := Nat.lt_of_lt_of_le hz1 HS5
  obtain ⟨hc5, hf5⟩ := bcellB HC5
  go_wp2_with fail
  refine (bldString w1.heap.size w1.heap.size _ _ HB5 HS5).mono ?_
  rintro e wa ⟨rfl, _, HCa, _⟩
  have BBa : Below w.heap.size w wa := BB5.trans (HCa.mono (Nat.le_of_lt hz1))
  go_wp2_with fail
  refine (crcSeal_calls _ _ (by simp only [strOf_size, List.length_append, List.length_cons, List.length_nil, size_list]; omega)).mono ?_
  rintro e wb ⟨rfl, HCb⟩
  go_wp2
  go_ret2
  rw [HE.out]
  refine ⟨?_, below_call BBa HCb⟩
  first | rfl | (simp; done)
theorem enc_calls (k : Int) (u o : ByteArray) (i a p n : Int) (t : ByteArray) (w : World) (hu : u.size ≤ 140737488351232) (ho : o.size ≤ 140737488351232) (ht : t.size ≤ 140737488351232) :
    Calls Tryz.prog 14 #[.agg #[.int .i64 k, .string u, .string o, .int .i64 i, .int .i64 a, .int .i64 p, .int .i64 n, .string t]] w fun e w' => e = .returned (.tuple #[.string (encE8 k u o i a p n t).1, .int .i64 (encE8 k u o i a p n t).2]) ∧ Below w.heap.size w w' := by
  cases hm : mayE8 k u o i a p n t with
  | false =>
    have HE : Hid (encE8 k u o i a p n t = (⟨#[]⟩, 1)) := by show _ = _; rw [encE8, hm, if_pos (by simp)]
    have HM := Lib.hid hm
    clear hm
    go_enter Tryz.func14, Tryz.ntmps14
    go_wp2_with fail
    refine (re_ (mayE_calls k u o i a p n t _ hu ho ht) (by rw [HM.out])).mono ?_
    rintro e w1 ⟨rfl, b1⟩
    go_wp2
    go_ret2
    rw [HE.out]
    exact ⟨rfl, below_call (below_alloc0 (Below.refl _ _) _) b1⟩
  | true =>
    obtain ⟨k1, k8, _⟩ := mayE8_sz k u o i a p n t hm
    by_cases h6 : k ≤ 6
    · exact enc_lo k u o i a p n t w hu ho ht hm h6
    · obtain rfl | rfl : k = 7 ∨ k = 8 := by omega
      · exact enc_7 u o i a p n t w hu ho ht hm
      · exact enc_8 u o i a p n t w hu ho ht hm
end Go.Proofs.YtbpfcjdjhponaaaGreat
namespace Go.Proofs.YtbpfcjdjhponaaaGreat
open Go.RowKit
open Sp
theorem ta_yes {P : Program} (T x e : TypeId) (hu : P.underlying T = some (.pointer e)) (v : Value) (w : World) : (Instr.typeAssert (.iface T v) x T true).run P w = .ok (.tuple #[v, .bool true]) w := by
  simp [Instr.typeAssert, run_underlying hu]
theorem ta_no {P : Program} (T x T' e : TypeId) (hu : P.underlying T' = some (.pointer e)) (hz : ∀ w, (zeroValue T').run P w = .ok (.pointer none) w) (h : T ≠ T') (v : Value) (w : World) : (Instr.typeAssert (.iface T v) x T' true).run P w = .ok (.tuple #[.pointer none, .bool false]) w := by
  simp [Instr.typeAssert, run_underlying hu, h, hz]
theorem zero_ps (w : World) : (zeroValue 138).run Tryz.prog w = .ok (.pointer none) w := by kernel_rfl
theorem zero_pi (w : World) : (zeroValue 137).run Tryz.prog w = .ok (.pointer none) w := by kernel_rfl
set_option maxHeartbeats 4000000 in
set_option maxRecDepth 100000 in
theorem take_str (s : ByteArray) (m : Int) (g off : Nat) (x0 : Value) (t : ByteArray) (to er : Int) (w : World) (hs : s.size ≤ 140737488351232) (hc : w.cell? ⟨g, off, none⟩ = some x0) (hf : w.frozen? ⟨g, off, none⟩ = false) (hg : g < w.heap.size) (HT : Hid (takeN s m = (t, to, er))) :
    Calls Tryz.prog 93 #[.string s, .int .i64 m, .iface 138 (.pointer (some ⟨g, off, none⟩))] w fun e w' => e = .returned (.tuple #[.int .i64 to, .bool (er == 0)]) ∧ ∃ w1, Below w.heap.size w w1 ∧ w' = w1.setCell ⟨g, off, none⟩ (.string t) := by
  have hty := ta_yes (P := Tryz.prog) 138 20 _ Tryz.underlying138
  go_enter Tryz.func93, Tryz.ntmps93
  go_wp2_with fail
  refine (identTake_is _ s m t to er HT hs).mono ?_
  rintro e w1 ⟨rfl, b1⟩
  obtain ⟨hc1, hf1⟩ := bcell b1
  go_wp2
  go_ret2
  exact ⟨rfl, w1, b1, rfl⟩
set_option maxHeartbeats 4000000 in
set_option maxRecDepth 100000 in
theorem take_int (s : ByteArray) (m : Nat) (g off : Nat) (x0 : Value) (b : Nat) (w : World) (hs : s.size ≤ 140737488351232) (hm : m < s.size) (hb : (s[m]'hm).toNat = b) (hc : w.cell? ⟨g, off, none⟩ = some x0) (hf : w.frozen? ⟨g, off, none⟩ = false) :
    Calls Tryz.prog 93 #[.string s, .int .i64 m, .iface 137 (.pointer (some ⟨g, off, none⟩))] w fun e w' => e = .returned (.tuple #[.int .i64 ((m : Int) + 1), .bool true]) ∧ w' = w.setCell ⟨g, off, none⟩ (.int .i64 b) := by
  have hb2 : b < 256 := by rw [← hb]; exact UInt8.toNat_lt _
  have hlt : (m : Int) < (s.size : Int) := by omega
  have hty := ta_yes (P := Tryz.prog) 137 20 _ Tryz.underlying137
  have htn0 := ta_no (P := Tryz.prog) 137 20 138 _ Tryz.underlying138 zero_ps (by decide)
  go_enter Tryz.func93, Tryz.ntmps93
  go_wp2
  go_ret2
  exact ⟨rfl, rfl⟩
set_option maxHeartbeats 4000000 in
set_option maxRecDepth 100000 in
theorem take_int_no (s : ByteArray) (m : Int) (g off : Nat) (w : World) (hs : s.size ≤ 140737488351232) (hm : (s.size : Int) ≤ m) :
    Calls Tryz.prog 93 #[.string s, .int .i64 m, .iface 137 (.pointer (some ⟨g, off, none⟩))] w fun e w' => e = .returned (.tuple #[.int .i64 0, .bool false]) ∧ w' = w := by
  have hty := ta_yes (P := Tryz.prog) 137 20 _ Tryz.underlying137
  have htn0 := ta_no (P := Tryz.prog) 137 20 138 _ Tryz.underlying138 zero_ps (by decide)
  go_enter Tryz.func93, Tryz.ntmps93
  go_wp2
  go_ret2
  exact ⟨rfl, rfl⟩
set_option maxHeartbeats 4000000 in
set_option maxRecDepth 100000 in
theorem take_val (s : ByteArray) (m : Int) (g off : Nat) (x0 x1 x2 x3 : Value) (v : PV) (to er : Int) (w : World) (hs : s.size ≤ 140737488351232) (hc0 : w.cell? ⟨g, off, none⟩ = some x0) (hc1 : w.cell? ⟨g, off + 1, none⟩ = some x1) (hc2 : w.cell? ⟨g, off + 2, none⟩ = some x2) (hc3 : w.cell? ⟨g, off + 3, none⟩ = some x3)
    (hf0 : w.frozen? ⟨g, off, none⟩ = false) (hf1 : w.frozen? ⟨g, off + 1, none⟩ = false) (hf2 : w.frozen? ⟨g, off + 2, none⟩ = false) (hf3 : w.frozen? ⟨g, off + 3, none⟩ = false) (hg : g < w.heap.size) (HT : Hid (takeVal s m = (v, to, er))) :
    Calls Tryz.prog 93 #[.string s, .int .i64 m, .iface 140 (.pointer (some ⟨g, off, none⟩))] w fun e w' => e = .returned (.tuple #[.int .i64 to, .bool (er == 0)]) ∧ ∃ w1, Below w.heap.size w w1 ∧ w' = (((w1.setCell ⟨g, off, none⟩ (.int .i64 v.1)).setCell ⟨g, off + 1, none⟩ (.int .i64 v.2.1)).setCell ⟨g, off + 2, none⟩ (.int .i64 v.2.2.1)).setCell ⟨g, off + 3, none⟩ (.string v.2.2.2) := by
  obtain ⟨va, vp, vn, vt⟩ := v
  have hty := ta_yes (P := Tryz.prog) 140 20 _ Tryz.underlying140
  have htn0 := ta_no (P := Tryz.prog) 140 20 138 _ Tryz.underlying138 zero_ps (by decide)
  have htn1 := ta_no (P := Tryz.prog) 140 20 137 _ Tryz.underlying137 zero_pi (by decide)
  go_enter Tryz.func93, Tryz.ntmps93
  go_wp2_with fail
  refine (valTake_is s m (va, vp, vn, vt) to er _ hs HT).mono ?_
  rintro e w1 ⟨rfl, b1⟩
  obtain ⟨hcx, hfx⟩ := bcell b1
  go_wp2
  go_ret2
  exact ⟨rfl, w1, b1, rfl⟩
end Go.Proofs.YtbpfcjdjhponaaaGreat
namespace Go.Proofs.YtbpfcjdjhponaaaGreat
open Go.RowKit
namespace Sp
def readP (s : ByteArray) : Ev × Bool :=
  if s.size = 0 then (zeroE, false)
  else if (takeN s 1).2.2 ≠ 0 then (zeroE, false)
  else if 1 ≤ byteAt s 0 ∧ byteAt s 0 ≤ 6 then
    if (takeN s (takeN s 1).2.1).2.2 = 0 ∧ (takeN s (takeN s 1).2.1).2.1 = s.size ∧ mayE8 (byteAt s 0) (takeN s 1).1 (takeN s (takeN s 1).2.1).1 0 0 0 0 ⟨#[]⟩ = true then (⟨byteAt s 0, (takeN s 1).1, (takeN s (takeN s 1).2.1).1, 0, zeroV⟩, true) else (zeroE, false)
  else if (s.size : Int) ≤ (takeN s 1).2.1 then (zeroE, false)
  else if byteAt s 0 = 7 then
    if (takeVal s ((takeN s 1).2.1 + 1)).2.2 = 0 ∧ (takeVal s ((takeN s 1).2.1 + 1)).2.1 = s.size ∧ mayE ⟨7, (takeN s 1).1, ⟨#[]⟩, byteAt s (takeN s 1).2.1.toNat, (takeVal s ((takeN s 1).2.1 + 1)).1⟩ = true then (⟨7, (takeN s 1).1, ⟨#[]⟩, byteAt s (takeN s 1).2.1.toNat, (takeVal s ((takeN s 1).2.1 + 1)).1⟩, true) else (zeroE, false)
  else if byteAt s 0 = 8 then
    if (takeN s 1).2.1 + 1 = s.size ∧ mayE8 8 (takeN s 1).1 ⟨#[]⟩ (byteAt s (takeN s 1).2.1.toNat) 0 0 0 ⟨#[]⟩ = true then (⟨8, (takeN s 1).1, ⟨#[]⟩, byteAt s (takeN s 1).2.1.toNat, zeroV⟩, true) else (zeroE, false)
  else (zeroE, false)
end Sp
open Sp
abbrev z8 : Array Value := #[.int .i64 0, .string ⟨#[]⟩, .string ⟨#[]⟩, .int .i64 0, .int .i64 0, .int .i64 0, .int .i64 0, .string ⟨#[]⟩]
structure RW (w : World) (cs : Array Value) (W : World) : Prop where
  r1 : W.heap[w.heap.size]? = some (.cells z8 29 (0, 0))
  r2 : W.heap[w.heap.size + 1]? = some (.cells cs 29 (0, 0))
  bel : Below w.heap.size w W
  siz : w.heap.size + 1 < W.heap.size
section
variable {w W W' : World} {cs : Array Value}
theorem RW.start (w : World) : RW w z8 ((w.alloc (.cells z8 29)).alloc (.cells z8 29)) := by
  refine ⟨?_, ?_, below_alloc0 (below_alloc0 (Below.refl _ _) _) _, by simp⟩
  · rw [Below.heap_alloc _ _ _ (by simp)]; exact heap_alloc_new w _
  · have := heap_alloc_new (w.alloc (.cells z8 29)) (.cells z8 29)
    rwa [show (w.alloc (.cells z8 29)).heap.size = w.heap.size + 1 from Array.size_push ..] at this
theorem RW.belowB (h : RW w cs W) (hb : Below (w.heap.size + 2) W W') : RW w cs W' :=
  ⟨(hb.block _ (by omega)).trans h.r1, (hb.block _ (by omega)).trans h.r2, h.bel.trans (hb.mono (by omega)), Nat.lt_of_lt_of_le h.siz hb.size⟩
theorem RW.below (h : RW w cs W) (hb : Below W.heap.size W W') : RW w cs W' := h.belowB (hb.mono (by have := h.siz; omega))
theorem RW.alloc (h : RW w cs W) (o : Obj) : RW w cs (W.alloc o) := h.below ((Below.refl _ _).alloc (Nat.le_refl _) _)
theorem RW.drew (h : RW w cs W) : RW w cs W.drew := ⟨h.r1, h.r2, ⟨h.bel.os, h.bel.tape, h.bel.output, h.bel.size, h.bel.block⟩, h.siz⟩
theorem RW.set (h : RW w cs W) (j : Nat) (v : Value) : RW w (cs.setIfInBounds j v) (W.setCell ⟨w.heap.size + 1, j, none⟩ v) := by
  refine ⟨?_, ?_, h.bel.setCell (p := ⟨w.heap.size + 1, j, none⟩) (Nat.le_succ _) v, by simpa [World.setCell] using h.siz⟩
  · rw [Below.heap_setCell _ _ _ _ (by simp)]; exact h.r1
  · simp [World.setCell, Array.getElem?_modify, h.r2]
theorem RW.cell (h : RW w cs W) (j : Nat) (v : Value) (hv : cs[j]? = some v) : W.cell? ⟨w.heap.size + 1, j, none⟩ = some v := by simp [World.cell?, h.r2, hv]
theorem RW.free (h : RW w cs W) (j : Nat) : W.frozen? ⟨w.heap.size + 1, j, none⟩ = false := by simp [World.frozen?, h.r2]
theorem RW.cell0 (h : RW w cs W) (j : Nat) (v : Value) (hv : z8[j]? = some v) : W.cell? ⟨w.heap.size, j, none⟩ = some v := by simp [World.cell?, h.r1, hv]
theorem RW.free0 (h : RW w cs W) (j : Nat) : W.frozen? ⟨w.heap.size, j, none⟩ = false := by simp [World.frozen?, h.r1]
end
def enJ (v : Value) : List Value := [v]
theorem enJ_len (v : Value) : (enJ v).length = 1 := rfl
theorem info_any : (Tryz.prog.info? 20).map (fun i => (i.zero, i.size, i.bytes)) = some (some .nilIface, 1, 16) := by kernel_rfl
abbrev fStr (w : World) (o : Nat) : Value := .iface 138 (.pointer (some ⟨w.heap.size + 1, o, none⟩))
abbrev fInt (w : World) (o : Nat) : Value := .iface 137 (.pointer (some ⟨w.heap.size + 1, o, none⟩))
abbrev fVal (w : World) (o : Nat) : Value := .iface 140 (.pointer (some ⟨w.heap.size + 1, o, none⟩))
theorem own_set {w W : World} {v : Value} {xs : List Value} (h : Own enJ 1 20 W (w.heap.size + 2) v xs) (j : Nat) (x : Value) : Own enJ 1 20 (W.setCell ⟨w.heap.size + 1, j, none⟩ x) (w.heap.size + 2) v xs :=
  ownsRow_setCell_below (a := ⟨w.heap.size + 1, j, none⟩) h (by show w.heap.size + 1 < w.heap.size + 2; omega) x
theorem own_slice_n {W : World} {base : Nat} {e : TypeId} {v : Value} {xs : List Value} (h : Own enJ 1 e W base v xs) (n : Nat) (hn : xs.length = n) (h0 : 0 < n) : ∃ ad c, v = .slice (some ad) n c := by
  obtain ⟨A, c, rfl, _⟩ := h.slice
  obtain ⟨ad, rfl, _⟩ := h.row.get (fun _ => rfl) 0 (by omega)
  exact ⟨ad, c, by rw [hn]⟩
theorem own_elem {W : World} {base n c : Nat} {e : TypeId} {ad : Addr} {xs : List Value} (h : Own enJ 1 e W base (.slice (some ad) n c) xs) (j : Nat) (x : Value) (hx : xs[j]? = some x) : W.cell? (ad.add j) = some x := by
  have hj : j < xs.length := (List.getElem?_eq_some_iff.1 hx).1
  obtain ⟨ad', e', hc⟩ := Row.get1 (f := id) h.row j hj
  injection e' with e'
  subst e'
  rw [hc]
  rw [List.getElem?_eq_getElem hj] at hx
  exact hx
end Go.Proofs.YtbpfcjdjhponaaaGreat
