/-
Layer 4: a value as bytes, put by the program.
-/
import Derived.Test.YtcopiimflloooaaValB
set_option linter.unusedVariables false
set_option linter.unusedSimpArgs false
namespace Go.Proofs.Ytcopiimflloooaa
open Go.RowKit Sp

set_option maxHeartbeats 2000000 in
set_option maxRecDepth 100000 in
theorem valPut_calls (a p n : Int) (t : ByteArray) (w : World) (ht : t.size ≤ 140737488351232) :
    Calls Try.prog 66 #[.agg #[.int .i64 a, .int .i64 p, .int .i64 n, .string t]] w fun e w' => e = .returned (.tuple #[.string (putVal a p n t).1, .bool (putVal a p n t).2]) ∧ Below w.heap.size w w' := by
  cases hm : mayV a p n t with
  | false =>
    have HV : Hid (putVal a p n t = (⟨#[]⟩, false)) := by show _ = _; rw [putVal, hm]; rfl
    have HM := Lib.hid hm
    clear hm
    go_enter Try.func66, Try.ntmps66
    go_wp2_with fail
    refine (may_is a p n t false _ ht HM).mono ?_
    rintro e w1 ⟨rfl, b1⟩
    go_wp2
    go_ret2
    rw [HV.out]
    exact ⟨rfl, below_call (below_alloc0 (Below.refl _ _) _) b1⟩
  | true =>
    obtain ⟨h0, h1, h2, h3, h4, h5, h6, h7⟩ := (mayV_iff a p n t).1 hm
    have HM := Lib.hid hm
    go_enter Try.func66, Try.ntmps66
    go_wp2_with fail
    refine (may_is a p n t true _ ht HM).mono ?_
    rintro e w1 ⟨rfl, b1⟩
    have hS : S4 w.heap.size a p n t w1 := S4.below ⟨cell_new _ _ _ _ _ rfl, cell_new _ _ _ _ _ rfl, cell_new _ _ _ _ _ rfl, cell_new _ _ _ _ _ rfl⟩ b1
    have HL := Lib.hid (valL_map a p n h0 h1 h2 h3)
    have HL2 := Lib.hid (valL_map2 a p n h0 h1 h2 h3)
    obtain ⟨q1, hq1⟩ : ∃ q, strOf (valL a p n) = q := ⟨_, rfl⟩
    obtain ⟨q2, hq2⟩ : ∃ q, strOf (putV n.toNat) = q := ⟨_, rfl⟩
    obtain ⟨q3, hq3⟩ : ∃ q, textV t = q := ⟨_, rfl⟩
    have z1 : q1.size ≤ 2 := by rw [← hq1, strOf_size]; exact Nat.le_refl _
    have z2 : q2.size ≤ 10 := by rw [← hq2, strOf_size]; exact putV_len _ (by omega)
    have z3 : q3.size ≤ 42 := by rw [← hq3]; have := textV_size t ht; omega
    have HQ1 := Lib.hid hq1
    have HQ2 := Lib.hid hq2
    have HQ3 := Lib.hid hq3
    have HV : Hid (putVal a p n t = (q1 ++ q2 ++ q3, true)) := by show _ = _; rw [putVal, hm, hq1, hq2, hq3]; rfl
    have hcv := two_bytes _ _ (valL a p n) q1 HL HQ1
    have hcd := two_bytes_drew _ _ (valL a p n) q1 HL HQ1
    have hcv2 := two_bytes _ _ (valL a p n) q1 HL2 HQ1
    have hcd2 := two_bytes_drew _ _ (valL a p n) q1 HL2 HQ1
    have HX : Hid (IntKind.u64.wrap n = ((n.toNat : Nat) : Int)) := by show _ = _; rw [IntKind.wrap_u64]; omega
    have hln : n.toNat < lim64 := by unfold lim64; omega
    clear hm h7 hq1 hq2 hq3
    have hB1 := below_call (below_alloc0 (Below.refl _ _) _) b1
    go_wp2_with fail
    refine wp_region_held_drew (S := (fun W => W.cell? ⟨w.heap.size, 0, none⟩ = some (.int .i64 a) ∧ W.cell? ⟨w.heap.size, 1, none⟩ = some (.int .i64 p) ∧ W.cell? ⟨w.heap.size, 2, none⟩ = some (.int .i64 n) ∧ W.cell? ⟨w.heap.size, 3, none⟩ = some (.string t))) (by kernel_rfl) hS (fun hHeld => ?_)
    refine wpAnyH_take (i := 0) (v := ?vx1) rfl (by kernel_rfl) (by kernel_rfl) (by kernel_rfl) (fun _ _ _ h => h) (Or.inl ⟨by rfl, ?hyx1⟩) (by assumption) ?restx1
    case hyx1 => (intro w hSw; (try dsimp only at hSw); go_simp; (try (first | with_reducible rfl | rw [if_neg (by omega)])))
    try simp only [Act.put, List.getElem_toArray, List.getElem_cons_succ, List.getElem_cons_zero, List.setIfInBounds_toArray, List.set_cons_zero, List.set_cons_succ]
    refine wpAnyH_take (i := 1) (v := ?vx2) rfl (by kernel_rfl) (by kernel_rfl) (by kernel_rfl) (fun _ _ _ h => h) (Or.inl ⟨by rfl, ?hyx2⟩) (by assumption) ?restx2
    case hyx2 => (intro w hSw; (try dsimp only at hSw); go_simp; (try (first | with_reducible rfl | rw [if_neg (by omega)])))
    try simp only [Act.put, List.getElem_toArray, List.getElem_cons_succ, List.getElem_cons_zero, List.setIfInBounds_toArray, List.set_cons_zero, List.set_cons_succ]
    refine wpAnyH_take (i := 2) (v := ?vx3) rfl (by kernel_rfl) (by kernel_rfl) (by kernel_rfl) (fun _ _ _ h => h) (Or.inl ⟨by rfl, ?hyx3⟩) (by assumption) ?restx3
    case hyx3 => (intro w hSw; (try dsimp only at hSw); go_simp; (try (first | with_reducible rfl | rw [if_neg (by omega)])))
    try simp only [Act.put, List.getElem_toArray, List.getElem_cons_succ, List.getElem_cons_zero, List.setIfInBounds_toArray, List.set_cons_zero, List.set_cons_succ]
    refine wpAnyH_take (i := 3) (v := ?vx4) rfl (by kernel_rfl) (by kernel_rfl) (by kernel_rfl) (fun _ _ _ h => h) (Or.inl ⟨by rfl, ?hyx4⟩) (by assumption) ?restx4
    case hyx4 => (intro w hSw; (try dsimp only at hSw); go_simp; (try (first | with_reducible rfl | rw [if_neg (by omega)])))
    try simp only [Act.put, List.getElem_toArray, List.getElem_cons_succ, List.getElem_cons_zero, List.setIfInBounds_toArray, List.set_cons_zero, List.set_cons_succ]
    refine wpAnyH_take (i := 4) (v := ?vx5) rfl (by kernel_rfl) (by kernel_rfl) (by kernel_rfl) (fun _ _ _ h => h) (Or.inl ⟨by rfl, ?hyx5⟩) (by assumption) ?restx5
    case hyx5 => (intro w hSw; (try dsimp only at hSw); go_simp; (try (first | with_reducible rfl | rw [if_neg (by omega)])))
    try simp only [Act.put, List.getElem_toArray, List.getElem_cons_succ, List.getElem_cons_zero, List.setIfInBounds_toArray, List.set_cons_zero, List.set_cons_succ]
    refine wpAnyH_take (i := 5) (v := ?vx6) rfl (by kernel_rfl) (by kernel_rfl) (by kernel_rfl) (fun _ _ _ h => h) (Or.inl ⟨by rfl, ?hyx6⟩) (by assumption) ?restx6
    case hyx6 => (intro w hSw; (try dsimp only at hSw); go_simp; (try (first | with_reducible rfl | rw [if_neg (by omega)])))
    try simp only [Act.put, List.getElem_toArray, List.getElem_cons_succ, List.getElem_cons_zero, List.setIfInBounds_toArray, List.set_cons_zero, List.set_cons_succ]
    refine wpAnyH_take (i := 6) (v := ?vx7) rfl (by kernel_rfl) (by kernel_rfl) (by kernel_rfl) (fun _ _ _ h => h) (Or.inl ⟨by rfl, ?hyx7⟩) (by assumption) ?restx7
    case hyx7 => (intro w hSw; (try dsimp only at hSw); go_simp; (try (first | with_reducible rfl | rw [if_neg (by omega)])))
    try simp only [Act.put, List.getElem_toArray, List.getElem_cons_succ, List.getElem_cons_zero, List.setIfInBounds_toArray, List.set_cons_zero, List.set_cons_succ]
    refine wpAnyH_take (i := 9) (v := ?vx8) rfl (by kernel_rfl) (by kernel_rfl) (by kernel_rfl) (fun _ _ _ h => h) (Or.inl ⟨by rfl, ?hyx8⟩) (by assumption) ?restx8
    case hyx8 => (intro w hSw; (try dsimp only at hSw); go_simp; (try (first | with_reducible rfl | rw [if_neg (by omega)])))
    try simp only [Act.put, List.getElem_toArray, List.getElem_cons_succ, List.getElem_cons_zero, List.setIfInBounds_toArray, List.set_cons_zero, List.set_cons_succ]
    refine wpAnyH_take (i := 10) (v := ?vx9) rfl (by kernel_rfl) (by kernel_rfl) (by kernel_rfl) (fun _ _ _ h => h) (Or.inl ⟨by rfl, ?hyx9⟩) (by assumption) ?restx9
    case hyx9 => (intro w hSw; (try dsimp only at hSw); go_simp; (try (first | with_reducible rfl | rw [if_neg (by omega)])))
    try simp only [Act.put, List.getElem_toArray, List.getElem_cons_succ, List.getElem_cons_zero, List.setIfInBounds_toArray, List.set_cons_zero, List.set_cons_succ]
    refine wpAnyH_take (i := 11) (v := ?vx10) rfl (by kernel_rfl) (by kernel_rfl) (by kernel_rfl) (fun _ _ _ h => h) (Or.inl ⟨by rfl, ?hyx10⟩) (by assumption) ?restx10
    case hyx10 => (intro w hSw; (try dsimp only at hSw); go_simp; (try (first | with_reducible rfl | rw [if_neg (by omega)])))
    try simp only [Act.put, List.getElem_toArray, List.getElem_cons_succ, List.getElem_cons_zero, List.setIfInBounds_toArray, List.set_cons_zero, List.set_cons_succ]
    refine wpAnyH_take (i := 14) (v := ?vx11) rfl (by kernel_rfl) (by kernel_rfl) (by kernel_rfl) (fun _ _ _ h => h) (Or.inl ⟨by rfl, ?hyx11⟩) (by assumption) ?restx11
    case hyx11 => (intro w hSw; (try dsimp only at hSw); go_simp; (try (first | with_reducible rfl | rw [if_neg (by omega)])))
    try simp only [Act.put, List.getElem_toArray, List.getElem_cons_succ, List.getElem_cons_zero, List.setIfInBounds_toArray, List.set_cons_zero, List.set_cons_succ]
    refine wpAnyH_take (i := 15) (v := ?vx12) rfl (by kernel_rfl) (by kernel_rfl) (by kernel_rfl) (fun _ _ _ h => h) (Or.inl ⟨by rfl, ?hyx12⟩) (by assumption) ?restx12
    case hyx12 => (intro w hSw; (try dsimp only at hSw); go_simp; (try (first | with_reducible rfl | rw [if_neg (by omega)])))
    try simp only [Act.put, List.getElem_toArray, List.getElem_cons_succ, List.getElem_cons_zero, List.setIfInBounds_toArray, List.set_cons_zero, List.set_cons_succ]
    refine wpAnyH_ready (rs := [7, 12]) (by kernel_rfl) (by simp) ?_
    refine AllReadyH.cons rfl (fun K hK => ?_) ?_
    · go_simp
      refine hK.out _ _ (by (try dsimp only); (first | exact hS | exact hSx | exact hSy | exact hS.alloc _ | exact hSx.alloc _ | exact hSy.alloc _)) (fun hHeld => ?_)
      clear hK K
      try simp only [Act.put, List.getElem_toArray, List.getElem_cons_succ, List.getElem_cons_zero, List.setIfInBounds_toArray, List.set_cons_zero, List.set_cons_succ]
      refine wpAnyH_ready (rs := [8, 12]) (by kernel_rfl) (by simp) ?_
      refine AllReadyH.cons rfl (fun K hK => ?_) ?_
      · go_simp
        refine hK.out _ _ (by (try dsimp only); (first | exact hS | exact hSx | exact hSy | exact hS.alloc _ | exact hSx.alloc _ | exact hSy.alloc _)) (fun hHeld => ?_)
        clear hK K
        try simp only [Act.put, List.getElem_toArray, List.getElem_cons_succ, List.getElem_cons_zero, List.setIfInBounds_toArray, List.set_cons_zero, List.set_cons_succ]
        refine wpAnyH_ready (rs := [12]) (by kernel_rfl) (by simp) ?_
        refine AllReadyH.cons rfl (fun K hK => ?_) ?_
        · go_simp
          go_at_call 64
          refine (varPut_w _ n.toNat q2 _ HX hln HQ2).mono ?_
          rintro e wx ⟨rfl, hbx⟩
          (first | replace hbx := undrew hbx | skip)
          (first | have hSx := hS.below hbx | have hSx := (hS.alloc _).below hbx)
          (first | have hBx := below_call hB1 hbx | have hBx := below_call (below_alloc0 hB1 _) hbx)
          (first | have hcx := two_bytes_later _ _ (valL a p n) q1 HL HQ1 w1 _ hbx | skip)
          refine hK.out _ _ (by (try dsimp only); (first | exact hS | exact hSx | exact hSy | exact hS.alloc _ | exact hSx.alloc _ | exact hSy.alloc _)) (fun hHeld => ?_)
          clear hK K
          try simp only [Act.put, List.getElem_toArray, List.getElem_cons_succ, List.getElem_cons_zero, List.setIfInBounds_toArray, List.set_cons_zero, List.set_cons_succ]
          refine wpAnyH_take (i := 13) (v := ?vx13) rfl (by kernel_rfl) (by kernel_rfl) (by kernel_rfl) (fun _ _ _ h => h) (Or.inl ⟨by rfl, ?hyx13⟩) (by assumption) ?restx13
          case hyx13 => (intro w hSw; (try dsimp only at hSw); go_simp; (try (first | with_reducible rfl | rw [if_neg (by omega)])))
          try simp only [Act.put, List.getElem_toArray, List.getElem_cons_succ, List.getElem_cons_zero, List.setIfInBounds_toArray, List.set_cons_zero, List.set_cons_succ]
          refine wpAnyH_ready (rs := [16]) (by kernel_rfl) (by simp) ?_
          refine AllReadyH.cons rfl (fun K hK => ?_) ?_
          · go_simp
            go_at_call 96
            refine (varText_w t q3 _ ht HQ3).mono ?_
            rintro e wy ⟨rfl, hby⟩
            (first | have hSy := hSx.below hby | have hSy := (hSx.alloc _).below hby)
            (first | have hBy := below_call hBx hby | have hBy := below_call (below_alloc0 hBx _) hby)
            (first | have hcy := two_bytes_later _ _ (valL a p n) q1 HL HQ1 wx _ hby | have hcy := two_bytes_later _ _ (valL a p n) q1 HL HQ1 w1 _ (below_call hbx hby) | skip)
            refine hK.out _ _ (by (try dsimp only); (first | exact hS | exact hSx | exact hSy | exact hS.alloc _ | exact hSx.alloc _ | exact hSy.alloc _)) (fun hHeld => ?_)
            clear hK K
            try simp only [Act.put, List.getElem_toArray, List.getElem_cons_succ, List.getElem_cons_zero, List.setIfInBounds_toArray, List.set_cons_zero, List.set_cons_succ]
            refine wpAnyH_take (i := 17) (v := ?vx14) rfl (by kernel_rfl) (by kernel_rfl) (by kernel_rfl) (fun _ _ _ h => h) (Or.inl ⟨by rfl, ?hyx14⟩) (by assumption) ?restx14
            case hyx14 => (intro w hSw; (try dsimp only at hSw); go_simp; (try (first | with_reducible rfl | rw [if_neg (by omega)])))
            try simp only [Act.put, List.getElem_toArray, List.getElem_cons_succ, List.getElem_cons_zero, List.setIfInBounds_toArray, List.set_cons_zero, List.set_cons_succ]
            refine wpAnyH_take (i := 18) (v := ?vx15) rfl (by kernel_rfl) (by kernel_rfl) (by kernel_rfl) (fun _ _ _ h => h) (Or.inl ⟨by rfl, ?hyx15⟩) (by assumption) ?restx15
            case hyx15 => (intro w hSw; (try dsimp only at hSw); go_simp; (try (first | with_reducible rfl | rw [if_neg (by omega)])))
            try simp only [Act.put, List.getElem_toArray, List.getElem_cons_succ, List.getElem_cons_zero, List.setIfInBounds_toArray, List.set_cons_zero, List.set_cons_succ]
            refine wpAnyH_take (i := 19) (v := ?vx16) rfl (by kernel_rfl) (by kernel_rfl) (by kernel_rfl) (fun _ _ _ h => h) (Or.inl ⟨by rfl, ?hyx16⟩) (by assumption) ?restx16
            case hyx16 => (intro w hSw; (try dsimp only at hSw); go_simp; (try (first | with_reducible rfl | rw [if_neg (by omega)])))
            try simp only [Act.put, List.getElem_toArray, List.getElem_cons_succ, List.getElem_cons_zero, List.setIfInBounds_toArray, List.set_cons_zero, List.set_cons_succ]
            refine wpAnyH_done (by kernel_rfl) ?_ _
            go_wp2
            go_ret2
            rw [HV.out]
            first | exact ⟨rfl, hBy⟩ | exact ⟨rfl, below_alloc0 hBy _⟩
          exact AllReadyH.nil
        exact AllReadyH.nil
      refine AllReadyH.cons rfl (fun K hK => ?_) ?_
      · go_simp
        go_at_call 64
        refine (varPut_w _ n.toNat q2 _ HX hln HQ2).mono ?_
        rintro e wx ⟨rfl, hbx⟩
        (first | replace hbx := undrew hbx | skip)
        (first | have hSx := hS.below hbx | have hSx := (hS.alloc _).below hbx)
        (first | have hBx := below_call hB1 hbx | have hBx := below_call (below_alloc0 hB1 _) hbx)
        (first | have hcx := two_bytes_later _ _ (valL a p n) q1 HL HQ1 w1 _ hbx | skip)
        refine hK.out _ _ (by (try dsimp only); (first | exact hS | exact hSx | exact hSy | exact hS.alloc _ | exact hSx.alloc _ | exact hSy.alloc _)) (fun hHeld => ?_)
        clear hK K
        try simp only [Act.put, List.getElem_toArray, List.getElem_cons_succ, List.getElem_cons_zero, List.setIfInBounds_toArray, List.set_cons_zero, List.set_cons_succ]
        refine wpAnyH_ready (rs := [8, 16]) (by kernel_rfl) (by simp) ?_
        refine AllReadyH.cons rfl (fun K hK => ?_) ?_
        · go_simp
          refine hK.out _ _ (by (try dsimp only); (first | exact hS | exact hSx | exact hSy | exact hS.alloc _ | exact hSx.alloc _ | exact hSy.alloc _)) (fun hHeld => ?_)
          clear hK K
          try simp only [Act.put, List.getElem_toArray, List.getElem_cons_succ, List.getElem_cons_zero, List.setIfInBounds_toArray, List.set_cons_zero, List.set_cons_succ]
          refine wpAnyH_take (i := 13) (v := ?vx17) rfl (by kernel_rfl) (by kernel_rfl) (by kernel_rfl) (fun _ _ _ h => h) (Or.inl ⟨by rfl, ?hyx17⟩) (by assumption) ?restx17
          case hyx17 => (intro w hSw; (try dsimp only at hSw); go_simp; (try (first | with_reducible rfl | rw [if_neg (by omega)])))
          try simp only [Act.put, List.getElem_toArray, List.getElem_cons_succ, List.getElem_cons_zero, List.setIfInBounds_toArray, List.set_cons_zero, List.set_cons_succ]
          refine wpAnyH_ready (rs := [16]) (by kernel_rfl) (by simp) ?_
          refine AllReadyH.cons rfl (fun K hK => ?_) ?_
          · go_simp
            go_at_call 96
            refine (varText_w t q3 _ ht HQ3).mono ?_
            rintro e wy ⟨rfl, hby⟩
            (first | have hSy := hSx.below hby | have hSy := (hSx.alloc _).below hby)
            (first | have hBy := below_call hBx hby | have hBy := below_call (below_alloc0 hBx _) hby)
            (first | have hcy := two_bytes_later _ _ (valL a p n) q1 HL HQ1 wx _ hby | have hcy := two_bytes_later _ _ (valL a p n) q1 HL HQ1 w1 _ (below_call hbx hby) | skip)
            refine hK.out _ _ (by (try dsimp only); (first | exact hS | exact hSx | exact hSy | exact hS.alloc _ | exact hSx.alloc _ | exact hSy.alloc _)) (fun hHeld => ?_)
            clear hK K
            try simp only [Act.put, List.getElem_toArray, List.getElem_cons_succ, List.getElem_cons_zero, List.setIfInBounds_toArray, List.set_cons_zero, List.set_cons_succ]
            refine wpAnyH_take (i := 17) (v := ?vx18) rfl (by kernel_rfl) (by kernel_rfl) (by kernel_rfl) (fun _ _ _ h => h) (Or.inl ⟨by rfl, ?hyx18⟩) (by assumption) ?restx18
            case hyx18 => (intro w hSw; (try dsimp only at hSw); go_simp; (try (first | with_reducible rfl | rw [if_neg (by omega)])))
            try simp only [Act.put, List.getElem_toArray, List.getElem_cons_succ, List.getElem_cons_zero, List.setIfInBounds_toArray, List.set_cons_zero, List.set_cons_succ]
            refine wpAnyH_take (i := 18) (v := ?vx19) rfl (by kernel_rfl) (by kernel_rfl) (by kernel_rfl) (fun _ _ _ h => h) (Or.inl ⟨by rfl, ?hyx19⟩) (by assumption) ?restx19
            case hyx19 => (intro w hSw; (try dsimp only at hSw); go_simp; (try (first | with_reducible rfl | rw [if_neg (by omega)])))
            try simp only [Act.put, List.getElem_toArray, List.getElem_cons_succ, List.getElem_cons_zero, List.setIfInBounds_toArray, List.set_cons_zero, List.set_cons_succ]
            refine wpAnyH_take (i := 19) (v := ?vx20) rfl (by kernel_rfl) (by kernel_rfl) (by kernel_rfl) (fun _ _ _ h => h) (Or.inl ⟨by rfl, ?hyx20⟩) (by assumption) ?restx20
            case hyx20 => (intro w hSw; (try dsimp only at hSw); go_simp; (try (first | with_reducible rfl | rw [if_neg (by omega)])))
            try simp only [Act.put, List.getElem_toArray, List.getElem_cons_succ, List.getElem_cons_zero, List.setIfInBounds_toArray, List.set_cons_zero, List.set_cons_succ]
            refine wpAnyH_done (by kernel_rfl) ?_ _
            go_wp2
            go_ret2
            rw [HV.out]
            first | exact ⟨rfl, hBy⟩ | exact ⟨rfl, below_alloc0 hBy _⟩
          exact AllReadyH.nil
        refine AllReadyH.cons rfl (fun K hK => ?_) ?_
        · go_simp
          go_at_call 96
          refine (varText_w t q3 _ ht HQ3).mono ?_
          rintro e wy ⟨rfl, hby⟩
          (first | have hSy := hSx.below hby | have hSy := (hSx.alloc _).below hby)
          (first | have hBy := below_call hBx hby | have hBy := below_call (below_alloc0 hBx _) hby)
          (first | have hcy := two_bytes_later _ _ (valL a p n) q1 HL HQ1 wx _ hby | have hcy := two_bytes_later _ _ (valL a p n) q1 HL HQ1 w1 _ (below_call hbx hby) | skip)
          refine hK.out _ _ (by (try dsimp only); (first | exact hS | exact hSx | exact hSy | exact hS.alloc _ | exact hSx.alloc _ | exact hSy.alloc _)) (fun hHeld => ?_)
          clear hK K
          try simp only [Act.put, List.getElem_toArray, List.getElem_cons_succ, List.getElem_cons_zero, List.setIfInBounds_toArray, List.set_cons_zero, List.set_cons_succ]
          refine wpAnyH_ready (rs := [8]) (by kernel_rfl) (by simp) ?_
          refine AllReadyH.cons rfl (fun K hK => ?_) ?_
          · go_simp
            refine hK.out _ _ (by (try dsimp only); (first | exact hS | exact hSx | exact hSy | exact hS.alloc _ | exact hSx.alloc _ | exact hSy.alloc _)) (fun hHeld => ?_)
            clear hK K
            try simp only [Act.put, List.getElem_toArray, List.getElem_cons_succ, List.getElem_cons_zero, List.setIfInBounds_toArray, List.set_cons_zero, List.set_cons_succ]
            refine wpAnyH_take (i := 13) (v := ?vx21) rfl (by kernel_rfl) (by kernel_rfl) (by kernel_rfl) (fun _ _ _ h => h) (Or.inl ⟨by rfl, ?hyx21⟩) (by assumption) ?restx21
            case hyx21 => (intro w hSw; (try dsimp only at hSw); go_simp; (try (first | with_reducible rfl | rw [if_neg (by omega)])))
            try simp only [Act.put, List.getElem_toArray, List.getElem_cons_succ, List.getElem_cons_zero, List.setIfInBounds_toArray, List.set_cons_zero, List.set_cons_succ]
            refine wpAnyH_take (i := 17) (v := ?vx22) rfl (by kernel_rfl) (by kernel_rfl) (by kernel_rfl) (fun _ _ _ h => h) (Or.inl ⟨by rfl, ?hyx22⟩) (by assumption) ?restx22
            case hyx22 => (intro w hSw; (try dsimp only at hSw); go_simp; (try (first | with_reducible rfl | rw [if_neg (by omega)])))
            try simp only [Act.put, List.getElem_toArray, List.getElem_cons_succ, List.getElem_cons_zero, List.setIfInBounds_toArray, List.set_cons_zero, List.set_cons_succ]
            refine wpAnyH_take (i := 18) (v := ?vx23) rfl (by kernel_rfl) (by kernel_rfl) (by kernel_rfl) (fun _ _ _ h => h) (Or.inl ⟨by rfl, ?hyx23⟩) (by assumption) ?restx23
            case hyx23 => (intro w hSw; (try dsimp only at hSw); go_simp; (try (first | with_reducible rfl | rw [if_neg (by omega)])))
            try simp only [Act.put, List.getElem_toArray, List.getElem_cons_succ, List.getElem_cons_zero, List.setIfInBounds_toArray, List.set_cons_zero, List.set_cons_succ]
            refine wpAnyH_take (i := 19) (v := ?vx24) rfl (by kernel_rfl) (by kernel_rfl) (by kernel_rfl) (fun _ _ _ h => h) (Or.inl ⟨by rfl, ?hyx24⟩) (by assumption) ?restx24
            case hyx24 => (intro w hSw; (try dsimp only at hSw); go_simp; (try (first | with_reducible rfl | rw [if_neg (by omega)])))
            try simp only [Act.put, List.getElem_toArray, List.getElem_cons_succ, List.getElem_cons_zero, List.setIfInBounds_toArray, List.set_cons_zero, List.set_cons_succ]
            refine wpAnyH_done (by kernel_rfl) ?_ _
            go_wp2
            go_ret2
            rw [HV.out]
            first | exact ⟨rfl, hBy⟩ | exact ⟨rfl, below_alloc0 hBy _⟩
          exact AllReadyH.nil
        exact AllReadyH.nil
      exact AllReadyH.nil
    refine AllReadyH.cons rfl (fun K hK => ?_) ?_
    · go_simp
      go_at_call 64
      refine (varPut_w _ n.toNat q2 _ HX hln HQ2).mono ?_
      rintro e wx ⟨rfl, hbx⟩
      (first | replace hbx := undrew hbx | skip)
      (first | have hSx := hS.below hbx | have hSx := (hS.alloc _).below hbx)
      (first | have hBx := below_call hB1 hbx | have hBx := below_call (below_alloc0 hB1 _) hbx)
      (first | have hcx := two_bytes_later _ _ (valL a p n) q1 HL HQ1 w1 _ hbx | skip)
      refine hK.out _ _ (by (try dsimp only); (first | exact hS | exact hSx | exact hSy | exact hS.alloc _ | exact hSx.alloc _ | exact hSy.alloc _)) (fun hHeld => ?_)
      clear hK K
      try simp only [Act.put, List.getElem_toArray, List.getElem_cons_succ, List.getElem_cons_zero, List.setIfInBounds_toArray, List.set_cons_zero, List.set_cons_succ]
      refine wpAnyH_ready (rs := [7, 16]) (by kernel_rfl) (by simp) ?_
      refine AllReadyH.cons rfl (fun K hK => ?_) ?_
      · go_simp
        refine hK.out _ _ (by (try dsimp only); (first | exact hS | exact hSx | exact hSy | exact hS.alloc _ | exact hSx.alloc _ | exact hSy.alloc _)) (fun hHeld => ?_)
        clear hK K
        try simp only [Act.put, List.getElem_toArray, List.getElem_cons_succ, List.getElem_cons_zero, List.setIfInBounds_toArray, List.set_cons_zero, List.set_cons_succ]
        refine wpAnyH_ready (rs := [8, 16]) (by kernel_rfl) (by simp) ?_
        refine AllReadyH.cons rfl (fun K hK => ?_) ?_
        · go_simp
          refine hK.out _ _ (by (try dsimp only); (first | exact hS | exact hSx | exact hSy | exact hS.alloc _ | exact hSx.alloc _ | exact hSy.alloc _)) (fun hHeld => ?_)
          clear hK K
          try simp only [Act.put, List.getElem_toArray, List.getElem_cons_succ, List.getElem_cons_zero, List.setIfInBounds_toArray, List.set_cons_zero, List.set_cons_succ]
          refine wpAnyH_take (i := 13) (v := ?vx25) rfl (by kernel_rfl) (by kernel_rfl) (by kernel_rfl) (fun _ _ _ h => h) (Or.inl ⟨by rfl, ?hyx25⟩) (by assumption) ?restx25
          case hyx25 => (intro w hSw; (try dsimp only at hSw); go_simp; (try (first | with_reducible rfl | rw [if_neg (by omega)])))
          try simp only [Act.put, List.getElem_toArray, List.getElem_cons_succ, List.getElem_cons_zero, List.setIfInBounds_toArray, List.set_cons_zero, List.set_cons_succ]
          refine wpAnyH_ready (rs := [16]) (by kernel_rfl) (by simp) ?_
          refine AllReadyH.cons rfl (fun K hK => ?_) ?_
          · go_simp
            go_at_call 96
            refine (varText_w t q3 _ ht HQ3).mono ?_
            rintro e wy ⟨rfl, hby⟩
            (first | have hSy := hSx.below hby | have hSy := (hSx.alloc _).below hby)
            (first | have hBy := below_call hBx hby | have hBy := below_call (below_alloc0 hBx _) hby)
            (first | have hcy := two_bytes_later _ _ (valL a p n) q1 HL HQ1 wx _ hby | have hcy := two_bytes_later _ _ (valL a p n) q1 HL HQ1 w1 _ (below_call hbx hby) | skip)
            refine hK.out _ _ (by (try dsimp only); (first | exact hS | exact hSx | exact hSy | exact hS.alloc _ | exact hSx.alloc _ | exact hSy.alloc _)) (fun hHeld => ?_)
            clear hK K
            try simp only [Act.put, List.getElem_toArray, List.getElem_cons_succ, List.getElem_cons_zero, List.setIfInBounds_toArray, List.set_cons_zero, List.set_cons_succ]
            refine wpAnyH_take (i := 17) (v := ?vx26) rfl (by kernel_rfl) (by kernel_rfl) (by kernel_rfl) (fun _ _ _ h => h) (Or.inl ⟨by rfl, ?hyx26⟩) (by assumption) ?restx26
            case hyx26 => (intro w hSw; (try dsimp only at hSw); go_simp; (try (first | with_reducible rfl | rw [if_neg (by omega)])))
            try simp only [Act.put, List.getElem_toArray, List.getElem_cons_succ, List.getElem_cons_zero, List.setIfInBounds_toArray, List.set_cons_zero, List.set_cons_succ]
            refine wpAnyH_take (i := 18) (v := ?vx27) rfl (by kernel_rfl) (by kernel_rfl) (by kernel_rfl) (fun _ _ _ h => h) (Or.inl ⟨by rfl, ?hyx27⟩) (by assumption) ?restx27
            case hyx27 => (intro w hSw; (try dsimp only at hSw); go_simp; (try (first | with_reducible rfl | rw [if_neg (by omega)])))
            try simp only [Act.put, List.getElem_toArray, List.getElem_cons_succ, List.getElem_cons_zero, List.setIfInBounds_toArray, List.set_cons_zero, List.set_cons_succ]
            refine wpAnyH_take (i := 19) (v := ?vx28) rfl (by kernel_rfl) (by kernel_rfl) (by kernel_rfl) (fun _ _ _ h => h) (Or.inl ⟨by rfl, ?hyx28⟩) (by assumption) ?restx28
            case hyx28 => (intro w hSw; (try dsimp only at hSw); go_simp; (try (first | with_reducible rfl | rw [if_neg (by omega)])))
            try simp only [Act.put, List.getElem_toArray, List.getElem_cons_succ, List.getElem_cons_zero, List.setIfInBounds_toArray, List.set_cons_zero, List.set_cons_succ]
            refine wpAnyH_done (by kernel_rfl) ?_ _
            go_wp2
            go_ret2
            rw [HV.out]
            first | exact ⟨rfl, hBy⟩ | exact ⟨rfl, below_alloc0 hBy _⟩
          exact AllReadyH.nil
        refine AllReadyH.cons rfl (fun K hK => ?_) ?_
        · go_simp
          go_at_call 96
          refine (varText_w t q3 _ ht HQ3).mono ?_
          rintro e wy ⟨rfl, hby⟩
          (first | have hSy := hSx.below hby | have hSy := (hSx.alloc _).below hby)
          (first | have hBy := below_call hBx hby | have hBy := below_call (below_alloc0 hBx _) hby)
          (first | have hcy := two_bytes_later _ _ (valL a p n) q1 HL HQ1 wx _ hby | have hcy := two_bytes_later _ _ (valL a p n) q1 HL HQ1 w1 _ (below_call hbx hby) | skip)
          refine hK.out _ _ (by (try dsimp only); (first | exact hS | exact hSx | exact hSy | exact hS.alloc _ | exact hSx.alloc _ | exact hSy.alloc _)) (fun hHeld => ?_)
          clear hK K
          try simp only [Act.put, List.getElem_toArray, List.getElem_cons_succ, List.getElem_cons_zero, List.setIfInBounds_toArray, List.set_cons_zero, List.set_cons_succ]
          refine wpAnyH_ready (rs := [8]) (by kernel_rfl) (by simp) ?_
          refine AllReadyH.cons rfl (fun K hK => ?_) ?_
          · go_simp
            refine hK.out _ _ (by (try dsimp only); (first | exact hS | exact hSx | exact hSy | exact hS.alloc _ | exact hSx.alloc _ | exact hSy.alloc _)) (fun hHeld => ?_)
            clear hK K
            try simp only [Act.put, List.getElem_toArray, List.getElem_cons_succ, List.getElem_cons_zero, List.setIfInBounds_toArray, List.set_cons_zero, List.set_cons_succ]
            refine wpAnyH_take (i := 13) (v := ?vx29) rfl (by kernel_rfl) (by kernel_rfl) (by kernel_rfl) (fun _ _ _ h => h) (Or.inl ⟨by rfl, ?hyx29⟩) (by assumption) ?restx29
            case hyx29 => (intro w hSw; (try dsimp only at hSw); go_simp; (try (first | with_reducible rfl | rw [if_neg (by omega)])))
            try simp only [Act.put, List.getElem_toArray, List.getElem_cons_succ, List.getElem_cons_zero, List.setIfInBounds_toArray, List.set_cons_zero, List.set_cons_succ]
            refine wpAnyH_take (i := 17) (v := ?vx30) rfl (by kernel_rfl) (by kernel_rfl) (by kernel_rfl) (fun _ _ _ h => h) (Or.inl ⟨by rfl, ?hyx30⟩) (by assumption) ?restx30
            case hyx30 => (intro w hSw; (try dsimp only at hSw); go_simp; (try (first | with_reducible rfl | rw [if_neg (by omega)])))
            try simp only [Act.put, List.getElem_toArray, List.getElem_cons_succ, List.getElem_cons_zero, List.setIfInBounds_toArray, List.set_cons_zero, List.set_cons_succ]
            refine wpAnyH_take (i := 18) (v := ?vx31) rfl (by kernel_rfl) (by kernel_rfl) (by kernel_rfl) (fun _ _ _ h => h) (Or.inl ⟨by rfl, ?hyx31⟩) (by assumption) ?restx31
            case hyx31 => (intro w hSw; (try dsimp only at hSw); go_simp; (try (first | with_reducible rfl | rw [if_neg (by omega)])))
            try simp only [Act.put, List.getElem_toArray, List.getElem_cons_succ, List.getElem_cons_zero, List.setIfInBounds_toArray, List.set_cons_zero, List.set_cons_succ]
            refine wpAnyH_take (i := 19) (v := ?vx32) rfl (by kernel_rfl) (by kernel_rfl) (by kernel_rfl) (fun _ _ _ h => h) (Or.inl ⟨by rfl, ?hyx32⟩) (by assumption) ?restx32
            case hyx32 => (intro w hSw; (try dsimp only at hSw); go_simp; (try (first | with_reducible rfl | rw [if_neg (by omega)])))
            try simp only [Act.put, List.getElem_toArray, List.getElem_cons_succ, List.getElem_cons_zero, List.setIfInBounds_toArray, List.set_cons_zero, List.set_cons_succ]
            refine wpAnyH_done (by kernel_rfl) ?_ _
            go_wp2
            go_ret2
            rw [HV.out]
            first | exact ⟨rfl, hBy⟩ | exact ⟨rfl, below_alloc0 hBy _⟩
          exact AllReadyH.nil
        exact AllReadyH.nil
      refine AllReadyH.cons rfl (fun K hK => ?_) ?_
      · go_simp
        go_at_call 96
        refine (varText_w t q3 _ ht HQ3).mono ?_
        rintro e wy ⟨rfl, hby⟩
        (first | have hSy := hSx.below hby | have hSy := (hSx.alloc _).below hby)
        (first | have hBy := below_call hBx hby | have hBy := below_call (below_alloc0 hBx _) hby)
        (first | have hcy := two_bytes_later _ _ (valL a p n) q1 HL HQ1 wx _ hby | have hcy := two_bytes_later _ _ (valL a p n) q1 HL HQ1 w1 _ (below_call hbx hby) | skip)
        refine hK.out _ _ (by (try dsimp only); (first | exact hS | exact hSx | exact hSy | exact hS.alloc _ | exact hSx.alloc _ | exact hSy.alloc _)) (fun hHeld => ?_)
        clear hK K
        try simp only [Act.put, List.getElem_toArray, List.getElem_cons_succ, List.getElem_cons_zero, List.setIfInBounds_toArray, List.set_cons_zero, List.set_cons_succ]
        refine wpAnyH_ready (rs := [7]) (by kernel_rfl) (by simp) ?_
        refine AllReadyH.cons rfl (fun K hK => ?_) ?_
        · go_simp
          refine hK.out _ _ (by (try dsimp only); (first | exact hS | exact hSx | exact hSy | exact hS.alloc _ | exact hSx.alloc _ | exact hSy.alloc _)) (fun hHeld => ?_)
          clear hK K
          try simp only [Act.put, List.getElem_toArray, List.getElem_cons_succ, List.getElem_cons_zero, List.setIfInBounds_toArray, List.set_cons_zero, List.set_cons_succ]
          refine wpAnyH_ready (rs := [8]) (by kernel_rfl) (by simp) ?_
          refine AllReadyH.cons rfl (fun K hK => ?_) ?_
          · go_simp
            refine hK.out _ _ (by (try dsimp only); (first | exact hS | exact hSx | exact hSy | exact hS.alloc _ | exact hSx.alloc _ | exact hSy.alloc _)) (fun hHeld => ?_)
            clear hK K
            try simp only [Act.put, List.getElem_toArray, List.getElem_cons_succ, List.getElem_cons_zero, List.setIfInBounds_toArray, List.set_cons_zero, List.set_cons_succ]
            refine wpAnyH_take (i := 13) (v := ?vx33) rfl (by kernel_rfl) (by kernel_rfl) (by kernel_rfl) (fun _ _ _ h => h) (Or.inl ⟨by rfl, ?hyx33⟩) (by assumption) ?restx33
            case hyx33 => (intro w hSw; (try dsimp only at hSw); go_simp; (try (first | with_reducible rfl | rw [if_neg (by omega)])))
            try simp only [Act.put, List.getElem_toArray, List.getElem_cons_succ, List.getElem_cons_zero, List.setIfInBounds_toArray, List.set_cons_zero, List.set_cons_succ]
            refine wpAnyH_take (i := 17) (v := ?vx34) rfl (by kernel_rfl) (by kernel_rfl) (by kernel_rfl) (fun _ _ _ h => h) (Or.inl ⟨by rfl, ?hyx34⟩) (by assumption) ?restx34
            case hyx34 => (intro w hSw; (try dsimp only at hSw); go_simp; (try (first | with_reducible rfl | rw [if_neg (by omega)])))
            try simp only [Act.put, List.getElem_toArray, List.getElem_cons_succ, List.getElem_cons_zero, List.setIfInBounds_toArray, List.set_cons_zero, List.set_cons_succ]
            refine wpAnyH_take (i := 18) (v := ?vx35) rfl (by kernel_rfl) (by kernel_rfl) (by kernel_rfl) (fun _ _ _ h => h) (Or.inl ⟨by rfl, ?hyx35⟩) (by assumption) ?restx35
            case hyx35 => (intro w hSw; (try dsimp only at hSw); go_simp; (try (first | with_reducible rfl | rw [if_neg (by omega)])))
            try simp only [Act.put, List.getElem_toArray, List.getElem_cons_succ, List.getElem_cons_zero, List.setIfInBounds_toArray, List.set_cons_zero, List.set_cons_succ]
            refine wpAnyH_take (i := 19) (v := ?vx36) rfl (by kernel_rfl) (by kernel_rfl) (by kernel_rfl) (fun _ _ _ h => h) (Or.inl ⟨by rfl, ?hyx36⟩) (by assumption) ?restx36
            case hyx36 => (intro w hSw; (try dsimp only at hSw); go_simp; (try (first | with_reducible rfl | rw [if_neg (by omega)])))
            try simp only [Act.put, List.getElem_toArray, List.getElem_cons_succ, List.getElem_cons_zero, List.setIfInBounds_toArray, List.set_cons_zero, List.set_cons_succ]
            refine wpAnyH_done (by kernel_rfl) ?_ _
            go_wp2
            go_ret2
            rw [HV.out]
            first | exact ⟨rfl, hBy⟩ | exact ⟨rfl, below_alloc0 hBy _⟩
          exact AllReadyH.nil
        exact AllReadyH.nil
      exact AllReadyH.nil
    exact AllReadyH.nil
end Go.Proofs.Ytcopiimflloooaa
