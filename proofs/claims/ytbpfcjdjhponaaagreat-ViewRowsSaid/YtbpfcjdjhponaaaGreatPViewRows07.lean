import Derived.Deep.RegionHeld3
import Derived.BigQuiet
import Derived.Test.YtbpfcjdjhponaaaGreatProg
import Derived.Deep.RegionLaw
import Derived.Deep.AppendLies
import Derived.Test.YtbpfcjdjhponaaaGreatPViewRows06
set_option linter.unusedVariables false
set_option linter.unusedSimpArgs false
namespace Go.Proofs.YtbpfcjdjhponaaaGreat
open Go.RowKit
open Sp
def SzT (l : List Sn) : Prop := ∀ s ∈ l, s.c.size ≤ 140737488351232 ∧ s.v.2.2.2.size ≤ 140737488351232
namespace Sp
theorem mayT_row {l : List Sn} (i : Nat) (h : i < l.length) (hn : rowOk l[i] = false) : mayTb l = false := by
  rw [← Bool.not_eq_true, mayT_iff]
  rintro ⟨_, h2, _⟩
  rw [h2 l[i] (List.getElem_mem _)] at hn
  cases hn
theorem mayT_adj {l : List Sn} (i : Nat) (h : i + 1 < l.length) (hn : less l[i].c l[i + 1].c = false) : mayTb l = false := by
  rw [← Bool.not_eq_true, mayT_iff]
  rintro ⟨_, _, h2⟩
  rw [h2 i h] at hn
  cases hn
end Sp
set_option maxHeartbeats 16000000 in
set_option maxRecDepth 100000 in
theorem MayT_calls (n c : Nat) (A : Option Addr) (l : List Sn) (w : World) (hl : Row enSn 5 w (.slice A n c) l) (hz : SzT l) :
    Calls Tryz.prog 30 #[.slice A n c] w fun e w' => e = .returned (.bool (mayTb l)) ∧ Below w.heap.size w w' := by
  have EA := Lib.hid hl.len_eq
  have hnl : n ≤ 9223372036854775807 := by rw [EA.out]; exact hl.len
  obtain ⟨r, hr⟩ : ∃ r, mayTb l = r := ⟨_, rfl⟩
  rw [hr]
  have HR := Lib.hid hr
  have HZ := Lib.hid hz
  clear hr hz
  go_enter Tryz.func30, Tryz.ntmps30
  go_wp2
  go_loopw [7] (fun vc wr => ∃ i : Nat, vc = .int .i64 i ∧ i ≤ n ∧ Below w.heap.size w wr ∧ Hid ((∀ j (h : j < l.length), j < i → rowOk l[j] = true) ∧ ∀ j (h : j + 1 < l.length), j + 1 < i → less l[j].c l[j + 1].c = true)) (fun vc _ => (n - intOf vc).toNat)
  case atStart => exact ⟨0, rfl, Nat.zero_le _, Below.refl _ _, fun j _ h => absurd h (by omega), fun j _ h => absurd h (by omega)⟩
  case round =>
    obtain ⟨i, rfl, hi, hB, HT⟩ := hrel
    by_cases hlt : i < n
    · have hil : i < l.length := by have := EA.out; omega
      obtain ⟨z1, z2⟩ := HZ.out l[i] (List.getElem_mem _)
      obtain ⟨⟨a', b', c', d', e'⟩, he'⟩ : ∃ e, l[i] = e := ⟨_, rfl⟩
      rw [he'] at z1 z2
      simp only at z1 z2
      obtain ⟨ad, rfl, d0, d1, d2, d3, d4⟩ := rowSn (hl.below hB) i hil a' b' c' d' e' he'
      obtain ⟨hv, hhv⟩ : ∃ o, isName a' = o := ⟨_, rfl⟩
      obtain ⟨mv, hmv⟩ : ∃ o, mayV b' c' d' e' = o := ⟨_, rfl⟩
      have HI := Lib.hid hhv
      have HV := Lib.hid hmv
      have HLO : Hid (rowOk l[i] = (hv && mv)) := by show _ = _; rw [he']; unfold rowOk; rw [hhv]; simp only; rw [hmv]
      have hD : Below w.heap.size w _ := (below_alloc0 hB (bxSn a' b' c' d' e')).drew
      have x3 : (0 : Int) ≤ (i : Int) := by omega
      have x4 : (i : Int) < (n : Int) := by omega
      clear hhv hmv
      cases hv with
      | false =>
        have HF : Hid (r = false) := by
          show _ = _
          rw [← HR.out]
          exact mayT_row i hil HLO.out
        clear he' HLO
        have hbx0 := heap_alloc_new wr (bxSn a' b' c' d' e')
        have k0 := d0
        have k1 := d1
        have k2 := d2
        have k3 := d3
        have k4 := d4
        clear d0 d1 d2 d3 d4
        obtain ⟨d0, d1, d2, d3, d4, dz⟩ := cellsSn a' b' c' d' e' hbx0
        replace d0 : (wr.alloc (bxSn a' b' c' d' e')).drew.cell? ⟨wr.heap.size, 0, none⟩ = _ := d0
        replace d1 : (wr.alloc (bxSn a' b' c' d' e')).drew.cell? ⟨wr.heap.size, 1, none⟩ = _ := d1
        replace d2 : (wr.alloc (bxSn a' b' c' d' e')).drew.cell? ⟨wr.heap.size, 2, none⟩ = _ := d2
        replace d3 : (wr.alloc (bxSn a' b' c' d' e')).drew.cell? ⟨wr.heap.size, 3, none⟩ = _ := d3
        replace d4 : (wr.alloc (bxSn a' b' c' d' e')).drew.cell? ⟨wr.heap.size, 4, none⟩ = _ := d4
        · go_wp2_with fail
          refine wp_region_held_drew (S := fun w' => w'.cell? ⟨wr.heap.size, 0, none⟩ = some (.string a') ∧ w'.cell? ⟨wr.heap.size, 1, none⟩ = some (.int .i64 b') ∧ w'.cell? ⟨wr.heap.size, 2, none⟩ = some (.int .i64 c') ∧ w'.cell? ⟨wr.heap.size, 3, none⟩ = some (.int .i64 d') ∧ w'.cell? ⟨wr.heap.size, 4, none⟩ = some (.string e')) (by kernel_rfl) (by exact ⟨d0, d1, d2, d3, d4⟩) (fun hHeld => ?_)
          refine wpAnyH_take (i := 0) (v := ?vx1) rfl (by kernel_rfl) (by kernel_rfl) (by kernel_rfl) (fun _ _ _ h => h) (Or.inl ⟨by kernel_rfl, ?hyx1⟩) (by assumption) ?restx1
          case hyx1 => (intro w hSw; (try dsimp only at hSw); go_simp; (try (first | with_reducible rfl | rw [if_neg (by omega)])))
          try simp only [Act.put, zA, zB, zC, zD, zE, zF]
          refine wpAnyH_take (i := 1) (v := ?vx2) rfl (by kernel_rfl) (by kernel_rfl) (by kernel_rfl) (fun _ _ _ h => h) (Or.inl ⟨by kernel_rfl, ?hyx2⟩) (by assumption) ?restx2
          case hyx2 => (intro w hSw; (try dsimp only at hSw); go_simp; (try (first | with_reducible rfl | rw [if_neg (by omega)])))
          try simp only [Act.put, zA, zB, zC, zD, zE, zF]
          refine wpAnyH_ready (rs := [2]) (by kernel_rfl) (by simp) ?_
          refine AllReadyH.cons rfl (fun K hK => ?_) ?_
          · go_simp
            go_at_call 74
            with_reducible refine (re_ (Is_calls a' _ z1) (ret_bool HI.out)).mono ?_
            rintro e wx ⟨rfl, hbx⟩
            replace hD := below_call hD hbx
            replace d0 := cell_below hbx d0
            replace d1 := cell_below hbx d1
            replace d2 := cell_below hbx d2
            replace d3 := cell_below hbx d3
            replace d4 := cell_below hbx d4
            clear hbx
            refine hK.out _ _ (by (try dsimp only); (exact ⟨d0, d1, d2, d3, d4⟩)) (fun hHeld => ?_)
            clear hK K
            try simp only [Act.put, zA, zB, zC, zD, zE, zF]
            refine wpAnyH_take (i := 3) (v := ?vx3) rfl (by kernel_rfl) (by kernel_rfl) (by kernel_rfl) (fun _ _ _ h => h) (Or.inl ⟨by kernel_rfl, ?hyx3⟩) (by assumption) ?restx3
            case hyx3 => (intro w hSw; (try dsimp only at hSw); go_simp; (try (first | with_reducible rfl | rw [if_neg (by omega)])))
            try simp only [Act.put, zA, zB, zC, zD, zE, zF]
            refine wpAnyH_take (i := 4) (v := ?vx4) rfl (by kernel_rfl) (by kernel_rfl) (by kernel_rfl) (fun _ _ _ h => h) (Or.inl ⟨by kernel_rfl, ?hyx4⟩) (by assumption) ?restx4
            case hyx4 => (intro w hSw; (try dsimp only at hSw); go_simp; (try (first | with_reducible rfl | rw [if_neg (by omega)])))
            try simp only [Act.put, zA, zB, zC, zD, zE, zF]
            refine wpAnyH_take (i := 5) (v := undef) rfl (by kernel_rfl) (by kernel_rfl) (by kernel_rfl) (fun _ _ _ h => h) (Or.inr ⟨by kernel_rfl, rfl⟩) (by assumption) ?_
            try simp only [Act.put, zA, zB, zC, zD, zE, zF]
            refine wpAnyH_take (i := 6) (v := undef) rfl (by kernel_rfl) (by kernel_rfl) (by kernel_rfl) (fun _ _ _ h => h) (Or.inr ⟨by kernel_rfl, rfl⟩) (by assumption) ?_
            try simp only [Act.put, zA, zB, zC, zD, zE, zF]
            refine wpAnyH_take (i := 7) (v := undef) rfl (by kernel_rfl) (by kernel_rfl) (by kernel_rfl) (fun _ _ _ h => h) (Or.inr ⟨by kernel_rfl, rfl⟩) (by assumption) ?_
            try simp only [Act.put, zA, zB, zC, zD, zE, zF]
            refine wpAnyH_take (i := 8) (v := undef) rfl (by kernel_rfl) (by kernel_rfl) (by kernel_rfl) (fun _ _ _ h => h) (Or.inr ⟨by kernel_rfl, rfl⟩) (by assumption) ?_
            try simp only [Act.put, zA, zB, zC, zD, zE, zF]
            refine wpAnyH_take (i := 9) (v := ?vx9) rfl (by kernel_rfl) (by kernel_rfl) (by kernel_rfl) (fun _ _ _ h => h) (Or.inl ⟨by kernel_rfl, ?hyx9⟩) (by assumption) ?restx9
            case hyx9 => (intro w hSw; (try dsimp only at hSw); go_simp; (try (first | with_reducible rfl | rw [if_neg (by omega)])))
            try simp only [Act.put, zA, zB, zC, zD, zE, zF]
            refine wpAnyH_take (i := 10) (v := ?vx10) rfl (by kernel_rfl) (by kernel_rfl) (by kernel_rfl) (fun _ _ _ h => h) (Or.inl ⟨by kernel_rfl, ?hyx10⟩) (by assumption) ?restx10
            case hyx10 => (intro w hSw; (try dsimp only at hSw); go_simp; (try (first | with_reducible rfl | rw [if_neg (by omega)])))
            try simp only [Act.put, zA, zB, zC, zD, zE, zF]
            refine wpAnyH_take (i := 11) (v := undef) rfl (by kernel_rfl) (by kernel_rfl) (by kernel_rfl) (fun _ _ _ h => h) (Or.inr ⟨by kernel_rfl, rfl⟩) (by assumption) ?_
            try simp only [Act.put, zA, zB, zC, zD, zE, zF]
            refine wpAnyH_take (i := 12) (v := undef) rfl (by kernel_rfl) (by kernel_rfl) (by kernel_rfl) (fun _ _ _ h => h) (Or.inr ⟨by kernel_rfl, rfl⟩) (by assumption) ?_
            try simp only [Act.put, zA, zB, zC, zD, zE, zF]
            refine wpAnyH_take (i := 13) (v := undef) rfl (by kernel_rfl) (by kernel_rfl) (by kernel_rfl) (fun _ _ _ h => h) (Or.inr ⟨by kernel_rfl, rfl⟩) (by assumption) ?_
            try simp only [Act.put, zA, zB, zC, zD, zE, zF]
            refine wpAnyH_take (i := 14) (v := undef) rfl (by kernel_rfl) (by kernel_rfl) (by kernel_rfl) (fun _ _ _ h => h) (Or.inr ⟨by kernel_rfl, rfl⟩) (by assumption) ?_
            try simp only [Act.put, zA, zB, zC, zD, zE, zF]
            refine wpAnyH_take (i := 15) (v := undef) rfl (by kernel_rfl) (by kernel_rfl) (by kernel_rfl) (fun _ _ _ h => h) (Or.inr ⟨by kernel_rfl, rfl⟩) (by assumption) ?_
            try simp only [Act.put, zA, zB, zC, zD, zE, zF]
            refine wpAnyH_take (i := 16) (v := undef) rfl (by kernel_rfl) (by kernel_rfl) (by kernel_rfl) (fun _ _ _ h => h) (Or.inr ⟨by kernel_rfl, rfl⟩) (by assumption) ?_
            try simp only [Act.put, zA, zB, zC, zD, zE, zF]
            refine wpAnyH_take (i := 17) (v := undef) rfl (by kernel_rfl) (by kernel_rfl) (by kernel_rfl) (fun _ _ _ h => h) (Or.inr ⟨by kernel_rfl, rfl⟩) (by assumption) ?_
            try simp only [Act.put, zA, zB, zC, zD, zE, zF]
            refine wpAnyH_take (i := 18) (v := undef) rfl (by kernel_rfl) (by kernel_rfl) (by kernel_rfl) (fun _ _ _ h => h) (Or.inr ⟨by kernel_rfl, rfl⟩) (by assumption) ?_
            try simp only [Act.put, zA, zB, zC, zD, zE, zF]
            refine wpAnyH_take (i := 19) (v := undef) rfl (by kernel_rfl) (by kernel_rfl) (by kernel_rfl) (fun _ _ _ h => h) (Or.inr ⟨by kernel_rfl, rfl⟩) (by assumption) ?_
            try simp only [Act.put, zA, zB, zC, zD, zE, zF]
            refine wpAnyH_take (i := 20) (v := undef) rfl (by kernel_rfl) (by kernel_rfl) (by kernel_rfl) (fun _ _ _ h => h) (Or.inr ⟨by kernel_rfl, rfl⟩) (by assumption) ?_
            try simp only [Act.put, zA, zB, zC, zD, zE, zF]
            refine wpAnyH_take (i := 21) (v := undef) rfl (by kernel_rfl) (by kernel_rfl) (by kernel_rfl) (fun _ _ _ h => h) (Or.inr ⟨by kernel_rfl, rfl⟩) (by assumption) ?_
            try simp only [Act.put, zA, zB, zC, zD, zE, zF]
            refine wpAnyH_take (i := 22) (v := undef) rfl (by kernel_rfl) (by kernel_rfl) (by kernel_rfl) (fun _ _ _ h => h) (Or.inr ⟨by kernel_rfl, rfl⟩) (by assumption) ?_
            try simp only [Act.put, zA, zB, zC, zD, zE, zF]
            refine wpAnyH_take (i := 23) (v := undef) rfl (by kernel_rfl) (by kernel_rfl) (by kernel_rfl) (fun _ _ _ h => h) (Or.inr ⟨by kernel_rfl, rfl⟩) (by assumption) ?_
            try simp only [Act.put, zA, zB, zC, zD, zE, zF]
            refine wpAnyH_take (i := 24) (v := undef) rfl (by kernel_rfl) (by kernel_rfl) (by kernel_rfl) (fun _ _ _ h => h) (Or.inr ⟨by kernel_rfl, rfl⟩) (by assumption) ?_
            try simp only [Act.put, zA, zB, zC, zD, zE, zF]
            refine wpAnyH_take (i := 25) (v := ?vx25) rfl (by kernel_rfl) (by kernel_rfl) (by kernel_rfl) (fun _ _ _ h => h) (Or.inl ⟨by kernel_rfl, ?hyx25⟩) (by assumption) ?restx25
            case hyx25 => (intro w hSw; (try dsimp only at hSw); go_simp; (try (first | with_reducible rfl | rw [if_neg (by omega)])))
            try simp only [Act.put, zA, zB, zC, zD, zE, zF]
            refine wpAnyH_done (by kernel_rfl) ?_ _
            go_wp2
            go_ret
            rw [HF.out]
            exact ⟨rfl, hD⟩
          exact AllReadyH.nil
      | true =>
      cases mv with
      | false =>
        have HF : Hid (r = false) := by
          show _ = _
          rw [← HR.out]
          exact mayT_row i hil HLO.out
        clear he' HLO
        have hbx0 := heap_alloc_new wr (bxSn a' b' c' d' e')
        have k0 := d0
        have k1 := d1
        have k2 := d2
        have k3 := d3
        have k4 := d4
        clear d0 d1 d2 d3 d4
        obtain ⟨d0, d1, d2, d3, d4, dz⟩ := cellsSn a' b' c' d' e' hbx0
        replace d0 : (wr.alloc (bxSn a' b' c' d' e')).drew.cell? ⟨wr.heap.size, 0, none⟩ = _ := d0
        replace d1 : (wr.alloc (bxSn a' b' c' d' e')).drew.cell? ⟨wr.heap.size, 1, none⟩ = _ := d1
        replace d2 : (wr.alloc (bxSn a' b' c' d' e')).drew.cell? ⟨wr.heap.size, 2, none⟩ = _ := d2
        replace d3 : (wr.alloc (bxSn a' b' c' d' e')).drew.cell? ⟨wr.heap.size, 3, none⟩ = _ := d3
        replace d4 : (wr.alloc (bxSn a' b' c' d' e')).drew.cell? ⟨wr.heap.size, 4, none⟩ = _ := d4
        · go_wp2_with fail
          refine wp_region_held_drew (S := fun w' => w'.cell? ⟨wr.heap.size, 0, none⟩ = some (.string a') ∧ w'.cell? ⟨wr.heap.size, 1, none⟩ = some (.int .i64 b') ∧ w'.cell? ⟨wr.heap.size, 2, none⟩ = some (.int .i64 c') ∧ w'.cell? ⟨wr.heap.size, 3, none⟩ = some (.int .i64 d') ∧ w'.cell? ⟨wr.heap.size, 4, none⟩ = some (.string e')) (by kernel_rfl) (by exact ⟨d0, d1, d2, d3, d4⟩) (fun hHeld => ?_)
          refine wpAnyH_take (i := 0) (v := ?vy1) rfl (by kernel_rfl) (by kernel_rfl) (by kernel_rfl) (fun _ _ _ h => h) (Or.inl ⟨by kernel_rfl, ?hyy1⟩) (by assumption) ?resty1
          case hyy1 => (intro w hSw; (try dsimp only at hSw); go_simp; (try (first | with_reducible rfl | rw [if_neg (by omega)])))
          try simp only [Act.put, zA, zB, zC, zD, zE, zF]
          refine wpAnyH_take (i := 1) (v := ?vy2) rfl (by kernel_rfl) (by kernel_rfl) (by kernel_rfl) (fun _ _ _ h => h) (Or.inl ⟨by kernel_rfl, ?hyy2⟩) (by assumption) ?resty2
          case hyy2 => (intro w hSw; (try dsimp only at hSw); go_simp; (try (first | with_reducible rfl | rw [if_neg (by omega)])))
          try simp only [Act.put, zA, zB, zC, zD, zE, zF]
          refine wpAnyH_ready (rs := [2]) (by kernel_rfl) (by simp) ?_
          refine AllReadyH.cons rfl (fun K hK => ?_) ?_
          · go_simp
            go_at_call 74
            with_reducible refine (re_ (Is_calls a' _ z1) (ret_bool HI.out)).mono ?_
            rintro e wx ⟨rfl, hbx⟩
            replace hD := below_call hD hbx
            replace d0 := cell_below hbx d0
            replace d1 := cell_below hbx d1
            replace d2 := cell_below hbx d2
            replace d3 := cell_below hbx d3
            replace d4 := cell_below hbx d4
            clear hbx
            refine hK.out _ _ (by (try dsimp only); (exact ⟨d0, d1, d2, d3, d4⟩)) (fun hHeld => ?_)
            clear hK K
            try simp only [Act.put, zA, zB, zC, zD, zE, zF]
            refine wpAnyH_take (i := 3) (v := ?vy3) rfl (by kernel_rfl) (by kernel_rfl) (by kernel_rfl) (fun _ _ _ h => h) (Or.inl ⟨by kernel_rfl, ?hyy3⟩) (by assumption) ?resty3
            case hyy3 => (intro w hSw; (try dsimp only at hSw); go_simp; (try (first | with_reducible rfl | rw [if_neg (by omega)])))
            try simp only [Act.put, zA, zB, zC, zD, zE, zF]
            refine wpAnyH_take (i := 4) (v := ?vy4) rfl (by kernel_rfl) (by kernel_rfl) (by kernel_rfl) (fun _ _ _ h => h) (Or.inl ⟨by kernel_rfl, ?hyy4⟩) (by assumption) ?resty4
            case hyy4 => (intro w hSw; (try dsimp only at hSw); go_simp; (try (first | with_reducible rfl | rw [if_neg (by omega)])))
            try simp only [Act.put, zA, zB, zC, zD, zE, zF]
            refine wpAnyH_take (i := 5) (v := ?vy5) rfl (by kernel_rfl) (by kernel_rfl) (by kernel_rfl) (fun _ _ _ h => h) (Or.inl ⟨by kernel_rfl, ?hyy5⟩) (by assumption) ?resty5
            case hyy5 => (intro w hSw; (try dsimp only at hSw); go_simp; (try (first | with_reducible rfl | rw [if_neg (by omega)])))
            try simp only [Act.put, zA, zB, zC, zD, zE, zF]
            refine wpAnyH_take (i := 6) (v := ?vy6) rfl (by kernel_rfl) (by kernel_rfl) (by kernel_rfl) (fun _ _ _ h => h) (Or.inl ⟨by kernel_rfl, ?hyy6⟩) (by assumption) ?resty6
            case hyy6 => (intro w hSw; (try dsimp only at hSw); go_simp; (try (first | with_reducible rfl | rw [if_neg (by omega)])))
            try simp only [Act.put, zA, zB, zC, zD, zE, zF]
            refine wpAnyH_ready (rs := [7]) (by kernel_rfl) (by simp) ?_
            refine AllReadyH.cons rfl (fun K hK => ?_) ?_
            · go_simp
              go_at_call 75
              with_reducible refine (re_ (may_calls b' c' d' e' _ z2) (ret_bool HV.out)).mono ?_
              rintro e wx ⟨rfl, hbx⟩
              replace hD := below_call hD hbx
              replace d0 := cell_below hbx d0
              replace d1 := cell_below hbx d1
              replace d2 := cell_below hbx d2
              replace d3 := cell_below hbx d3
              replace d4 := cell_below hbx d4
              clear hbx
              refine hK.out _ _ (by (try dsimp only); (exact ⟨d0, d1, d2, d3, d4⟩)) (fun hHeld => ?_)
              clear hK K
              try simp only [Act.put, zA, zB, zC, zD, zE, zF]
              refine wpAnyH_take (i := 8) (v := ?vy7) rfl (by kernel_rfl) (by kernel_rfl) (by kernel_rfl) (fun _ _ _ h => h) (Or.inl ⟨by kernel_rfl, ?hyy7⟩) (by assumption) ?resty7
              case hyy7 => (intro w hSw; (try dsimp only at hSw); go_simp; (try (first | with_reducible rfl | rw [if_neg (by omega)])))
              try simp only [Act.put, zA, zB, zC, zD, zE, zF]
              refine wpAnyH_take (i := 9) (v := ?vy8) rfl (by kernel_rfl) (by kernel_rfl) (by kernel_rfl) (fun _ _ _ h => h) (Or.inl ⟨by kernel_rfl, ?hyy8⟩) (by assumption) ?resty8
              case hyy8 => (intro w hSw; (try dsimp only at hSw); go_simp; (try (first | with_reducible rfl | rw [if_neg (by omega)])))
              try simp only [Act.put, zA, zB, zC, zD, zE, zF]
              refine wpAnyH_take (i := 10) (v := ?vy9) rfl (by kernel_rfl) (by kernel_rfl) (by kernel_rfl) (fun _ _ _ h => h) (Or.inl ⟨by kernel_rfl, ?hyy9⟩) (by assumption) ?resty9
              case hyy9 => (intro w hSw; (try dsimp only at hSw); go_simp; (try (first | with_reducible rfl | rw [if_neg (by omega)])))
              try simp only [Act.put, zA, zB, zC, zD, zE, zF]
              refine wpAnyH_take (i := 11) (v := undef) rfl (by kernel_rfl) (by kernel_rfl) (by kernel_rfl) (fun _ _ _ h => h) (Or.inr ⟨by kernel_rfl, rfl⟩) (by assumption) ?_
              try simp only [Act.put, zA, zB, zC, zD, zE, zF]
              refine wpAnyH_take (i := 12) (v := undef) rfl (by kernel_rfl) (by kernel_rfl) (by kernel_rfl) (fun _ _ _ h => h) (Or.inr ⟨by kernel_rfl, rfl⟩) (by assumption) ?_
              try simp only [Act.put, zA, zB, zC, zD, zE, zF]
              refine wpAnyH_take (i := 13) (v := undef) rfl (by kernel_rfl) (by kernel_rfl) (by kernel_rfl) (fun _ _ _ h => h) (Or.inr ⟨by kernel_rfl, rfl⟩) (by assumption) ?_
              try simp only [Act.put, zA, zB, zC, zD, zE, zF]
              refine wpAnyH_take (i := 14) (v := undef) rfl (by kernel_rfl) (by kernel_rfl) (by kernel_rfl) (fun _ _ _ h => h) (Or.inr ⟨by kernel_rfl, rfl⟩) (by assumption) ?_
              try simp only [Act.put, zA, zB, zC, zD, zE, zF]
              refine wpAnyH_take (i := 15) (v := undef) rfl (by kernel_rfl) (by kernel_rfl) (by kernel_rfl) (fun _ _ _ h => h) (Or.inr ⟨by kernel_rfl, rfl⟩) (by assumption) ?_
              try simp only [Act.put, zA, zB, zC, zD, zE, zF]
              refine wpAnyH_take (i := 16) (v := undef) rfl (by kernel_rfl) (by kernel_rfl) (by kernel_rfl) (fun _ _ _ h => h) (Or.inr ⟨by kernel_rfl, rfl⟩) (by assumption) ?_
              try simp only [Act.put, zA, zB, zC, zD, zE, zF]
              refine wpAnyH_take (i := 17) (v := undef) rfl (by kernel_rfl) (by kernel_rfl) (by kernel_rfl) (fun _ _ _ h => h) (Or.inr ⟨by kernel_rfl, rfl⟩) (by assumption) ?_
              try simp only [Act.put, zA, zB, zC, zD, zE, zF]
              refine wpAnyH_take (i := 18) (v := undef) rfl (by kernel_rfl) (by kernel_rfl) (by kernel_rfl) (fun _ _ _ h => h) (Or.inr ⟨by kernel_rfl, rfl⟩) (by assumption) ?_
              try simp only [Act.put, zA, zB, zC, zD, zE, zF]
              refine wpAnyH_take (i := 19) (v := undef) rfl (by kernel_rfl) (by kernel_rfl) (by kernel_rfl) (fun _ _ _ h => h) (Or.inr ⟨by kernel_rfl, rfl⟩) (by assumption) ?_
              try simp only [Act.put, zA, zB, zC, zD, zE, zF]
              refine wpAnyH_take (i := 20) (v := undef) rfl (by kernel_rfl) (by kernel_rfl) (by kernel_rfl) (fun _ _ _ h => h) (Or.inr ⟨by kernel_rfl, rfl⟩) (by assumption) ?_
              try simp only [Act.put, zA, zB, zC, zD, zE, zF]
              refine wpAnyH_take (i := 21) (v := undef) rfl (by kernel_rfl) (by kernel_rfl) (by kernel_rfl) (fun _ _ _ h => h) (Or.inr ⟨by kernel_rfl, rfl⟩) (by assumption) ?_
              try simp only [Act.put, zA, zB, zC, zD, zE, zF]
              refine wpAnyH_take (i := 22) (v := undef) rfl (by kernel_rfl) (by kernel_rfl) (by kernel_rfl) (fun _ _ _ h => h) (Or.inr ⟨by kernel_rfl, rfl⟩) (by assumption) ?_
              try simp only [Act.put, zA, zB, zC, zD, zE, zF]
              refine wpAnyH_take (i := 23) (v := undef) rfl (by kernel_rfl) (by kernel_rfl) (by kernel_rfl) (fun _ _ _ h => h) (Or.inr ⟨by kernel_rfl, rfl⟩) (by assumption) ?_
              try simp only [Act.put, zA, zB, zC, zD, zE, zF]
              refine wpAnyH_take (i := 24) (v := undef) rfl (by kernel_rfl) (by kernel_rfl) (by kernel_rfl) (fun _ _ _ h => h) (Or.inr ⟨by kernel_rfl, rfl⟩) (by assumption) ?_
              try simp only [Act.put, zA, zB, zC, zD, zE, zF]
              refine wpAnyH_take (i := 25) (v := ?vy24) rfl (by kernel_rfl) (by kernel_rfl) (by kernel_rfl) (fun _ _ _ h => h) (Or.inl ⟨by kernel_rfl, ?hyy24⟩) (by assumption) ?resty24
              case hyy24 => (intro w hSw; (try dsimp only at hSw); go_simp; (try (first | with_reducible rfl | rw [if_neg (by omega)])))
              try simp only [Act.put, zA, zB, zC, zD, zE, zF]
              refine wpAnyH_done (by kernel_rfl) ?_ _
              go_wp2
              go_ret
              rw [HF.out]
              exact ⟨rfl, hD⟩
            exact AllReadyH.nil
          exact AllReadyH.nil
      | true =>
      by_cases hi0 : i = 0
      · have HN : Hid ((∀ j (h : j < l.length), j < i + 1 → rowOk l[j] = true) ∧ ∀ j (h : j + 1 < l.length), j + 1 < i + 1 → less l[j].c l[j + 1].c = true) := by
          refine ⟨fun j h hj => ?_, fun j h hj => absurd hj (by omega)⟩
          obtain rfl : j = i := by omega
          exact HLO.out
        have hg1 : decide ((0 : Int) < (i : Int)) = false := by simpa using hi0
        have hg2 : decide (0 < i) = false := by simpa using hi0
        clear hi0 he' HLO
        have hbx0 := heap_alloc_new wr (bxSn a' b' c' d' e')
        have k0 := d0
        have k1 := d1
        have k2 := d2
        have k3 := d3
        have k4 := d4
        clear d0 d1 d2 d3 d4
        obtain ⟨d0, d1, d2, d3, d4, dz⟩ := cellsSn a' b' c' d' e' hbx0
        replace d0 : (wr.alloc (bxSn a' b' c' d' e')).drew.cell? ⟨wr.heap.size, 0, none⟩ = _ := d0
        replace d1 : (wr.alloc (bxSn a' b' c' d' e')).drew.cell? ⟨wr.heap.size, 1, none⟩ = _ := d1
        replace d2 : (wr.alloc (bxSn a' b' c' d' e')).drew.cell? ⟨wr.heap.size, 2, none⟩ = _ := d2
        replace d3 : (wr.alloc (bxSn a' b' c' d' e')).drew.cell? ⟨wr.heap.size, 3, none⟩ = _ := d3
        replace d4 : (wr.alloc (bxSn a' b' c' d' e')).drew.cell? ⟨wr.heap.size, 4, none⟩ = _ := d4
        · go_wp2_with fail
          refine wp_region_held_drew (S := fun w' => w'.cell? ⟨wr.heap.size, 0, none⟩ = some (.string a') ∧ w'.cell? ⟨wr.heap.size, 1, none⟩ = some (.int .i64 b') ∧ w'.cell? ⟨wr.heap.size, 2, none⟩ = some (.int .i64 c') ∧ w'.cell? ⟨wr.heap.size, 3, none⟩ = some (.int .i64 d') ∧ w'.cell? ⟨wr.heap.size, 4, none⟩ = some (.string e')) (by kernel_rfl) (by exact ⟨d0, d1, d2, d3, d4⟩) (fun hHeld => ?_)
          refine wpAnyH_take (i := 0) (v := ?vz1) rfl (by kernel_rfl) (by kernel_rfl) (by kernel_rfl) (fun _ _ _ h => h) (Or.inl ⟨by kernel_rfl, ?hyz1⟩) (by assumption) ?restz1
          case hyz1 => (intro w hSw; (try dsimp only at hSw); go_simp; (try (first | with_reducible rfl | rw [if_neg (by omega)])))
          try simp only [Act.put, zA, zB, zC, zD, zE, zF]
          refine wpAnyH_take (i := 1) (v := ?vz2) rfl (by kernel_rfl) (by kernel_rfl) (by kernel_rfl) (fun _ _ _ h => h) (Or.inl ⟨by kernel_rfl, ?hyz2⟩) (by assumption) ?restz2
          case hyz2 => (intro w hSw; (try dsimp only at hSw); go_simp; (try (first | with_reducible rfl | rw [if_neg (by omega)])))
          try simp only [Act.put, zA, zB, zC, zD, zE, zF]
          refine wpAnyH_ready (rs := [2]) (by kernel_rfl) (by simp) ?_
          refine AllReadyH.cons rfl (fun K hK => ?_) ?_
          · go_simp
            go_at_call 74
            with_reducible refine (re_ (Is_calls a' _ z1) (ret_bool HI.out)).mono ?_
            rintro e wx ⟨rfl, hbx⟩
            replace hD := below_call hD hbx
            replace d0 := cell_below hbx d0
            replace d1 := cell_below hbx d1
            replace d2 := cell_below hbx d2
            replace d3 := cell_below hbx d3
            replace d4 := cell_below hbx d4
            clear hbx
            refine hK.out _ _ (by (try dsimp only); (exact ⟨d0, d1, d2, d3, d4⟩)) (fun hHeld => ?_)
            clear hK K
            try simp only [Act.put, zA, zB, zC, zD, zE, zF]
            refine wpAnyH_take (i := 3) (v := ?vz3) rfl (by kernel_rfl) (by kernel_rfl) (by kernel_rfl) (fun _ _ _ h => h) (Or.inl ⟨by kernel_rfl, ?hyz3⟩) (by assumption) ?restz3
            case hyz3 => (intro w hSw; (try dsimp only at hSw); go_simp; (try (first | with_reducible rfl | rw [if_neg (by omega)])))
            try simp only [Act.put, zA, zB, zC, zD, zE, zF]
            refine wpAnyH_take (i := 4) (v := ?vz4) rfl (by kernel_rfl) (by kernel_rfl) (by kernel_rfl) (fun _ _ _ h => h) (Or.inl ⟨by kernel_rfl, ?hyz4⟩) (by assumption) ?restz4
            case hyz4 => (intro w hSw; (try dsimp only at hSw); go_simp; (try (first | with_reducible rfl | rw [if_neg (by omega)])))
            try simp only [Act.put, zA, zB, zC, zD, zE, zF]
            refine wpAnyH_take (i := 5) (v := ?vz5) rfl (by kernel_rfl) (by kernel_rfl) (by kernel_rfl) (fun _ _ _ h => h) (Or.inl ⟨by kernel_rfl, ?hyz5⟩) (by assumption) ?restz5
            case hyz5 => (intro w hSw; (try dsimp only at hSw); go_simp; (try (first | with_reducible rfl | rw [if_neg (by omega)])))
            try simp only [Act.put, zA, zB, zC, zD, zE, zF]
            refine wpAnyH_take (i := 6) (v := ?vz6) rfl (by kernel_rfl) (by kernel_rfl) (by kernel_rfl) (fun _ _ _ h => h) (Or.inl ⟨by kernel_rfl, ?hyz6⟩) (by assumption) ?restz6
            case hyz6 => (intro w hSw; (try dsimp only at hSw); go_simp; (try (first | with_reducible rfl | rw [if_neg (by omega)])))
            try simp only [Act.put, zA, zB, zC, zD, zE, zF]
            refine wpAnyH_ready (rs := [7]) (by kernel_rfl) (by simp) ?_
            refine AllReadyH.cons rfl (fun K hK => ?_) ?_
            · go_simp
              go_at_call 75
              with_reducible refine (re_ (may_calls b' c' d' e' _ z2) (ret_bool HV.out)).mono ?_
              rintro e wx ⟨rfl, hbx⟩
              replace hD := below_call hD hbx
              replace d0 := cell_below hbx d0
              replace d1 := cell_below hbx d1
              replace d2 := cell_below hbx d2
              replace d3 := cell_below hbx d3
              replace d4 := cell_below hbx d4
              clear hbx
              refine hK.out _ _ (by (try dsimp only); (exact ⟨d0, d1, d2, d3, d4⟩)) (fun hHeld => ?_)
              clear hK K
              try simp only [Act.put, zA, zB, zC, zD, zE, zF]
              refine wpAnyH_take (i := 8) (v := ?vz7) rfl (by kernel_rfl) (by kernel_rfl) (by kernel_rfl) (fun _ _ _ h => h) (Or.inl ⟨by kernel_rfl, ?hyz7⟩) (by assumption) ?restz7
              case hyz7 => (intro w hSw; (try dsimp only at hSw); go_simp; (try (first | with_reducible rfl | rw [if_neg (by omega)])))
              try simp only [Act.put, zA, zB, zC, zD, zE, zF]
              refine wpAnyH_take (i := 9) (v := ?vz8) rfl (by kernel_rfl) (by kernel_rfl) (by kernel_rfl) (fun _ _ _ h => h) (Or.inl ⟨by kernel_rfl, ?hyz8⟩) (by assumption) ?restz8
              case hyz8 => (intro w hSw; (try dsimp only at hSw); go_simp; (try (first | with_reducible rfl | rw [if_neg (by omega)])))
              try simp only [Act.put, zA, zB, zC, zD, zE, zF]
              refine wpAnyH_take (i := 10) (v := ?vz9) rfl (by kernel_rfl) (by kernel_rfl) (by kernel_rfl) (fun _ _ _ h => h) (Or.inl ⟨by kernel_rfl, ?hyz9⟩) (by assumption) ?restz9
              case hyz9 => (intro w hSw; (try dsimp only at hSw); go_simp; (try (first | with_reducible rfl | rw [if_neg (by omega)])))
              try simp only [Act.put, zA, zB, zC, zD, zE, zF]
              refine wpAnyH_take (i := 11) (v := ?vz10) rfl (by kernel_rfl) (by kernel_rfl) (by kernel_rfl) (fun _ _ _ h => h) (Or.inl ⟨by kernel_rfl, ?hyz10⟩) (by assumption) ?restz10
              case hyz10 => (intro w hSw; (try dsimp only at hSw); go_simp; (try (first | with_reducible rfl | rw [if_neg (by omega)])))
              try simp only [Act.put, zA, zB, zC, zD, zE, zF]
              refine wpAnyH_take (i := 12) (v := ?vz11) rfl (by kernel_rfl) (by kernel_rfl) (by kernel_rfl) (fun _ _ _ h => h) (Or.inl ⟨by kernel_rfl, ?hyz11⟩) (by assumption) ?restz11
              case hyz11 => (intro w hSw; (try dsimp only at hSw); go_simp; (try (first | with_reducible rfl | rw [if_neg (by omega)])))
              try simp only [Act.put, zA, zB, zC, zD, zE, zF]
              refine wpAnyH_take (i := 13) (v := ?vz12) rfl (by kernel_rfl) (by kernel_rfl) (by kernel_rfl) (fun _ _ _ h => h) (Or.inl ⟨by kernel_rfl, ?hyz12⟩) (by assumption) ?restz12
              case hyz12 => (intro w hSw; (try dsimp only at hSw); go_simp; (try (first | with_reducible rfl | rw [if_neg (by omega)])))
              try simp only [Act.put, zA, zB, zC, zD, zE, zF]
              refine wpAnyH_take (i := 14) (v := undef) rfl (by kernel_rfl) (by kernel_rfl) (by kernel_rfl) (fun _ _ _ h => h) (Or.inr ⟨by kernel_rfl, rfl⟩) (by assumption) ?_
              try simp only [Act.put, zA, zB, zC, zD, zE, zF]
              refine wpAnyH_take (i := 15) (v := undef) rfl (by kernel_rfl) (by kernel_rfl) (by kernel_rfl) (fun _ _ _ h => h) (Or.inr ⟨by kernel_rfl, rfl⟩) (by assumption) ?_
              try simp only [Act.put, zA, zB, zC, zD, zE, zF]
              refine wpAnyH_take (i := 16) (v := undef) rfl (by kernel_rfl) (by kernel_rfl) (by kernel_rfl) (fun _ _ _ h => h) (Or.inr ⟨by kernel_rfl, rfl⟩) (by assumption) ?_
              try simp only [Act.put, zA, zB, zC, zD, zE, zF]
              refine wpAnyH_take (i := 17) (v := undef) rfl (by kernel_rfl) (by kernel_rfl) (by kernel_rfl) (fun _ _ _ h => h) (Or.inr ⟨by kernel_rfl, rfl⟩) (by assumption) ?_
              try simp only [Act.put, zA, zB, zC, zD, zE, zF]
              refine wpAnyH_take (i := 18) (v := undef) rfl (by kernel_rfl) (by kernel_rfl) (by kernel_rfl) (fun _ _ _ h => h) (Or.inr ⟨by kernel_rfl, rfl⟩) (by assumption) ?_
              try simp only [Act.put, zA, zB, zC, zD, zE, zF]
              refine wpAnyH_take (i := 19) (v := undef) rfl (by kernel_rfl) (by kernel_rfl) (by kernel_rfl) (fun _ _ _ h => h) (Or.inr ⟨by kernel_rfl, rfl⟩) (by assumption) ?_
              try simp only [Act.put, zA, zB, zC, zD, zE, zF]
              refine wpAnyH_take (i := 20) (v := undef) rfl (by kernel_rfl) (by kernel_rfl) (by kernel_rfl) (fun _ _ _ h => h) (Or.inr ⟨by kernel_rfl, rfl⟩) (by assumption) ?_
              try simp only [Act.put, zA, zB, zC, zD, zE, zF]
              refine wpAnyH_take (i := 21) (v := undef) rfl (by kernel_rfl) (by kernel_rfl) (by kernel_rfl) (fun _ _ _ h => h) (Or.inr ⟨by kernel_rfl, rfl⟩) (by assumption) ?_
              try simp only [Act.put, zA, zB, zC, zD, zE, zF]
              refine wpAnyH_take (i := 22) (v := undef) rfl (by kernel_rfl) (by kernel_rfl) (by kernel_rfl) (fun _ _ _ h => h) (Or.inr ⟨by kernel_rfl, rfl⟩) (by assumption) ?_
              try simp only [Act.put, zA, zB, zC, zD, zE, zF]
              refine wpAnyH_take (i := 23) (v := undef) rfl (by kernel_rfl) (by kernel_rfl) (by kernel_rfl) (fun _ _ _ h => h) (Or.inr ⟨by kernel_rfl, rfl⟩) (by assumption) ?_
              try simp only [Act.put, zA, zB, zC, zD, zE, zF]
              refine wpAnyH_take (i := 24) (v := ?vz23) rfl (by kernel_rfl) (by kernel_rfl) (by kernel_rfl) (fun _ _ _ h => h) (Or.inl ⟨by kernel_rfl, ?hyz23⟩) (by assumption) ?restz23
              case hyz23 => (intro w hSw; (try dsimp only at hSw); go_simp; (try (first | with_reducible rfl | rw [if_neg (by omega)])))
              try simp only [Act.put, zA, zB, zC, zD, zE, zF]
              refine wpAnyH_take (i := 25) (v := ?vz24) rfl (by kernel_rfl) (by kernel_rfl) (by kernel_rfl) (fun _ _ _ h => h) (Or.inl ⟨by kernel_rfl, ?hyz24⟩) (by assumption) ?restz24
              case hyz24 => (intro w hSw; (try dsimp only at hSw); go_simp; (try (first | with_reducible rfl | rw [if_neg (by omega)])))
              try simp only [Act.put, zA, zB, zC, zD, zE, zF]
              refine wpAnyH_done (by kernel_rfl) ?_ _
              go_wp2
              exact ⟨⟨i + 1, by go_num, by omega, hD, HN⟩, by simp [intOf]; omega⟩
            exact AllReadyH.nil
          exact AllReadyH.nil
      · obtain ⟨q, hq⟩ : ∃ q, q = i - 1 := ⟨_, rfl⟩
        have hqi : q + 1 = i := by omega
        have hql : q < l.length := by omega
        obtain ⟨⟨a_, b_, c_, d_, e_⟩, he⟩ : ∃ e, l[q] = e := ⟨_, rfl⟩
        obtain ⟨c0, c1, c2, c3, c4⟩ := rowsSn (hl.below hB) q hql a_ b_ c_ d_ e_ he
        obtain ⟨b, hb⟩ : ∃ b, less a_ a' = b := ⟨_, rfl⟩
        have HB := Lib.hid hb
        have HADJ : Hid (∃ h : q + 1 < l.length, less l[q].c l[q + 1].c = b) := by
          subst hqi
          exact ⟨hil, by rw [he, he', ← hb]⟩
        have hw : IntKind.i64.wrap ((i : Int) - 1) = ((q : Nat) : Int) := by
          have : (i : Int) - 1 = (q : Int) := by omega
          rw [this, IntKind.wrap_i64]; omega
        have x1 : (0 : Int) ≤ (q : Int) := by omega
        have x2 : (q : Int) < (n : Int) := by omega
        have hg : decide (0 < i) = true := decide_eq_true (by omega)
        have hg3 : decide ((0 : Int) < (i : Int)) = true := decide_eq_true (by omega)
        have HQI := Lib.hid hqi
        clear hb he he' hq hqi hi0 c1 c2 c3 c4
        replace c0 := cell_below (below_box (bxSn a' b' c' d' e')) c0
        replace c0 : (wr.alloc (bxSn a' b' c' d' e')).drew.cell? (ad.add (q * 5)) = _ := c0
        have hbx0 := heap_alloc_new wr (bxSn a' b' c' d' e')
        have k0 := d0
        have k1 := d1
        have k2 := d2
        have k3 := d3
        have k4 := d4
        clear d0 d1 d2 d3 d4
        obtain ⟨d0, d1, d2, d3, d4, dz⟩ := cellsSn a' b' c' d' e' hbx0
        replace d0 : (wr.alloc (bxSn a' b' c' d' e')).drew.cell? ⟨wr.heap.size, 0, none⟩ = _ := d0
        replace d1 : (wr.alloc (bxSn a' b' c' d' e')).drew.cell? ⟨wr.heap.size, 1, none⟩ = _ := d1
        replace d2 : (wr.alloc (bxSn a' b' c' d' e')).drew.cell? ⟨wr.heap.size, 2, none⟩ = _ := d2
        replace d3 : (wr.alloc (bxSn a' b' c' d' e')).drew.cell? ⟨wr.heap.size, 3, none⟩ = _ := d3
        replace d4 : (wr.alloc (bxSn a' b' c' d' e')).drew.cell? ⟨wr.heap.size, 4, none⟩ = _ := d4
        cases b with
        | true =>
          have HN : Hid ((∀ j (h : j < l.length), j < i + 1 → rowOk l[j] = true) ∧ ∀ j (h : j + 1 < l.length), j + 1 < i + 1 → less l[j].c l[j + 1].c = true) := by
            refine ⟨fun j h hj => ?_, fun j h hj => ?_⟩
            · rcases Nat.lt_or_ge j i with h' | h'
              · exact HT.out.1 j h h'
              · obtain rfl : j = i := by omega
                exact HLO.out
            · rcases Nat.lt_or_ge (j + 1) i with h' | h'
              · exact HT.out.2 j h h'
              · obtain rfl : j = q := by have := HQI.out; omega
                exact HADJ.out.2
          clear HLO
          · go_wp2_with fail
            refine wp_region_held_drew (S := fun w' => w'.cell? (ad.add (q * 5)) = some (.string a_) ∧ w'.cell? ⟨wr.heap.size, 0, none⟩ = some (.string a') ∧ w'.cell? ⟨wr.heap.size, 1, none⟩ = some (.int .i64 b') ∧ w'.cell? ⟨wr.heap.size, 2, none⟩ = some (.int .i64 c') ∧ w'.cell? ⟨wr.heap.size, 3, none⟩ = some (.int .i64 d') ∧ w'.cell? ⟨wr.heap.size, 4, none⟩ = some (.string e')) (by kernel_rfl) (by exact ⟨c0, d0, d1, d2, d3, d4⟩) (fun hHeld => ?_)
            refine wpAnyH_take (i := 0) (v := ?vu1) rfl (by kernel_rfl) (by kernel_rfl) (by kernel_rfl) (fun _ _ _ h => h) (Or.inl ⟨by kernel_rfl, ?hyu1⟩) (by assumption) ?restu1
            case hyu1 => (intro w hSw; (try dsimp only at hSw); go_simp; (try (first | with_reducible rfl | rw [if_neg (by omega)])))
            try simp only [Act.put, zA, zB, zC, zD, zE, zF]
            refine wpAnyH_take (i := 1) (v := ?vu2) rfl (by kernel_rfl) (by kernel_rfl) (by kernel_rfl) (fun _ _ _ h => h) (Or.inl ⟨by kernel_rfl, ?hyu2⟩) (by assumption) ?restu2
            case hyu2 => (intro w hSw; (try dsimp only at hSw); go_simp; (try (first | with_reducible rfl | rw [if_neg (by omega)])))
            try simp only [Act.put, zA, zB, zC, zD, zE, zF]
            refine wpAnyH_ready (rs := [2]) (by kernel_rfl) (by simp) ?_
            refine AllReadyH.cons rfl (fun K hK => ?_) ?_
            · go_simp
              go_at_call 74
              with_reducible refine (re_ (Is_calls a' _ z1) (ret_bool HI.out)).mono ?_
              rintro e wx ⟨rfl, hbx⟩
              replace hD := below_call hD hbx
              replace c0 := cell_below hbx c0
              replace d0 := cell_below hbx d0
              replace d1 := cell_below hbx d1
              replace d2 := cell_below hbx d2
              replace d3 := cell_below hbx d3
              replace d4 := cell_below hbx d4
              clear hbx
              refine hK.out _ _ (by (try dsimp only); (exact ⟨c0, d0, d1, d2, d3, d4⟩)) (fun hHeld => ?_)
              clear hK K
              try simp only [Act.put, zA, zB, zC, zD, zE, zF]
              refine wpAnyH_take (i := 3) (v := ?vu3) rfl (by kernel_rfl) (by kernel_rfl) (by kernel_rfl) (fun _ _ _ h => h) (Or.inl ⟨by kernel_rfl, ?hyu3⟩) (by assumption) ?restu3
              case hyu3 => (intro w hSw; (try dsimp only at hSw); go_simp; (try (first | with_reducible rfl | rw [if_neg (by omega)])))
              try simp only [Act.put, zA, zB, zC, zD, zE, zF]
              refine wpAnyH_take (i := 4) (v := ?vu4) rfl (by kernel_rfl) (by kernel_rfl) (by kernel_rfl) (fun _ _ _ h => h) (Or.inl ⟨by kernel_rfl, ?hyu4⟩) (by assumption) ?restu4
              case hyu4 => (intro w hSw; (try dsimp only at hSw); go_simp; (try (first | with_reducible rfl | rw [if_neg (by omega)])))
              try simp only [Act.put, zA, zB, zC, zD, zE, zF]
              refine wpAnyH_take (i := 5) (v := ?vu5) rfl (by kernel_rfl) (by kernel_rfl) (by kernel_rfl) (fun _ _ _ h => h) (Or.inl ⟨by kernel_rfl, ?hyu5⟩) (by assumption) ?restu5
              case hyu5 => (intro w hSw; (try dsimp only at hSw); go_simp; (try (first | with_reducible rfl | rw [if_neg (by omega)])))
              try simp only [Act.put, zA, zB, zC, zD, zE, zF]
              refine wpAnyH_take (i := 6) (v := ?vu6) rfl (by kernel_rfl) (by kernel_rfl) (by kernel_rfl) (fun _ _ _ h => h) (Or.inl ⟨by kernel_rfl, ?hyu6⟩) (by assumption) ?restu6
              case hyu6 => (intro w hSw; (try dsimp only at hSw); go_simp; (try (first | with_reducible rfl | rw [if_neg (by omega)])))
              try simp only [Act.put, zA, zB, zC, zD, zE, zF]
              refine wpAnyH_ready (rs := [7]) (by kernel_rfl) (by simp) ?_
              refine AllReadyH.cons rfl (fun K hK => ?_) ?_
              · go_simp
                go_at_call 75
                with_reducible refine (re_ (may_calls b' c' d' e' _ z2) (ret_bool HV.out)).mono ?_
                rintro e wx ⟨rfl, hbx⟩
                replace hD := below_call hD hbx
                replace c0 := cell_below hbx c0
                replace d0 := cell_below hbx d0
                replace d1 := cell_below hbx d1
                replace d2 := cell_below hbx d2
                replace d3 := cell_below hbx d3
                replace d4 := cell_below hbx d4
                clear hbx
                refine hK.out _ _ (by (try dsimp only); (exact ⟨c0, d0, d1, d2, d3, d4⟩)) (fun hHeld => ?_)
                clear hK K
                try simp only [Act.put, zA, zB, zC, zD, zE, zF]
                refine wpAnyH_take (i := 8) (v := ?vu7) rfl (by kernel_rfl) (by kernel_rfl) (by kernel_rfl) (fun _ _ _ h => h) (Or.inl ⟨by kernel_rfl, ?hyu7⟩) (by assumption) ?restu7
                case hyu7 => (intro w hSw; (try dsimp only at hSw); go_simp; (try (first | with_reducible rfl | rw [if_neg (by omega)])))
                try simp only [Act.put, zA, zB, zC, zD, zE, zF]
                refine wpAnyH_take (i := 9) (v := ?vu8) rfl (by kernel_rfl) (by kernel_rfl) (by kernel_rfl) (fun _ _ _ h => h) (Or.inl ⟨by kernel_rfl, ?hyu8⟩) (by assumption) ?restu8
                case hyu8 => (intro w hSw; (try dsimp only at hSw); go_simp; (try (first | with_reducible rfl | rw [if_neg (by omega)])))
                try simp only [Act.put, zA, zB, zC, zD, zE, zF]
                refine wpAnyH_take (i := 10) (v := ?vu9) rfl (by kernel_rfl) (by kernel_rfl) (by kernel_rfl) (fun _ _ _ h => h) (Or.inl ⟨by kernel_rfl, ?hyu9⟩) (by assumption) ?restu9
                case hyu9 => (intro w hSw; (try dsimp only at hSw); go_simp; (try (first | with_reducible rfl | rw [if_neg (by omega)])))
                try simp only [Act.put, zA, zB, zC, zD, zE, zF]
                refine wpAnyH_take (i := 11) (v := ?vu10) rfl (by kernel_rfl) (by kernel_rfl) (by kernel_rfl) (fun _ _ _ h => h) (Or.inl ⟨by kernel_rfl, ?hyu10⟩) (by assumption) ?restu10
                case hyu10 => (intro w hSw; (try dsimp only at hSw); go_simp; (try (first | with_reducible rfl | rw [if_neg (by omega)])))
                try simp only [Act.put, zA, zB, zC, zD, zE, zF]
                refine wpAnyH_take (i := 12) (v := ?vu11) rfl (by kernel_rfl) (by kernel_rfl) (by kernel_rfl) (fun _ _ _ h => h) (Or.inl ⟨by kernel_rfl, ?hyu11⟩) (by assumption) ?restu11
                case hyu11 => (intro w hSw; (try dsimp only at hSw); go_simp; (try (first | with_reducible rfl | rw [if_neg (by omega)])))
                try simp only [Act.put, zA, zB, zC, zD, zE, zF]
                refine wpAnyH_take (i := 13) (v := ?vu12) rfl (by kernel_rfl) (by kernel_rfl) (by kernel_rfl) (fun _ _ _ h => h) (Or.inl ⟨by kernel_rfl, ?hyu12⟩) (by assumption) ?restu12
                case hyu12 => (intro w hSw; (try dsimp only at hSw); go_simp; (try (first | with_reducible rfl | rw [if_neg (by omega)])))
                try simp only [Act.put, zA, zB, zC, zD, zE, zF]
                refine wpAnyH_take (i := 14) (v := ?vu13) rfl (by kernel_rfl) (by kernel_rfl) (by kernel_rfl) (fun _ _ _ h => h) (Or.inl ⟨by kernel_rfl, ?hyu13⟩) (by assumption) ?restu13
                case hyu13 => (intro w hSw; (try dsimp only at hSw); go_simp; (try (first | with_reducible rfl | rw [if_neg (by omega)])))
                try simp only [Act.put, zA, zB, zC, zD, zE, zF]
                refine wpAnyH_take (i := 15) (v := ?vu14) rfl (by kernel_rfl) (by kernel_rfl) (by kernel_rfl) (fun _ _ _ h => h) (Or.inl ⟨by kernel_rfl, ?hyu14⟩) (by assumption) ?restu14
                case hyu14 => (intro w hSw; (try dsimp only at hSw); go_simp; (try (first | with_reducible rfl | rw [if_neg (by omega)])))
                try simp only [Act.put, zA, zB, zC, zD, zE, zF]
                refine wpAnyH_take (i := 16) (v := ?vu15) rfl (by kernel_rfl) (by kernel_rfl) (by kernel_rfl) (fun _ _ _ h => h) (Or.inl ⟨by kernel_rfl, ?hyu15⟩) (by assumption) ?restu15
                case hyu15 => (intro w hSw; (try dsimp only at hSw); go_simp; (try (first | with_reducible rfl | rw [if_neg (by omega)])))
                try simp only [Act.put, zA, zB, zC, zD, zE, zF]
                refine wpAnyH_take (i := 17) (v := ?vu16) rfl (by kernel_rfl) (by kernel_rfl) (by kernel_rfl) (fun _ _ _ h => h) (Or.inl ⟨by kernel_rfl, ?hyu16⟩) (by assumption) ?restu16
                case hyu16 => (intro w hSw; (try dsimp only at hSw); go_simp; (try (first | with_reducible rfl | rw [if_neg (by omega)])))
                try simp only [Act.put, zA, zB, zC, zD, zE, zF]
                refine wpAnyH_take (i := 18) (v := ?vu17) rfl (by kernel_rfl) (by kernel_rfl) (by kernel_rfl) (fun _ _ _ h => h) (Or.inl ⟨by kernel_rfl, ?hyu17⟩) (by assumption) ?restu17
                case hyu17 => (intro w hSw; (try dsimp only at hSw); go_simp; (try (first | with_reducible rfl | rw [if_neg (by omega)])))
                try simp only [Act.put, zA, zB, zC, zD, zE, zF]
                refine wpAnyH_take (i := 19) (v := ?vu18) rfl (by kernel_rfl) (by kernel_rfl) (by kernel_rfl) (fun _ _ _ h => h) (Or.inl ⟨by kernel_rfl, ?hyu18⟩) (by assumption) ?restu18
                case hyu18 => (intro w hSw; (try dsimp only at hSw); go_simp; (try (first | with_reducible rfl | rw [if_neg (by omega)])))
                try simp only [Act.put, zA, zB, zC, zD, zE, zF]
                refine wpAnyH_take (i := 20) (v := ?vu19) rfl (by kernel_rfl) (by kernel_rfl) (by kernel_rfl) (fun _ _ _ h => h) (Or.inl ⟨by kernel_rfl, ?hyu19⟩) (by assumption) ?restu19
                case hyu19 => (intro w hSw; (try dsimp only at hSw); go_simp; (try (first | with_reducible rfl | rw [if_neg (by omega)])))
                try simp only [Act.put, zA, zB, zC, zD, zE, zF]
                refine wpAnyH_take (i := 21) (v := ?vu20) rfl (by kernel_rfl) (by kernel_rfl) (by kernel_rfl) (fun _ _ _ h => h) (Or.inl ⟨by kernel_rfl, ?hyu20⟩) (by assumption) ?restu20
                case hyu20 => (intro w hSw; (try dsimp only at hSw); go_simp; (try (first | with_reducible rfl | rw [if_neg (by omega)])))
                try simp only [Act.put, zA, zB, zC, zD, zE, zF]
                refine wpAnyH_ready (rs := [22]) (by kernel_rfl) (by simp) ?_
                refine AllReadyH.cons rfl (fun K hK => ?_) ?_
                · go_simp
                  go_at_call 76
                  with_reducible refine (re_ (Less_calls a_ a' _) (ret_bool HB.out)).mono ?_
                  rintro e wx ⟨rfl, hbx⟩
                  replace hD := below_call hD hbx
                  replace c0 := cell_below hbx c0
                  replace d0 := cell_below hbx d0
                  replace d1 := cell_below hbx d1
                  replace d2 := cell_below hbx d2
                  replace d3 := cell_below hbx d3
                  replace d4 := cell_below hbx d4
                  clear hbx
                  refine hK.out _ _ (by (try dsimp only); (exact ⟨c0, d0, d1, d2, d3, d4⟩)) (fun hHeld => ?_)
                  clear hK K
                  try simp only [Act.put, zA, zB, zC, zD, zE, zF]
                  refine wpAnyH_take (i := 23) (v := ?vu21) rfl (by kernel_rfl) (by kernel_rfl) (by kernel_rfl) (fun _ _ _ h => h) (Or.inl ⟨by kernel_rfl, ?hyu21⟩) (by assumption) ?restu21
                  case hyu21 => (intro w hSw; (try dsimp only at hSw); go_simp; (try (first | with_reducible rfl | rw [if_neg (by omega)])))
                  try simp only [Act.put, zA, zB, zC, zD, zE, zF]
                  refine wpAnyH_take (i := 24) (v := ?vu22) rfl (by kernel_rfl) (by kernel_rfl) (by kernel_rfl) (fun _ _ _ h => h) (Or.inl ⟨by kernel_rfl, ?hyu22⟩) (by assumption) ?restu22
                  case hyu22 => (intro w hSw; (try dsimp only at hSw); go_simp; (try (first | with_reducible rfl | rw [if_neg (by omega)])))
                  try simp only [Act.put, zA, zB, zC, zD, zE, zF]
                  refine wpAnyH_take (i := 25) (v := ?vu23) rfl (by kernel_rfl) (by kernel_rfl) (by kernel_rfl) (fun _ _ _ h => h) (Or.inl ⟨by kernel_rfl, ?hyu23⟩) (by assumption) ?restu23
                  case hyu23 => (intro w hSw; (try dsimp only at hSw); go_simp; (try (first | with_reducible rfl | rw [if_neg (by omega)])))
                  try simp only [Act.put, zA, zB, zC, zD, zE, zF]
                  refine wpAnyH_done (by kernel_rfl) ?_ _
                  go_wp2
                  exact ⟨⟨i + 1, by go_num, by omega, hD, HN⟩, by simp [intOf]; omega⟩
                exact AllReadyH.nil
              exact AllReadyH.nil
            exact AllReadyH.nil
        | false =>
          have HF : Hid (r = false) := by
            show _ = _
            rw [← HR.out]
            exact mayT_adj q HADJ.out.1 HADJ.out.2
          clear HLO
          · go_wp2_with fail
            refine wp_region_held_drew (S := fun w' => w'.cell? (ad.add (q * 5)) = some (.string a_) ∧ w'.cell? ⟨wr.heap.size, 0, none⟩ = some (.string a') ∧ w'.cell? ⟨wr.heap.size, 1, none⟩ = some (.int .i64 b') ∧ w'.cell? ⟨wr.heap.size, 2, none⟩ = some (.int .i64 c') ∧ w'.cell? ⟨wr.heap.size, 3, none⟩ = some (.int .i64 d') ∧ w'.cell? ⟨wr.heap.size, 4, none⟩ = some (.string e')) (by kernel_rfl) (by exact ⟨c0, d0, d1, d2, d3, d4⟩) (fun hHeld => ?_)
            refine wpAnyH_take (i := 0) (v := ?vv1) rfl (by kernel_rfl) (by kernel_rfl) (by kernel_rfl) (fun _ _ _ h => h) (Or.inl ⟨by kernel_rfl, ?hyv1⟩) (by assumption) ?restv1
            case hyv1 => (intro w hSw; (try dsimp only at hSw); go_simp; (try (first | with_reducible rfl | rw [if_neg (by omega)])))
            try simp only [Act.put, zA, zB, zC, zD, zE, zF]
            refine wpAnyH_take (i := 1) (v := ?vv2) rfl (by kernel_rfl) (by kernel_rfl) (by kernel_rfl) (fun _ _ _ h => h) (Or.inl ⟨by kernel_rfl, ?hyv2⟩) (by assumption) ?restv2
            case hyv2 => (intro w hSw; (try dsimp only at hSw); go_simp; (try (first | with_reducible rfl | rw [if_neg (by omega)])))
            try simp only [Act.put, zA, zB, zC, zD, zE, zF]
            refine wpAnyH_ready (rs := [2]) (by kernel_rfl) (by simp) ?_
            refine AllReadyH.cons rfl (fun K hK => ?_) ?_
            · go_simp
              go_at_call 74
              with_reducible refine (re_ (Is_calls a' _ z1) (ret_bool HI.out)).mono ?_
              rintro e wx ⟨rfl, hbx⟩
              replace hD := below_call hD hbx
              replace c0 := cell_below hbx c0
              replace d0 := cell_below hbx d0
              replace d1 := cell_below hbx d1
              replace d2 := cell_below hbx d2
              replace d3 := cell_below hbx d3
              replace d4 := cell_below hbx d4
              clear hbx
              refine hK.out _ _ (by (try dsimp only); (exact ⟨c0, d0, d1, d2, d3, d4⟩)) (fun hHeld => ?_)
              clear hK K
              try simp only [Act.put, zA, zB, zC, zD, zE, zF]
              refine wpAnyH_take (i := 3) (v := ?vv3) rfl (by kernel_rfl) (by kernel_rfl) (by kernel_rfl) (fun _ _ _ h => h) (Or.inl ⟨by kernel_rfl, ?hyv3⟩) (by assumption) ?restv3
              case hyv3 => (intro w hSw; (try dsimp only at hSw); go_simp; (try (first | with_reducible rfl | rw [if_neg (by omega)])))
              try simp only [Act.put, zA, zB, zC, zD, zE, zF]
              refine wpAnyH_take (i := 4) (v := ?vv4) rfl (by kernel_rfl) (by kernel_rfl) (by kernel_rfl) (fun _ _ _ h => h) (Or.inl ⟨by kernel_rfl, ?hyv4⟩) (by assumption) ?restv4
              case hyv4 => (intro w hSw; (try dsimp only at hSw); go_simp; (try (first | with_reducible rfl | rw [if_neg (by omega)])))
              try simp only [Act.put, zA, zB, zC, zD, zE, zF]
              refine wpAnyH_take (i := 5) (v := ?vv5) rfl (by kernel_rfl) (by kernel_rfl) (by kernel_rfl) (fun _ _ _ h => h) (Or.inl ⟨by kernel_rfl, ?hyv5⟩) (by assumption) ?restv5
              case hyv5 => (intro w hSw; (try dsimp only at hSw); go_simp; (try (first | with_reducible rfl | rw [if_neg (by omega)])))
              try simp only [Act.put, zA, zB, zC, zD, zE, zF]
              refine wpAnyH_take (i := 6) (v := ?vv6) rfl (by kernel_rfl) (by kernel_rfl) (by kernel_rfl) (fun _ _ _ h => h) (Or.inl ⟨by kernel_rfl, ?hyv6⟩) (by assumption) ?restv6
              case hyv6 => (intro w hSw; (try dsimp only at hSw); go_simp; (try (first | with_reducible rfl | rw [if_neg (by omega)])))
              try simp only [Act.put, zA, zB, zC, zD, zE, zF]
              refine wpAnyH_ready (rs := [7]) (by kernel_rfl) (by simp) ?_
              refine AllReadyH.cons rfl (fun K hK => ?_) ?_
              · go_simp
                go_at_call 75
                with_reducible refine (re_ (may_calls b' c' d' e' _ z2) (ret_bool HV.out)).mono ?_
                rintro e wx ⟨rfl, hbx⟩
                replace hD := below_call hD hbx
                replace c0 := cell_below hbx c0
                replace d0 := cell_below hbx d0
                replace d1 := cell_below hbx d1
                replace d2 := cell_below hbx d2
                replace d3 := cell_below hbx d3
                replace d4 := cell_below hbx d4
                clear hbx
                refine hK.out _ _ (by (try dsimp only); (exact ⟨c0, d0, d1, d2, d3, d4⟩)) (fun hHeld => ?_)
                clear hK K
                try simp only [Act.put, zA, zB, zC, zD, zE, zF]
                refine wpAnyH_take (i := 8) (v := ?vv7) rfl (by kernel_rfl) (by kernel_rfl) (by kernel_rfl) (fun _ _ _ h => h) (Or.inl ⟨by kernel_rfl, ?hyv7⟩) (by assumption) ?restv7
                case hyv7 => (intro w hSw; (try dsimp only at hSw); go_simp; (try (first | with_reducible rfl | rw [if_neg (by omega)])))
                try simp only [Act.put, zA, zB, zC, zD, zE, zF]
                refine wpAnyH_take (i := 9) (v := ?vv8) rfl (by kernel_rfl) (by kernel_rfl) (by kernel_rfl) (fun _ _ _ h => h) (Or.inl ⟨by kernel_rfl, ?hyv8⟩) (by assumption) ?restv8
                case hyv8 => (intro w hSw; (try dsimp only at hSw); go_simp; (try (first | with_reducible rfl | rw [if_neg (by omega)])))
                try simp only [Act.put, zA, zB, zC, zD, zE, zF]
                refine wpAnyH_take (i := 10) (v := ?vv9) rfl (by kernel_rfl) (by kernel_rfl) (by kernel_rfl) (fun _ _ _ h => h) (Or.inl ⟨by kernel_rfl, ?hyv9⟩) (by assumption) ?restv9
                case hyv9 => (intro w hSw; (try dsimp only at hSw); go_simp; (try (first | with_reducible rfl | rw [if_neg (by omega)])))
                try simp only [Act.put, zA, zB, zC, zD, zE, zF]
                refine wpAnyH_take (i := 11) (v := ?vv10) rfl (by kernel_rfl) (by kernel_rfl) (by kernel_rfl) (fun _ _ _ h => h) (Or.inl ⟨by kernel_rfl, ?hyv10⟩) (by assumption) ?restv10
                case hyv10 => (intro w hSw; (try dsimp only at hSw); go_simp; (try (first | with_reducible rfl | rw [if_neg (by omega)])))
                try simp only [Act.put, zA, zB, zC, zD, zE, zF]
                refine wpAnyH_take (i := 12) (v := ?vv11) rfl (by kernel_rfl) (by kernel_rfl) (by kernel_rfl) (fun _ _ _ h => h) (Or.inl ⟨by kernel_rfl, ?hyv11⟩) (by assumption) ?restv11
                case hyv11 => (intro w hSw; (try dsimp only at hSw); go_simp; (try (first | with_reducible rfl | rw [if_neg (by omega)])))
                try simp only [Act.put, zA, zB, zC, zD, zE, zF]
                refine wpAnyH_take (i := 13) (v := ?vv12) rfl (by kernel_rfl) (by kernel_rfl) (by kernel_rfl) (fun _ _ _ h => h) (Or.inl ⟨by kernel_rfl, ?hyv12⟩) (by assumption) ?restv12
                case hyv12 => (intro w hSw; (try dsimp only at hSw); go_simp; (try (first | with_reducible rfl | rw [if_neg (by omega)])))
                try simp only [Act.put, zA, zB, zC, zD, zE, zF]
                refine wpAnyH_take (i := 14) (v := ?vv13) rfl (by kernel_rfl) (by kernel_rfl) (by kernel_rfl) (fun _ _ _ h => h) (Or.inl ⟨by kernel_rfl, ?hyv13⟩) (by assumption) ?restv13
                case hyv13 => (intro w hSw; (try dsimp only at hSw); go_simp; (try (first | with_reducible rfl | rw [if_neg (by omega)])))
                try simp only [Act.put, zA, zB, zC, zD, zE, zF]
                refine wpAnyH_take (i := 15) (v := ?vv14) rfl (by kernel_rfl) (by kernel_rfl) (by kernel_rfl) (fun _ _ _ h => h) (Or.inl ⟨by kernel_rfl, ?hyv14⟩) (by assumption) ?restv14
                case hyv14 => (intro w hSw; (try dsimp only at hSw); go_simp; (try (first | with_reducible rfl | rw [if_neg (by omega)])))
                try simp only [Act.put, zA, zB, zC, zD, zE, zF]
                refine wpAnyH_take (i := 16) (v := ?vv15) rfl (by kernel_rfl) (by kernel_rfl) (by kernel_rfl) (fun _ _ _ h => h) (Or.inl ⟨by kernel_rfl, ?hyv15⟩) (by assumption) ?restv15
                case hyv15 => (intro w hSw; (try dsimp only at hSw); go_simp; (try (first | with_reducible rfl | rw [if_neg (by omega)])))
                try simp only [Act.put, zA, zB, zC, zD, zE, zF]
                refine wpAnyH_take (i := 17) (v := ?vv16) rfl (by kernel_rfl) (by kernel_rfl) (by kernel_rfl) (fun _ _ _ h => h) (Or.inl ⟨by kernel_rfl, ?hyv16⟩) (by assumption) ?restv16
                case hyv16 => (intro w hSw; (try dsimp only at hSw); go_simp; (try (first | with_reducible rfl | rw [if_neg (by omega)])))
                try simp only [Act.put, zA, zB, zC, zD, zE, zF]
                refine wpAnyH_take (i := 18) (v := ?vv17) rfl (by kernel_rfl) (by kernel_rfl) (by kernel_rfl) (fun _ _ _ h => h) (Or.inl ⟨by kernel_rfl, ?hyv17⟩) (by assumption) ?restv17
                case hyv17 => (intro w hSw; (try dsimp only at hSw); go_simp; (try (first | with_reducible rfl | rw [if_neg (by omega)])))
                try simp only [Act.put, zA, zB, zC, zD, zE, zF]
                refine wpAnyH_take (i := 19) (v := ?vv18) rfl (by kernel_rfl) (by kernel_rfl) (by kernel_rfl) (fun _ _ _ h => h) (Or.inl ⟨by kernel_rfl, ?hyv18⟩) (by assumption) ?restv18
                case hyv18 => (intro w hSw; (try dsimp only at hSw); go_simp; (try (first | with_reducible rfl | rw [if_neg (by omega)])))
                try simp only [Act.put, zA, zB, zC, zD, zE, zF]
                refine wpAnyH_take (i := 20) (v := ?vv19) rfl (by kernel_rfl) (by kernel_rfl) (by kernel_rfl) (fun _ _ _ h => h) (Or.inl ⟨by kernel_rfl, ?hyv19⟩) (by assumption) ?restv19
                case hyv19 => (intro w hSw; (try dsimp only at hSw); go_simp; (try (first | with_reducible rfl | rw [if_neg (by omega)])))
                try simp only [Act.put, zA, zB, zC, zD, zE, zF]
                refine wpAnyH_take (i := 21) (v := ?vv20) rfl (by kernel_rfl) (by kernel_rfl) (by kernel_rfl) (fun _ _ _ h => h) (Or.inl ⟨by kernel_rfl, ?hyv20⟩) (by assumption) ?restv20
                case hyv20 => (intro w hSw; (try dsimp only at hSw); go_simp; (try (first | with_reducible rfl | rw [if_neg (by omega)])))
                try simp only [Act.put, zA, zB, zC, zD, zE, zF]
                refine wpAnyH_ready (rs := [22]) (by kernel_rfl) (by simp) ?_
                refine AllReadyH.cons rfl (fun K hK => ?_) ?_
                · go_simp
                  go_at_call 76
                  with_reducible refine (re_ (Less_calls a_ a' _) (ret_bool HB.out)).mono ?_
                  rintro e wx ⟨rfl, hbx⟩
                  replace hD := below_call hD hbx
                  replace c0 := cell_below hbx c0
                  replace d0 := cell_below hbx d0
                  replace d1 := cell_below hbx d1
                  replace d2 := cell_below hbx d2
                  replace d3 := cell_below hbx d3
                  replace d4 := cell_below hbx d4
                  clear hbx
                  refine hK.out _ _ (by (try dsimp only); (exact ⟨c0, d0, d1, d2, d3, d4⟩)) (fun hHeld => ?_)
                  clear hK K
                  try simp only [Act.put, zA, zB, zC, zD, zE, zF]
                  refine wpAnyH_take (i := 23) (v := ?vv21) rfl (by kernel_rfl) (by kernel_rfl) (by kernel_rfl) (fun _ _ _ h => h) (Or.inl ⟨by kernel_rfl, ?hyv21⟩) (by assumption) ?restv21
                  case hyv21 => (intro w hSw; (try dsimp only at hSw); go_simp; (try (first | with_reducible rfl | rw [if_neg (by omega)])))
                  try simp only [Act.put, zA, zB, zC, zD, zE, zF]
                  refine wpAnyH_take (i := 24) (v := ?vv22) rfl (by kernel_rfl) (by kernel_rfl) (by kernel_rfl) (fun _ _ _ h => h) (Or.inl ⟨by kernel_rfl, ?hyv22⟩) (by assumption) ?restv22
                  case hyv22 => (intro w hSw; (try dsimp only at hSw); go_simp; (try (first | with_reducible rfl | rw [if_neg (by omega)])))
                  try simp only [Act.put, zA, zB, zC, zD, zE, zF]
                  refine wpAnyH_take (i := 25) (v := ?vv23) rfl (by kernel_rfl) (by kernel_rfl) (by kernel_rfl) (fun _ _ _ h => h) (Or.inl ⟨by kernel_rfl, ?hyv23⟩) (by assumption) ?restv23
                  case hyv23 => (intro w hSw; (try dsimp only at hSw); go_simp; (try (first | with_reducible rfl | rw [if_neg (by omega)])))
                  try simp only [Act.put, zA, zB, zC, zD, zE, zF]
                  refine wpAnyH_done (by kernel_rfl) ?_ _
                  go_wp2
                  go_ret
                  rw [HF.out]
                  exact ⟨rfl, hD⟩
                exact AllReadyH.nil
              exact AllReadyH.nil
            exact AllReadyH.nil
    · have hin : i = n := by omega
      subst hin
      have HF : Hid (r = decide ((i : Int) ≤ 32)) := by
        show _ = _
        rw [← HR.out, Bool.eq_iff_iff, mayT_iff, decide_eq_true_eq]
        constructor
        · rintro ⟨h1, _, _⟩
          have := EA.out; omega
        · intro h1
          refine ⟨by have := EA.out; omega, fun s hs => ?_, fun j h => HT.out.2 j h (by have := EA.out; omega)⟩
          obtain ⟨j, hj, rfl⟩ := List.getElem_of_mem hs
          exact HT.out.1 j hj (by have := EA.out; omega)
      have HF2 : Hid (decide (i ≤ 32) = decide ((i : Int) ≤ 32)) := by
        show _ = _
        rw [Bool.eq_iff_iff, decide_eq_true_eq, decide_eq_true_eq]; omega
      go_wp2
      go_ret
      rw [HF.out]
      first | exact ⟨rfl, hB⟩ | exact ⟨ret_bool HF2.out, hB⟩
end Go.Proofs.YtbpfcjdjhponaaaGreat
namespace Go.Proofs.YtbpfcjdjhponaaaGreat
open Go.RowKit
open Sp
end Go.Proofs.YtbpfcjdjhponaaaGreat
namespace Go.Proofs.YtbpfcjdjhponaaaGreat
open Go.RowKit
open Sp
end Go.Proofs.YtbpfcjdjhponaaaGreat
namespace Go.Proofs.YtbpfcjdjhponaaaGreat
open Go.RowKit
open Sp
end Go.Proofs.YtbpfcjdjhponaaaGreat
namespace Go.Proofs.YtbpfcjdjhponaaaGreat
open Go.RowKit
open Sp
end Go.Proofs.YtbpfcjdjhponaaaGreat
namespace Go.Proofs.YtbpfcjdjhponaaaGreat
open Go.RowKit
open Sp
theorem getT_is (n c : Nat) (A : Option Addr) (l : List Sn) (q : ByteArray) (w : World) (x y z : Int) (t : ByteArray) (b : Bool) (hl : Row enSn 5 w (.slice A n c) l) (h : Hid (getT l q = ((x, y, z, t), b))) :
    Calls Tryz.prog 31 #[.slice A n c, .string q] w fun e w' => e = .returned (.tuple #[.agg #[.int .i64 x, .int .i64 y, .int .i64 z, .string t], .bool b]) ∧ Below w.heap.size w w' := by
  have := GetT_calls n c A l q w hl
  rw [h.out] at this
  exact this
theorem chopen {W : World} {g : Nat} {c : ByteArray} {o : Bool} {a p n : Int} {t : ByteArray} (h : W.heap[g]? = some (bxCh c o a p n t)) : (W.cell? ⟨g, 0, none⟩ = some (.string c) ∧ W.cell? ⟨g, 1, none⟩ = some (.bool o) ∧ W.cell? ⟨g, 2, none⟩ = some (.int .i64 a) ∧ W.cell? ⟨g, 3, none⟩ = some (.int .i64 p) ∧ W.cell? ⟨g, 4, none⟩ = some (.int .i64 n) ∧ W.cell? ⟨g, 5, none⟩ = some (.string t)) ∧
    (W.frozen? ⟨g, 0, none⟩ = false ∧ W.frozen? ⟨g, 1, none⟩ = false ∧ W.frozen? ⟨g, 2, none⟩ = false ∧ W.frozen? ⟨g, 3, none⟩ = false ∧ W.frozen? ⟨g, 4, none⟩ = false ∧ W.frozen? ⟨g, 5, none⟩ = false) ∧ g < W.heap.size :=
  ⟨⟨by simp [World.cell?, h], by simp [World.cell?, h], by simp [World.cell?, h], by simp [World.cell?, h], by simp [World.cell?, h], by simp [World.cell?, h]⟩, ⟨by simp [World.frozen?, h], by simp [World.frozen?, h], by simp [World.frozen?, h], by simp [World.frozen?, h], by simp [World.frozen?, h], by simp [World.frozen?, h]⟩, (Array.getElem?_eq_some_iff.1 h).1⟩
abbrev putCh (w : World) (g : Nat) (x y z : Int) (t : ByteArray) (b : Bool) : World := ((((w.setCell ⟨g, 2, none⟩ (.int .i64 x)).setCell ⟨g, 3, none⟩ (.int .i64 y)).setCell ⟨g, 4, none⟩ (.int .i64 z)).setCell ⟨g, 5, none⟩ (.string t)).setCell ⟨g, 1, none⟩ (.bool b)
theorem putCh_at {w : World} {g : Nat} {u : ByteArray} (x y z : Int) (t : ByteArray) (b : Bool) (h : w.heap[g]? = some (bxCh u false 0 0 0 ⟨#[]⟩)) : (putCh w g x y z t b).heap[g]? = some (bxCh u b x y z t) := by
  simp [putCh, World.setCell, Array.getElem?_modify, h]
theorem putCh_ne {w : World} {g k : Nat} (x y z : Int) (t : ByteArray) (b : Bool) (hk : k ≠ g) : (putCh w g x y z t b).heap[k]? = w.heap[k]? := by
  simp [putCh, World.setCell, Array.getElem?_modify, Ne.symm hk]
theorem putCh_below {B : Nat} {a w : World} (h : Below B a w) (g : Nat) (hg : B ≤ g) (x y z : Int) (t : ByteArray) (b : Bool) : Below B a (putCh w g x y z t b) := bset (bset (bset (bset (bset h g 2 _ hg) g 3 _ hg) g 4 _ hg) g 5 _ hg) g 1 _ hg
abbrev twoCh (w : World) (u : ByteArray) : World := (w.alloc (bxCh u false 0 0 0 ⟨#[]⟩)).alloc (bxCh u false 0 0 0 ⟨#[]⟩)
theorem twoCh_1 (w : World) (u : ByteArray) : (twoCh w u).heap[w.heap.size]? = some (bxCh u false 0 0 0 ⟨#[]⟩) := halloc (heap_alloc_new w _) _
theorem twoCh_2 (w : World) (u : ByteArray) : (twoCh w u).heap[w.heap.size + 1]? = some (bxCh u false 0 0 0 ⟨#[]⟩) := by
  have h := heap_alloc_new (w.alloc (bxCh u false 0 0 0 ⟨#[]⟩)) (bxCh u false 0 0 0 ⟨#[]⟩)
  rwa [size_alloc] at h
theorem twoCh_below (w : World) (u : ByteArray) : Below w.heap.size w (twoCh w u) := below_alloc0 (below_box _) _
set_option maxHeartbeats 16000000 in
set_option maxRecDepth 100000 in
theorem ChangesT_calls (n c n2 c2 : Nat) (A B : Option Addr) (l m : List Sn) (w : World) (hl : Row enSn 5 w (.slice A n c) l) (hm : Row enSn 5 w (.slice B n2 c2) m) (hn : n ≤ 1000) (hn2 : n2 ≤ 1000) :
    Calls Tryz.prog 72 #[.slice A n c, .slice B n2 c2] w fun e w' => ∃ v, e = .returned v ∧ Row enCh 6 w' v (changesT l m) ∧ Below w.heap.size w w' := by
  have EA := Lib.hid hl.len_eq
  have EB := Lib.hid hm.len_eq
  go_enter Tryz.func72, Tryz.ntmps72
  go_wp2_with fail
  with_reducible refine (contactsT_calls n c A l _ hl (by omega)).mono ?_
  rintro e w1 ⟨v1, rfl, hO1, b1⟩
  go_wp2_with fail
  with_reducible refine (contactsT_calls n2 c2 B m _ (hm.below b1) (by omega)).mono ?_
  rintro e w2 ⟨v2, rfl, hO2, b2⟩
  have r1 := hO1.row.below b2
  have r2 := hO2.row
  obtain ⟨A1, c1, rfl, _⟩ := hO1.slice
  obtain ⟨A2, c2', rfl, _⟩ := hO2.slice
  have D := below_call b1 b2
  rw [List.length_map] at r1 r2
  clear hO1 hO2 b1 b2
  go_wp2_with fail
  with_reducible refine (Merge_calls _ c1 _ c2' A1 A2 (l.map Sn.c) (m.map Sn.c) _ r1 r2 (by have := EA.out; omega) (by have := EB.out; omega)).mono ?_
  rintro e w3 ⟨v3, rfl, r3, b3⟩
  replace D := below_call D b3
  clear r1 r2 b3
  obtain ⟨us, hus⟩ : ∃ us, namesT l m = us := ⟨_, rfl⟩
  rw [show mergeS (l.map Sn.c) (m.map Sn.c) = us from hus] at r3
  have hul : us.length ≤ 2000 := by
    rw [← hus]
    have h1 := mergeS_len (l.map Sn.c) (m.map Sn.c)
    rw [List.length_map, List.length_map] at h1
    have := EA.out
    have := EB.out
    unfold namesT
    omega
  have HU := Lib.hid hus
  clear hus
  obtain ⟨A3, c3, rfl, _⟩ := id r3
  go_wp2
  go_loopw [5, 16] (fun vo vk wr => ∃ (k : Nat) (ys : List Ch), vk = .int .i64 k ∧ k ≤ us.length ∧ ys.length ≤ k ∧ Hid ((us.take k).filterMap (chT l m) = ys) ∧ Own enCh 6 65 wr w3.heap.size vo ys ∧ Below w3.heap.size w3 wr) (fun _ vk _ => (us.length - intOf vk).toNat)
  case atStart => exact ⟨0, [], rfl, Nat.zero_le _, Nat.le_refl _, rfl, Own.nil _ _ _ _ _, Below.refl _ _⟩
  case round =>
    obtain ⟨k, ys, rfl, hk, hys, HT, hO, hB⟩ := hrel
    by_cases hlt : k < us.length
    · obtain ⟨ad, rfl, hc⟩ := (r3.below hB).get1 (f := Value.string) k hlt
      obtain ⟨u, hu⟩ : ∃ u, us[k] = u := ⟨_, rfl⟩
      rw [hu] at hc
      obtain ⟨⟨x, y, z, t⟩, b, hga⟩ : ∃ v b, getT l u = (v, b) := ⟨_, _, rfl⟩
      obtain ⟨⟨x', y', z', t'⟩, b', hgb⟩ : ∃ v b, getT m u = (v, b) := ⟨_, _, rfl⟩
      have HGA := Lib.hid hga
      have HGB := Lib.hid hgb
      have h1 := twoCh_1 wr u
      have h2 := twoCh_2 wr u
      have BW := twoCh_below wr u
      have HUK := Lib.hid hu
      clear hga hgb hu
      go_wp2_with fail
      with_reducible refine (getT_is n c A l u _ x y z t b (hl.below (below_call D (below_call hB BW))) HGA).mono ?_
      rintro e w4 ⟨rfl, b4⟩
      replace h1 := hcall h1 b4
      replace h2 := hcall h2 b4
      replace BW := below_call BW b4
      obtain ⟨⟨o0, o1, o2, o3, o4, o5⟩, ⟨f0, f1, f2, f3, f4, f5⟩, og⟩ := chopen h1
      have BW2 := putCh_below BW wr.heap.size (Nat.le_refl _) x y z t b
      have h1' := putCh_at x y z t b h1
      have h2' : (putCh w4 wr.heap.size x y z t b).heap[wr.heap.size + 1]? = _ := (putCh_ne x y z t b (by omega)).trans h2
      clear b4 h1 h2 BW hc
      go_wp2_with fail
      with_reducible refine (getT_is n2 c2 B m u _ x' y' z' t' b' (hm.below (below_call D (below_call hB BW2))) HGB).mono ?_
      rintro e w5 ⟨rfl, b5⟩
      replace h1' := hcall h1' b5
      replace h2' := hcall h2' b5
      replace BW2 := below_call BW2 b5
      clear o0 o1 o2 o3 o4 o5 f0 f1 f2 f3 f4 f5 og b5
      obtain ⟨⟨o0, o1, o2, o3, o4, o5⟩, ⟨f0, f1, f2, f3, f4, f5⟩, og⟩ := chopen h2'
      have BW3 := putCh_below BW2 (wr.heap.size + 1) (Nat.le_succ _) x' y' z' t' b'
      have h2 := putCh_at x' y' z' t' b' h2'
      have h1 : (putCh w5 (wr.heap.size + 1) x' y' z' t' b').heap[wr.heap.size]? = _ := (putCh_ne x' y' z' t' b' (by omega)).trans h1'
      obtain ⟨p0, p1, p2, p3, p4, p5, pz⟩ := cellsCh u b x y z t h1'
      have hcmp := neqCh u b x y z t u b' x' y' z' t'
      rw [eqvCh] at hcmp
      obtain ⟨bc, hbc⟩ : ∃ bc, decide ((⟨u, b, x, y, z, t⟩ : Ch) = ⟨u, b', x', y', z', t'⟩) = bc := ⟨_, rfl⟩
      rw [hbc] at hcmp
      have HCH : Hid (chT l m u = if bc then none else some ⟨u, b', x', y', z', t'⟩) := by
        show _ = _
        unfold chT
        rw [HGA.out, HGB.out, ← hbc]
        have e : ((((x, y, z, t), b) : (Int × Int × Int × ByteArray) × Bool) = ((x', y', z', t'), b')) ↔ ((⟨u, b, x, y, z, t⟩ : Ch) = ⟨u, b', x', y', z', t'⟩) := by
          constructor <;> intro h <;> simp_all
        by_cases h : (⟨u, b, x, y, z, t⟩ : Ch) = ⟨u, b', x', y', z', t'⟩
        · rw [if_pos (e.2 h), decide_eq_true h]; rfl
        · rw [if_neg (fun h' => h (e.1 h')), decide_eq_false h]; rfl
      have hO2 := hO.below BW3
      have hB3 := below_call hB BW3
      have HBC := Lib.hid hbc
      clear hbc h1 h2 h1' h2' BW2 BW3 hO hB
      cases bc with
      | true =>
        have HT2 : Hid ((us.take (k + 1)).filterMap (chT l m) = ys) := by
          show _ = _
          rw [List.take_succ_eq_append_getElem hlt, List.filterMap_append, HT.out, HUK.out, List.filterMap_cons, HCH.out]
          simp
        go_wp2
        exact ⟨⟨k + 1, ys, by go_num, by omega, by omega, HT2, hO2, hB3⟩, by simp [intOf]; omega⟩
      | false =>
        have HT2 : Hid ((us.take (k + 1)).filterMap (chT l m) = ys ++ [⟨u, b', x', y', z', t'⟩]) := by
          show _ = _
          rw [List.take_succ_eq_append_getElem hlt, List.filterMap_append, HT.out, HUK.out, List.filterMap_cons, HCH.out]
          simp
        have HZ1 : Hid ((putCh w5 (wr.heap.size + 1) x' y' z' t' b').heap.size = w5.heap.size) := by show _ = _; simp [putCh, World.setCell]
        go_wp2_with (at_builtin; refine Own.append (w0 := w3) w3.heap.size rfl (.tmp 43) (.tmp 45) 54 65 zvCh 6 64 rfl Tryz.underlying54 infoCh rfl (by decide) _ ys ⟨u, b', x', y', z', t'⟩ (enCh ⟨u, b', x', y', z', t'⟩) rfl (by rw [HZ1.out]; rfl) rfl rfl (enCh_one _) hO2 hB3 hB3.size (by omega) (by omega) ?_; intro v6 w6 hO6 hB6 _ _)
        exact ⟨⟨k + 1, ys ++ [⟨u, b', x', y', z', t'⟩], by go_num, by omega, by rw [List.length_append]; simp only [List.length_cons, List.length_nil]; omega, HT2, hO6, hB6⟩, by simp [intOf]; omega⟩
    · have hkl : k = us.length := by omega
      subst hkl
      have HF : Hid (changesT l m = ys) := by
        show _ = _
        have := HT.out
        rw [List.take_of_length_le (Nat.le_refl _)] at this
        unfold changesT
        rw [HU.out]; exact this
      have hrow := hO.row
      go_wp2
      go_ret
      rw [HF.out]
      exact ⟨_, rfl, hrow, below_call D hB⟩
end Go.Proofs.YtbpfcjdjhponaaaGreat
namespace Go.Proofs.YtbpfcjdjhponaaaGreat
open Go.RowKit
open Sp
end Go.Proofs.YtbpfcjdjhponaaaGreat
namespace Go.Proofs.YtbpfcjdjhponaaaGreat
open Go.RowKit
open Sp
set_option maxHeartbeats 8000000 in
set_option maxRecDepth 100000 in
theorem neqVl (b_ c_ d_ : Int) (e_ : ByteArray) (b_' c_' d_' : Int) (e_' : ByteArray) (W : World) :
    (binOp .neq 27 (.agg #[.int .i64 b_, .int .i64 c_, .int .i64 d_, .string e_]) (.agg #[.int .i64 b_', .int .i64 c_', .int .i64 d_', .string e_'])).run Tryz.prog W = .ok (.bool (!(b_ == b_' && (c_ == c_' && (d_ == d_' && (e_.toList == e_'.toList)))))) W := by
  cases h1 : b_ == b_'
  · simp [go_sem, h1]
  cases h2 : c_ == c_'
  · simp [go_sem, h1, h2]
  cases h3 : d_ == d_'
  · simp [go_sem, h1, h2, h3]
  cases h4 : e_.toList == e_'.toList <;> simp [go_sem, h1, h2, h3, h4]
set_option maxHeartbeats 8000000 in
set_option maxRecDepth 100000 in
theorem eqlVl (b_ c_ d_ : Int) (e_ : ByteArray) (b_' c_' d_' : Int) (e_' : ByteArray) (W : World) :
    (binOp .eql 27 (.agg #[.int .i64 b_, .int .i64 c_, .int .i64 d_, .string e_]) (.agg #[.int .i64 b_', .int .i64 c_', .int .i64 d_', .string e_'])).run Tryz.prog W = .ok (.bool (b_ == b_' && (c_ == c_' && (d_ == d_' && (e_.toList == e_'.toList))))) W := by
  cases h1 : b_ == b_'
  · simp [go_sem, h1]
  cases h2 : c_ == c_'
  · simp [go_sem, h1, h2]
  cases h3 : d_ == d_'
  · simp [go_sem, h1, h2, h3]
  cases h4 : e_.toList == e_'.toList <;> simp [go_sem, h1, h2, h3, h4]
theorem eqvVl (b_ c_ d_ : Int) (e_ : ByteArray) (b_' c_' d_' : Int) (e_' : ByteArray) : (b_ == b_' && (c_ == c_' && (d_ == d_' && (e_.toList == e_'.toList)))) = decide (((b_, c_, d_, e_) : Int × Int × Int × ByteArray) = (b_', c_', d_', e_')) := by
  rw [Bool.eq_iff_iff, decide_eq_true_eq]
  simp only [Bool.and_eq_true, beq_iff_eq, toList_inj', Prod.mk.injEq]
end Go.Proofs.YtbpfcjdjhponaaaGreat
namespace Go.Proofs.YtbpfcjdjhponaaaGreat
open Go.RowKit
open Sp
end Go.Proofs.YtbpfcjdjhponaaaGreat
namespace Go.Proofs.YtbpfcjdjhponaaaGreat
open Go.RowKit
namespace Held
variable {P : Program} {ops : Array Oper} {Q : Exit → Act → World → Prop} {S : World → Prop}
theorem two {o o1 o2 : List Nat} {n k i j : Nat} {oi oj : Oper} {fuel : Nat} {a : Act} {w : World} (hr : Region.ready .any ops (lst n o k) = [i, j]) (e1 : (lst n o k).setIfInBounds i true = lst n o1 (k + 1)) (e2 : (lst n o k).setIfInBounds j true = lst n o2 (k + 1))
    (hi : ops.toList[i]? = some oi) (hj : ops.toList[j]? = some oj) (hwi : Region.wanted oi (yielded ops a.tmps) = true) (hwj : Region.wanted oj (yielded ops a.tmps) = true)
    (h1 : ∀ K' : Act → World → Prop, Shut (∀ a w, S w → (S w → wpAnyH P .any ops Q S fuel (lst n o1 (k + 1)) a w) → K' a w) → Oper.wp P oi a w K' Q)
    (h2 : ∀ K' : Act → World → Prop, Shut (∀ a w, S w → (S w → wpAnyH P .any ops Q S fuel (lst n o2 (k + 1)) a w) → K' a w) → Oper.wp P oj a w K' Q) : wpAnyH P .any ops Q S (fuel + 1) (lst n o k) a w := by
  refine wpAnyH_ready hr (by simp) (AllReadyH.cons (by simpa using hi) (fun K hK => ?_) (AllReadyH.cons (by simpa using hj) (fun K hK => ?_) AllReadyH.nil))
  · rw [if_pos hwi]
    rw [e1] at hK
    exact h1 K hK
  · rw [if_pos hwj]
    rw [e2] at hK
    exact h2 K hK
end Held
end Go.Proofs.YtbpfcjdjhponaaaGreat
