import Derived.RangeFuncNested
import Derived.RangeFuncBound
import Derived.RangeFuncCalls
import Derived.RangeFuncLeaves
import Derived.Shelf.Abstract
import Derived.Shelf.RegionOpen
import Derived.WalkKit
import Derived.OwnWalkIn
import Derived.TacticsInMore
import Derived.LoopNIn
import Derived.LoopIn
import Derived.Maps.AppendAt
import Derived.Test.YtbpfcjdjhponaaaGreatPViewTells10
set_option linter.unusedVariables false
set_option linter.unusedSimpArgs false
namespace Go.Proofs.YtbpfcjdjhponaaaGreat
open Go.RowKit
open Sp
namespace Sp
def rowT (s : Sta) (p q : ByteArray) : Option Sn := if (seeT s p q).2 then some ⟨q, (seeT s p q).1⟩ else none
def tabT (s : Sta) (p : ByteArray) : List Sn := if mayT s then (mergeS (ofRo s.1 p) []).filterMap (rowT s p) else []
end Sp
theorem form_S15 {w : World} {v : Value} {l : List ByteArray} (h : Row enS 1 w v l) : ∃ A c, v = .slice A l.length c := by
  obtain ⟨A, c, rfl, -⟩ := h
  exact ⟨A, c, rfl⟩
noncomputable def opsvob : Array Oper := Held.inBody 8 Tryz.f23.body
set_option maxRecDepth 100000 in
theorem sizvob : opsvob.size = 13 := by kernel_rfl
set_option maxRecDepth 100000 in
theorem nosvob : Region.noSelect opsvob = true := by kernel_rfl
def ordvob0 : List Nat := [0, 1, 2, 3, 4, 5, 6, 7, 8, 9, 10, 11, 12]
set_option maxRecDepth 100000 in
theorem okkvob_0 : Held.okAt opsvob ordvob0 0 = true := by kernel_rfl
set_option maxRecDepth 100000 in
theorem okkvob_1 : Held.okAt opsvob ordvob0 1 = true := by kernel_rfl
set_option maxRecDepth 100000 in
theorem okkvob_2 : Held.okAt opsvob ordvob0 2 = true := by kernel_rfl
set_option maxRecDepth 100000 in
theorem okkvob_3 : Held.okAt opsvob ordvob0 3 = true := by kernel_rfl
set_option maxRecDepth 100000 in
theorem okkvob_4 : Held.okAt opsvob ordvob0 4 = true := by kernel_rfl
set_option maxRecDepth 100000 in
theorem okkvob_5 : Held.okAt opsvob ordvob0 5 = true := by kernel_rfl
def ordvob1 : List Nat := [0, 1, 2, 3, 4, 5, 10, 6, 7, 8, 9, 11, 12]
set_option maxRecDepth 100000 in
theorem okkvob_6 : Held.okAt opsvob ordvob0 7 = true := by kernel_rfl
set_option maxRecDepth 100000 in
theorem okkvob_7 : Held.okAt opsvob ordvob0 8 = true := by kernel_rfl
set_option maxRecDepth 100000 in
theorem okkvob_8 : Held.okAt opsvob ordvob0 9 = true := by kernel_rfl
set_option maxRecDepth 100000 in
theorem okkvob_9 : Held.okAt opsvob ordvob0 12 = true := by kernel_rfl
set_option maxRecDepth 100000 in
theorem okkvob_10 : Held.okAt opsvob ordvob1 8 = true := by kernel_rfl
set_option maxRecDepth 100000 in
theorem okkvob_11 : Held.okAt opsvob ordvob1 9 = true := by kernel_rfl
set_option maxRecDepth 100000 in
theorem okkvob_12 : Held.okAt opsvob ordvob1 10 = true := by kernel_rfl
set_option maxHeartbeats 16000000 in
set_option maxRecDepth 100000 in
theorem rOf_is (n c : Nat) (A : Option Addr) (l : List En) (m d : Nat) (B : Option Addr) (s : List Se) (w : World) (hl : Row enEn 7 w (.slice A n c) l) (hs : Row enSe 6 w (.slice B m d) s) (hz : SzRo l) (hy : SzSe s) (hn : n ≤ 100000) (hm : m ≤ 100000) (p : ByteArray) (r : List Sn) (h : Hid (tabT (l, s) p = r)) :
    Calls Tryz.prog 23 #[agT A n c B m d, .string p] w fun e w' => ∃ v, e = .returned v ∧ Row enSn 5 w' v r ∧ Below w.heap.size w w' := by
  have D := below_box (w := w) (bxT A n c B m d)
  have hb := heap_alloc_new w (bxT A n c B m d)
  replace hl := hl.below D
  replace hs := hs.below D
  obtain ⟨z0, z1, zz⟩ := cellsT hb
  obtain ⟨g, hgg⟩ : ∃ g, w.heap.size = g := ⟨_, rfl⟩
  have h0 := h.out
  unfold tabT at h0
  try simp only at h0
  clear h
  obtain ⟨r1, hr⟩ : ∃ r, mayT (l, s) = r := ⟨_, rfl⟩
  rw [hr] at h0
  have HR := Lib.hid hr
  clear hr
  cases r1 with
  | false =>
    simp only [Bool.false_eq_true, if_false] at h0
    have HF := Lib.hid h0
    clear h0
    go_enter Tryz.func23, Tryz.ntmps23
    go_wp2_with fail
    with_reducible refine (refMayT_is n c A l m d B s _ hl hs hz hy hn false HR).mono ?_
    rintro e w1 ⟨rfl, b1⟩
    replace D := below_call D b1
    go_wp2
    go_ret
    rw [← HF.out]
    exact ⟨_, rfl, Row.nil _ _ _, D⟩
  | true =>
    simp only [if_true] at h0
    obtain ⟨us, hus⟩ : ∃ us, mergeS (ofRo l p) [] = us := ⟨_, rfl⟩
    rw [hus] at h0
    have HF := Lib.hid h0
    have hul : us.length ≤ n := by
      have h1 := mergeS_len (ofRo l p) []
      have h2 : (ofRo l p).length ≤ l.length := by
        unfold ofRo
        rw [List.length_map]
        exact List.length_filter_le _ _
      have := hl.len_eq
      rw [← hus]
      simp only [List.length_nil] at h1
      omega
    have hol : (ofRo l p).length ≤ 262144 := by
      have h2 : (ofRo l p).length ≤ l.length := by
        unfold ofRo
        rw [List.length_map]
        exact List.length_filter_le _ _
      have := hl.len_eq
      omega
    have HU := Lib.hid hus
    clear h0 hus
    go_enter Tryz.func23, Tryz.ntmps23
    go_wp2_with fail
    try rw [hgg]
    with_reducible refine (refMayT_is n c A l m d B s _ hl hs hz hy hn true HR).mono ?_
    rintro e w1 ⟨rfl, b1⟩
    replace hl := hl.below b1
    replace hs := hs.below b1
    replace hb := hcall hb b1
    replace D := below_call D b1
    rw [hgg] at hb
    clear b1 z0 z1 zz
    obtain ⟨z0, z1, zz⟩ := cellsT hb
    go_wp2_with fail
    with_reducible refine (refOf8_is n c A l _ hl p _ hn (Lib.hid rfl)).mono ?_
    rintro e w2 ⟨v, rfl, ho, b2⟩
    obtain ⟨oA, oc, rfl⟩ := form_S15 ho
    replace hl := hl.below b2
    replace hs := hs.below b2
    replace hb := hcall hb b2
    replace D := below_call D b2
    clear b2 z0 z1 zz
    obtain ⟨z0, z1, zz⟩ := cellsT hb
    go_wp2_with fail
    with_reducible refine (refMerge_calls _ oc 0 0 oA none _ [] _ ho (Row.nil _ _ _) hol (by omega)).mono ?_
    rintro e w3 ⟨v, rfl, hu, b3⟩
    rw [HU.out] at hu
    obtain ⟨uA, uc, rfl⟩ := form_S15 hu
    replace hl := hl.below b3
    replace hs := hs.below b3
    replace hb := hcall hb b3
    replace D := below_call D b3
    have hgz : g < w3.heap.size := (Array.getElem?_eq_some_iff.1 hb).1
    clear b3 z0 z1 zz ho
    obtain ⟨k9, hk9⟩ : ∃ k, us.length = k := ⟨_, rfl⟩
    rw [hk9] at hul hu
    try rw [hk9]
    have HK9 := Lib.hid hk9
    clear hk9
    go_wp2_with fail
    go_loopw [6, 7] (fun v6 v7 wr => ∃ (k : Nat) (ys : List Sn), v7 = .int .i64 k ∧ k ≤ k9 ∧ ys.length ≤ k ∧ Hid ((us.take k).filterMap (rowT (l, s) p) = ys) ∧ Own enSn 5 59 wr w3.heap.size v6 ys ∧ Below w3.heap.size w3 wr) (fun _ v7 _ => (k9 - intOf v7).toNat)
    case atStart => exact ⟨0, [], rfl, Nat.zero_le _, Nat.le_refl _, rfl, Own.nil _ _ _ _ _, Below.refl _ _⟩
    case round =>
      obtain ⟨k, ys, rfl, hk, hys, HT, hO, D3⟩ := hrel
      by_cases hlt : k < k9
      · have hkl : k < us.length := by have := HK9.out; omega
        obtain ⟨x, hx⟩ : ∃ x, us[k] = x := ⟨_, rfl⟩
        obtain ⟨ad, rfl, cx3⟩ := hu.get1 (f := Value.string) k hkl
        rw [hx] at cx3
        obtain ⟨a, b_, e_, t, y, hv⟩ : ∃ a b_ e_ t y, seeT (l, s) p x = ((a, b_, e_, t), y) := ⟨_, _, _, _, _, rfl⟩
        have HT2 : Hid ((us.take (k + 1)).filterMap (rowT (l, s) p) = ys ++ (if y then [⟨x, (a, b_, e_, t)⟩] else [])) := by
          show _ = _
          rw [List.take_succ_eq_append_getElem hkl, List.filterMap_append, HT.out, hx]
          congr 1
          unfold rowT
          simp only [hv, List.filterMap_cons, List.filterMap_nil]
          cases y <;> rfl
        have HV := Lib.hid hv
        have hne : u6.ownBlock = some wr.heap.size → False := fun e => absurd (World.ownsRow.lt hO _ e).2 (by omega)
        have x1 : (0 : Int) ≤ (k : Int) := by omega
        have x2 : (k : Int) < (k9 : Int) := by omega
        have D0 := D3
        have hD3s := D3.size
        have hO0 := hO
        have hl0 := hl.below D3
        have hs0 := hs.below D3
        have hb0 := hcall hb D3
        obtain ⟨z00, z10, zz0⟩ := cellsT hb0
        have cx0 := cell_below D3 cx3
        clear hv hx
        go_wp2_with fail
        have D : Below w3.heap.size w3 wr.drew := D3.drew
        have hl1 : Row _ _ wr.drew _ _ := hl0
        have hs1 : Row _ _ wr.drew _ _ := hs0
        have hb : wr.drew.heap[g]? = _ := hb0
        have hO : Own _ _ _ wr.drew _ _ _ := hO0
        have z0 : wr.drew.cell? _ = _ := z00
        have z1 : wr.drew.cell? _ = _ := z10
        have cx : wr.drew.cell? _ = _ := cx0
        refine Held.start (ops := opsvob) (S := fun w' => w'.cell? ⟨g, 0, none⟩ = some (.slice A n c) ∧ w'.cell? ⟨g, 1, none⟩ = some (.slice B m d) ∧ w'.cell? (ad.add k) = some (.string x)) ordvob0 13 (by kernel_rfl) sizvob (by kernel_rfl) ⟨z0, z1, cx⟩ (fun hHeld => ?_)
        refine Held.take (k := 0) (i := 0) (v := ?vvob1) nosvob okkvob_0 sizvob (by kernel_rfl) rfl (fun _ _ _ h => h) (Or.inl ⟨by kernel_rfl, ?hyvob1⟩) (by assumption) ?restvob1
        case hyvob1 => (intro w hSw; (try dsimp only at hSw); go_simp; (try (first | with_reducible rfl | rw [if_neg (by omega)])))
        try simp only [Act.put, List.getElem_toArray, List.getElem_cons_succ, List.getElem_cons_zero, List.setIfInBounds_toArray, List.set_cons_zero, List.set_cons_succ]
        refine Held.take (k := 1) (i := 1) (v := ?vvob2) nosvob okkvob_1 sizvob (by kernel_rfl) rfl (fun _ _ _ h => h) (Or.inl ⟨by kernel_rfl, ?hyvob2⟩) (by assumption) ?restvob2
        case hyvob2 => (intro w hSw; (try dsimp only at hSw); go_simp; (try (first | with_reducible rfl | rw [if_neg (by omega)])))
        try simp only [Act.put, List.getElem_toArray, List.getElem_cons_succ, List.getElem_cons_zero, List.setIfInBounds_toArray, List.set_cons_zero, List.set_cons_succ]
        refine Held.take (k := 2) (i := 2) (v := ?vvob3) nosvob okkvob_2 sizvob (by kernel_rfl) rfl (fun _ _ _ h => h) (Or.inl ⟨by kernel_rfl, ?hyvob3⟩) (by assumption) ?restvob3
        case hyvob3 => (intro w hSw; (try dsimp only at hSw); go_simp; (try (first | with_reducible rfl | rw [if_neg (by omega)])))
        try simp only [Act.put, List.getElem_toArray, List.getElem_cons_succ, List.getElem_cons_zero, List.setIfInBounds_toArray, List.set_cons_zero, List.set_cons_succ]
        refine Held.take (k := 3) (i := 3) (v := ?vvob4) nosvob okkvob_3 sizvob (by kernel_rfl) rfl (fun _ _ _ h => h) (Or.inl ⟨by kernel_rfl, ?hyvob4⟩) (by assumption) ?restvob4
        case hyvob4 => (intro w hSw; (try dsimp only at hSw); go_simp; (try (first | with_reducible rfl | rw [if_neg (by omega)])))
        try simp only [Act.put, List.getElem_toArray, List.getElem_cons_succ, List.getElem_cons_zero, List.setIfInBounds_toArray, List.set_cons_zero, List.set_cons_succ]
        refine Held.take (k := 4) (i := 4) (v := ?vvob5) nosvob okkvob_4 sizvob (by kernel_rfl) rfl (fun _ _ _ h => h) (Or.inl ⟨by kernel_rfl, ?hyvob5⟩) (by assumption) ?restvob5
        case hyvob5 => (intro w hSw; (try dsimp only at hSw); go_simp; (try (first | with_reducible rfl | rw [if_neg (by omega)])))
        try simp only [Act.put, List.getElem_toArray, List.getElem_cons_succ, List.getElem_cons_zero, List.setIfInBounds_toArray, List.set_cons_zero, List.set_cons_succ]
        refine Held.take (k := 5) (i := 5) (v := ?vvob6) nosvob okkvob_5 sizvob (by kernel_rfl) rfl (fun _ _ _ h => h) (Or.inl ⟨by kernel_rfl, ?hyvob6⟩) (by assumption) ?restvob6
        case hyvob6 => (intro w hSw; (try dsimp only at hSw); go_simp; (try (first | with_reducible rfl | rw [if_neg (by omega)])))
        try simp only [Act.put, List.getElem_toArray, List.getElem_cons_succ, List.getElem_cons_zero, List.setIfInBounds_toArray, List.set_cons_zero, List.set_cons_succ]
        refine Held.two (o := ordvob0) (o1 := ordvob0) (o2 := ordvob1) (k := 6) (i := 6) (j := 10) (by kernel_rfl) (by kernel_rfl) (by kernel_rfl) rfl rfl (by kernel_rfl) (by kernel_rfl) (fun K hK => ?_) (fun K hK => ?_)
        · go_simp
          go_at_call 65
          with_reducible refine (rvalue_is n c A l m d B s _ hl1 hs1 hz hy hn hm p x a b_ e_ t y HV).mono ?_
          rintro e w4 ⟨rfl, b4⟩
          replace hb := hcall hb b4
          replace hO := hO.below b4
          replace z0 := cell_below b4 z0
          replace z1 := cell_below b4 z1
          replace cx := cell_below b4 cx
          replace D := below_call D b4
          clear b4 hl1 hs1
          refine hK.out _ _ (by (try dsimp only); (exact ⟨z0, z1, cx⟩)) (fun hHeld => ?_)
          clear hK K
          try simp only [Act.put, List.getElem_toArray, List.getElem_cons_succ, List.getElem_cons_zero, List.setIfInBounds_toArray, List.set_cons_zero, List.set_cons_succ]
          refine Held.take (k := 7) (i := 7) (v := ?vvob7) nosvob okkvob_6 sizvob (by kernel_rfl) rfl (fun _ _ _ h => h) (Or.inl ⟨by kernel_rfl, ?hyvob7⟩) (by assumption) ?restvob7
          case hyvob7 => (intro w hSw; (try dsimp only at hSw); go_simp; (try (first | with_reducible rfl | rw [if_neg (by omega)])))
          try simp only [Act.put, List.getElem_toArray, List.getElem_cons_succ, List.getElem_cons_zero, List.setIfInBounds_toArray, List.set_cons_zero, List.set_cons_succ]
          refine Held.take (k := 8) (i := 8) (v := ?vvob8) nosvob okkvob_7 sizvob (by kernel_rfl) rfl (fun _ _ _ h => h) (Or.inl ⟨by kernel_rfl, ?hyvob8⟩) (by assumption) ?restvob8
          case hyvob8 => (intro w hSw; (try dsimp only at hSw); go_simp; (try (first | with_reducible rfl | rw [if_neg (by omega)])))
          try simp only [Act.put, List.getElem_toArray, List.getElem_cons_succ, List.getElem_cons_zero, List.setIfInBounds_toArray, List.set_cons_zero, List.set_cons_succ]
          refine Held.take (k := 9) (i := 9) (v := ?vvob9) nosvob okkvob_8 sizvob (by kernel_rfl) rfl (fun _ _ _ h => h) (Or.inl ⟨by kernel_rfl, ?hyvob9⟩) (by assumption) ?restvob9
          case hyvob9 => (intro w hSw; (try dsimp only at hSw); go_simp; (try (first | with_reducible rfl | rw [if_neg (by omega)])))
          try simp only [Act.put, List.getElem_toArray, List.getElem_cons_succ, List.getElem_cons_zero, List.setIfInBounds_toArray, List.set_cons_zero, List.set_cons_succ]
          refine Held.only (k := 10) (i := 10) (show Region.ready .any opsvob (Held.lst 13 ordvob0 10) = [10] by kernel_rfl) (by kernel_rfl) rfl (by kernel_rfl) (fun K hK => ?_)
          go_simp
          have bz := below_box (w := w4) (bxPv a b_ e_ t)
          have hb5 := hcall hb bz
          have hO5 := hO.alloc (bxPv a b_ e_ t)
          have D5 := below_call D bz
          have Y5 := heap_alloc_new w4 (bxPv a b_ e_ t)
          have z05 := cell_below bz z0
          have z15 := cell_below bz z1
          have cx5 := cell_below bz cx
          clear bz
          replace z0 := cell_below (below_box (w := w4) (bxPv 0 0 0 ⟨#[]⟩)) z0
          replace z1 := cell_below (below_box (w := w4) (bxPv 0 0 0 ⟨#[]⟩)) z1
          replace cx := cell_below (below_box (w := w4) (bxPv 0 0 0 ⟨#[]⟩)) cx
          refine hK.out _ _ (by (try dsimp only); (exact ⟨z0, z1, cx⟩)) (fun hHeld => ?_)
          clear hK K
          try simp only [Act.put, List.getElem_toArray, List.getElem_cons_succ, List.getElem_cons_zero, List.setIfInBounds_toArray, List.set_cons_zero, List.set_cons_succ]
          refine Held.only (k := 11) (i := 11) (show Region.ready .any opsvob (Held.lst 13 ordvob0 11) = [11] by kernel_rfl) (by kernel_rfl) rfl (by kernel_rfl) (fun K hK => ?_)
          go_simp
          clear z0 z1 cx
          have z0 := z05
          have z1 := z15
          have cx := cx5
          refine hK.out _ _ (by (try dsimp only); (exact ⟨z0, z1, cx⟩)) (fun hHeld => ?_)
          clear hK K
          try simp only [Act.put, List.getElem_toArray, List.getElem_cons_succ, List.getElem_cons_zero, List.setIfInBounds_toArray, List.set_cons_zero, List.set_cons_succ]
          refine Held.take (k := 12) (i := 12) (v := ?vvob10) nosvob okkvob_9 sizvob (by kernel_rfl) rfl (fun _ _ _ h => h) (Or.inl ⟨by kernel_rfl, ?hyvob10⟩) (by assumption) ?restvob10
          case hyvob10 => (intro w hSw; (try dsimp only at hSw); go_simp; (try (first | with_reducible rfl | rw [if_neg (by omega)])))
          try simp only [Act.put, List.getElem_toArray, List.getElem_cons_succ, List.getElem_cons_zero, List.setIfInBounds_toArray, List.set_cons_zero, List.set_cons_succ]
          refine wpAnyH_done (by kernel_rfl) ?_ _
          obtain ⟨W5, hW5⟩ : ∃ W5, (w4.alloc (bxPv a b_ e_ t)) = W5 := ⟨_, rfl⟩
          obtain ⟨g8, hg8⟩ : ∃ g8, w4.heap.size = g8 := ⟨_, rfl⟩
          rw [hW5] at hb5 hO5 D5 Y5
          rw [hg8] at Y5
          try rw [hW5]
          try rw [hg8]
          clear hW5 hg8 hb hO D z0 z1 cx cx0 z00 z10 zz0 hb0 hl0 hs0 hO0 D0
          obtain ⟨y0, y1, y2, y3, yz⟩ := cellsPv Y5
          have cx := cell_below D5 cx3
          cases y
          · have HT3 : Hid ((us.take (k + 1)).filterMap (rowT (l, s) p) = ys) := by
              show _ = _
              rw [HT2.out]
              simp
            go_wp2
            exact ⟨⟨k + 1, ys, by go_num, by omega, by omega, HT3, hO5, D5⟩, by simp [intOf]; omega⟩
          · have HT3 : Hid ((us.take (k + 1)).filterMap (rowT (l, s) p) = ys ++ [⟨x, (a, b_, e_, t)⟩]) := HT2
            have HG : Hid (∀ o : Obj, (W5.alloc o).heap[W5.heap.size]? = some o) := fun o => heap_alloc_new W5 o
            have HG2 : Hid (∀ o : Obj, w3.heap.size ≤ (W5.alloc o).heap.size) := fun o => by rw [size_alloc]; exact Nat.le_succ_of_le D5.size
            go_wp2_with fail
            go_region_law (refine Own.appendStep (w0 := w3) w3.heap.size rfl (.tmp 35) (.tmp 42) 48 59 zvSn 5 56 rfl Tryz.underlying48 infoSn rfl (by decide) _ ys ⟨x, (a, b_, e_, t)⟩ (enSn ⟨x, (a, b_, e_, t)⟩) (by simp [Act.eval, Act.put]) W5.heap.size (by simp [Act.eval, Act.put]) (HG.out _) rfl rfl (enSn_one _) (hO5.alloc _) (below_alloc0 D5 _).drew (HG2.out _) (by omega) (by omega) ?_; intro v6 w6 hO6 hB6)
            all_goals go_wp2
            all_goals
              exact ⟨⟨k + 1, ys ++ [⟨x, (a, b_, e_, t)⟩], by go_num, by omega, by rw [List.length_append]; simp only [List.length_cons, List.length_nil]; omega, HT3, hO6, hB6⟩, by simp [intOf]; omega⟩
        · go_simp
          have bz : Below wr.heap.size wr (wr.alloc (bxPv 0 0 0 ⟨#[]⟩)).drew := (below_box (w := wr) (bxPv 0 0 0 ⟨#[]⟩)).drew
          have Y1 : (wr.alloc (bxPv 0 0 0 ⟨#[]⟩)).drew.heap[wr.heap.size]? = _ := heap_alloc_new wr (bxPv 0 0 0 ⟨#[]⟩)
          replace hb : (wr.alloc (bxPv 0 0 0 ⟨#[]⟩)).drew.heap[g]? = _ := hcall hb0 bz
          replace hl1 : Row _ _ (wr.alloc (bxPv 0 0 0 ⟨#[]⟩)).drew _ _ := hl0.below bz
          replace hs1 : Row _ _ (wr.alloc (bxPv 0 0 0 ⟨#[]⟩)).drew _ _ := hs0.below bz
          replace hO : Own _ _ _ (wr.alloc (bxPv 0 0 0 ⟨#[]⟩)).drew _ _ _ := hO0.alloc (bxPv 0 0 0 ⟨#[]⟩)
          replace D : Below _ _ (wr.alloc (bxPv 0 0 0 ⟨#[]⟩)).drew := below_call D0 bz
          replace z0 : (wr.alloc (bxPv 0 0 0 ⟨#[]⟩)).drew.cell? _ = _ := cell_below bz z00
          replace z1 : (wr.alloc (bxPv 0 0 0 ⟨#[]⟩)).drew.cell? _ = _ := cell_below bz z10
          replace cx : (wr.alloc (bxPv 0 0 0 ⟨#[]⟩)).drew.cell? _ = _ := cell_below bz cx0
          have hg8 : wr.heap.size < ((wr.alloc (bxPv 0 0 0 ⟨#[]⟩)).drew).heap.size := show wr.heap.size < (wr.alloc (bxPv 0 0 0 ⟨#[]⟩)).heap.size by rw [size_alloc]; exact Nat.lt_succ_self _
          clear bz
          refine hK.out _ _ (by (try dsimp only); (exact ⟨z0, z1, cx⟩)) (fun hHeld => ?_)
          clear hK K
          try simp only [Act.put, List.getElem_toArray, List.getElem_cons_succ, List.getElem_cons_zero, List.setIfInBounds_toArray, List.set_cons_zero, List.set_cons_succ]
          refine Held.only (k := 7) (i := 6) (show Region.ready .any opsvob (Held.lst 13 ordvob1 7) = [6] by kernel_rfl) (by kernel_rfl) rfl (by kernel_rfl) (fun K hK => ?_)
          go_simp
          go_at_call 65
          with_reducible refine (rvalue_is n c A l m d B s _ hl1 hs1 hz hy hn hm p x a b_ e_ t y HV).mono ?_
          rintro e w4 ⟨rfl, b4⟩
          replace hb := hcall hb b4
          replace hO := hO.below b4
          replace z0 := cell_below b4 z0
          replace z1 := cell_below b4 z1
          replace cx := cell_below b4 cx
          replace D := below_call D b4
          replace Y1 := hcall Y1 b4
          have hg8' : wr.heap.size < w4.heap.size := Nat.lt_of_lt_of_le hg8 b4.size
          clear b4 hl1 hs1
          refine hK.out _ _ (by (try dsimp only); (exact ⟨z0, z1, cx⟩)) (fun hHeld => ?_)
          clear hK K
          try simp only [Act.put, List.getElem_toArray, List.getElem_cons_succ, List.getElem_cons_zero, List.setIfInBounds_toArray, List.set_cons_zero, List.set_cons_succ]
          refine Held.take (k := 8) (i := 7) (v := ?vvob11) nosvob okkvob_10 sizvob (by kernel_rfl) rfl (fun _ _ _ h => h) (Or.inl ⟨by kernel_rfl, ?hyvob11⟩) (by assumption) ?restvob11
          case hyvob11 => (intro w hSw; (try dsimp only at hSw); go_simp; (try (first | with_reducible rfl | rw [if_neg (by omega)])))
          try simp only [Act.put, List.getElem_toArray, List.getElem_cons_succ, List.getElem_cons_zero, List.setIfInBounds_toArray, List.set_cons_zero, List.set_cons_succ]
          refine Held.take (k := 9) (i := 8) (v := ?vvob12) nosvob okkvob_11 sizvob (by kernel_rfl) rfl (fun _ _ _ h => h) (Or.inl ⟨by kernel_rfl, ?hyvob12⟩) (by assumption) ?restvob12
          case hyvob12 => (intro w hSw; (try dsimp only at hSw); go_simp; (try (first | with_reducible rfl | rw [if_neg (by omega)])))
          try simp only [Act.put, List.getElem_toArray, List.getElem_cons_succ, List.getElem_cons_zero, List.setIfInBounds_toArray, List.set_cons_zero, List.set_cons_succ]
          refine Held.take (k := 10) (i := 9) (v := ?vvob13) nosvob okkvob_12 sizvob (by kernel_rfl) rfl (fun _ _ _ h => h) (Or.inl ⟨by kernel_rfl, ?hyvob13⟩) (by assumption) ?restvob13
          case hyvob13 => (intro w hSw; (try dsimp only at hSw); go_simp; (try (first | with_reducible rfl | rw [if_neg (by omega)])))
          try simp only [Act.put, List.getElem_toArray, List.getElem_cons_succ, List.getElem_cons_zero, List.setIfInBounds_toArray, List.set_cons_zero, List.set_cons_succ]
          refine Held.only (k := 11) (i := 11) (show Region.ready .any opsvob (Held.lst 13 ordvob1 11) = [11] by kernel_rfl) (by kernel_rfl) rfl (by kernel_rfl) (fun K hK => ?_)
          obtain ⟨y0, y1, y2, y3, yz⟩ := cellsPv Y1
          have yfr := frozenG Y1
          go_simp
          clear y0 y1 y2 y3 yz yfr
          have Y5 : ((((w4.setCell ⟨wr.heap.size, 0, none⟩ (.int .i64 a)).setCell ⟨wr.heap.size, 1, none⟩ (.int .i64 b_)).setCell ⟨wr.heap.size, 2, none⟩ (.int .i64 e_)).setCell ⟨wr.heap.size, 3, none⟩ (.string t)).heap[wr.heap.size]? = some (bxPv a b_ e_ t) := setAt6 (setAt6 (setAt6 (setAt6 Y1 0 _) 1 _) 2 _) 3 _
          have hb5 : ((((w4.setCell ⟨wr.heap.size, 0, none⟩ (.int .i64 a)).setCell ⟨wr.heap.size, 1, none⟩ (.int .i64 b_)).setCell ⟨wr.heap.size, 2, none⟩ (.int .i64 e_)).setCell ⟨wr.heap.size, 3, none⟩ (.string t)).heap[g]? = _ := keep1 (keep1 (keep1 (keep1 hb (by omega)) (by omega)) (by omega)) (by omega)
          have hO5 : Own enSn 5 59 ((((w4.setCell ⟨wr.heap.size, 0, none⟩ (.int .i64 a)).setCell ⟨wr.heap.size, 1, none⟩ (.int .i64 b_)).setCell ⟨wr.heap.size, 2, none⟩ (.int .i64 e_)).setCell ⟨wr.heap.size, 3, none⟩ (.string t)) w3.heap.size u6 ys := Own.setAt (Own.setAt (Own.setAt (Own.setAt hO (fun e => hne e) 0 _) (fun e => hne e) 1 _) (fun e => hne e) 2 _) (fun e => hne e) 3 _
          have D5 : Below w3.heap.size w3 ((((w4.setCell ⟨wr.heap.size, 0, none⟩ (.int .i64 a)).setCell ⟨wr.heap.size, 1, none⟩ (.int .i64 b_)).setCell ⟨wr.heap.size, 2, none⟩ (.int .i64 e_)).setCell ⟨wr.heap.size, 3, none⟩ (.string t)) := below4 D (by omega) _ _ _ _
          clear z0 z1 cx
          have z0 := (cellsT hb5).1
          have z1 := (cellsT hb5).2.1
          have cx := cell_below D5 cx3
          refine hK.out _ _ (by (try dsimp only); (exact ⟨z0, z1, cx⟩)) (fun hHeld => ?_)
          clear hK K
          try simp only [Act.put, List.getElem_toArray, List.getElem_cons_succ, List.getElem_cons_zero, List.setIfInBounds_toArray, List.set_cons_zero, List.set_cons_succ]
          refine Held.take (k := 12) (i := 12) (v := ?vvob14) nosvob (show Held.okAt opsvob ordvob1 12 = true by kernel_rfl) sizvob (by kernel_rfl) rfl (fun _ _ _ h => h) (Or.inl ⟨by kernel_rfl, ?hyvob14⟩) (by assumption) ?restvob14
          case hyvob14 => (intro w hSw; (try dsimp only at hSw); go_simp; (try (first | with_reducible rfl | rw [if_neg (by omega)])))
          try simp only [Act.put, List.getElem_toArray, List.getElem_cons_succ, List.getElem_cons_zero, List.setIfInBounds_toArray, List.set_cons_zero, List.set_cons_succ]
          refine wpAnyH_done (by kernel_rfl) ?_ _
          obtain ⟨W5, hW5⟩ : ∃ W5, ((((w4.setCell ⟨wr.heap.size, 0, none⟩ (.int .i64 a)).setCell ⟨wr.heap.size, 1, none⟩ (.int .i64 b_)).setCell ⟨wr.heap.size, 2, none⟩ (.int .i64 e_)).setCell ⟨wr.heap.size, 3, none⟩ (.string t)) = W5 := ⟨_, rfl⟩
          obtain ⟨g8, hg8⟩ : ∃ g8, wr.heap.size = g8 := ⟨_, rfl⟩
          rw [hW5] at hb5 hO5 D5 Y5
          rw [hg8] at Y5
          try rw [hW5]
          try rw [hg8]
          clear hW5 hg8 hb hO D z0 z1 cx cx0 z00 z10 zz0 hb0 hl0 hs0 hO0 D0
          obtain ⟨y0, y1, y2, y3, yz⟩ := cellsPv Y5
          have cx := cell_below D5 cx3
          cases y
          · have HT3 : Hid ((us.take (k + 1)).filterMap (rowT (l, s) p) = ys) := by
              show _ = _
              rw [HT2.out]
              simp
            go_wp2
            exact ⟨⟨k + 1, ys, by go_num, by omega, by omega, HT3, hO5, D5⟩, by simp [intOf]; omega⟩
          · have HT3 : Hid ((us.take (k + 1)).filterMap (rowT (l, s) p) = ys ++ [⟨x, (a, b_, e_, t)⟩]) := HT2
            have HG : Hid (∀ o : Obj, (W5.alloc o).heap[W5.heap.size]? = some o) := fun o => heap_alloc_new W5 o
            have HG2 : Hid (∀ o : Obj, w3.heap.size ≤ (W5.alloc o).heap.size) := fun o => by rw [size_alloc]; exact Nat.le_succ_of_le D5.size
            go_wp2_with fail
            go_region_law (refine Own.appendStep (w0 := w3) w3.heap.size rfl (.tmp 35) (.tmp 42) 48 59 zvSn 5 56 rfl Tryz.underlying48 infoSn rfl (by decide) _ ys ⟨x, (a, b_, e_, t)⟩ (enSn ⟨x, (a, b_, e_, t)⟩) (by simp [Act.eval, Act.put]) W5.heap.size (by simp [Act.eval, Act.put]) (HG.out _) rfl rfl (enSn_one _) (hO5.alloc _) (below_alloc0 D5 _).drew (HG2.out _) (by omega) (by omega) ?_; intro v6 w6 hO6 hB6)
            all_goals go_wp2
            all_goals
              exact ⟨⟨k + 1, ys ++ [⟨x, (a, b_, e_, t)⟩], by go_num, by omega, by rw [List.length_append]; simp only [List.length_cons, List.length_nil]; omega, HT3, hO6, hB6⟩, by simp [intOf]; omega⟩
      · have hkm : k = k9 := by omega
        subst hkm
        have HY : Hid (ys = r) := by
          show _ = _
          rw [← HF.out, ← HT.out, List.take_of_length_le (Nat.le_of_eq HK9.out)]
        have hrow := hO.row
        rw [HY.out] at hrow
        go_wp2
        go_ret
        exact ⟨_, rfl, hrow, below_call D D3⟩
end Go.Proofs.YtbpfcjdjhponaaaGreat
namespace Go.Proofs.YtbpfcjdjhponaaaGreat
open Go.RowKit Go.Shelf
open Sp
attribute [local go_sem] Oper.semAt_some
namespace Sp
def vrowT (s : Sta) (p q : ByteArray) : Option Sn := if (valT s p q).2 then some ⟨q, (valT s p q).1⟩ else none
def vtabT (s : Sta) (p : ByteArray) : List Sn := (ofRo s.1 p).filterMap (vrowT s p)
end Sp
def KpV (b : Nat) (W W' : World) : Prop := Below b W W' ∧ ∀ (g : Nat) (cs : Array Value) (T : TypeId) (fr : Nat × Nat), T ≠ 59 → T ≠ 48 → W.heap[g]? = some (.cells cs T fr) → W'.heap[g]? = some (.cells cs T fr)
theorem KpV.refl (b : Nat) (W : World) : KpV b W W := ⟨Below.refl _ _, fun _ _ _ _ _ _ h => h⟩
theorem KpV.trans {b : Nat} {A B C : World} (h : KpV b A B) (k : KpV b B C) : KpV b A C := ⟨h.1.trans k.1, fun g cs T fr h1 h2 e => k.2 g cs T fr h1 h2 (h.2 g cs T fr h1 h2 e)⟩
theorem KpV.of_below {b : Nat} {A B : World} (h : Below A.heap.size A B) (hb : b ≤ A.heap.size) : KpV b A B := ⟨h.mono hb, fun g cs T fr _ _ e => hcall e h⟩
theorem KpV.putObj {b w : Nat} (hb : b ≤ w) (W : World) (l : Nat) (o o' : Obj) (hl : w ≤ l) (h : W.heap[l]? = some o) (hc : o.isCells = false) (hw : o.isWalk = false) : KpV b W (W.putObj l o') :=
  ⟨⟨(grownBy_putObj' W l o').os, (grownBy_putObj' W l o').tape, (grownBy_putObj' W l o').output, (grownBy_putObj' W l o').size, fun i hi => (by
    by_cases e : i < W.heap.size
    · exact (grownBy_putObj' W l o').block i e (fun e2 => by injection e2 with e2; omega)
    · exact absurd (Array.getElem?_eq_some_iff.1 h).1 (by omega))⟩, fun g cs T fr _ _ e => ((grownBy_putObj' W l o').block g (Array.getElem?_eq_some_iff.1 e).1 (fun e2 => by
      injection e2 with e2
      rw [e2, h] at e
      injection e with e
      rw [e] at hc
      cases hc)).trans e⟩
theorem KpV.own {b : Nat} {W W' : World} (h : KpV b W W') {α : Type} {enc : α → List Value} {k base : Nat} {v : Value} {xs : List α} (hr : Own enc k 9 W base v xs) : Own enc k 9 W' base v xs := by
  refine ⟨hr.1, ?_⟩
  rcases hr.2 with h2 | ⟨g, cap, cur, e1, e2, e3, e4⟩
  · exact .inl h2
  · exact .inr ⟨g, cap, cur, e1, e2, h.2 _ _ _ _ (by decide) (by decide) e3, e4⟩
set_option maxHeartbeats 1000000 in
set_option maxRecDepth 100000 in
theorem rows_calls (n c : Nat) (A : Option Addr) (m d : Nat) (B : Option Addr) (p : ByteArray) (w : World) :
    Calls Tryz.prog 66 #[agT A n c B m d, .string p] w fun e w' => e = .returned (.func (.func 118) #[] #[.pointer (some ⟨w.heap.size, 0, none⟩), .pointer (some ⟨w.heap.size + 1, 0, none⟩)]) ∧ w' = (w.alloc (bxT A n c B m d)).alloc (.cells #[.string p] 9) := by
  go_enter Tryz.func66, Tryz.ntmps66
  go_wp2
  go_ret
  exact ⟨rfl, rfl⟩
abbrev encVw (x : Sn) : Array Value := #[.string x.c, .agg #[.int .i64 x.v.1, .int .i64 x.v.2.1, .int .i64 x.v.2.2.1, .string x.v.2.2.2]]
set_option maxHeartbeats 16000000 in
set_option maxRecDepth 100000 in
theorem rows_stops (fn_ : Nat) (n c : Nat) (A : Option Addr) (l : List En) (m d : Nat) (B : Option Addr) (s : List Se) (w0 w : World) (hl : Row enEn 7 w0 (.slice A n c) l) (hs : Row enSe 6 w0 (.slice B m d) s) (hz : SzRo l) (hy : SzSe s) (hn : n ≤ 100000) (hm : m ≤ 100000) (p : ByteArray) (gs gw : Nat) (D0 : Below w0.heap.size w0 w) (hb : w.heap[gs]? = some (bxT A n c B m d)) (hw : w.heap[gw]? = some (.cells #[.string p] 9)) (hf1 : 1 ≤ fn_) :
    SeqStopsK Fence.wide fn_ Tryz.prog 118 #[.pointer (some ⟨gs, 0, none⟩), .pointer (some ⟨gw, 0, none⟩)] encVw (KpV w0.heap.size) (fun ys => ys = vtabT (l, s) p) (fun _ => True) n w := fun lp J Jx W hW hJ hJx hY h0 => by
  have D := D0.trans (hW.mono D0.size)
  replace hb := hcall hb hW
  replace hw := hcall hw hW
  obtain ⟨z0, z1, zz⟩ := cellsT hb
  have cw : W.cell? ⟨gw, 0, none⟩ = some (.string p) := by simp [World.cell?, hw]
  refine callsIn_of_wp Tryz.func118 rfl trivial ?_ rfl
  simp only [Tryz.ntmps118, List.size_toArray, List.length_cons, List.length_nil, Nat.reduceAdd, Nat.reduceSub, Array.replicate_succ, Array.replicate_zero, List.push_toArray, List.append_toArray, List.nil_append, List.cons_append]
  gi_wp2_with fail
  refine ⟨trivial, ?_⟩
  refine (callsIn_wide.2 (OfRo_calls n c A l p W (hl.below D) hn)).mono ?_
  rintro e w1 ⟨v, rfl, ho, b1⟩
  obtain ⟨us, hus⟩ : ∃ us, (l.filter (fun s : En => decide (s.o = p))).map En.c = us := ⟨_, rfl⟩
  rw [hus] at ho
  have hul : us.length ≤ n := by
    rw [← hus, List.length_map, (hl.len_eq : n = l.length)]
    exact List.length_filter_le _ _
  have HU : Hid (ofRo l p = us) := hus
  have HT0 : Hid (vtabT (l, s) p = us.filterMap (vrowT (l, s) p)) := by
    show _ = _
    unfold vtabT
    rw [HU.out]
  obtain ⟨uA, uc, rfl, huc⟩ := ho.slice
  obtain ⟨un, hun⟩ : ∃ un, us.length = un := ⟨_, rfl⟩
  have hun63 : un ≤ 9223372036854775807 := by rw [← hun]; exact ho.row.len
  have HUN := Lib.hid hun
  rw [hun] at huc hul
  try rw [hun]
  have hO : Own enS 1 9 w1 W.heap.size (.slice uA un uc) us := by rw [← hun]; exact ho
  have D1 := D.trans (b1.mono D.size)
  replace hb := hcall hb b1
  replace hw := hcall hw b1
  have hJ1 : J [] w1 := hJ _ _ _ none h0 (grown_of_below b1 none) (fun r e => by cases e)
  clear hus hun ho z0 z1 zz cw b1
  gi_wp2
  gi_loopw [13] (fun v13 wr => ∃ (k : Nat) (pre : List Sn), v13 = .int .i64 k ∧ k ≤ un ∧ Hid ((us.take k).filterMap (vrowT (l, s) p) = pre) ∧ pre.length ≤ k ∧ J pre wr ∧ KpV w0.heap.size w1 wr) (fun v13 _ => (un - intOf v13).toNat)
  case atStart => exact ⟨0, [], rfl, Nat.zero_le _, rfl, Nat.le_refl _, hJ1, KpV.refl _ _⟩
  case round =>
    obtain ⟨k, pre, rfl, hk, HT, hpk, hJr, hK⟩ := hrel
    by_cases hlt : k < un
    · have hkl : k < us.length := by have := HUN.out; omega
      obtain ⟨x, hx⟩ : ∃ x, us[k] = x := ⟨_, rfl⟩
      have hOr := hK.own hO
      obtain ⟨ad, rfl, cx⟩ := hOr.row.get1 (f := Value.string) k hkl
      rw [hx] at cx
      obtain ⟨a, b_, e_, t, y, hv⟩ : ∃ a b_ e_ t y, valT (l, s) p x = ((a, b_, e_, t), y) := ⟨_, _, _, _, _, rfl⟩
      have HT2 : Hid ((us.take (k + 1)).filterMap (vrowT (l, s) p) = pre ++ (if y then [⟨x, (a, b_, e_, t)⟩] else [])) := by
        show _ = _
        rw [List.take_succ_eq_append_getElem hkl, List.filterMap_append, HT.out, hx]
        congr 1
        unfold vrowT
        simp only [hv, List.filterMap_cons, List.filterMap_nil]
        cases y <;> rfl
      have HV := Lib.hid hv
      have x1 : (0 : Int) ≤ (k : Int) := by omega
      have x2 : (k : Int) < (un : Int) := by omega
      have Dr := D1.trans hK.1
      have hbr := hK.2 _ _ _ _ (by decide) (by decide) hb
      have hwr := hK.2 _ _ _ _ (by decide) (by decide) hw
      obtain ⟨z0, z1, zz⟩ := cellsT hbr
      have cw : wr.cell? ⟨gw, 0, none⟩ = some (.string p) := by simp [World.cell?, hwr]
      clear hv hx
      gi_wp2_with fail
      refine ⟨trivial, ?_⟩
      refine (callsIn_wide.2 (vValue_is n c A l m d B s wr (hl.below Dr) (hs.below Dr) hz hy hn hm p x a b_ e_ t y HV)).mono ?_
      rintro e w2 ⟨rfl, b2⟩
      have hJ2 : J pre w2 := hJ _ _ _ none hJr (grown_of_below b2 none) (fun r e => by cases e)
      have hK2 : KpV w0.heap.size w1 w2 := hK.trans (KpV.of_below b2 (by have := Dr.size; omega))
      have bb := below_box (w := w2) (bxPv a b_ e_ t)
      have hJ3 : J pre (w2.alloc (bxPv a b_ e_ t)) := hJ _ _ _ none hJ2 (grown_of_below bb none) (fun r e => by cases e)
      have hK3 : KpV w0.heap.size w1 (w2.alloc (bxPv a b_ e_ t)) := hK2.trans (KpV.of_below bb (by have := Dr.size; have := b2.size; omega))
      obtain ⟨y0, y1, y2, y3, yz⟩ := cellsPv (heap_alloc_new w2 (bxPv a b_ e_ t))
      clear hJ2 hK2 bb z0 z1 zz cw cx
      cases y
      · have HT3 : Hid ((us.take (k + 1)).filterMap (vrowT (l, s) p) = pre) := by
          show _ = _
          rw [HT2.out]
          simp
        gi_wp2
        refine ⟨fun _ h => (by cases h), ?_⟩
        gi_wp2
        go_roundw
        case rel => exact ⟨k + 1, pre, by go_num, by omega, HT3, by omega, hJ3, hK3⟩
        case measure => simp [intOf]; omega
      · have HT3 : Hid ((us.take (k + 1)).filterMap (vrowT (l, s) p) = pre ++ [⟨x, (a, b_, e_, t)⟩]) := HT2
        obtain ⟨fn, tmps, assign, body, hyy, hR⟩ := hY pre ⟨x, (a, b_, e_, t)⟩ _ hJ3 (by omega)
        gi_wp2
        refine hR.mono ?_
        rintro e W3 (⟨rfl, hJ4, hk4⟩ | ⟨rfl, hJx4⟩)
        · gi_wp2
          go_roundw
          case rel => exact ⟨k + 1, pre ++ [⟨x, (a, b_, e_, t)⟩], by go_num, by omega, HT3, by rw [List.length_append]; simp only [List.length_cons, List.length_nil]; omega, hJ4, hK3.trans hk4⟩
          case measure => simp [intOf]; omega
        · gi_wp2
          refine bodyPost_ret (results_none rfl _ _ _) rfl ?_
          exact ⟨⟨_, rfl⟩, .inr ⟨_, trivial, hJx4⟩⟩
    · have hkn : k = un := by omega
      subst hkn
      have HF : Hid (vtabT (l, s) p = pre) := by
        show _ = _
        rw [HT0.out, ← HT.out, List.take_of_length_le (Nat.le_of_eq HUN.out)]
      gi_wp2
      go_end0
      exact ⟨⟨_, rfl⟩, .inl ⟨pre, HF.out.symm, hJr⟩⟩
end Go.Proofs.YtbpfcjdjhponaaaGreat
namespace Go.Proofs.YtbpfcjdjhponaaaGreat
open Go.RowKit Go.Shelf
open Sp
attribute [local go_sem] Oper.semAt_some
theorem KpV.appended {W w1 : World} {b B : Nat} {v v' : Value} {k : Nat} {xs : List Value} {tmp : Obj} (hv : Boxed W B 48 v) (hrow : W.ownsRow b 59 5 v k xs) (hgrow : (W.alloc tmp).grownBy w1 v.ownBlock) (hB : Below b W (w1.setCell ⟨B, 0, none⟩ v')) : KpV b W (w1.setCell ⟨B, 0, none⟩ v') :=
  ⟨hB, fun g cs T fr h1 h2 e => by
    have e1 := halloc e tmp
    have e2 : w1.heap[g]? = some (.cells cs T fr) := by
      refine (hgrow.block g (Array.getElem?_eq_some_iff.1 e1).1 (fun e3 => ?_)).trans e1
      rcases hrow.2 with ⟨rfl, _⟩ | ⟨q, cap, cur, rfl, _, hgb, _⟩
      · cases e3
      · injection e3 with e3
        subst e3
        rw [e] at hgb
        injection hgb with hgb
        injection hgb with _ hgb _
        exact h1 hgb
    refine keep1 e2 (fun e3 => ?_)
    subst e3
    have hv' : W.heap[B]? = _ := hv
    rw [e] at hv'
    injection hv' with hv'
    injection hv' with _ hv' _
    exact h2 hv'⟩
def VwAt (w0 : World) (B : Nat) (pre : List Sn) (W : World) : Prop := (∃ v, Boxed W B 48 v ∧ Own enSn 5 59 W w0.heap.size v pre) ∧ Below w0.heap.size w0 W ∧ B + 2 < W.heap.size
theorem VwAt.own {w0 : World} {B C : Nat} (hC : w0.heap.size ≤ C) : OwnFrom C (VwAt w0 B) := fun s W W' row hs hg hr => by
  obtain ⟨⟨v, hv, hO⟩, D, hBs⟩ := hs
  refine ⟨⟨v, hv.kept hg (fun e => ?_), hO.kept hg ?_⟩, D.grown hg D.size (fun k e => Nat.le_trans hC (hr k e).1), Nat.lt_of_lt_of_le hBs hg.size⟩
  · obtain ⟨_, o, ho, hc⟩ := hr _ e.symm
    have hv' : W.heap[B]? = _ := hv
    rw [ho] at hv'
    injection hv' with hv'
    rw [hv'] at hc
    cases hc
  · rcases hO.2 with ⟨rfl, _⟩ | ⟨q, cap, cur, rfl, _, hgb, _⟩
    · exact .inl rfl
    · refine .inr fun e => ?_
      obtain ⟨_, o, ho, hc⟩ := hr q e.symm
      rw [ho] at hgb
      injection hgb with hgb
      rw [hgb] at hc
      cases hc
theorem VwAt.alloc {w0 W : World} {B : Nat} {pre : List Sn} (h : VwAt w0 B pre W) (o : Obj) : VwAt w0 B pre (W.alloc o) := by
  obtain ⟨⟨v, hv, hO⟩, D, hBs⟩ := h
  exact ⟨⟨v, hv.alloc _, hO.alloc _⟩, below_alloc0 D _, by rw [size_alloc]; omega⟩
def AxV (n c : Nat) (A : Option Addr) (m d : Nat) (B : Option Addr) (p : ByteArray) (g : Nat) (x : Sn) (a' : Act) (W : World) : Prop :=
  ∃ Bx, g + 3 < Bx ∧ W.heap[Bx]? = some (bxPv x.v.1 x.v.2.1 x.v.2.2.1 x.v.2.2.2) ∧ a' = { tmps := #[agT A n c B m d, .string p, .pointer (some ⟨g, 0, none⟩), undef, .slice none 0 0, .pointer (some ⟨g + 1, 0, none⟩), .string x.c, .pointer (some ⟨Bx, 0, none⟩), agT A n c B m d, .string p, .func (.func 118) #[] #[.pointer (some ⟨g + 1 + 1, 0, none⟩), .pointer (some ⟨g + 1 + 1 + 1, 0, none⟩)], .string x.c, .agg #[.int .i64 x.v.1, .int .i64 x.v.2.1, .int .i64 x.v.2.2.1, .string x.v.2.2.2], undef, undef, undef, undef, undef, undef, undef], defers := [] }
theorem AxV.own {n c : Nat} {A : Option Addr} {m d : Nat} {B : Option Addr} {p : ByteArray} {g C : Nat} (x : Sn) (a' : Act) : OwnFrom C (fun (_ : Unit) W => AxV n c A m d B p g x a' W) := fun _ W W' row hs hg hr => by
  obtain ⟨Bx, h1, h2, h3⟩ := hs
  refine ⟨Bx, h1, (hg.block Bx (Array.getElem?_eq_some_iff.1 h2).1 (fun e => ?_)).trans h2, h3⟩
  obtain ⟨_, o, ho, hc⟩ := hr _ e.symm
  rw [ho] at h2
  injection h2 with h2
  rw [h2] at hc
  cases hc
set_option maxHeartbeats 16000000 in
set_option maxRecDepth 100000 in
theorem vOf_calls (n c : Nat) (A : Option Addr) (l : List En) (m d : Nat) (B : Option Addr) (s : List Se) (w : World) (hl : Row enEn 7 w (.slice A n c) l) (hs : Row enSe 6 w (.slice B m d) s) (hz : SzRo l) (hy : SzSe s) (hn : n ≤ 100000) (hm : m ≤ 100000) (p : ByteArray) :
    Calls Tryz.prog 22 #[agT A n c B m d, .string p] w fun e w' => ∃ v, e = .returned v ∧ Row enSn 5 w' v (vtabT (l, s) p) ∧ Below w.heap.size w w' := by
  obtain ⟨i0, hi, hz0, hz1, hz2⟩ := info_parts infoSn
  refine (callsIn_wide (n := 3)).1 ?_
  have h1 : 1 ≤ 3 := by omega
  have bO := Boxed.new (w.alloc (bxT A n c B m d)) 48 (.slice none 0 0)
  rw [size_alloc] at bO
  have D0 := below_alloc0 (below_alloc0 (below_alloc0 (below_box (w := w) (bxT A n c B m d)) (.cells #[.slice none 0 0] 48)) (bxT A n c B m d)) (.cells #[.string p] 9)
  have hbT := heap_alloc_new ((w.alloc (bxT A n c B m d)).alloc (.cells #[.slice none 0 0] 48)) (bxT A n c B m d)
  have hbS := heap_alloc_new (((w.alloc (bxT A n c B m d)).alloc (.cells #[.slice none 0 0] 48)).alloc (bxT A n c B m d)) (.cells #[.string p] 9)
  rw [size_alloc, size_alloc] at hbT
  rw [size_alloc, size_alloc, size_alloc] at hbS
  replace hbT := halloc hbT (.cells #[.string p] 9)
  replace bO := (bO.alloc (bxT A n c B m d)).alloc (.cells #[.string p] 9)
  have hsz : ((((w.alloc (bxT A n c B m d)).alloc (.cells #[.slice none 0 0] 48)).alloc (bxT A n c B m d)).alloc (.cells #[.string p] 9)).heap.size = w.heap.size + 4 := by simp only [size_alloc]
  refine callsIn_of_wp_marks Tryz.func22 rfl trivial ?_ rfl
  simp only [Tryz.ntmps22, List.size_toArray, List.length_cons, List.length_nil, Nat.reduceAdd, Nat.reduceSub, Array.replicate_succ, Array.replicate_zero, List.push_toArray, List.append_toArray, List.nil_append, List.cons_append]
  gi_wp2_with fail
  refine ⟨trivial, ?_⟩
  refine (callsIn_wide.2 (rows_calls n c A m d B p _)).mono ?_
  rintro e w1 ⟨rfl, rfl⟩
  gi_wp2_with fail
  obtain ⟨W0, hW0⟩ : ∃ W0, (((w.alloc (bxT A n c B m d)).alloc (.cells #[.slice none 0 0] 48)).alloc (bxT A n c B m d)).alloc (.cells #[.string p] 9) = W0 := ⟨_, rfl⟩
  rw [hW0] at bO D0 hbT hbS hsz
  try rw [hW0]
  obtain ⟨g, hgg⟩ : ∃ g, w.heap.size = g := ⟨_, rfl⟩
  rw [hgg] at bO hbT hbS hsz
  try rw [hgg]
  have hsz4 : g + 3 < W0.heap.size := by omega
  refine wpIn_rangeFunc_ownH rfl h1 (gf := 118) (lb := #[.pointer (some ⟨g + 1 + 1, 0, none⟩), .pointer (some ⟨g + 1 + 1 + 1, 0, none⟩)]) rfl trivial (enters_of Tryz.func118 (by kernel_rfl) rfl)
    (rows_stops (3 - 1) n c A l m d B s w W0 hl hs hz hy hn hm p (g + 1 + 1) (g + 1 + 1 + 1) D0 hbT hbS (by omega)) (fun h k => KpV.trans h k) (fun W l o o' hl h hc hw => KpV.putObj D0.size W l o o' hl h hc hw) (Below.refl _ _) (fun _ => rfl)
    (VwAt w (g + 1)) (fun _ _ _ => False) (VwAt.own D0.size) (fun _ _ _ _ _ hs _ _ => hs) ⟨⟨_, bO, Own.nil _ _ _ _ _⟩, D0, by omega⟩
    (AxV n c A m d B p g) (fun x a' => AxV.own x a') ?assign ?body ?done ?stop
  case assign =>
    rintro lp pre x W K hI hK
    have hWs : g + 3 < W.heap.size := hI.2.2
    have hnew := heap_alloc_new W (bxPv x.v.1 x.v.2.1 x.v.2.2.1 x.v.2.2.2)
    gi_wp2
    exact hK _ _ ((KeepsOthers.alloc _ _).from _) (KpV.of_below (below_box _) hI.2.1.size) (hI.alloc _) ⟨W.heap.size, hWs, hnew, rfl⟩
  case body =>
    rintro lp pre x a' W hlp ⟨r, hr⟩ ⟨⟨v, hv, hO⟩, D, hBs⟩ ⟨Bx, hBx, hbx, rfl⟩ hlt
    have hc := hv.cell
    have hnb : (pre.length + 1) * 56 ≤ 140737488355328 := by omega
    obtain ⟨y0, y1, y2, y3, yz⟩ := cellsPv hbx
    gi_wp2_with (gi_at_builtin; refine wpListIn_append_own _ rfl _ _ 48 rfl w.heap.size 59 i0 zvSn 5 56 Tryz.underlying48 hi hz0 hz1 hz2 rfl (by decide) _ _ _ rfl (hO.alloc _) ⟨W.heap.size, 0, none⟩ 1 1 (enSn x) rfl rfl (by simpa [enSn] using World.news_of_block (heap_alloc_new W (.cells #[.string x.c, .int .i64 x.v.1, .int .i64 x.v.2.1, .int .i64 x.v.2.2.1, .string x.v.2.2.2] 59))) (enSn_one x) (by simp only [maxLen]; omega) (by omega) (by have := D.size; simp; omega) ?_; intro v' w1 hown' hgrow _; obtain ⟨g', cap', rfl⟩ := ownsRow_succ hown'; obtain ⟨hv1, hv2, hr2, hk2, hb2⟩ := hv.appended (by decide) hO D.size (by omega) hown' hgrow; have hc1 := hv1.cell; have hf1 := hv1.frozen)
    have hO2 : Own enSn 5 59 (w1.setCell ⟨g + 1, 0, none⟩ (.slice (some ⟨g', 0, none⟩) (pre.length + 1) cap')) w.heap.size (.slice (some ⟨g', 0, none⟩) (pre.length + 1) cap') (pre ++ [x]) := by
      unfold Own
      rw [List.flatMap_append, List.length_append]
      simpa using hr2
    exact ⟨hk2.from _, KpV.appended hv hO hgrow hb2, ⟨⟨_, hv2, hO2⟩, D.trans hb2, Nat.lt_of_lt_of_le hBs hb2.size⟩⟩
  case done =>
    rintro D ys W hD rfl ⟨⟨v, hv, hO⟩, hB, hBs⟩ hK
    have hc := hv.cell
    gi_wp2
    refine ⟨by simp, .inl ⟨_, _, rfl, run_takeDeferred hK, ?_⟩⟩
    exact ⟨_, results_tmp rfl _ _ _, v, rfl, Own.row (ownsRow_putObj hO _ hK rfl), hB.trans (belowK_b (w := w) (Nat.le_refl _) W D _ _ (by have := D0.size; omega) hK rfl rfl)⟩
  case stop =>
    rintro D c pre W _ _ h _
    exact h.elim
end Go.Proofs.YtbpfcjdjhponaaaGreat
namespace Go.Proofs.YtbpfcjdjhponaaaGreat
open Go.RowKit
open Sp
namespace Sp
theorem valT_may {s : Sta} (h : mayT s = true) (p q : ByteArray) : valT s p q = seeT s p q := by unfold valT; rw [h]; rfl
theorem valT_not {s : Sta} (h : mayT s = false) (p q : ByteArray) : valT s p q = ((0, 0, 0, ⟨#[]⟩), false) := by unfold valT; rw [h]; rfl
theorem mayT_ro {s : Sta} (h : mayT s = true) : mayRo s.1 = true := by
  unfold mayT at h
  rw [Bool.and_eq_true] at h
  exact h.1
theorem filterMap_none {α β : Type} {f : α → Option β} : ∀ l : List α, (∀ x ∈ l, f x = none) → l.filterMap f = []
  | [], _ => rfl
  | a :: l, h => by rw [List.filterMap_cons, h a (List.mem_cons_self ..)]; exact filterMap_none l fun x hx => h x (List.mem_cons_of_mem _ hx)
theorem vtab_tab (s : Sta) (p : ByteArray) : vtabT s p = tabT s p := by
  unfold vtabT tabT
  cases h : mayT s with
  | false =>
    rw [if_neg (by simp)]
    exact filterMap_none _ fun x _ => by unfold vrowT; rw [valT_not h]; rfl
  | true =>
    rw [if_pos rfl, mergeS_eq (ofRo s.1 p) [] (ofRo s.1 p) (ofRo_sorted (mayRo_ord (mayT_ro h)) p) (fun x => by simp)]
    congr 1
    funext q
    unfold vrowT rowT
    rw [valT_may h]
theorem tabT_len (s : Sta) (p : ByteArray) : (tabT s p).length ≤ 16 := by
  rw [← vtab_tab]
  unfold vtabT
  cases h : mayT s with
  | false =>
    rw [filterMap_none _ fun x _ => by unfold vrowT; rw [valT_not h]; rfl]
    exact Nat.zero_le _
  | true => exact Nat.le_trans (List.length_filterMap_le _ _) (of_le (mayT_ro h) p)
def betT (s t : Sta) (p : ByteArray) : List Ch := changesT (tabT s p) (tabT t p)
end Sp
theorem vOf_is (n c : Nat) (A : Option Addr) (l : List En) (m d : Nat) (B : Option Addr) (s : List Se) (w : World) (hl : Row enEn 7 w (.slice A n c) l) (hs : Row enSe 6 w (.slice B m d) s) (hz : SzRo l) (hy : SzSe s) (hn : n ≤ 100000) (hm : m ≤ 100000) (p : ByteArray) (r : List Sn) (h : Hid (tabT (l, s) p = r)) :
    Calls Tryz.prog 22 #[agT A n c B m d, .string p] w fun e w' => ∃ v, e = .returned v ∧ Row enSn 5 w' v r ∧ Below w.heap.size w w' := by
  have := vOf_calls n c A l m d B s w hl hs hz hy hn hm p
  rw [vtab_tab, h.out] at this
  exact this
theorem form_Sn {w : World} {v : Value} {l : List Sn} (h : Row enSn 5 w v l) : ∃ A c, v = .slice A l.length c := by
  obtain ⟨A, c, rfl, -⟩ := h
  exact ⟨A, c, rfl⟩
noncomputable def opsvbt : Array Oper := Held.inBody 1 Tryz.f28.body
def ordvbt : List Nat := [0, 1, 3, 4, 2, 5, 6, 7]
set_option maxRecDepth 100000 in
theorem rgvbt : Held.Reg opsvbt ordvbt 8 [0, 1, 2, 3, 7] := ⟨by kernel_rfl, by kernel_rfl, by kernel_rfl⟩
noncomputable def opsrbt : Array Oper := Held.inBody 1 Tryz.f29.body
def ordrbt : List Nat := [0, 1, 3, 4, 2, 5, 6, 7]
set_option maxRecDepth 100000 in
theorem rgrbt : Held.Reg opsrbt ordrbt 8 [0, 1, 2, 3, 7] := ⟨by kernel_rfl, by kernel_rfl, by kernel_rfl⟩
set_option maxHeartbeats 16000000 in
set_option maxRecDepth 100000 in
theorem vBet_is (n c : Nat) (A : Option Addr) (l : List En) (m d : Nat) (B : Option Addr) (s : List Se) (n2 c2 : Nat) (A2 : Option Addr) (l2 : List En) (m2 d2 : Nat) (B2 : Option Addr) (s2 : List Se) (w : World) (hl : Row enEn 7 w (.slice A n c) l) (hs : Row enSe 6 w (.slice B m d) s) (hl2 : Row enEn 7 w (.slice A2 n2 c2) l2) (hs2 : Row enSe 6 w (.slice B2 m2 d2) s2) (hz : SzRo l) (hy : SzSe s) (hz2 : SzRo l2) (hy2 : SzSe s2) (hn : n ≤ 100000) (hm : m ≤ 100000) (hn2 : n2 ≤ 100000) (hm2 : m2 ≤ 100000) (p : ByteArray) (r : List Ch) (h : Hid (betT (l, s) (l2, s2) p = r)) :
    Calls Tryz.prog 28 #[agT A n c B m d, agT A2 n2 c2 B2 m2 d2, .string p] w fun e w' => ∃ v, e = .returned v ∧ Row enCh 6 w' v r ∧ Below w.heap.size w w' := by
  have D := below_alloc0 (below_box (w := w) (bxT A n c B m d)) (bxT A2 n2 c2 B2 m2 d2)
  have hb := halloc (heap_alloc_new w (bxT A n c B m d)) (bxT A2 n2 c2 B2 m2 d2)
  have hb2 := heap_alloc_new (w.alloc (bxT A n c B m d)) (bxT A2 n2 c2 B2 m2 d2)
  rw [size_alloc] at hb2
  replace hl := hl.below D
  replace hs := hs.below D
  replace hl2 := hl2.below D
  replace hs2 := hs2.below D
  obtain ⟨g, hgg⟩ : ∃ g, w.heap.size = g := ⟨_, rfl⟩
  obtain ⟨W0, hW0⟩ : ∃ W0, (w.alloc (bxT A n c B m d)).alloc (bxT A2 n2 c2 B2 m2 d2) = W0 := ⟨_, rfl⟩
  go_enter Tryz.func28, Tryz.ntmps28
  go_wp2_with fail
  rw [hgg] at hb hb2
  rw [hW0] at hb hb2 hl hs hl2 hs2 D
  try rw [hgg]
  try rw [hW0]
  obtain ⟨z0, z1, zz⟩ := cellsT hb
  obtain ⟨y0, y1, yz⟩ := cellsT hb2
  replace z0 : W0.drew.cell? _ = _ := z0
  replace z1 : W0.drew.cell? _ = _ := z1
  replace y0 : W0.drew.cell? _ = _ := y0
  replace y1 : W0.drew.cell? _ = _ := y1
  replace hl : Row _ _ W0.drew _ _ := hl
  replace hs : Row _ _ W0.drew _ _ := hs
  replace hl2 : Row _ _ W0.drew _ _ := hl2
  replace hs2 : Row _ _ W0.drew _ _ := hs2
  replace D : Below _ _ W0.drew := D.drew
  have HT := tabT_len (l, s) p
  have HT2 := tabT_len (l2, s2) p
  clear zz yz hb hb2 hW0
  refine Held.start (ops := opsvbt) (S := fun w' => w'.cell? ⟨g, 0, none⟩ = some (.slice A n c) ∧ w'.cell? ⟨g, 1, none⟩ = some (.slice B m d) ∧ w'.cell? ⟨g + 1, 0, none⟩ = some (.slice A2 n2 c2) ∧ w'.cell? ⟨g + 1, 1, none⟩ = some (.slice B2 m2 d2)) ordvbt 8 (by kernel_rfl) rgvbt.siz (by kernel_rfl) ⟨z0, z1, y0, y1⟩ (fun hHeld => ?_)
  iterate 4
    refine Held.tk (v := ?_) rgvbt rfl rfl rfl (fun _ _ _ h => h) (by assumption) (Or.inl ⟨by kernel_rfl, ?_⟩) ?_
    rotate_left
    · (intro w hSw; (try dsimp only at hSw); go_simp; (try (first | with_reducible rfl | rw [if_neg (by omega)])))
    try simp only [Act.put, List.getElem_toArray, List.getElem_cons_succ, List.getElem_cons_zero, List.setIfInBounds_toArray, List.set_cons_zero, List.set_cons_succ]
  refine Held.only (k := 4) (i := 2) (by kernel_rfl) (by kernel_rfl) rfl (by kernel_rfl) (fun K hK => ?_)
  go_simp
  go_at_call 22
  with_reducible refine (vOf_is n c A l m d B s _ hl hs hz hy hn hm p _ (Lib.hid rfl)).mono ?_
  rintro e w1 ⟨v1, rfl, r1, b1⟩
  obtain ⟨V1, e1, rfl⟩ := form_Sn r1
  replace z0 := cell_below b1 z0
  replace z1 := cell_below b1 z1
  replace y0 := cell_below b1 y0
  replace y1 := cell_below b1 y1
  replace hl2 := hl2.below b1
  replace hs2 := hs2.below b1
  replace D := below_call D b1
  clear b1
  refine hK.out _ _ (by (try dsimp only); (exact ⟨z0, z1, y0, y1⟩)) (fun hHeld => ?_)
  clear hK K
  try simp only [Act.put, List.getElem_toArray, List.getElem_cons_succ, List.getElem_cons_zero, List.setIfInBounds_toArray, List.set_cons_zero, List.set_cons_succ]
  refine Held.only (k := 5) (i := 5) (by kernel_rfl) (by kernel_rfl) rfl (by kernel_rfl) (fun K hK => ?_)
  go_simp
  go_at_call 22
  with_reducible refine (vOf_is n2 c2 A2 l2 m2 d2 B2 s2 _ hl2 hs2 hz2 hy2 hn2 hm2 p _ (Lib.hid rfl)).mono ?_
  rintro e w2 ⟨v2, rfl, r2, b2⟩
  obtain ⟨V2, e2, rfl⟩ := form_Sn r2
  replace z0 := cell_below b2 z0
  replace z1 := cell_below b2 z1
  replace y0 := cell_below b2 y0
  replace y1 := cell_below b2 y1
  replace r1 := r1.below b2
  replace D := below_call D b2
  clear b2
  refine hK.out _ _ (by (try dsimp only); (exact ⟨z0, z1, y0, y1⟩)) (fun hHeld => ?_)
  clear hK K
  try simp only [Act.put, List.getElem_toArray, List.getElem_cons_succ, List.getElem_cons_zero, List.setIfInBounds_toArray, List.set_cons_zero, List.set_cons_succ]
  refine Held.only (k := 6) (i := 6) (by kernel_rfl) (by kernel_rfl) rfl (by kernel_rfl) (fun K hK => ?_)
  go_simp
  go_at_call 72
  with_reducible refine (ChangesT_calls _ e1 _ e2 V1 V2 _ _ _ r1 r2 (by omega) (by omega)).mono ?_
  rintro e w3 ⟨v3, rfl, r3, b3⟩
  replace z0 := cell_below b3 z0
  replace z1 := cell_below b3 z1
  replace y0 := cell_below b3 y0
  replace y1 := cell_below b3 y1
  replace D := below_call D b3
  clear b3
  refine hK.out _ _ (by (try dsimp only); (exact ⟨z0, z1, y0, y1⟩)) (fun hHeld => ?_)
  clear hK K
  try simp only [Act.put, List.getElem_toArray, List.getElem_cons_succ, List.getElem_cons_zero, List.setIfInBounds_toArray, List.set_cons_zero, List.set_cons_succ]
  iterate 1
    refine Held.tk (v := ?_) rgvbt rfl rfl rfl (fun _ _ _ h => h) (by assumption) (Or.inl ⟨by kernel_rfl, ?_⟩) ?_
    rotate_left
    · (intro w hSw; (try dsimp only at hSw); go_simp; (try (first | with_reducible rfl | rw [if_neg (by omega)])))
    try simp only [Act.put, List.getElem_toArray, List.getElem_cons_succ, List.getElem_cons_zero, List.setIfInBounds_toArray, List.set_cons_zero, List.set_cons_succ]
  refine wpAnyH_done (by kernel_rfl) ?_ _
  have HF : Hid (changesT (tabT (l, s) p) (tabT (l2, s2) p) = r) := h.out
  rw [HF.out] at r3
  go_wp2
  go_ret
  exact ⟨v3, rfl, r3, D⟩
set_option maxHeartbeats 16000000 in
set_option maxRecDepth 100000 in
theorem rBet_is (n c : Nat) (A : Option Addr) (l : List En) (m d : Nat) (B : Option Addr) (s : List Se) (n2 c2 : Nat) (A2 : Option Addr) (l2 : List En) (m2 d2 : Nat) (B2 : Option Addr) (s2 : List Se) (w : World) (hl : Row enEn 7 w (.slice A n c) l) (hs : Row enSe 6 w (.slice B m d) s) (hl2 : Row enEn 7 w (.slice A2 n2 c2) l2) (hs2 : Row enSe 6 w (.slice B2 m2 d2) s2) (hz : SzRo l) (hy : SzSe s) (hz2 : SzRo l2) (hy2 : SzSe s2) (hn : n ≤ 100000) (hm : m ≤ 100000) (hn2 : n2 ≤ 100000) (hm2 : m2 ≤ 100000) (p : ByteArray) (r : List Ch) (h : Hid (betT (l, s) (l2, s2) p = r)) :
    Calls Tryz.prog 29 #[agT A n c B m d, agT A2 n2 c2 B2 m2 d2, .string p] w fun e w' => ∃ v, e = .returned v ∧ Row enCh 6 w' v r ∧ Below w.heap.size w w' := by
  have D := below_alloc0 (below_box (w := w) (bxT A n c B m d)) (bxT A2 n2 c2 B2 m2 d2)
  have hb := halloc (heap_alloc_new w (bxT A n c B m d)) (bxT A2 n2 c2 B2 m2 d2)
  have hb2 := heap_alloc_new (w.alloc (bxT A n c B m d)) (bxT A2 n2 c2 B2 m2 d2)
  rw [size_alloc] at hb2
  replace hl := hl.below D
  replace hs := hs.below D
  replace hl2 := hl2.below D
  replace hs2 := hs2.below D
  obtain ⟨g, hgg⟩ : ∃ g, w.heap.size = g := ⟨_, rfl⟩
  obtain ⟨W0, hW0⟩ : ∃ W0, (w.alloc (bxT A n c B m d)).alloc (bxT A2 n2 c2 B2 m2 d2) = W0 := ⟨_, rfl⟩
  go_enter Tryz.func29, Tryz.ntmps29
  go_wp2_with fail
  rw [hgg] at hb hb2
  rw [hW0] at hb hb2 hl hs hl2 hs2 D
  try rw [hgg]
  try rw [hW0]
  obtain ⟨z0, z1, zz⟩ := cellsT hb
  obtain ⟨y0, y1, yz⟩ := cellsT hb2
  replace z0 : W0.drew.cell? _ = _ := z0
  replace z1 : W0.drew.cell? _ = _ := z1
  replace y0 : W0.drew.cell? _ = _ := y0
  replace y1 : W0.drew.cell? _ = _ := y1
  replace hl : Row _ _ W0.drew _ _ := hl
  replace hs : Row _ _ W0.drew _ _ := hs
  replace hl2 : Row _ _ W0.drew _ _ := hl2
  replace hs2 : Row _ _ W0.drew _ _ := hs2
  replace D : Below _ _ W0.drew := D.drew
  have HT := tabT_len (l, s) p
  have HT2 := tabT_len (l2, s2) p
  clear zz yz hb hb2 hW0
  refine Held.start (ops := opsrbt) (S := fun w' => w'.cell? ⟨g, 0, none⟩ = some (.slice A n c) ∧ w'.cell? ⟨g, 1, none⟩ = some (.slice B m d) ∧ w'.cell? ⟨g + 1, 0, none⟩ = some (.slice A2 n2 c2) ∧ w'.cell? ⟨g + 1, 1, none⟩ = some (.slice B2 m2 d2)) ordrbt 8 (by kernel_rfl) rgrbt.siz (by kernel_rfl) ⟨z0, z1, y0, y1⟩ (fun hHeld => ?_)
  iterate 4
    refine Held.tk (v := ?_) rgrbt rfl rfl rfl (fun _ _ _ h => h) (by assumption) (Or.inl ⟨by kernel_rfl, ?_⟩) ?_
    rotate_left
    · (intro w hSw; (try dsimp only at hSw); go_simp; (try (first | with_reducible rfl | rw [if_neg (by omega)])))
    try simp only [Act.put, List.getElem_toArray, List.getElem_cons_succ, List.getElem_cons_zero, List.setIfInBounds_toArray, List.set_cons_zero, List.set_cons_succ]
  refine Held.only (k := 4) (i := 2) (by kernel_rfl) (by kernel_rfl) rfl (by kernel_rfl) (fun K hK => ?_)
  go_simp
  go_at_call 23
  with_reducible refine (rOf_is n c A l m d B s _ hl hs hz hy hn hm p _ (Lib.hid rfl)).mono ?_
  rintro e w1 ⟨v1, rfl, r1, b1⟩
  obtain ⟨V1, e1, rfl⟩ := form_Sn r1
  replace z0 := cell_below b1 z0
  replace z1 := cell_below b1 z1
  replace y0 := cell_below b1 y0
  replace y1 := cell_below b1 y1
  replace hl2 := hl2.below b1
  replace hs2 := hs2.below b1
  replace D := below_call D b1
  clear b1
  refine hK.out _ _ (by (try dsimp only); (exact ⟨z0, z1, y0, y1⟩)) (fun hHeld => ?_)
  clear hK K
  try simp only [Act.put, List.getElem_toArray, List.getElem_cons_succ, List.getElem_cons_zero, List.setIfInBounds_toArray, List.set_cons_zero, List.set_cons_succ]
  refine Held.only (k := 5) (i := 5) (by kernel_rfl) (by kernel_rfl) rfl (by kernel_rfl) (fun K hK => ?_)
  go_simp
  go_at_call 23
  with_reducible refine (rOf_is n2 c2 A2 l2 m2 d2 B2 s2 _ hl2 hs2 hz2 hy2 hn2 hm2 p _ (Lib.hid rfl)).mono ?_
  rintro e w2 ⟨v2, rfl, r2, b2⟩
  obtain ⟨V2, e2, rfl⟩ := form_Sn r2
  replace z0 := cell_below b2 z0
  replace z1 := cell_below b2 z1
  replace y0 := cell_below b2 y0
  replace y1 := cell_below b2 y1
  replace r1 := r1.below b2
  replace D := below_call D b2
  clear b2
  refine hK.out _ _ (by (try dsimp only); (exact ⟨z0, z1, y0, y1⟩)) (fun hHeld => ?_)
  clear hK K
  try simp only [Act.put, List.getElem_toArray, List.getElem_cons_succ, List.getElem_cons_zero, List.setIfInBounds_toArray, List.set_cons_zero, List.set_cons_succ]
  refine Held.only (k := 6) (i := 6) (by kernel_rfl) (by kernel_rfl) rfl (by kernel_rfl) (fun K hK => ?_)
  go_simp
  go_at_call 73
  with_reducible refine (refChangesT_calls _ e1 _ e2 V1 V2 _ _ _ r1 r2 (by omega) (by omega)).mono ?_
  rintro e w3 ⟨v3, rfl, r3, b3⟩
  replace z0 := cell_below b3 z0
  replace z1 := cell_below b3 z1
  replace y0 := cell_below b3 y0
  replace y1 := cell_below b3 y1
  replace D := below_call D b3
  clear b3
  refine hK.out _ _ (by (try dsimp only); (exact ⟨z0, z1, y0, y1⟩)) (fun hHeld => ?_)
  clear hK K
  try simp only [Act.put, List.getElem_toArray, List.getElem_cons_succ, List.getElem_cons_zero, List.setIfInBounds_toArray, List.set_cons_zero, List.set_cons_succ]
  iterate 1
    refine Held.tk (v := ?_) rgrbt rfl rfl rfl (fun _ _ _ h => h) (by assumption) (Or.inl ⟨by kernel_rfl, ?_⟩) ?_
    rotate_left
    · (intro w hSw; (try dsimp only at hSw); go_simp; (try (first | with_reducible rfl | rw [if_neg (by omega)])))
    try simp only [Act.put, List.getElem_toArray, List.getElem_cons_succ, List.getElem_cons_zero, List.setIfInBounds_toArray, List.set_cons_zero, List.set_cons_succ]
  refine wpAnyH_done (by kernel_rfl) ?_ _
  have HF : Hid (changesT (tabT (l, s) p) (tabT (l2, s2) p) = r) := h.out
  rw [HF.out] at r3
  go_wp2
  go_ret
  exact ⟨v3, rfl, r3, D⟩
end Go.Proofs.YtbpfcjdjhponaaaGreat
