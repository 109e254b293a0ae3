/-
Layer 13: the walk of IndexScripts.
-/
import Derived.Test.YtocdoddmaopdbaaIxH
import Derived.Test.YtocdoddmaopdbaaHeldA
set_option linter.unusedVariables false
set_option linter.unusedSimpArgs false
namespace Go.Proofs.Ytocdoddmaopdbaa
open Go.RowKit Go.Maps
open Sp
theorem setP_le (P : List Pr) (p q : ByteArray) (on : Bool) : (setP P p q on).1.length ≤ P.length + 1 := by
  unfold setP tuP
  split
  · exact Nat.le_succ _
  · cases on
    · exact Nat.le_trans (List.length_filter_le _ _) (Nat.le_succ _)
    · simp
theorem forgetP_len (P : List Pr) (u : ByteArray) : (forgetP P u).length ≤ P.length := List.length_filter_le _ _
noncomputable def opsia : Array Oper := Held.inBody 14 Try.f3.body
def ordia : List Nat := [0, 1, 2, 3, 4, 5, 6, 7, 8, 10, 11, 12, 13, 14, 15, 16, 17, 18, 9, 19, 20]
set_option maxRecDepth 100000 in
theorem rgia : Held.Reg opsia ordia 21 [0, 1, 2, 3, 4, 5, 6, 7, 8, 9, 10, 11, 12, 13, 14, 15, 16, 17, 20] := ⟨by kernel_rfl, by kernel_rfl, by kernel_rfl⟩
noncomputable def opsig : Array Oper := Held.inBody 22 Try.f3.body
def ordig : List Nat := [0, 2, 3, 4, 5, 6, 1, 7, 8, 9, 10, 12, 13, 11, 14, 15, 16, 17, 18, 19, 20, 22, 23, 21, 24, 25, 26, 27, 28, 29, 30, 32, 33, 31, 34, 35, 36, 37]
set_option maxRecDepth 100000 in
theorem rgig : Held.Reg opsig ordig 38 [0, 1, 2, 3, 4, 5, 7, 8, 9, 10, 11, 12, 16, 17, 18, 19, 20, 21, 22, 26, 27, 28, 29, 30, 31, 32, 36, 37] := ⟨by kernel_rfl, by kernel_rfl, by kernel_rfl⟩
noncomputable def opsib : Array Oper := Held.inBody 14 Try.f3.body
def ordib : List Nat := [0, 1, 2, 3, 4, 5, 6, 7, 8, 10, 11, 12, 13, 14, 15, 16, 17, 18, 9, 19, 20]
set_option maxRecDepth 100000 in
theorem rgib : Held.Reg opsib ordib 21 [0, 1, 2, 3, 4, 5, 6, 7, 8, 9, 10, 11, 12, 13, 14, 15, 16, 17, 20] := ⟨by kernel_rfl, by kernel_rfl, by kernel_rfl⟩
set_option maxHeartbeats 32000000 in
set_option maxRecDepth 100000 in
theorem scripts13_walk (n c : Nat) (A : Option Addr) (l : List OpI) (w : World) (hl : Row enOp 3 w (.slice A n c) l) (hz : ∀ x ∈ l, x.w.size ≤ 9223372036854775807 ∧ x.c.size ≤ 9223372036854775807) :
    Calls Try.prog 3 #[.slice A n c] w fun e w' => e = .returned (.bool true) ∧ Below w.heap.size w w' := by
  have EA := Lib.hid hl.len_eq
  cases h : fewI l with
  | false =>
    have H := Lib.hid h
    clear h
    go_enter Try.func3, Try.ntmps3
    go_wp2_with fail
    with_reducible refine (few_is n c A l _ hl hz false H).mono ?_
    rintro e w1 ⟨rfl, D⟩
    go_wp2_with fail
    with_reducible refine (live13 _).mono ?_
    rintro e w2 ⟨rfl, b⟩
    replace D := below_call D b
    go_wp2
    go_ret
    exact ⟨rfl, D⟩
  | true =>
    have H := Lib.hid h
    obtain ⟨hn8, hfw⟩ := fewI_iff.1 h
    have HFW := Lib.hid hfw
    have hn80 : n ≤ 80 := by have := EA.out; omega
    clear h hfw hn8
    go_enter Try.func3, Try.ntmps3
    go_wp2_with fail
    with_reducible refine (few_is n c A l _ hl hz true H).mono ?_
    rintro e w1 ⟨rfl, D⟩
    go_wp2_with fail
    with_reducible refine (ix_new w w1 D).mono ?_
    rintro e w2 ⟨a, rfl, hI, b⟩
    replace D := below_call D b
    clear b
    have hk := heap_alloc_new w2 (.cells #[.slice none 0 0] 30)
    have bb := below_box (w := w2) (.cells #[.slice none 0 0] 30)
    replace hI := hI.below bb
    have hR : RefAt (w2.alloc (.cells #[.slice none 0 0] 30)) w2.heap.size (.slice none 0 0) [] := ⟨hk, Own.nil _ _ _ _ _⟩
    have hkw := D.size
    replace D := below_call D bb
    clear bb hk H
    obtain ⟨k, hkk⟩ : ∃ k, w2.heap.size = k := ⟨_, rfl⟩
    obtain ⟨W0, hW0⟩ : ∃ W0, (w2.alloc (.cells #[.slice none 0 0] 30)) = W0 := ⟨_, rfl⟩
    go_wp2_with fail
    rw [hkk] at hR hkw
    rw [hW0] at hI hR D
    try rw [hkk]
    try rw [hW0]
    clear hkk hW0
    go_loopw [5] (fun v5 wr => ∃ (i m vn vc : Nat) (L : List Pr) (vA : Option Addr), v5 = .int .i64 i ∧ i ≤ n ∧ Ix w wr a L m ∧ RefAt wr k (.slice vA vn vc) L ∧ L.length ≤ i ∧ m ≤ 900 * i ∧ Below w.heap.size w wr) (fun v5 _ => (n - intOf v5).toNat)
    case atStart => exact ⟨0, 0, 0, 0, [], none, rfl, by omega, hI, hR, Nat.le_refl _, by omega, D⟩
    case round =>
      clear hI hR D
      obtain ⟨i, m, vn, vc, L, vA, rfl, hi, hI, hR, hLi, hmi, D⟩ := hrel
      by_cases hlt : i < n
      · have hil : i < l.length := by have := EA.out; omega
        obtain ⟨⟨d, p, q⟩, he⟩ : ∃ e, l[i] = e := ⟨_, rfl⟩
        have hpq := HFW.out i hil
        rw [he] at hpq
        obtain ⟨hp, hq⟩ := hpq
        simp only at hp hq
        have hpm : p.size ≤ maxLen := by unfold maxLen; omega
        have hqm : q.size ≤ maxLen := by unfold maxLen; omega
        obtain ⟨ad, rfl, c0, c1, c2⟩ := rowOp (hl.below D) i hil d p q he
        have HE := Lib.hid he
        clear he
        have x1 : (0 : Int) ≤ (i : Int) := by omega
        have x2 : (i : Int) < (n : Int) := by omega
        go_wp2_with fail
        go_region
        replace hI := hI.below ((Below.refl wr.heap.size wr).drew)
        replace hR : RefAt wr.drew k (.slice vA vn vc) L := hR
        replace D : Below w.heap.size w wr.drew := D.drew
        replace c0 : wr.drew.cell? _ = _ := c0
        replace c1 : wr.drew.cell? _ = _ := c1
        replace c2 : wr.drew.cell? _ = _ := c2
        by_cases h0 : d = 0
        · subst h0
          go_wp2_with fail
          replace hI := hI.below ((Below.refl wr.drew.heap.size wr.drew).drew)
          replace hR : RefAt wr.drew.drew k (.slice vA vn vc) L := hR
          replace D : Below w.heap.size w wr.drew.drew := D.drew
          replace c0 : wr.drew.drew.cell? _ = _ := c0
          refine Held.start (ops := opsia) (S := fun w' => w'.cell? (ad.add (i * 3)) = some (.int .i64 0)) ordia 21 (by kernel_rfl) rgia.siz (by kernel_rfl) c0 (fun hHeld => ?_)
          iterate 18
            refine Held.tk (v := ?_) rgia rfl rfl rfl (fun _ _ _ h => h) (by assumption) (Or.inl ⟨by kernel_rfl, ?_⟩) ?_
            rotate_left
            · (intro w hSw; (try dsimp only at hSw); go_simp; (try (first | with_reducible rfl | rw [if_neg (by omega)])))
            try simp only [Act.put, List.getElem_toArray, List.getElem_cons_succ, List.getElem_cons_zero, List.setIfInBounds_toArray, List.set_cons_zero, List.set_cons_succ]
          refine Held.only (k := 18) (i := 9) (by kernel_rfl) (by kernel_rfl) rfl (by kernel_rfl) (fun K hK => ?_)
          go_simp
          go_at_call 12
          with_reducible refine (ix_set hI D p q true hpm hqm (by omega)).mono ?_
          rintro e z1 ⟨rfl, hI1, D1, K1⟩
          replace hR := K1.ref hR
          replace c0 := K1.cell c0
          clear hI D K1
          refine hK.out _ _ (by (try dsimp only); (exact c0)) (fun hHeld => ?_)
          clear hK K
          try simp only [Act.put, List.getElem_toArray, List.getElem_cons_succ, List.getElem_cons_zero, List.setIfInBounds_toArray, List.set_cons_zero, List.set_cons_succ]
          refine Held.only (k := 19) (i := 19) (by kernel_rfl) (by kernel_rfl) rfl (by kernel_rfl) (fun K hK => ?_)
          go_simp
          go_at_call 13
          with_reducible refine (rset_calls hR p q true (by omega)).mono ?_
          rintro e z2 ⟨rfl, v2, hR2, t2⟩
          have hI2 := hI1.rturn hR t2
          have D2 := low_rturn D1 t2 hkw
          replace c0 := (rowsOp (hl.below D2) i hil _ p q HE.out).1
          clear hI1 D1 hR t2
          refine hK.out _ _ (by (try dsimp only); (exact c0)) (fun hHeld => ?_)
          clear hK K
          try simp only [Act.put, List.getElem_toArray, List.getElem_cons_succ, List.getElem_cons_zero, List.setIfInBounds_toArray, List.set_cons_zero, List.set_cons_succ]
          iterate 1
            refine Held.tk (v := ?_) rgia rfl rfl rfl (fun _ _ _ h => h) (by assumption) (Or.inl ⟨by kernel_rfl, ?_⟩) ?_
            rotate_left
            · (intro w hSw; (try dsimp only at hSw); go_simp; (try (first | with_reducible rfl | rw [if_neg (by omega)])))
            try simp only [Act.put, List.getElem_toArray, List.getElem_cons_succ, List.getElem_cons_zero, List.setIfInBounds_toArray, List.set_cons_zero, List.set_cons_succ]
          refine wpAnyH_done (by kernel_rfl) ?_ _
          clear c0 c1 c2
          obtain ⟨vA3, vc3, rfl, -⟩ := hR2.2.slice
          have hL3 : (setP L p q true).1.length ≤ L.length + 1 := setP_le L p q true
          obtain ⟨L2, m2, vA2, vn2, vc2, hI, hm2, hR, hL2n, D⟩ : ∃ (L2 : List Pr) (m2 : Nat) (vA2 : Option Addr) (vn2 vc2 : Nat), Ix w z2 a L2 m2 ∧ m2 ≤ 900 * (i + 1) ∧ RefAt z2 k (.slice vA2 vn2 vc2) L2 ∧ L2.length ≤ i + 1 ∧ Below w.heap.size w z2 := ⟨_, _, _, _, _, hI2, by omega, hR2, by omega, D2⟩
          clear hI2 hR2 D2 hL3
          have hLE := Lib.hid hR.2.row.len_eq
          obtain ⟨k0, -, -⟩ := hR.cell
          replace k0 : z2.drew.cell? _ = _ := k0
          replace hI := hI.below ((Below.refl z2.heap.size z2).drew)
          replace hR : RefAt z2.drew k _ _ := hR
          replace D : Below w.heap.size w z2.drew := D.drew
          have hm5 : m2 ≤ 500000 := by omega
          have hL1 : L2.length ≤ 10000 := by omega
          have hvn : (vn2 : Int) = (L2.length : Int) := by rw [hLE.out]
          go_wp2_with fail
          refine Held.start (ops := opsig) (S := fun w' => w'.cell? ⟨k, 0, none⟩ = some (.slice vA2 vn2 vc2)) ordig 38 (by kernel_rfl) rgig.siz (by kernel_rfl) k0 (fun hHeld => ?_)
          iterate 6
            refine Held.tk (v := ?_) rgig rfl rfl rfl (fun _ _ _ h => h) (by assumption) (Or.inl ⟨by kernel_rfl, ?_⟩) ?_
            rotate_left
            · (intro w hSw; (try dsimp only at hSw); go_simp; (try (first | with_reducible rfl | rw [if_neg (by omega)])))
            try simp only [Act.put, List.getElem_toArray, List.getElem_cons_succ, List.getElem_cons_zero, List.setIfInBounds_toArray, List.set_cons_zero, List.set_cons_succ]
          refine Held.only (k := 6) (i := 1) (by kernel_rfl) (by kernel_rfl) rfl (by kernel_rfl) (fun K hK => ?_)
          go_simp
          go_at_call 18
          with_reducible refine (ix_len hI).mono ?_
          rintro e y1 ⟨rfl, hbx⟩
          replace k0 := cell_below hbx k0
          replace hI := hI.below hbx
          replace hR := hR.below hbx
          replace D := below_call D hbx
          clear hbx
          refine hK.out _ _ (by (try dsimp only); (exact k0)) (fun hHeld => ?_)
          clear hK K
          try simp only [Act.put, List.getElem_toArray, List.getElem_cons_succ, List.getElem_cons_zero, List.setIfInBounds_toArray, List.set_cons_zero, List.set_cons_succ]
          iterate 6
            refine Held.tk (v := ?_) rgig rfl rfl rfl (fun _ _ _ h => h) (by assumption) (Or.inl ⟨by kernel_rfl, ?_⟩) ?_
            rotate_left
            · (intro w hSw; (try dsimp only at hSw); go_simp; (try (first | with_reducible rfl | rw [if_neg (by omega)])))
            try simp only [Act.put, List.getElem_toArray, List.getElem_cons_succ, List.getElem_cons_zero, List.setIfInBounds_toArray, List.set_cons_zero, List.set_cons_succ]
          refine Held.only (k := 13) (i := 11) (by kernel_rfl) (by kernel_rfl) rfl (by kernel_rfl) (fun K hK => ?_)
          go_simp
          go_at_call 20
          with_reducible refine (ix_watchers hI q hqm hm5).mono ?_
          rintro e y2 ⟨va, rfl, r1, hbx⟩
          obtain ⟨Aa, ca, rfl⟩ := form_S r1
          replace k0 := cell_below hbx k0
          replace hI := hI.below hbx
          replace hR := hR.below hbx
          replace D := below_call D hbx
          clear hbx
          refine hK.out _ _ (by (try dsimp only); (exact k0)) (fun hHeld => ?_)
          clear hK K
          try simp only [Act.put, List.getElem_toArray, List.getElem_cons_succ, List.getElem_cons_zero, List.setIfInBounds_toArray, List.set_cons_zero, List.set_cons_succ]
          refine Held.only (k := 14) (i := 14) (by kernel_rfl) (by kernel_rfl) rfl (by kernel_rfl) (fun K hK => ?_)
          go_simp
          go_at_call 21
          with_reducible refine (rwatchers_calls hR q hL1).mono ?_
          rintro e y3 ⟨vb, rfl, r2, hbx⟩
          obtain ⟨Ab, cb, rfl⟩ := form_S r2
          replace k0 := cell_below hbx k0
          replace hI := hI.below hbx
          replace hR := hR.below hbx
          replace D := below_call D hbx
          replace r1 := r1.below hbx
          clear hbx
          refine hK.out _ _ (by (try dsimp only); (exact k0)) (fun hHeld => ?_)
          clear hK K
          try simp only [Act.put, List.getElem_toArray, List.getElem_cons_succ, List.getElem_cons_zero, List.setIfInBounds_toArray, List.set_cons_zero, List.set_cons_succ]
          refine Held.only (k := 15) (i := 15) (by kernel_rfl) (by kernel_rfl) rfl (by kernel_rfl) (fun K hK => ?_)
          go_simp
          go_at_call 19
          with_reducible refine (re_ (refSame_calls _ _ _ _ _ _ _ _ _ r1 r2) (ret_bool (decide_eq_true rfl))).mono ?_
          rintro e y4 ⟨rfl, hbx⟩
          replace k0 := cell_below hbx k0
          replace hI := hI.below hbx
          replace hR := hR.below hbx
          replace D := below_call D hbx
          clear hbx r1 r2
          refine hK.out _ _ (by (try dsimp only); (exact k0)) (fun hHeld => ?_)
          clear hK K
          try simp only [Act.put, List.getElem_toArray, List.getElem_cons_succ, List.getElem_cons_zero, List.setIfInBounds_toArray, List.set_cons_zero, List.set_cons_succ]
          iterate 7
            refine Held.tk (v := ?_) rgig rfl rfl rfl (fun _ _ _ h => h) (by assumption) (Or.inl ⟨by kernel_rfl, ?_⟩) ?_
            rotate_left
            · (intro w hSw; (try dsimp only at hSw); go_simp; (try (first | with_reducible rfl | rw [if_neg (by omega)])))
            try simp only [Act.put, List.getElem_toArray, List.getElem_cons_succ, List.getElem_cons_zero, List.setIfInBounds_toArray, List.set_cons_zero, List.set_cons_succ]
          refine Held.only (k := 23) (i := 21) (by kernel_rfl) (by kernel_rfl) rfl (by kernel_rfl) (fun K hK => ?_)
          go_simp
          go_at_call 22
          with_reducible refine (ix_contacts hI p hpm hm5).mono ?_
          rintro e y5 ⟨va, rfl, r1, hbx⟩
          obtain ⟨Aa, ca, rfl⟩ := form_S r1
          replace k0 := cell_below hbx k0
          replace hI := hI.below hbx
          replace hR := hR.below hbx
          replace D := below_call D hbx
          clear hbx
          refine hK.out _ _ (by (try dsimp only); (exact k0)) (fun hHeld => ?_)
          clear hK K
          try simp only [Act.put, List.getElem_toArray, List.getElem_cons_succ, List.getElem_cons_zero, List.setIfInBounds_toArray, List.set_cons_zero, List.set_cons_succ]
          refine Held.only (k := 24) (i := 24) (by kernel_rfl) (by kernel_rfl) rfl (by kernel_rfl) (fun K hK => ?_)
          go_simp
          go_at_call 23
          with_reducible refine (rcontacts_calls hR p hL1).mono ?_
          rintro e y6 ⟨vb, rfl, r2, hbx⟩
          obtain ⟨Ab, cb, rfl⟩ := form_S r2
          replace k0 := cell_below hbx k0
          replace hI := hI.below hbx
          replace hR := hR.below hbx
          replace D := below_call D hbx
          replace r1 := r1.below hbx
          clear hbx
          refine hK.out _ _ (by (try dsimp only); (exact k0)) (fun hHeld => ?_)
          clear hK K
          try simp only [Act.put, List.getElem_toArray, List.getElem_cons_succ, List.getElem_cons_zero, List.setIfInBounds_toArray, List.set_cons_zero, List.set_cons_succ]
          refine Held.only (k := 25) (i := 25) (by kernel_rfl) (by kernel_rfl) rfl (by kernel_rfl) (fun K hK => ?_)
          go_simp
          go_at_call 19
          with_reducible refine (re_ (refSame_calls _ _ _ _ _ _ _ _ _ r1 r2) (ret_bool (decide_eq_true rfl))).mono ?_
          rintro e y7 ⟨rfl, hbx⟩
          replace k0 := cell_below hbx k0
          replace hI := hI.below hbx
          replace hR := hR.below hbx
          replace D := below_call D hbx
          clear hbx r1 r2
          refine hK.out _ _ (by (try dsimp only); (exact k0)) (fun hHeld => ?_)
          clear hK K
          try simp only [Act.put, List.getElem_toArray, List.getElem_cons_succ, List.getElem_cons_zero, List.setIfInBounds_toArray, List.set_cons_zero, List.set_cons_succ]
          iterate 7
            refine Held.tk (v := ?_) rgig rfl rfl rfl (fun _ _ _ h => h) (by assumption) (Or.inl ⟨by kernel_rfl, ?_⟩) ?_
            rotate_left
            · (intro w hSw; (try dsimp only at hSw); go_simp; (try (first | with_reducible rfl | rw [if_neg (by omega)])))
            try simp only [Act.put, List.getElem_toArray, List.getElem_cons_succ, List.getElem_cons_zero, List.setIfInBounds_toArray, List.set_cons_zero, List.set_cons_succ]
          refine Held.only (k := 33) (i := 31) (by kernel_rfl) (by kernel_rfl) rfl (by kernel_rfl) (fun K hK => ?_)
          go_simp
          go_at_call 20
          with_reducible refine (ix_watchers hI p hpm hm5).mono ?_
          rintro e y8 ⟨va, rfl, r1, hbx⟩
          obtain ⟨Aa, ca, rfl⟩ := form_S r1
          replace k0 := cell_below hbx k0
          replace hI := hI.below hbx
          replace hR := hR.below hbx
          replace D := below_call D hbx
          clear hbx
          refine hK.out _ _ (by (try dsimp only); (exact k0)) (fun hHeld => ?_)
          clear hK K
          try simp only [Act.put, List.getElem_toArray, List.getElem_cons_succ, List.getElem_cons_zero, List.setIfInBounds_toArray, List.set_cons_zero, List.set_cons_succ]
          refine Held.only (k := 34) (i := 34) (by kernel_rfl) (by kernel_rfl) rfl (by kernel_rfl) (fun K hK => ?_)
          go_simp
          go_at_call 21
          with_reducible refine (rwatchers_calls hR p hL1).mono ?_
          rintro e y9 ⟨vb, rfl, r2, hbx⟩
          obtain ⟨Ab, cb, rfl⟩ := form_S r2
          replace k0 := cell_below hbx k0
          replace hI := hI.below hbx
          replace hR := hR.below hbx
          replace D := below_call D hbx
          replace r1 := r1.below hbx
          clear hbx
          refine hK.out _ _ (by (try dsimp only); (exact k0)) (fun hHeld => ?_)
          clear hK K
          try simp only [Act.put, List.getElem_toArray, List.getElem_cons_succ, List.getElem_cons_zero, List.setIfInBounds_toArray, List.set_cons_zero, List.set_cons_succ]
          refine Held.only (k := 35) (i := 35) (by kernel_rfl) (by kernel_rfl) rfl (by kernel_rfl) (fun K hK => ?_)
          go_simp
          go_at_call 19
          with_reducible refine (re_ (refSame_calls _ _ _ _ _ _ _ _ _ r1 r2) (ret_bool (decide_eq_true rfl))).mono ?_
          rintro e y10 ⟨rfl, hbx⟩
          replace k0 := cell_below hbx k0
          replace hI := hI.below hbx
          replace hR := hR.below hbx
          replace D := below_call D hbx
          clear hbx r1 r2
          refine hK.out _ _ (by (try dsimp only); (exact k0)) (fun hHeld => ?_)
          clear hK K
          try simp only [Act.put, List.getElem_toArray, List.getElem_cons_succ, List.getElem_cons_zero, List.setIfInBounds_toArray, List.set_cons_zero, List.set_cons_succ]
          iterate 2
            refine Held.tk (v := ?_) rgig rfl rfl rfl (fun _ _ _ h => h) (by assumption) (Or.inl ⟨by kernel_rfl, ?_⟩) ?_
            rotate_left
            · (intro w hSw; (try dsimp only at hSw); go_simp; (try (first | with_reducible rfl | rw [if_neg (by omega)])))
            try simp only [Act.put, List.getElem_toArray, List.getElem_cons_succ, List.getElem_cons_zero, List.setIfInBounds_toArray, List.set_cons_zero, List.set_cons_succ]
          refine wpAnyH_done (by kernel_rfl) ?_ _
          clear k0
          go_wp2
          exact ⟨⟨i + 1, m2, vn2, vc2, L2, vA2, by go_num, by omega, hI, hR, hL2n, hm2, D⟩, by simp [intOf]; omega⟩
        by_cases h1 : d = 1
        · subst h1
          go_wp2_with fail
          replace hI := hI.below ((Below.refl wr.drew.heap.size wr.drew).drew)
          replace hR : RefAt wr.drew.drew k (.slice vA vn vc) L := hR
          replace D : Below w.heap.size w wr.drew.drew := D.drew
          replace c0 : wr.drew.drew.cell? _ = _ := c0
          refine Held.start (ops := opsib) (S := fun w' => w'.cell? (ad.add (i * 3)) = some (.int .i64 1)) ordib 21 (by kernel_rfl) rgib.siz (by kernel_rfl) c0 (fun hHeld => ?_)
          iterate 18
            refine Held.tk (v := ?_) rgib rfl rfl rfl (fun _ _ _ h => h) (by assumption) (Or.inl ⟨by kernel_rfl, ?_⟩) ?_
            rotate_left
            · (intro w hSw; (try dsimp only at hSw); go_simp; (try (first | with_reducible rfl | rw [if_neg (by omega)])))
            try simp only [Act.put, List.getElem_toArray, List.getElem_cons_succ, List.getElem_cons_zero, List.setIfInBounds_toArray, List.set_cons_zero, List.set_cons_succ]
          refine Held.only (k := 18) (i := 9) (by kernel_rfl) (by kernel_rfl) rfl (by kernel_rfl) (fun K hK => ?_)
          go_simp
          go_at_call 12
          with_reducible refine (ix_set hI D p q false hpm hqm (by omega)).mono ?_
          rintro e z1 ⟨rfl, hI1, D1, K1⟩
          replace hR := K1.ref hR
          replace c0 := K1.cell c0
          clear hI D K1
          refine hK.out _ _ (by (try dsimp only); (exact c0)) (fun hHeld => ?_)
          clear hK K
          try simp only [Act.put, List.getElem_toArray, List.getElem_cons_succ, List.getElem_cons_zero, List.setIfInBounds_toArray, List.set_cons_zero, List.set_cons_succ]
          refine Held.only (k := 19) (i := 19) (by kernel_rfl) (by kernel_rfl) rfl (by kernel_rfl) (fun K hK => ?_)
          go_simp
          go_at_call 13
          with_reducible refine (rset_calls hR p q false (by omega)).mono ?_
          rintro e z2 ⟨rfl, v2, hR2, t2⟩
          have hI2 := hI1.rturn hR t2
          have D2 := low_rturn D1 t2 hkw
          replace c0 := (rowsOp (hl.below D2) i hil _ p q HE.out).1
          clear hI1 D1 hR t2
          refine hK.out _ _ (by (try dsimp only); (exact c0)) (fun hHeld => ?_)
          clear hK K
          try simp only [Act.put, List.getElem_toArray, List.getElem_cons_succ, List.getElem_cons_zero, List.setIfInBounds_toArray, List.set_cons_zero, List.set_cons_succ]
          iterate 1
            refine Held.tk (v := ?_) rgib rfl rfl rfl (fun _ _ _ h => h) (by assumption) (Or.inl ⟨by kernel_rfl, ?_⟩) ?_
            rotate_left
            · (intro w hSw; (try dsimp only at hSw); go_simp; (try (first | with_reducible rfl | rw [if_neg (by omega)])))
            try simp only [Act.put, List.getElem_toArray, List.getElem_cons_succ, List.getElem_cons_zero, List.setIfInBounds_toArray, List.set_cons_zero, List.set_cons_succ]
          refine wpAnyH_done (by kernel_rfl) ?_ _
          clear c0 c1 c2
          obtain ⟨vA3, vc3, rfl, -⟩ := hR2.2.slice
          have hL3 : (setP L p q false).1.length ≤ L.length + 1 := setP_le L p q false
          obtain ⟨L2, m2, vA2, vn2, vc2, hI, hm2, hR, hL2n, D⟩ : ∃ (L2 : List Pr) (m2 : Nat) (vA2 : Option Addr) (vn2 vc2 : Nat), Ix w z2 a L2 m2 ∧ m2 ≤ 900 * (i + 1) ∧ RefAt z2 k (.slice vA2 vn2 vc2) L2 ∧ L2.length ≤ i + 1 ∧ Below w.heap.size w z2 := ⟨_, _, _, _, _, hI2, by omega, hR2, by omega, D2⟩
          clear hI2 hR2 D2 hL3
          have hLE := Lib.hid hR.2.row.len_eq
          obtain ⟨k0, -, -⟩ := hR.cell
          replace k0 : z2.drew.cell? _ = _ := k0
          replace hI := hI.below ((Below.refl z2.heap.size z2).drew)
          replace hR : RefAt z2.drew k _ _ := hR
          replace D : Below w.heap.size w z2.drew := D.drew
          have hm5 : m2 ≤ 500000 := by omega
          have hL1 : L2.length ≤ 10000 := by omega
          have hvn : (vn2 : Int) = (L2.length : Int) := by rw [hLE.out]
          go_wp2_with fail
          refine Held.start (ops := opsig) (S := fun w' => w'.cell? ⟨k, 0, none⟩ = some (.slice vA2 vn2 vc2)) ordig 38 (by kernel_rfl) rgig.siz (by kernel_rfl) k0 (fun hHeld => ?_)
          iterate 6
            refine Held.tk (v := ?_) rgig rfl rfl rfl (fun _ _ _ h => h) (by assumption) (Or.inl ⟨by kernel_rfl, ?_⟩) ?_
            rotate_left
            · (intro w hSw; (try dsimp only at hSw); go_simp; (try (first | with_reducible rfl | rw [if_neg (by omega)])))
            try simp only [Act.put, List.getElem_toArray, List.getElem_cons_succ, List.getElem_cons_zero, List.setIfInBounds_toArray, List.set_cons_zero, List.set_cons_succ]
          refine Held.only (k := 6) (i := 1) (by kernel_rfl) (by kernel_rfl) rfl (by kernel_rfl) (fun K hK => ?_)
          go_simp
          go_at_call 18
          with_reducible refine (ix_len hI).mono ?_
          rintro e y1 ⟨rfl, hbx⟩
          replace k0 := cell_below hbx k0
          replace hI := hI.below hbx
          replace hR := hR.below hbx
          replace D := below_call D hbx
          clear hbx
          refine hK.out _ _ (by (try dsimp only); (exact k0)) (fun hHeld => ?_)
          clear hK K
          try simp only [Act.put, List.getElem_toArray, List.getElem_cons_succ, List.getElem_cons_zero, List.setIfInBounds_toArray, List.set_cons_zero, List.set_cons_succ]
          iterate 6
            refine Held.tk (v := ?_) rgig rfl rfl rfl (fun _ _ _ h => h) (by assumption) (Or.inl ⟨by kernel_rfl, ?_⟩) ?_
            rotate_left
            · (intro w hSw; (try dsimp only at hSw); go_simp; (try (first | with_reducible rfl | rw [if_neg (by omega)])))
            try simp only [Act.put, List.getElem_toArray, List.getElem_cons_succ, List.getElem_cons_zero, List.setIfInBounds_toArray, List.set_cons_zero, List.set_cons_succ]
          refine Held.only (k := 13) (i := 11) (by kernel_rfl) (by kernel_rfl) rfl (by kernel_rfl) (fun K hK => ?_)
          go_simp
          go_at_call 20
          with_reducible refine (ix_watchers hI q hqm hm5).mono ?_
          rintro e y2 ⟨va, rfl, r1, hbx⟩
          obtain ⟨Aa, ca, rfl⟩ := form_S r1
          replace k0 := cell_below hbx k0
          replace hI := hI.below hbx
          replace hR := hR.below hbx
          replace D := below_call D hbx
          clear hbx
          refine hK.out _ _ (by (try dsimp only); (exact k0)) (fun hHeld => ?_)
          clear hK K
          try simp only [Act.put, List.getElem_toArray, List.getElem_cons_succ, List.getElem_cons_zero, List.setIfInBounds_toArray, List.set_cons_zero, List.set_cons_succ]
          refine Held.only (k := 14) (i := 14) (by kernel_rfl) (by kernel_rfl) rfl (by kernel_rfl) (fun K hK => ?_)
          go_simp
          go_at_call 21
          with_reducible refine (rwatchers_calls hR q hL1).mono ?_
          rintro e y3 ⟨vb, rfl, r2, hbx⟩
          obtain ⟨Ab, cb, rfl⟩ := form_S r2
          replace k0 := cell_below hbx k0
          replace hI := hI.below hbx
          replace hR := hR.below hbx
          replace D := below_call D hbx
          replace r1 := r1.below hbx
          clear hbx
          refine hK.out _ _ (by (try dsimp only); (exact k0)) (fun hHeld => ?_)
          clear hK K
          try simp only [Act.put, List.getElem_toArray, List.getElem_cons_succ, List.getElem_cons_zero, List.setIfInBounds_toArray, List.set_cons_zero, List.set_cons_succ]
          refine Held.only (k := 15) (i := 15) (by kernel_rfl) (by kernel_rfl) rfl (by kernel_rfl) (fun K hK => ?_)
          go_simp
          go_at_call 19
          with_reducible refine (re_ (refSame_calls _ _ _ _ _ _ _ _ _ r1 r2) (ret_bool (decide_eq_true rfl))).mono ?_
          rintro e y4 ⟨rfl, hbx⟩
          replace k0 := cell_below hbx k0
          replace hI := hI.below hbx
          replace hR := hR.below hbx
          replace D := below_call D hbx
          clear hbx r1 r2
          refine hK.out _ _ (by (try dsimp only); (exact k0)) (fun hHeld => ?_)
          clear hK K
          try simp only [Act.put, List.getElem_toArray, List.getElem_cons_succ, List.getElem_cons_zero, List.setIfInBounds_toArray, List.set_cons_zero, List.set_cons_succ]
          iterate 7
            refine Held.tk (v := ?_) rgig rfl rfl rfl (fun _ _ _ h => h) (by assumption) (Or.inl ⟨by kernel_rfl, ?_⟩) ?_
            rotate_left
            · (intro w hSw; (try dsimp only at hSw); go_simp; (try (first | with_reducible rfl | rw [if_neg (by omega)])))
            try simp only [Act.put, List.getElem_toArray, List.getElem_cons_succ, List.getElem_cons_zero, List.setIfInBounds_toArray, List.set_cons_zero, List.set_cons_succ]
          refine Held.only (k := 23) (i := 21) (by kernel_rfl) (by kernel_rfl) rfl (by kernel_rfl) (fun K hK => ?_)
          go_simp
          go_at_call 22
          with_reducible refine (ix_contacts hI p hpm hm5).mono ?_
          rintro e y5 ⟨va, rfl, r1, hbx⟩
          obtain ⟨Aa, ca, rfl⟩ := form_S r1
          replace k0 := cell_below hbx k0
          replace hI := hI.below hbx
          replace hR := hR.below hbx
          replace D := below_call D hbx
          clear hbx
          refine hK.out _ _ (by (try dsimp only); (exact k0)) (fun hHeld => ?_)
          clear hK K
          try simp only [Act.put, List.getElem_toArray, List.getElem_cons_succ, List.getElem_cons_zero, List.setIfInBounds_toArray, List.set_cons_zero, List.set_cons_succ]
          refine Held.only (k := 24) (i := 24) (by kernel_rfl) (by kernel_rfl) rfl (by kernel_rfl) (fun K hK => ?_)
          go_simp
          go_at_call 23
          with_reducible refine (rcontacts_calls hR p hL1).mono ?_
          rintro e y6 ⟨vb, rfl, r2, hbx⟩
          obtain ⟨Ab, cb, rfl⟩ := form_S r2
          replace k0 := cell_below hbx k0
          replace hI := hI.below hbx
          replace hR := hR.below hbx
          replace D := below_call D hbx
          replace r1 := r1.below hbx
          clear hbx
          refine hK.out _ _ (by (try dsimp only); (exact k0)) (fun hHeld => ?_)
          clear hK K
          try simp only [Act.put, List.getElem_toArray, List.getElem_cons_succ, List.getElem_cons_zero, List.setIfInBounds_toArray, List.set_cons_zero, List.set_cons_succ]
          refine Held.only (k := 25) (i := 25) (by kernel_rfl) (by kernel_rfl) rfl (by kernel_rfl) (fun K hK => ?_)
          go_simp
          go_at_call 19
          with_reducible refine (re_ (refSame_calls _ _ _ _ _ _ _ _ _ r1 r2) (ret_bool (decide_eq_true rfl))).mono ?_
          rintro e y7 ⟨rfl, hbx⟩
          replace k0 := cell_below hbx k0
          replace hI := hI.below hbx
          replace hR := hR.below hbx
          replace D := below_call D hbx
          clear hbx r1 r2
          refine hK.out _ _ (by (try dsimp only); (exact k0)) (fun hHeld => ?_)
          clear hK K
          try simp only [Act.put, List.getElem_toArray, List.getElem_cons_succ, List.getElem_cons_zero, List.setIfInBounds_toArray, List.set_cons_zero, List.set_cons_succ]
          iterate 7
            refine Held.tk (v := ?_) rgig rfl rfl rfl (fun _ _ _ h => h) (by assumption) (Or.inl ⟨by kernel_rfl, ?_⟩) ?_
            rotate_left
            · (intro w hSw; (try dsimp only at hSw); go_simp; (try (first | with_reducible rfl | rw [if_neg (by omega)])))
            try simp only [Act.put, List.getElem_toArray, List.getElem_cons_succ, List.getElem_cons_zero, List.setIfInBounds_toArray, List.set_cons_zero, List.set_cons_succ]
          refine Held.only (k := 33) (i := 31) (by kernel_rfl) (by kernel_rfl) rfl (by kernel_rfl) (fun K hK => ?_)
          go_simp
          go_at_call 20
          with_reducible refine (ix_watchers hI p hpm hm5).mono ?_
          rintro e y8 ⟨va, rfl, r1, hbx⟩
          obtain ⟨Aa, ca, rfl⟩ := form_S r1
          replace k0 := cell_below hbx k0
          replace hI := hI.below hbx
          replace hR := hR.below hbx
          replace D := below_call D hbx
          clear hbx
          refine hK.out _ _ (by (try dsimp only); (exact k0)) (fun hHeld => ?_)
          clear hK K
          try simp only [Act.put, List.getElem_toArray, List.getElem_cons_succ, List.getElem_cons_zero, List.setIfInBounds_toArray, List.set_cons_zero, List.set_cons_succ]
          refine Held.only (k := 34) (i := 34) (by kernel_rfl) (by kernel_rfl) rfl (by kernel_rfl) (fun K hK => ?_)
          go_simp
          go_at_call 21
          with_reducible refine (rwatchers_calls hR p hL1).mono ?_
          rintro e y9 ⟨vb, rfl, r2, hbx⟩
          obtain ⟨Ab, cb, rfl⟩ := form_S r2
          replace k0 := cell_below hbx k0
          replace hI := hI.below hbx
          replace hR := hR.below hbx
          replace D := below_call D hbx
          replace r1 := r1.below hbx
          clear hbx
          refine hK.out _ _ (by (try dsimp only); (exact k0)) (fun hHeld => ?_)
          clear hK K
          try simp only [Act.put, List.getElem_toArray, List.getElem_cons_succ, List.getElem_cons_zero, List.setIfInBounds_toArray, List.set_cons_zero, List.set_cons_succ]
          refine Held.only (k := 35) (i := 35) (by kernel_rfl) (by kernel_rfl) rfl (by kernel_rfl) (fun K hK => ?_)
          go_simp
          go_at_call 19
          with_reducible refine (re_ (refSame_calls _ _ _ _ _ _ _ _ _ r1 r2) (ret_bool (decide_eq_true rfl))).mono ?_
          rintro e y10 ⟨rfl, hbx⟩
          replace k0 := cell_below hbx k0
          replace hI := hI.below hbx
          replace hR := hR.below hbx
          replace D := below_call D hbx
          clear hbx r1 r2
          refine hK.out _ _ (by (try dsimp only); (exact k0)) (fun hHeld => ?_)
          clear hK K
          try simp only [Act.put, List.getElem_toArray, List.getElem_cons_succ, List.getElem_cons_zero, List.setIfInBounds_toArray, List.set_cons_zero, List.set_cons_succ]
          iterate 2
            refine Held.tk (v := ?_) rgig rfl rfl rfl (fun _ _ _ h => h) (by assumption) (Or.inl ⟨by kernel_rfl, ?_⟩) ?_
            rotate_left
            · (intro w hSw; (try dsimp only at hSw); go_simp; (try (first | with_reducible rfl | rw [if_neg (by omega)])))
            try simp only [Act.put, List.getElem_toArray, List.getElem_cons_succ, List.getElem_cons_zero, List.setIfInBounds_toArray, List.set_cons_zero, List.set_cons_succ]
          refine wpAnyH_done (by kernel_rfl) ?_ _
          clear k0
          go_wp2
          exact ⟨⟨i + 1, m2, vn2, vc2, L2, vA2, by go_num, by omega, hI, hR, hL2n, hm2, D⟩, by simp [intOf]; omega⟩
        by_cases h2 : d = 2
        · subst h2
          go_wp2_with fail
          with_reducible refine (ix_has hI p q hpm hqm).mono ?_
          rintro e z1 ⟨rfl, b1⟩
          replace hI := hI.below b1
          replace hR := hR.below b1
          replace D := below_call D b1
          clear b1 c0 c1 c2
          go_wp2_with fail
          with_reducible refine (rhas_calls hR p q).mono ?_
          rintro e z2 ⟨rfl, b1⟩
          replace hI := hI.below b1
          replace hR := hR.below b1
          replace D := below_call D b1
          clear b1
          obtain ⟨L2, m2, vA2, vn2, vc2, hI, hm2, hR, hL2n, D⟩ : ∃ (L2 : List Pr) (m2 : Nat) (vA2 : Option Addr) (vn2 vc2 : Nat), Ix w z2 a L2 m2 ∧ m2 ≤ 900 * (i + 1) ∧ RefAt z2 k (.slice vA2 vn2 vc2) L2 ∧ L2.length ≤ i + 1 ∧ Below w.heap.size w z2 := ⟨_, _, _, _, _, hI, by omega, hR, by omega, D⟩
          clear hmi hLi
          have hLE := Lib.hid hR.2.row.len_eq
          obtain ⟨k0, -, -⟩ := hR.cell
          replace k0 : z2.drew.cell? _ = _ := k0
          replace hI := hI.below ((Below.refl z2.heap.size z2).drew)
          replace hR : RefAt z2.drew k _ _ := hR
          replace D : Below w.heap.size w z2.drew := D.drew
          have hm5 : m2 ≤ 500000 := by omega
          have hL1 : L2.length ≤ 10000 := by omega
          have hvn : (vn2 : Int) = (L2.length : Int) := by rw [hLE.out]
          go_wp2_with fail
          refine Held.start (ops := opsig) (S := fun w' => w'.cell? ⟨k, 0, none⟩ = some (.slice vA2 vn2 vc2)) ordig 38 (by kernel_rfl) rgig.siz (by kernel_rfl) k0 (fun hHeld => ?_)
          iterate 6
            refine Held.tk (v := ?_) rgig rfl rfl rfl (fun _ _ _ h => h) (by assumption) (Or.inl ⟨by kernel_rfl, ?_⟩) ?_
            rotate_left
            · (intro w hSw; (try dsimp only at hSw); go_simp; (try (first | with_reducible rfl | rw [if_neg (by omega)])))
            try simp only [Act.put, List.getElem_toArray, List.getElem_cons_succ, List.getElem_cons_zero, List.setIfInBounds_toArray, List.set_cons_zero, List.set_cons_succ]
          refine Held.only (k := 6) (i := 1) (by kernel_rfl) (by kernel_rfl) rfl (by kernel_rfl) (fun K hK => ?_)
          go_simp
          go_at_call 18
          with_reducible refine (ix_len hI).mono ?_
          rintro e y1 ⟨rfl, hbx⟩
          replace k0 := cell_below hbx k0
          replace hI := hI.below hbx
          replace hR := hR.below hbx
          replace D := below_call D hbx
          clear hbx
          refine hK.out _ _ (by (try dsimp only); (exact k0)) (fun hHeld => ?_)
          clear hK K
          try simp only [Act.put, List.getElem_toArray, List.getElem_cons_succ, List.getElem_cons_zero, List.setIfInBounds_toArray, List.set_cons_zero, List.set_cons_succ]
          iterate 6
            refine Held.tk (v := ?_) rgig rfl rfl rfl (fun _ _ _ h => h) (by assumption) (Or.inl ⟨by kernel_rfl, ?_⟩) ?_
            rotate_left
            · (intro w hSw; (try dsimp only at hSw); go_simp; (try (first | with_reducible rfl | rw [if_neg (by omega)])))
            try simp only [Act.put, List.getElem_toArray, List.getElem_cons_succ, List.getElem_cons_zero, List.setIfInBounds_toArray, List.set_cons_zero, List.set_cons_succ]
          refine Held.only (k := 13) (i := 11) (by kernel_rfl) (by kernel_rfl) rfl (by kernel_rfl) (fun K hK => ?_)
          go_simp
          go_at_call 20
          with_reducible refine (ix_watchers hI q hqm hm5).mono ?_
          rintro e y2 ⟨va, rfl, r1, hbx⟩
          obtain ⟨Aa, ca, rfl⟩ := form_S r1
          replace k0 := cell_below hbx k0
          replace hI := hI.below hbx
          replace hR := hR.below hbx
          replace D := below_call D hbx
          clear hbx
          refine hK.out _ _ (by (try dsimp only); (exact k0)) (fun hHeld => ?_)
          clear hK K
          try simp only [Act.put, List.getElem_toArray, List.getElem_cons_succ, List.getElem_cons_zero, List.setIfInBounds_toArray, List.set_cons_zero, List.set_cons_succ]
          refine Held.only (k := 14) (i := 14) (by kernel_rfl) (by kernel_rfl) rfl (by kernel_rfl) (fun K hK => ?_)
          go_simp
          go_at_call 21
          with_reducible refine (rwatchers_calls hR q hL1).mono ?_
          rintro e y3 ⟨vb, rfl, r2, hbx⟩
          obtain ⟨Ab, cb, rfl⟩ := form_S r2
          replace k0 := cell_below hbx k0
          replace hI := hI.below hbx
          replace hR := hR.below hbx
          replace D := below_call D hbx
          replace r1 := r1.below hbx
          clear hbx
          refine hK.out _ _ (by (try dsimp only); (exact k0)) (fun hHeld => ?_)
          clear hK K
          try simp only [Act.put, List.getElem_toArray, List.getElem_cons_succ, List.getElem_cons_zero, List.setIfInBounds_toArray, List.set_cons_zero, List.set_cons_succ]
          refine Held.only (k := 15) (i := 15) (by kernel_rfl) (by kernel_rfl) rfl (by kernel_rfl) (fun K hK => ?_)
          go_simp
          go_at_call 19
          with_reducible refine (re_ (refSame_calls _ _ _ _ _ _ _ _ _ r1 r2) (ret_bool (decide_eq_true rfl))).mono ?_
          rintro e y4 ⟨rfl, hbx⟩
          replace k0 := cell_below hbx k0
          replace hI := hI.below hbx
          replace hR := hR.below hbx
          replace D := below_call D hbx
          clear hbx r1 r2
          refine hK.out _ _ (by (try dsimp only); (exact k0)) (fun hHeld => ?_)
          clear hK K
          try simp only [Act.put, List.getElem_toArray, List.getElem_cons_succ, List.getElem_cons_zero, List.setIfInBounds_toArray, List.set_cons_zero, List.set_cons_succ]
          iterate 7
            refine Held.tk (v := ?_) rgig rfl rfl rfl (fun _ _ _ h => h) (by assumption) (Or.inl ⟨by kernel_rfl, ?_⟩) ?_
            rotate_left
            · (intro w hSw; (try dsimp only at hSw); go_simp; (try (first | with_reducible rfl | rw [if_neg (by omega)])))
            try simp only [Act.put, List.getElem_toArray, List.getElem_cons_succ, List.getElem_cons_zero, List.setIfInBounds_toArray, List.set_cons_zero, List.set_cons_succ]
          refine Held.only (k := 23) (i := 21) (by kernel_rfl) (by kernel_rfl) rfl (by kernel_rfl) (fun K hK => ?_)
          go_simp
          go_at_call 22
          with_reducible refine (ix_contacts hI p hpm hm5).mono ?_
          rintro e y5 ⟨va, rfl, r1, hbx⟩
          obtain ⟨Aa, ca, rfl⟩ := form_S r1
          replace k0 := cell_below hbx k0
          replace hI := hI.below hbx
          replace hR := hR.below hbx
          replace D := below_call D hbx
          clear hbx
          refine hK.out _ _ (by (try dsimp only); (exact k0)) (fun hHeld => ?_)
          clear hK K
          try simp only [Act.put, List.getElem_toArray, List.getElem_cons_succ, List.getElem_cons_zero, List.setIfInBounds_toArray, List.set_cons_zero, List.set_cons_succ]
          refine Held.only (k := 24) (i := 24) (by kernel_rfl) (by kernel_rfl) rfl (by kernel_rfl) (fun K hK => ?_)
          go_simp
          go_at_call 23
          with_reducible refine (rcontacts_calls hR p hL1).mono ?_
          rintro e y6 ⟨vb, rfl, r2, hbx⟩
          obtain ⟨Ab, cb, rfl⟩ := form_S r2
          replace k0 := cell_below hbx k0
          replace hI := hI.below hbx
          replace hR := hR.below hbx
          replace D := below_call D hbx
          replace r1 := r1.below hbx
          clear hbx
          refine hK.out _ _ (by (try dsimp only); (exact k0)) (fun hHeld => ?_)
          clear hK K
          try simp only [Act.put, List.getElem_toArray, List.getElem_cons_succ, List.getElem_cons_zero, List.setIfInBounds_toArray, List.set_cons_zero, List.set_cons_succ]
          refine Held.only (k := 25) (i := 25) (by kernel_rfl) (by kernel_rfl) rfl (by kernel_rfl) (fun K hK => ?_)
          go_simp
          go_at_call 19
          with_reducible refine (re_ (refSame_calls _ _ _ _ _ _ _ _ _ r1 r2) (ret_bool (decide_eq_true rfl))).mono ?_
          rintro e y7 ⟨rfl, hbx⟩
          replace k0 := cell_below hbx k0
          replace hI := hI.below hbx
          replace hR := hR.below hbx
          replace D := below_call D hbx
          clear hbx r1 r2
          refine hK.out _ _ (by (try dsimp only); (exact k0)) (fun hHeld => ?_)
          clear hK K
          try simp only [Act.put, List.getElem_toArray, List.getElem_cons_succ, List.getElem_cons_zero, List.setIfInBounds_toArray, List.set_cons_zero, List.set_cons_succ]
          iterate 7
            refine Held.tk (v := ?_) rgig rfl rfl rfl (fun _ _ _ h => h) (by assumption) (Or.inl ⟨by kernel_rfl, ?_⟩) ?_
            rotate_left
            · (intro w hSw; (try dsimp only at hSw); go_simp; (try (first | with_reducible rfl | rw [if_neg (by omega)])))
            try simp only [Act.put, List.getElem_toArray, List.getElem_cons_succ, List.getElem_cons_zero, List.setIfInBounds_toArray, List.set_cons_zero, List.set_cons_succ]
          refine Held.only (k := 33) (i := 31) (by kernel_rfl) (by kernel_rfl) rfl (by kernel_rfl) (fun K hK => ?_)
          go_simp
          go_at_call 20
          with_reducible refine (ix_watchers hI p hpm hm5).mono ?_
          rintro e y8 ⟨va, rfl, r1, hbx⟩
          obtain ⟨Aa, ca, rfl⟩ := form_S r1
          replace k0 := cell_below hbx k0
          replace hI := hI.below hbx
          replace hR := hR.below hbx
          replace D := below_call D hbx
          clear hbx
          refine hK.out _ _ (by (try dsimp only); (exact k0)) (fun hHeld => ?_)
          clear hK K
          try simp only [Act.put, List.getElem_toArray, List.getElem_cons_succ, List.getElem_cons_zero, List.setIfInBounds_toArray, List.set_cons_zero, List.set_cons_succ]
          refine Held.only (k := 34) (i := 34) (by kernel_rfl) (by kernel_rfl) rfl (by kernel_rfl) (fun K hK => ?_)
          go_simp
          go_at_call 21
          with_reducible refine (rwatchers_calls hR p hL1).mono ?_
          rintro e y9 ⟨vb, rfl, r2, hbx⟩
          obtain ⟨Ab, cb, rfl⟩ := form_S r2
          replace k0 := cell_below hbx k0
          replace hI := hI.below hbx
          replace hR := hR.below hbx
          replace D := below_call D hbx
          replace r1 := r1.below hbx
          clear hbx
          refine hK.out _ _ (by (try dsimp only); (exact k0)) (fun hHeld => ?_)
          clear hK K
          try simp only [Act.put, List.getElem_toArray, List.getElem_cons_succ, List.getElem_cons_zero, List.setIfInBounds_toArray, List.set_cons_zero, List.set_cons_succ]
          refine Held.only (k := 35) (i := 35) (by kernel_rfl) (by kernel_rfl) rfl (by kernel_rfl) (fun K hK => ?_)
          go_simp
          go_at_call 19
          with_reducible refine (re_ (refSame_calls _ _ _ _ _ _ _ _ _ r1 r2) (ret_bool (decide_eq_true rfl))).mono ?_
          rintro e y10 ⟨rfl, hbx⟩
          replace k0 := cell_below hbx k0
          replace hI := hI.below hbx
          replace hR := hR.below hbx
          replace D := below_call D hbx
          clear hbx r1 r2
          refine hK.out _ _ (by (try dsimp only); (exact k0)) (fun hHeld => ?_)
          clear hK K
          try simp only [Act.put, List.getElem_toArray, List.getElem_cons_succ, List.getElem_cons_zero, List.setIfInBounds_toArray, List.set_cons_zero, List.set_cons_succ]
          iterate 2
            refine Held.tk (v := ?_) rgig rfl rfl rfl (fun _ _ _ h => h) (by assumption) (Or.inl ⟨by kernel_rfl, ?_⟩) ?_
            rotate_left
            · (intro w hSw; (try dsimp only at hSw); go_simp; (try (first | with_reducible rfl | rw [if_neg (by omega)])))
            try simp only [Act.put, List.getElem_toArray, List.getElem_cons_succ, List.getElem_cons_zero, List.setIfInBounds_toArray, List.set_cons_zero, List.set_cons_succ]
          refine wpAnyH_done (by kernel_rfl) ?_ _
          clear k0
          go_wp2
          exact ⟨⟨i + 1, m2, vn2, vc2, L2, vA2, by go_num, by omega, hI, hR, hL2n, hm2, D⟩, by simp [intOf]; omega⟩
        by_cases h3 : d = 3
        · subst h3
          go_wp2_with fail
          with_reducible refine (ix_forget hI D p hpm (by omega) (by omega)).mono ?_
          rintro e z1 ⟨rfl, hI1, D1, K1⟩
          replace hR := K1.ref hR
          clear hI D K1 c0 c1 c2
          go_wp2_with fail
          with_reducible refine (rforget_calls hR p (by omega)).mono ?_
          rintro e z2 ⟨rfl, v2, hR2, t2⟩
          have hI2 := hI1.rturn hR t2
          have D2 := low_rturn D1 t2 hkw
          clear hI1 D1 hR t2
          obtain ⟨vA3, vc3, rfl, -⟩ := hR2.2.slice
          have hL3 := forgetP_len L p
          obtain ⟨L2, m2, vA2, vn2, vc2, hI, hm2, hR, hL2n, D⟩ : ∃ (L2 : List Pr) (m2 : Nat) (vA2 : Option Addr) (vn2 vc2 : Nat), Ix w z2 a L2 m2 ∧ m2 ≤ 900 * (i + 1) ∧ RefAt z2 k (.slice vA2 vn2 vc2) L2 ∧ L2.length ≤ i + 1 ∧ Below w.heap.size w z2 := ⟨_, _, _, _, _, hI2, by omega, hR2, by omega, D2⟩
          clear hI2 hR2 D2 hL3
          have hLE := Lib.hid hR.2.row.len_eq
          obtain ⟨k0, -, -⟩ := hR.cell
          replace k0 : z2.drew.cell? _ = _ := k0
          replace hI := hI.below ((Below.refl z2.heap.size z2).drew)
          replace hR : RefAt z2.drew k _ _ := hR
          replace D : Below w.heap.size w z2.drew := D.drew
          have hm5 : m2 ≤ 500000 := by omega
          have hL1 : L2.length ≤ 10000 := by omega
          have hvn : (vn2 : Int) = (L2.length : Int) := by rw [hLE.out]
          go_wp2_with fail
          refine Held.start (ops := opsig) (S := fun w' => w'.cell? ⟨k, 0, none⟩ = some (.slice vA2 vn2 vc2)) ordig 38 (by kernel_rfl) rgig.siz (by kernel_rfl) k0 (fun hHeld => ?_)
          iterate 6
            refine Held.tk (v := ?_) rgig rfl rfl rfl (fun _ _ _ h => h) (by assumption) (Or.inl ⟨by kernel_rfl, ?_⟩) ?_
            rotate_left
            · (intro w hSw; (try dsimp only at hSw); go_simp; (try (first | with_reducible rfl | rw [if_neg (by omega)])))
            try simp only [Act.put, List.getElem_toArray, List.getElem_cons_succ, List.getElem_cons_zero, List.setIfInBounds_toArray, List.set_cons_zero, List.set_cons_succ]
          refine Held.only (k := 6) (i := 1) (by kernel_rfl) (by kernel_rfl) rfl (by kernel_rfl) (fun K hK => ?_)
          go_simp
          go_at_call 18
          with_reducible refine (ix_len hI).mono ?_
          rintro e y1 ⟨rfl, hbx⟩
          replace k0 := cell_below hbx k0
          replace hI := hI.below hbx
          replace hR := hR.below hbx
          replace D := below_call D hbx
          clear hbx
          refine hK.out _ _ (by (try dsimp only); (exact k0)) (fun hHeld => ?_)
          clear hK K
          try simp only [Act.put, List.getElem_toArray, List.getElem_cons_succ, List.getElem_cons_zero, List.setIfInBounds_toArray, List.set_cons_zero, List.set_cons_succ]
          iterate 6
            refine Held.tk (v := ?_) rgig rfl rfl rfl (fun _ _ _ h => h) (by assumption) (Or.inl ⟨by kernel_rfl, ?_⟩) ?_
            rotate_left
            · (intro w hSw; (try dsimp only at hSw); go_simp; (try (first | with_reducible rfl | rw [if_neg (by omega)])))
            try simp only [Act.put, List.getElem_toArray, List.getElem_cons_succ, List.getElem_cons_zero, List.setIfInBounds_toArray, List.set_cons_zero, List.set_cons_succ]
          refine Held.only (k := 13) (i := 11) (by kernel_rfl) (by kernel_rfl) rfl (by kernel_rfl) (fun K hK => ?_)
          go_simp
          go_at_call 20
          with_reducible refine (ix_watchers hI q hqm hm5).mono ?_
          rintro e y2 ⟨va, rfl, r1, hbx⟩
          obtain ⟨Aa, ca, rfl⟩ := form_S r1
          replace k0 := cell_below hbx k0
          replace hI := hI.below hbx
          replace hR := hR.below hbx
          replace D := below_call D hbx
          clear hbx
          refine hK.out _ _ (by (try dsimp only); (exact k0)) (fun hHeld => ?_)
          clear hK K
          try simp only [Act.put, List.getElem_toArray, List.getElem_cons_succ, List.getElem_cons_zero, List.setIfInBounds_toArray, List.set_cons_zero, List.set_cons_succ]
          refine Held.only (k := 14) (i := 14) (by kernel_rfl) (by kernel_rfl) rfl (by kernel_rfl) (fun K hK => ?_)
          go_simp
          go_at_call 21
          with_reducible refine (rwatchers_calls hR q hL1).mono ?_
          rintro e y3 ⟨vb, rfl, r2, hbx⟩
          obtain ⟨Ab, cb, rfl⟩ := form_S r2
          replace k0 := cell_below hbx k0
          replace hI := hI.below hbx
          replace hR := hR.below hbx
          replace D := below_call D hbx
          replace r1 := r1.below hbx
          clear hbx
          refine hK.out _ _ (by (try dsimp only); (exact k0)) (fun hHeld => ?_)
          clear hK K
          try simp only [Act.put, List.getElem_toArray, List.getElem_cons_succ, List.getElem_cons_zero, List.setIfInBounds_toArray, List.set_cons_zero, List.set_cons_succ]
          refine Held.only (k := 15) (i := 15) (by kernel_rfl) (by kernel_rfl) rfl (by kernel_rfl) (fun K hK => ?_)
          go_simp
          go_at_call 19
          with_reducible refine (re_ (refSame_calls _ _ _ _ _ _ _ _ _ r1 r2) (ret_bool (decide_eq_true rfl))).mono ?_
          rintro e y4 ⟨rfl, hbx⟩
          replace k0 := cell_below hbx k0
          replace hI := hI.below hbx
          replace hR := hR.below hbx
          replace D := below_call D hbx
          clear hbx r1 r2
          refine hK.out _ _ (by (try dsimp only); (exact k0)) (fun hHeld => ?_)
          clear hK K
          try simp only [Act.put, List.getElem_toArray, List.getElem_cons_succ, List.getElem_cons_zero, List.setIfInBounds_toArray, List.set_cons_zero, List.set_cons_succ]
          iterate 7
            refine Held.tk (v := ?_) rgig rfl rfl rfl (fun _ _ _ h => h) (by assumption) (Or.inl ⟨by kernel_rfl, ?_⟩) ?_
            rotate_left
            · (intro w hSw; (try dsimp only at hSw); go_simp; (try (first | with_reducible rfl | rw [if_neg (by omega)])))
            try simp only [Act.put, List.getElem_toArray, List.getElem_cons_succ, List.getElem_cons_zero, List.setIfInBounds_toArray, List.set_cons_zero, List.set_cons_succ]
          refine Held.only (k := 23) (i := 21) (by kernel_rfl) (by kernel_rfl) rfl (by kernel_rfl) (fun K hK => ?_)
          go_simp
          go_at_call 22
          with_reducible refine (ix_contacts hI p hpm hm5).mono ?_
          rintro e y5 ⟨va, rfl, r1, hbx⟩
          obtain ⟨Aa, ca, rfl⟩ := form_S r1
          replace k0 := cell_below hbx k0
          replace hI := hI.below hbx
          replace hR := hR.below hbx
          replace D := below_call D hbx
          clear hbx
          refine hK.out _ _ (by (try dsimp only); (exact k0)) (fun hHeld => ?_)
          clear hK K
          try simp only [Act.put, List.getElem_toArray, List.getElem_cons_succ, List.getElem_cons_zero, List.setIfInBounds_toArray, List.set_cons_zero, List.set_cons_succ]
          refine Held.only (k := 24) (i := 24) (by kernel_rfl) (by kernel_rfl) rfl (by kernel_rfl) (fun K hK => ?_)
          go_simp
          go_at_call 23
          with_reducible refine (rcontacts_calls hR p hL1).mono ?_
          rintro e y6 ⟨vb, rfl, r2, hbx⟩
          obtain ⟨Ab, cb, rfl⟩ := form_S r2
          replace k0 := cell_below hbx k0
          replace hI := hI.below hbx
          replace hR := hR.below hbx
          replace D := below_call D hbx
          replace r1 := r1.below hbx
          clear hbx
          refine hK.out _ _ (by (try dsimp only); (exact k0)) (fun hHeld => ?_)
          clear hK K
          try simp only [Act.put, List.getElem_toArray, List.getElem_cons_succ, List.getElem_cons_zero, List.setIfInBounds_toArray, List.set_cons_zero, List.set_cons_succ]
          refine Held.only (k := 25) (i := 25) (by kernel_rfl) (by kernel_rfl) rfl (by kernel_rfl) (fun K hK => ?_)
          go_simp
          go_at_call 19
          with_reducible refine (re_ (refSame_calls _ _ _ _ _ _ _ _ _ r1 r2) (ret_bool (decide_eq_true rfl))).mono ?_
          rintro e y7 ⟨rfl, hbx⟩
          replace k0 := cell_below hbx k0
          replace hI := hI.below hbx
          replace hR := hR.below hbx
          replace D := below_call D hbx
          clear hbx r1 r2
          refine hK.out _ _ (by (try dsimp only); (exact k0)) (fun hHeld => ?_)
          clear hK K
          try simp only [Act.put, List.getElem_toArray, List.getElem_cons_succ, List.getElem_cons_zero, List.setIfInBounds_toArray, List.set_cons_zero, List.set_cons_succ]
          iterate 7
            refine Held.tk (v := ?_) rgig rfl rfl rfl (fun _ _ _ h => h) (by assumption) (Or.inl ⟨by kernel_rfl, ?_⟩) ?_
            rotate_left
            · (intro w hSw; (try dsimp only at hSw); go_simp; (try (first | with_reducible rfl | rw [if_neg (by omega)])))
            try simp only [Act.put, List.getElem_toArray, List.getElem_cons_succ, List.getElem_cons_zero, List.setIfInBounds_toArray, List.set_cons_zero, List.set_cons_succ]
          refine Held.only (k := 33) (i := 31) (by kernel_rfl) (by kernel_rfl) rfl (by kernel_rfl) (fun K hK => ?_)
          go_simp
          go_at_call 20
          with_reducible refine (ix_watchers hI p hpm hm5).mono ?_
          rintro e y8 ⟨va, rfl, r1, hbx⟩
          obtain ⟨Aa, ca, rfl⟩ := form_S r1
          replace k0 := cell_below hbx k0
          replace hI := hI.below hbx
          replace hR := hR.below hbx
          replace D := below_call D hbx
          clear hbx
          refine hK.out _ _ (by (try dsimp only); (exact k0)) (fun hHeld => ?_)
          clear hK K
          try simp only [Act.put, List.getElem_toArray, List.getElem_cons_succ, List.getElem_cons_zero, List.setIfInBounds_toArray, List.set_cons_zero, List.set_cons_succ]
          refine Held.only (k := 34) (i := 34) (by kernel_rfl) (by kernel_rfl) rfl (by kernel_rfl) (fun K hK => ?_)
          go_simp
          go_at_call 21
          with_reducible refine (rwatchers_calls hR p hL1).mono ?_
          rintro e y9 ⟨vb, rfl, r2, hbx⟩
          obtain ⟨Ab, cb, rfl⟩ := form_S r2
          replace k0 := cell_below hbx k0
          replace hI := hI.below hbx
          replace hR := hR.below hbx
          replace D := below_call D hbx
          replace r1 := r1.below hbx
          clear hbx
          refine hK.out _ _ (by (try dsimp only); (exact k0)) (fun hHeld => ?_)
          clear hK K
          try simp only [Act.put, List.getElem_toArray, List.getElem_cons_succ, List.getElem_cons_zero, List.setIfInBounds_toArray, List.set_cons_zero, List.set_cons_succ]
          refine Held.only (k := 35) (i := 35) (by kernel_rfl) (by kernel_rfl) rfl (by kernel_rfl) (fun K hK => ?_)
          go_simp
          go_at_call 19
          with_reducible refine (re_ (refSame_calls _ _ _ _ _ _ _ _ _ r1 r2) (ret_bool (decide_eq_true rfl))).mono ?_
          rintro e y10 ⟨rfl, hbx⟩
          replace k0 := cell_below hbx k0
          replace hI := hI.below hbx
          replace hR := hR.below hbx
          replace D := below_call D hbx
          clear hbx r1 r2
          refine hK.out _ _ (by (try dsimp only); (exact k0)) (fun hHeld => ?_)
          clear hK K
          try simp only [Act.put, List.getElem_toArray, List.getElem_cons_succ, List.getElem_cons_zero, List.setIfInBounds_toArray, List.set_cons_zero, List.set_cons_succ]
          iterate 2
            refine Held.tk (v := ?_) rgig rfl rfl rfl (fun _ _ _ h => h) (by assumption) (Or.inl ⟨by kernel_rfl, ?_⟩) ?_
            rotate_left
            · (intro w hSw; (try dsimp only at hSw); go_simp; (try (first | with_reducible rfl | rw [if_neg (by omega)])))
            try simp only [Act.put, List.getElem_toArray, List.getElem_cons_succ, List.getElem_cons_zero, List.setIfInBounds_toArray, List.set_cons_zero, List.set_cons_succ]
          refine wpAnyH_done (by kernel_rfl) ?_ _
          clear k0
          go_wp2
          exact ⟨⟨i + 1, m2, vn2, vc2, L2, vA2, by go_num, by omega, hI, hR, hL2n, hm2, D⟩, by simp [intOf]; omega⟩
        clear c1 c2
        obtain ⟨L2, m2, vA2, vn2, vc2, hI, hm2, hR, hL2n, D⟩ : ∃ (L2 : List Pr) (m2 : Nat) (vA2 : Option Addr) (vn2 vc2 : Nat), Ix w wr.drew a L2 m2 ∧ m2 ≤ 900 * (i + 1) ∧ RefAt wr.drew k (.slice vA2 vn2 vc2) L2 ∧ L2.length ≤ i + 1 ∧ Below w.heap.size w wr.drew := ⟨_, _, _, _, _, hI, by omega, hR, by omega, D⟩
        clear hmi hLi
        have hLE := Lib.hid hR.2.row.len_eq
        obtain ⟨k0, -, -⟩ := hR.cell
        replace k0 : wr.drew.drew.cell? _ = _ := k0
        replace hI := hI.below ((Below.refl wr.drew.heap.size wr.drew).drew)
        replace hR : RefAt wr.drew.drew k _ _ := hR
        replace D : Below w.heap.size w wr.drew.drew := D.drew
        have hm5 : m2 ≤ 500000 := by omega
        have hL1 : L2.length ≤ 10000 := by omega
        have hvn : (vn2 : Int) = (L2.length : Int) := by rw [hLE.out]
        go_wp2_with fail
        refine Held.start (ops := opsig) (S := fun w' => w'.cell? ⟨k, 0, none⟩ = some (.slice vA2 vn2 vc2)) ordig 38 (by kernel_rfl) rgig.siz (by kernel_rfl) k0 (fun hHeld => ?_)
        iterate 6
          refine Held.tk (v := ?_) rgig rfl rfl rfl (fun _ _ _ h => h) (by assumption) (Or.inl ⟨by kernel_rfl, ?_⟩) ?_
          rotate_left
          · (intro w hSw; (try dsimp only at hSw); go_simp; (try (first | with_reducible rfl | rw [if_neg (by omega)])))
          try simp only [Act.put, List.getElem_toArray, List.getElem_cons_succ, List.getElem_cons_zero, List.setIfInBounds_toArray, List.set_cons_zero, List.set_cons_succ]
        refine Held.only (k := 6) (i := 1) (by kernel_rfl) (by kernel_rfl) rfl (by kernel_rfl) (fun K hK => ?_)
        go_simp
        go_at_call 18
        with_reducible refine (ix_len hI).mono ?_
        rintro e y1 ⟨rfl, hbx⟩
        replace k0 := cell_below hbx k0
        replace hI := hI.below hbx
        replace hR := hR.below hbx
        replace D := below_call D hbx
        clear hbx
        refine hK.out _ _ (by (try dsimp only); (exact k0)) (fun hHeld => ?_)
        clear hK K
        try simp only [Act.put, List.getElem_toArray, List.getElem_cons_succ, List.getElem_cons_zero, List.setIfInBounds_toArray, List.set_cons_zero, List.set_cons_succ]
        iterate 6
          refine Held.tk (v := ?_) rgig rfl rfl rfl (fun _ _ _ h => h) (by assumption) (Or.inl ⟨by kernel_rfl, ?_⟩) ?_
          rotate_left
          · (intro w hSw; (try dsimp only at hSw); go_simp; (try (first | with_reducible rfl | rw [if_neg (by omega)])))
          try simp only [Act.put, List.getElem_toArray, List.getElem_cons_succ, List.getElem_cons_zero, List.setIfInBounds_toArray, List.set_cons_zero, List.set_cons_succ]
        refine Held.only (k := 13) (i := 11) (by kernel_rfl) (by kernel_rfl) rfl (by kernel_rfl) (fun K hK => ?_)
        go_simp
        go_at_call 20
        with_reducible refine (ix_watchers hI q hqm hm5).mono ?_
        rintro e y2 ⟨va, rfl, r1, hbx⟩
        obtain ⟨Aa, ca, rfl⟩ := form_S r1
        replace k0 := cell_below hbx k0
        replace hI := hI.below hbx
        replace hR := hR.below hbx
        replace D := below_call D hbx
        clear hbx
        refine hK.out _ _ (by (try dsimp only); (exact k0)) (fun hHeld => ?_)
        clear hK K
        try simp only [Act.put, List.getElem_toArray, List.getElem_cons_succ, List.getElem_cons_zero, List.setIfInBounds_toArray, List.set_cons_zero, List.set_cons_succ]
        refine Held.only (k := 14) (i := 14) (by kernel_rfl) (by kernel_rfl) rfl (by kernel_rfl) (fun K hK => ?_)
        go_simp
        go_at_call 21
        with_reducible refine (rwatchers_calls hR q hL1).mono ?_
        rintro e y3 ⟨vb, rfl, r2, hbx⟩
        obtain ⟨Ab, cb, rfl⟩ := form_S r2
        replace k0 := cell_below hbx k0
        replace hI := hI.below hbx
        replace hR := hR.below hbx
        replace D := below_call D hbx
        replace r1 := r1.below hbx
        clear hbx
        refine hK.out _ _ (by (try dsimp only); (exact k0)) (fun hHeld => ?_)
        clear hK K
        try simp only [Act.put, List.getElem_toArray, List.getElem_cons_succ, List.getElem_cons_zero, List.setIfInBounds_toArray, List.set_cons_zero, List.set_cons_succ]
        refine Held.only (k := 15) (i := 15) (by kernel_rfl) (by kernel_rfl) rfl (by kernel_rfl) (fun K hK => ?_)
        go_simp
        go_at_call 19
        with_reducible refine (re_ (refSame_calls _ _ _ _ _ _ _ _ _ r1 r2) (ret_bool (decide_eq_true rfl))).mono ?_
        rintro e y4 ⟨rfl, hbx⟩
        replace k0 := cell_below hbx k0
        replace hI := hI.below hbx
        replace hR := hR.below hbx
        replace D := below_call D hbx
        clear hbx r1 r2
        refine hK.out _ _ (by (try dsimp only); (exact k0)) (fun hHeld => ?_)
        clear hK K
        try simp only [Act.put, List.getElem_toArray, List.getElem_cons_succ, List.getElem_cons_zero, List.setIfInBounds_toArray, List.set_cons_zero, List.set_cons_succ]
        iterate 7
          refine Held.tk (v := ?_) rgig rfl rfl rfl (fun _ _ _ h => h) (by assumption) (Or.inl ⟨by kernel_rfl, ?_⟩) ?_
          rotate_left
          · (intro w hSw; (try dsimp only at hSw); go_simp; (try (first | with_reducible rfl | rw [if_neg (by omega)])))
          try simp only [Act.put, List.getElem_toArray, List.getElem_cons_succ, List.getElem_cons_zero, List.setIfInBounds_toArray, List.set_cons_zero, List.set_cons_succ]
        refine Held.only (k := 23) (i := 21) (by kernel_rfl) (by kernel_rfl) rfl (by kernel_rfl) (fun K hK => ?_)
        go_simp
        go_at_call 22
        with_reducible refine (ix_contacts hI p hpm hm5).mono ?_
        rintro e y5 ⟨va, rfl, r1, hbx⟩
        obtain ⟨Aa, ca, rfl⟩ := form_S r1
        replace k0 := cell_below hbx k0
        replace hI := hI.below hbx
        replace hR := hR.below hbx
        replace D := below_call D hbx
        clear hbx
        refine hK.out _ _ (by (try dsimp only); (exact k0)) (fun hHeld => ?_)
        clear hK K
        try simp only [Act.put, List.getElem_toArray, List.getElem_cons_succ, List.getElem_cons_zero, List.setIfInBounds_toArray, List.set_cons_zero, List.set_cons_succ]
        refine Held.only (k := 24) (i := 24) (by kernel_rfl) (by kernel_rfl) rfl (by kernel_rfl) (fun K hK => ?_)
        go_simp
        go_at_call 23
        with_reducible refine (rcontacts_calls hR p hL1).mono ?_
        rintro e y6 ⟨vb, rfl, r2, hbx⟩
        obtain ⟨Ab, cb, rfl⟩ := form_S r2
        replace k0 := cell_below hbx k0
        replace hI := hI.below hbx
        replace hR := hR.below hbx
        replace D := below_call D hbx
        replace r1 := r1.below hbx
        clear hbx
        refine hK.out _ _ (by (try dsimp only); (exact k0)) (fun hHeld => ?_)
        clear hK K
        try simp only [Act.put, List.getElem_toArray, List.getElem_cons_succ, List.getElem_cons_zero, List.setIfInBounds_toArray, List.set_cons_zero, List.set_cons_succ]
        refine Held.only (k := 25) (i := 25) (by kernel_rfl) (by kernel_rfl) rfl (by kernel_rfl) (fun K hK => ?_)
        go_simp
        go_at_call 19
        with_reducible refine (re_ (refSame_calls _ _ _ _ _ _ _ _ _ r1 r2) (ret_bool (decide_eq_true rfl))).mono ?_
        rintro e y7 ⟨rfl, hbx⟩
        replace k0 := cell_below hbx k0
        replace hI := hI.below hbx
        replace hR := hR.below hbx
        replace D := below_call D hbx
        clear hbx r1 r2
        refine hK.out _ _ (by (try dsimp only); (exact k0)) (fun hHeld => ?_)
        clear hK K
        try simp only [Act.put, List.getElem_toArray, List.getElem_cons_succ, List.getElem_cons_zero, List.setIfInBounds_toArray, List.set_cons_zero, List.set_cons_succ]
        iterate 7
          refine Held.tk (v := ?_) rgig rfl rfl rfl (fun _ _ _ h => h) (by assumption) (Or.inl ⟨by kernel_rfl, ?_⟩) ?_
          rotate_left
          · (intro w hSw; (try dsimp only at hSw); go_simp; (try (first | with_reducible rfl | rw [if_neg (by omega)])))
          try simp only [Act.put, List.getElem_toArray, List.getElem_cons_succ, List.getElem_cons_zero, List.setIfInBounds_toArray, List.set_cons_zero, List.set_cons_succ]
        refine Held.only (k := 33) (i := 31) (by kernel_rfl) (by kernel_rfl) rfl (by kernel_rfl) (fun K hK => ?_)
        go_simp
        go_at_call 20
        with_reducible refine (ix_watchers hI p hpm hm5).mono ?_
        rintro e y8 ⟨va, rfl, r1, hbx⟩
        obtain ⟨Aa, ca, rfl⟩ := form_S r1
        replace k0 := cell_below hbx k0
        replace hI := hI.below hbx
        replace hR := hR.below hbx
        replace D := below_call D hbx
        clear hbx
        refine hK.out _ _ (by (try dsimp only); (exact k0)) (fun hHeld => ?_)
        clear hK K
        try simp only [Act.put, List.getElem_toArray, List.getElem_cons_succ, List.getElem_cons_zero, List.setIfInBounds_toArray, List.set_cons_zero, List.set_cons_succ]
        refine Held.only (k := 34) (i := 34) (by kernel_rfl) (by kernel_rfl) rfl (by kernel_rfl) (fun K hK => ?_)
        go_simp
        go_at_call 21
        with_reducible refine (rwatchers_calls hR p hL1).mono ?_
        rintro e y9 ⟨vb, rfl, r2, hbx⟩
        obtain ⟨Ab, cb, rfl⟩ := form_S r2
        replace k0 := cell_below hbx k0
        replace hI := hI.below hbx
        replace hR := hR.below hbx
        replace D := below_call D hbx
        replace r1 := r1.below hbx
        clear hbx
        refine hK.out _ _ (by (try dsimp only); (exact k0)) (fun hHeld => ?_)
        clear hK K
        try simp only [Act.put, List.getElem_toArray, List.getElem_cons_succ, List.getElem_cons_zero, List.setIfInBounds_toArray, List.set_cons_zero, List.set_cons_succ]
        refine Held.only (k := 35) (i := 35) (by kernel_rfl) (by kernel_rfl) rfl (by kernel_rfl) (fun K hK => ?_)
        go_simp
        go_at_call 19
        with_reducible refine (re_ (refSame_calls _ _ _ _ _ _ _ _ _ r1 r2) (ret_bool (decide_eq_true rfl))).mono ?_
        rintro e y10 ⟨rfl, hbx⟩
        replace k0 := cell_below hbx k0
        replace hI := hI.below hbx
        replace hR := hR.below hbx
        replace D := below_call D hbx
        clear hbx r1 r2
        refine hK.out _ _ (by (try dsimp only); (exact k0)) (fun hHeld => ?_)
        clear hK K
        try simp only [Act.put, List.getElem_toArray, List.getElem_cons_succ, List.getElem_cons_zero, List.setIfInBounds_toArray, List.set_cons_zero, List.set_cons_succ]
        iterate 2
          refine Held.tk (v := ?_) rgig rfl rfl rfl (fun _ _ _ h => h) (by assumption) (Or.inl ⟨by kernel_rfl, ?_⟩) ?_
          rotate_left
          · (intro w hSw; (try dsimp only at hSw); go_simp; (try (first | with_reducible rfl | rw [if_neg (by omega)])))
          try simp only [Act.put, List.getElem_toArray, List.getElem_cons_succ, List.getElem_cons_zero, List.setIfInBounds_toArray, List.set_cons_zero, List.set_cons_succ]
        refine wpAnyH_done (by kernel_rfl) ?_ _
        clear k0
        go_wp2
        exact ⟨⟨i + 1, m2, vn2, vc2, L2, vA2, by go_num, by omega, hI, hR, hL2n, hm2, D⟩, by simp [intOf]; omega⟩
      · have hin : i = n := by omega
        subst hin
        go_wp2_with fail
        with_reducible refine (live13 _).mono ?_
        rintro e z1 ⟨rfl, b1⟩
        replace D := below_call D b1
        go_wp2
        go_ret
        exact ⟨rfl, D⟩
end Go.Proofs.Ytocdoddmaopdbaa
