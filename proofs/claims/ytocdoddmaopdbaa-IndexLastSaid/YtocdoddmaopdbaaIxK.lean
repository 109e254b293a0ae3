/-
Layer 13: the walk of IndexLast.
-/
import Derived.Test.YtocdoddmaopdbaaIxH
import Derived.Test.YtocdoddmaopdbaaHeldA
set_option linter.unusedVariables false
set_option linter.unusedSimpArgs false
namespace Go.Proofs.Ytocdoddmaopdbaa
open Go.RowKit Go.Maps
open Sp
namespace Sp
theorem inP_setP (L : List Pr) (p q : ByteArray) (on : Bool) (x y : ByteArray) : inP (setP L p q on).1 x y = if p = x ∧ q = y then on else inP L x y := by
  unfold setP
  by_cases e : p = x ∧ q = y
  · rw [if_pos e]
    obtain ⟨rfl, rfl⟩ := e
    split
    · rename_i h
      exact h
    · show inP (tuP L p q on) p q = on
      rw [inP_tuP]
      cases on <;> simp
  · rw [if_neg e]
    split
    · rfl
    · show inP (tuP L p q on) x y = _
      rw [inP_tuP, decide_eq_false (fun h => e ⟨h.1.symm, h.2.symm⟩)]
      cases on <;> simp
theorem inP_forget (L : List Pr) (u x y : ByteArray) : inP (forgetP L u) x y = (inP L x y && (!decide (u = x) && !decide (u = y))) := by
  rw [Bool.eq_iff_iff, inP_iff, Bool.and_eq_true, inP_iff]
  unfold forgetP
  rw [List.mem_filter]
  simp only [Bool.and_eq_true, Bool.not_eq_true', decide_eq_false_iff_not]
  exact ⟨fun h => ⟨h.1, fun e => h.2.1 e.symm, fun e => h.2.2 e.symm⟩, fun h => ⟨h.1, fun e => h.2.1 e.symm, fun e => h.2.2 e.symm⟩⟩
theorem setP_snd (L : List Pr) (p q : ByteArray) (on : Bool) : (setP L p q on).2 = (inP L p q != on) := by
  unfold setP
  cases inP L p q <;> cases on <;> rfl
theorem setP_le3 (P : List Pr) (p q : ByteArray) (on : Bool) : (setP P p q on).1.length ≤ P.length + 1 := by
  unfold setP tuP
  split
  · exact Nat.le_succ _
  · cases on
    · exact Nat.le_trans (List.length_filter_le _ _) (Nat.le_succ _)
    · simp
end Sp
noncomputable def opska : Array Oper := Held.inBody 16 Try.f5.body
def ordka : List Nat := [0, 1, 2, 3, 4, 5, 6, 7, 9, 10, 11, 12, 13, 8, 14]
set_option maxRecDepth 100000 in
theorem rgka : Held.Reg opska ordka 15 [0, 1, 2, 3, 4, 5, 6, 7, 8, 9, 10, 11, 12, 14] := ⟨by kernel_rfl, by kernel_rfl, by kernel_rfl⟩
noncomputable def opskb : Array Oper := Held.inBody 16 Try.f5.body
def ordkb : List Nat := [0, 1, 2, 3, 4, 5, 6, 7, 9, 10, 11, 12, 13, 8, 14]
set_option maxRecDepth 100000 in
theorem rgkb : Held.Reg opskb ordkb 15 [0, 1, 2, 3, 4, 5, 6, 7, 8, 9, 10, 11, 12, 14] := ⟨by kernel_rfl, by kernel_rfl, by kernel_rfl⟩
set_option maxHeartbeats 32000000 in
set_option maxRecDepth 100000 in
theorem last13_walk (n c : Nat) (A : Option Addr) (l : List OpI) (x y : ByteArray) (w : World) (hl : Row enOp 3 w (.slice A n c) l) (hz : ∀ x ∈ l, x.w.size ≤ 9223372036854775807 ∧ x.c.size ≤ 9223372036854775807) (hx : x.size ≤ 9223372036854775807) (hy : y.size ≤ 9223372036854775807) :
    Calls Try.prog 5 #[.slice A n c, .string x, .string y] w fun e w' => e = .returned (.bool true) ∧ Below w.heap.size w w' := by
  have EA := Lib.hid hl.len_eq
  cases h : fewI l with
  | false =>
    have H := Lib.hid h
    clear h
    go_enter Try.func5, Try.ntmps5
    go_wp2_with fail
    with_reducible refine (few_is n c A l _ hl hz false H).mono ?_
    rintro e w1 ⟨rfl, D⟩
    go_wp2_with fail
    with_reducible refine (live13 _).mono ?_
    rintro e z9 ⟨rfl, b9⟩
    replace D := below_call D b9
    go_wp2
    go_ret
    exact ⟨rfl, D⟩
  | true =>
  have H := Lib.hid h
  obtain ⟨hn8, hfw⟩ := fewI_iff.1 h
  have HFW := Lib.hid hfw
  have hn80 : n ≤ 80 := by have := EA.out; omega
  clear h hfw hn8
  by_cases hx4 : (40 : Int) < (x.size : Int)
  · skip
    go_enter Try.func5, Try.ntmps5
    go_wp2_with fail
    with_reducible refine (few_is n c A l _ hl hz true H).mono ?_
    rintro e w1 ⟨rfl, D⟩
    go_wp2_with fail
    with_reducible refine (live13 _).mono ?_
    rintro e z9 ⟨rfl, b9⟩
    replace D := below_call D b9
    go_wp2
    go_ret
    exact ⟨rfl, D⟩
  by_cases hy4 : (40 : Int) < (y.size : Int)
  · skip
    go_enter Try.func5, Try.ntmps5
    go_wp2_with fail
    with_reducible refine (few_is n c A l _ hl hz true H).mono ?_
    rintro e w1 ⟨rfl, D⟩
    go_wp2_with fail
    with_reducible refine (live13 _).mono ?_
    rintro e z9 ⟨rfl, b9⟩
    replace D := below_call D b9
    go_wp2
    go_ret
    exact ⟨rfl, D⟩
  have hxm : x.size ≤ maxLen := by unfold maxLen; omega
  have hym : y.size ≤ maxLen := by unfold maxLen; omega
  go_enter Try.func5, Try.ntmps5
  go_wp2_with fail
  with_reducible refine (few_is n c A l _ hl hz true H).mono ?_
  rintro e w1 ⟨rfl, D⟩
  go_wp2_with fail
  with_reducible refine (ix_new w w1 D).mono ?_
  rintro e w2 ⟨a, rfl, hI, b⟩
  replace D := below_call D b
  clear b H
  go_wp2_with fail
  go_loopw [8, 9] (fun v8 v9 wr => ∃ (i m : Nat) (L : List Pr), v9 = .int .i64 i ∧ i ≤ n ∧ v8 = .bool (inP L x y) ∧ Ix w wr a L m ∧ L.length ≤ i ∧ m ≤ 900 * i ∧ Below w.heap.size w wr) (fun _ v9 _ => (n - intOf v9).toNat)
  case atStart => exact ⟨0, 0, [], rfl, by omega, rfl, hI, Nat.le_refl _, by omega, D⟩
  case round =>
    clear hI D
    obtain ⟨i, m, L, rfl, hi, rfl, hI, hLi, hmi, D⟩ := hrel
    by_cases hlt : i < n
    · have hil : i < l.length := by have := EA.out; omega
      obtain ⟨⟨d, p, q⟩, he⟩ : ∃ e, l[i] = e := ⟨_, rfl⟩
      have hpq := HFW.out i hil
      rw [he] at hpq
      obtain ⟨hp, hq⟩ := hpq
      simp only at hp hq
      have hpm : p.size ≤ maxLen := by unfold maxLen; omega
      have hqm : q.size ≤ maxLen := by unfold maxLen; omega
      obtain ⟨ad, rfl, c0, c1, c2⟩ := rowOp (hl.below D) i hil d p q he
      have HE := Lib.hid he
      clear he
      have x1 : (0 : Int) ≤ (i : Int) := by omega
      have x2 : (i : Int) < (n : Int) := by omega
      have bb := below_box (w := wr) (bxOp d p q)
      have hg := heap_alloc_new wr (bxOp d p q)
      replace hI := hI.below bb
      replace D := below_call D bb
      clear bb
      obtain ⟨g, hgg⟩ : ∃ g, wr.heap.size = g := ⟨_, rfl⟩
      obtain ⟨d0, d1, d2, dz⟩ := cellsOp d p q hg
      go_wp2_with fail
      with_reducible refine (ix_has hI p q hpm hqm).mono ?_
      rintro e z1 ⟨rfl, b1⟩
      replace hI := hI.below b1
      replace D := below_call D b1
      replace hg := hcall hg b1
      clear b1 c0 c1 c2 d0 d1 d2 dz
      go_wp2_with fail
      with_reducible refine (ix_len hI).mono ?_
      rintro e z2 ⟨rfl, b1⟩
      replace hI := hI.below b1
      replace D := below_call D b1
      replace hg := hcall hg b1
      clear b1
      rw [hgg] at hg
      obtain ⟨wn, hwn⟩ : ∃ wn, inP L x y = wn := ⟨_, rfl⟩
      obtain ⟨ws, hws⟩ : ∃ ws, inP L p q = ws := ⟨_, rfl⟩
      rw [hwn]
      have HWN := Lib.hid hwn
      clear hwn
      obtain ⟨d0, d1, d2, dz⟩ := cellsOp d p q hg
      clear dz
      by_cases h0 : d = 0
      · subst h0
        go_wp2_with fail
        replace hI := hI.below ((Below.refl z2.heap.size z2).drew)
        replace D : Below w.heap.size w z2.drew := D.drew
        replace hg : z2.drew.heap[g]? = _ := hg
        replace d0 : z2.drew.cell? _ = _ := d0
        replace d1 : z2.drew.cell? _ = _ := d1
        replace d2 : z2.drew.cell? _ = _ := d2
        refine Held.start (ops := opska) (S := fun w' => w'.cell? ⟨g, 0, none⟩ = some (.int .i64 0) ∧ w'.cell? ⟨g, 1, none⟩ = some (.string p) ∧ w'.cell? ⟨g, 2, none⟩ = some (.string q)) ordka 15 (by kernel_rfl) rgka.siz (by kernel_rfl) ⟨d0, d1, d2⟩ (fun hHeld => ?_)
        iterate 13
          refine Held.tk (v := ?_) rgka rfl rfl rfl (fun _ _ _ h => h) (by assumption) (Or.inl ⟨by kernel_rfl, ?_⟩) ?_
          rotate_left
          · (intro w hSw; (try dsimp only at hSw); go_simp; (try (first | with_reducible rfl | rw [if_neg (by omega)])))
          try simp only [Act.put, List.getElem_toArray, List.getElem_cons_succ, List.getElem_cons_zero, List.setIfInBounds_toArray, List.set_cons_zero, List.set_cons_succ]
        refine Held.only (k := 13) (i := 8) (by kernel_rfl) (by kernel_rfl) rfl (by kernel_rfl) (fun K hK => ?_)
        go_simp
        go_at_call 12
        with_reducible refine (ix_set hI D p q true hpm hqm (by omega)).mono ?_
        rintro e z3 ⟨rfl, hI1, D1, K1⟩
        rw [setP_snd]
        replace d0 := K1.cell d0
        replace d1 := K1.cell d1
        replace d2 := K1.cell d2
        clear hI D K1 hg
        refine hK.out _ _ (by (try dsimp only); (exact ⟨d0, d1, d2⟩)) (fun hHeld => ?_)
        clear hK K
        try simp only [Act.put, List.getElem_toArray, List.getElem_cons_succ, List.getElem_cons_zero, List.setIfInBounds_toArray, List.set_cons_zero, List.set_cons_succ]
        iterate 1
          refine Held.tk (v := ?_) rgka rfl rfl rfl (fun _ _ _ h => h) (by assumption) (Or.inl ⟨by kernel_rfl, ?_⟩) ?_
          rotate_left
          · (intro w hSw; (try dsimp only at hSw); go_simp; (try (first | with_reducible rfl | rw [if_neg (by omega)])))
          try simp only [Act.put, List.getElem_toArray, List.getElem_cons_succ, List.getElem_cons_zero, List.setIfInBounds_toArray, List.set_cons_zero, List.set_cons_succ]
        refine wpAnyH_done (by kernel_rfl) ?_ _
        have hL3 : (setP L p q true).1.length ≤ L.length + 1 := setP_le3 L p q true
        by_cases ex : p = x
        · have hx' := str_eq ex
          by_cases ey : q = y
          · have hy' := str_eq ey
            have HN : Hid (inP (setP L p q true).1 x y = true) := by show _ = _; rw [inP_setP, if_pos ⟨ex, ey⟩]
            clear ex ey
            go_wp2
            exact ⟨⟨i + 1, _, _, by go_num, by omega, by rw [HN.out], hI1, by omega, by omega, D1⟩, by simp [intOf]; omega⟩
          · have hy' := str_ne ey
            have HN : Hid (inP (setP L p q true).1 x y = wn) := by show _ = _; rw [inP_setP, if_neg (fun h => ey h.2), HWN.out]
            clear ex ey
            go_wp2
            exact ⟨⟨i + 1, _, _, by go_num, by omega, by rw [HN.out], hI1, by omega, by omega, D1⟩, by simp [intOf]; omega⟩
        · have hx' := str_ne ex
          have HN : Hid (inP (setP L p q true).1 x y = wn) := by show _ = _; rw [inP_setP, if_neg (fun h => ex h.1), HWN.out]
          clear ex
          go_wp2
          exact ⟨⟨i + 1, _, _, by go_num, by omega, by rw [HN.out], hI1, by omega, by omega, D1⟩, by simp [intOf]; omega⟩
      by_cases h1 : d = 1
      · subst h1
        go_wp2_with fail
        replace hI := hI.below ((Below.refl z2.heap.size z2).drew)
        replace D : Below w.heap.size w z2.drew := D.drew
        replace hg : z2.drew.heap[g]? = _ := hg
        replace d0 : z2.drew.cell? _ = _ := d0
        replace d1 : z2.drew.cell? _ = _ := d1
        replace d2 : z2.drew.cell? _ = _ := d2
        refine Held.start (ops := opskb) (S := fun w' => w'.cell? ⟨g, 0, none⟩ = some (.int .i64 1) ∧ w'.cell? ⟨g, 1, none⟩ = some (.string p) ∧ w'.cell? ⟨g, 2, none⟩ = some (.string q)) ordkb 15 (by kernel_rfl) rgkb.siz (by kernel_rfl) ⟨d0, d1, d2⟩ (fun hHeld => ?_)
        iterate 13
          refine Held.tk (v := ?_) rgkb rfl rfl rfl (fun _ _ _ h => h) (by assumption) (Or.inl ⟨by kernel_rfl, ?_⟩) ?_
          rotate_left
          · (intro w hSw; (try dsimp only at hSw); go_simp; (try (first | with_reducible rfl | rw [if_neg (by omega)])))
          try simp only [Act.put, List.getElem_toArray, List.getElem_cons_succ, List.getElem_cons_zero, List.setIfInBounds_toArray, List.set_cons_zero, List.set_cons_succ]
        refine Held.only (k := 13) (i := 8) (by kernel_rfl) (by kernel_rfl) rfl (by kernel_rfl) (fun K hK => ?_)
        go_simp
        go_at_call 12
        with_reducible refine (ix_set hI D p q false hpm hqm (by omega)).mono ?_
        rintro e z3 ⟨rfl, hI1, D1, K1⟩
        rw [setP_snd]
        replace d0 := K1.cell d0
        replace d1 := K1.cell d1
        replace d2 := K1.cell d2
        clear hI D K1 hg
        refine hK.out _ _ (by (try dsimp only); (exact ⟨d0, d1, d2⟩)) (fun hHeld => ?_)
        clear hK K
        try simp only [Act.put, List.getElem_toArray, List.getElem_cons_succ, List.getElem_cons_zero, List.setIfInBounds_toArray, List.set_cons_zero, List.set_cons_succ]
        iterate 1
          refine Held.tk (v := ?_) rgkb rfl rfl rfl (fun _ _ _ h => h) (by assumption) (Or.inl ⟨by kernel_rfl, ?_⟩) ?_
          rotate_left
          · (intro w hSw; (try dsimp only at hSw); go_simp; (try (first | with_reducible rfl | rw [if_neg (by omega)])))
          try simp only [Act.put, List.getElem_toArray, List.getElem_cons_succ, List.getElem_cons_zero, List.setIfInBounds_toArray, List.set_cons_zero, List.set_cons_succ]
        refine wpAnyH_done (by kernel_rfl) ?_ _
        have hL3 : (setP L p q false).1.length ≤ L.length + 1 := setP_le3 L p q false
        by_cases ex : p = x
        · have hx' := str_eq ex
          by_cases ey : q = y
          · have hy' := str_eq ey
            have HN : Hid (inP (setP L p q false).1 x y = false) := by show _ = _; rw [inP_setP, if_pos ⟨ex, ey⟩]
            clear ex ey
            go_wp2
            exact ⟨⟨i + 1, _, _, by go_num, by omega, by rw [HN.out], hI1, by omega, by omega, D1⟩, by simp [intOf]; omega⟩
          · have hy' := str_ne ey
            have HN : Hid (inP (setP L p q false).1 x y = wn) := by show _ = _; rw [inP_setP, if_neg (fun h => ey h.2), HWN.out]
            clear ex ey
            go_wp2
            exact ⟨⟨i + 1, _, _, by go_num, by omega, by rw [HN.out], hI1, by omega, by omega, D1⟩, by simp [intOf]; omega⟩
        · have hx' := str_ne ex
          have HN : Hid (inP (setP L p q false).1 x y = wn) := by show _ = _; rw [inP_setP, if_neg (fun h => ex h.1), HWN.out]
          clear ex
          go_wp2
          exact ⟨⟨i + 1, _, _, by go_num, by omega, by rw [HN.out], hI1, by omega, by omega, D1⟩, by simp [intOf]; omega⟩
      by_cases h3 : d = 3
      · subst h3
        go_wp2_with fail
        with_reducible refine (ix_forget hI D p hpm (by omega) (by omega)).mono ?_
        rintro e z3 ⟨rfl, hI1, D1, K1⟩
        replace d0 := K1.cell d0
        replace d1 := K1.cell d1
        replace d2 := K1.cell d2
        clear hI D K1 hg
        go_wp2_with fail
        with_reducible refine (ix_len hI1).mono ?_
        rintro e z4 ⟨rfl, b1⟩
        replace hI1 := hI1.below b1
        replace D1 := below_call D1 b1
        replace d0 := cell_below b1 d0
        replace d1 := cell_below b1 d1
        replace d2 := cell_below b1 d2
        clear b1
        have hL3 : (forgetP L p).length ≤ L.length := List.length_filter_le _ _
        by_cases ex : p = x
        · have hx' := str_eq ex
          have HN : Hid (inP (forgetP L p) x y = false) := by show _ = _; rw [inP_forget, HWN.out]; simp [ex]
          clear ex
          cases wn
          · go_wp2
            exact ⟨⟨i + 1, _, _, by go_num, by omega, by rw [HN.out], hI1, by omega, by omega, D1⟩, by simp [intOf]; omega⟩
          · go_wp2
            exact ⟨⟨i + 1, _, _, by go_num, by omega, by rw [HN.out], hI1, by omega, by omega, D1⟩, by simp [intOf]; omega⟩
        · have hx' := str_ne ex
          by_cases ey : p = y
          · have hy' := str_eq ey
            have HN : Hid (inP (forgetP L p) x y = false) := by show _ = _; rw [inP_forget, HWN.out]; simp [ey]
            clear ex ey
            cases wn
            · go_wp2
              exact ⟨⟨i + 1, _, _, by go_num, by omega, by rw [HN.out], hI1, by omega, by omega, D1⟩, by simp [intOf]; omega⟩
            · go_wp2
              exact ⟨⟨i + 1, _, _, by go_num, by omega, by rw [HN.out], hI1, by omega, by omega, D1⟩, by simp [intOf]; omega⟩
          · have hy' := str_ne ey
            have HN : Hid (inP (forgetP L p) x y = wn) := by show _ = _; rw [inP_forget, HWN.out]; simp [ex, ey]
            clear ex ey
            cases wn
            · go_wp2
              exact ⟨⟨i + 1, _, _, by go_num, by omega, by rw [HN.out], hI1, by omega, by omega, D1⟩, by simp [intOf]; omega⟩
            · go_wp2
              exact ⟨⟨i + 1, _, _, by go_num, by omega, by rw [HN.out], hI1, by omega, by omega, D1⟩, by simp [intOf]; omega⟩
      go_wp2
      exact ⟨⟨i + 1, m, L, by go_num, by omega, by rw [HWN.out], hI, by omega, by omega, D⟩, by simp [intOf]; omega⟩
    · have hin : i = n := by omega
      subst hin
      go_wp2_with fail
      with_reducible refine (ix_has hI x y hxm hym).mono ?_
      rintro e z1 ⟨rfl, b1⟩
      replace D := below_call D b1
      clear b1
      go_wp2_with fail
      with_reducible refine (live13 _).mono ?_
      rintro e z9 ⟨rfl, b9⟩
      replace D := below_call D b9
      go_wp2
      go_ret
      exact ⟨rfl, D⟩
end Go.Proofs.Ytocdoddmaopdbaa
