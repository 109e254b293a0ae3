import Derived.Test.YtbpfcjdjhponaaaGreatPViewHides08
set_option linter.unusedVariables false
set_option linter.unusedSimpArgs false
namespace Go.Proofs.YtbpfcjdjhponaaaGreat
open Go.RowKit
noncomputable def opska : Array Oper := Held.inBody 5 Tryz.f37.body
def ordka : List Nat := [0, 1, 2, 3, 4, 5, 6, 7, 8, 9, 10, 11, 12, 13, 14, 15, 16, 17, 18, 19, 20, 21, 22, 23, 24, 25, 26, 27, 28, 29, 30, 31, 32, 33, 34, 35, 36, 37, 38]
set_option maxRecDepth 100000 in
theorem rgka : Held.Reg opska ordka 39 [0, 1, 3, 4, 5, 6, 7, 8, 9, 10, 11, 12, 13, 14, 15, 16, 17, 18, 19, 20, 21, 22, 23, 24, 25, 26, 27, 28, 29, 30, 31, 32, 33, 34, 35, 36, 37, 38] := ⟨by kernel_rfl, by kernel_rfl, by kernel_rfl⟩
noncomputable def opskb : Array Oper := Held.inBody 5 Tryz.f37.body
def ordkb : List Nat := [0, 1, 2, 3, 4, 5, 6, 7, 8, 9, 10, 11, 12, 13, 14, 15, 16, 17, 18, 19, 20, 21, 22, 23, 24, 25, 26, 27, 28, 29, 30, 31, 32, 33, 34, 35, 36, 37, 38]
set_option maxRecDepth 100000 in
theorem rgkb : Held.Reg opskb ordkb 39 [0, 1, 3, 4, 5, 6, 8, 9, 10, 11, 12, 13, 14, 15, 16, 17, 18, 19, 20, 21, 22, 23, 24, 25, 26, 27, 28, 29, 30, 31, 32, 33, 34, 35, 36, 37, 38] := ⟨by kernel_rfl, by kernel_rfl, by kernel_rfl⟩
noncomputable def opskc : Array Oper := Held.inBody 5 Tryz.f37.body
def ordkc : List Nat := [0, 1, 2, 3, 4, 5, 6, 7, 8, 9, 10, 11, 12, 13, 14, 15, 16, 17, 18, 19, 20, 21, 22, 23, 24, 25, 26, 27, 28, 29, 30, 31, 32, 33, 34, 35, 36, 37, 38]
set_option maxRecDepth 100000 in
theorem rgkc : Held.Reg opskc ordkc 39 [0, 1, 3, 4, 5, 6, 8, 9, 10, 11, 12, 13, 14, 15, 16, 17, 18, 19, 20, 21, 22, 23, 24, 25, 26, 27, 28, 29, 30, 31, 32, 33, 34, 35, 36, 37, 38] := ⟨by kernel_rfl, by kernel_rfl, by kernel_rfl⟩
noncomputable def opskd1 : Array Oper := Held.inBody 5 Tryz.f37.body
def ordkd1 : List Nat := [0, 1, 2, 3, 4, 5, 6, 7, 8, 9, 10, 11, 12, 13, 14, 15, 16, 17, 18, 19, 20, 21, 22, 23, 24, 25, 26, 27, 28, 29, 30, 31, 32, 33, 34, 35, 36, 37, 38]
set_option maxRecDepth 100000 in
theorem rgkd1 : Held.Reg opskd1 ordkd1 39 [0, 1, 3, 4, 5, 6, 8, 9, 10, 11, 12, 13, 14, 15, 16, 17, 18, 19, 20, 21, 22, 23, 24, 25, 26, 27, 28, 29, 30, 31, 32, 33, 34, 36, 37, 38] := ⟨by kernel_rfl, by kernel_rfl, by kernel_rfl⟩
noncomputable def opskd2 : Array Oper := Held.inBody 5 Tryz.f37.body
def ordkd2 : List Nat := [0, 1, 2, 3, 4, 5, 6, 7, 8, 9, 10, 11, 12, 13, 14, 15, 16, 17, 18, 19, 20, 21, 22, 23, 24, 25, 26, 27, 28, 29, 30, 31, 32, 33, 34, 35, 36, 37, 38]
set_option maxRecDepth 100000 in
theorem rgkd2 : Held.Reg opskd2 ordkd2 39 [0, 1, 3, 4, 5, 6, 8, 9, 10, 11, 12, 13, 14, 15, 16, 17, 18, 19, 20, 21, 22, 23, 24, 25, 26, 27, 28, 29, 30, 31, 32, 33, 34, 36, 37, 38] := ⟨by kernel_rfl, by kernel_rfl, by kernel_rfl⟩
noncomputable def opske : Array Oper := Held.inBody 5 Tryz.f37.body
def ordke : List Nat := [0, 1, 2, 3, 4, 5, 6, 7, 8, 9, 10, 11, 12, 13, 14, 15, 16, 17, 18, 19, 20, 21, 22, 23, 24, 25, 26, 27, 28, 29, 30, 31, 32, 33, 34, 35, 36, 37, 38]
set_option maxRecDepth 100000 in
theorem rgke : Held.Reg opske ordke 39 [0, 1, 3, 4, 5, 6, 8, 9, 10, 11, 12, 13, 14, 15, 16, 17, 18, 19, 20, 21, 22, 23, 24, 25, 26, 28, 29, 30, 31, 32, 33, 34, 35, 36, 37, 38] := ⟨by kernel_rfl, by kernel_rfl, by kernel_rfl⟩
noncomputable def opskf1 : Array Oper := Held.inBody 5 Tryz.f37.body
def ordkf1 : List Nat := [0, 1, 2, 3, 4, 5, 6, 7, 8, 9, 10, 11, 12, 13, 14, 15, 16, 17, 18, 19, 20, 21, 22, 23, 24, 25, 26, 27, 28, 29, 30, 31, 32, 33, 34, 35, 36, 37, 38]
set_option maxRecDepth 100000 in
theorem rgkf1 : Held.Reg opskf1 ordkf1 39 [0, 1, 3, 4, 5, 6, 8, 9, 10, 11, 12, 13, 14, 15, 16, 17, 18, 19, 20, 21, 22, 23, 24, 25, 26, 28, 29, 30, 31, 32, 33, 34, 36, 37, 38] := ⟨by kernel_rfl, by kernel_rfl, by kernel_rfl⟩
noncomputable def opskf2 : Array Oper := Held.inBody 5 Tryz.f37.body
def ordkf2 : List Nat := [0, 1, 2, 3, 4, 5, 6, 7, 8, 9, 10, 11, 12, 13, 14, 15, 16, 17, 18, 19, 20, 21, 22, 23, 24, 25, 26, 27, 28, 29, 30, 31, 32, 33, 34, 35, 36, 37, 38]
set_option maxRecDepth 100000 in
theorem rgkf2 : Held.Reg opskf2 ordkf2 39 [0, 1, 3, 4, 5, 6, 8, 9, 10, 11, 12, 13, 14, 15, 16, 17, 18, 19, 20, 21, 22, 23, 24, 25, 26, 28, 29, 30, 31, 32, 33, 34, 36, 37, 38] := ⟨by kernel_rfl, by kernel_rfl, by kernel_rfl⟩
end Go.Proofs.YtbpfcjdjhponaaaGreat
namespace Go.Proofs.YtbpfcjdjhponaaaGreat
open Go.RowKit
open Sp
theorem refIs_below (s : ByteArray) (b : Bool) (h : Hid (isName s = b)) (hs : s.size ≤ 140737488351232) (w : World) :
    Calls Tryz.prog 80 #[.string s] w fun e w' => e = .returned (.bool b) ∧ Below w.heap.size w w' := (refIs_is w s b h hs).mono fun e w' ⟨he, hw⟩ => ⟨he, hw ▸ Below.refl _ _⟩
theorem refOfLen (n c : Nat) (A : Option Addr) (l : List En) (q : ByteArray) (w : World) (hl : Row enEn 7 w (.slice A n c) l) (hn : n ≤ 100000) (m : Nat) (h : Hid ((ofRo l q).length = m)) :
    Calls Tryz.prog 68 #[.slice A n c, .string q] w fun e w' => (∃ A' c', e = .returned (.slice A' m c')) ∧ Below w.heap.size w w' :=
  (refOfRo_calls n c A l q w hl hn).mono fun e w' ⟨v, he, ho, hb⟩ => by
    obtain ⟨A', c', hv, _⟩ := ho.slice
    refine ⟨⟨A', c', ?_⟩, hb⟩
    rw [he, hv, ← h.out]
    rfl
set_option maxHeartbeats 32000000 in
set_option maxRecDepth 100000 in
theorem refMayRo_calls (n c : Nat) (A : Option Addr) (l : List En) (w : World) (hl : Row enEn 7 w (.slice A n c) l) (hz : ∀ s ∈ l, s.o.size ≤ 140737488351232 ∧ s.c.size ≤ 140737488351232) (hn : n ≤ 100000) :
    Calls Tryz.prog 37 #[.slice A n c] w fun e w' => e = .returned (.bool (mayRo l)) ∧ Below w.heap.size w w' := by
  have EA := Lib.hid hl.len_eq
  obtain ⟨r, hr⟩ : ∃ r, mayRo l = r := ⟨_, rfl⟩
  rw [hr]
  have HR := Lib.hid hr
  have HZ := Lib.hid hz
  clear hr hz
  go_enter Tryz.func37, Tryz.ntmps37
  go_wp2
  go_loopw [3] (fun v3 wr => ∃ i : Nat, v3 = .int .i64 i ∧ i ≤ n ∧ Below w.heap.size w wr ∧ Hid (∀ j (h : j < l.length), j < i → oneRo l l[j] = true) ∧ Hid (∀ j (h : j + 1 < l.length), j + 1 < i → ltRo (keyRo l[j]) (keyRo l[j + 1]) = true)) (fun v3 _ => (n - intOf v3).toNat)
  case atStart => exact ⟨0, rfl, Nat.zero_le _, Below.refl _ _, fun j _ h => absurd h (by omega), fun j _ h => absurd h (by omega)⟩
  case round =>
    obtain ⟨i, rfl, hi, D, HK, HJ⟩ := hrel
    by_cases hlt : i < n
    · have hil : i < l.length := by have := EA.out; omega
      obtain ⟨⟨a_, b_, c_, d_, e_, f_, g_⟩, he⟩ : ∃ e, l[i] = e := ⟨_, rfl⟩
      obtain ⟨z1, z2⟩ := HZ.out l[i] (List.getElem_mem _)
      rw [he] at z1 z2
      simp only at z1 z2
      obtain ⟨ad, rfl, c0, c1, c2, c3, c4, c5, c6⟩ := rowEn (hl.below D) i hil a_ b_ c_ d_ e_ f_ g_ he
      have HE := Lib.hid he
      have x3 : (0 : Int) ≤ (i : Int) := by omega
      have x4 : (i : Int) < (n : Int) := by omega
      obtain ⟨⟨c', d', e', f', g'⟩, hg1⟩ : ∃ x, getRo l b_ a_ = x := ⟨_, rfl⟩
      obtain ⟨hh, hg2⟩ : ∃ x, hasRo l b_ a_ = x := ⟨_, rfl⟩
      obtain ⟨m, hm⟩ : ∃ m, (ofRo l a_).length = m := ⟨_, rfl⟩
      have hcd : oneRo l l[i] = (isName a_ && (isName b_ && (!decide (a_ = b_) && (decide (m ≤ 16) && (hh && (fitI ⟨c_, d_, e_, f_, g_⟩ ⟨c', d', e', f', g'⟩ && !(emptyI ⟨c_, d_, e_, f_, g_⟩ && emptyI ⟨c', d', e', f', g'⟩))))))) := by
        rw [HE.out, ← hg1, ← hg2, ← hm]
        rfl
      have HCD := Lib.hid hcd
      have HG1 := Lib.hid hg1
      have HG2 := Lib.hid hg2
      have HM := Lib.hid hm
      have HGET := Lib.hid (show ∀ W : World, Row enEn 7 W (.slice (some ad) n c) l → Calls Tryz.prog 82 #[.slice (some ad) n c, .string b_, .string a_] W fun e w' => e = .returned (agI c' d' e' f' g') ∧ Below W.heap.size W w' from fun W h => by
        have := refGetRo_calls n c (some ad) l b_ a_ W h
        rwa [hg1] at this)
      clear he hcd hg1 hg2 hm
      have hbX := heap_alloc_new wr (bxEn a_ b_ c_ d_ e_ f_ g_)
      obtain ⟨u0, u1, u2, u3, u4, u5, u6, uz⟩ := cellsEn a_ b_ c_ d_ e_ f_ g_ hbX
      replace D := below_alloc0 D (bxEn a_ b_ c_ d_ e_ f_ g_)
      obtain ⟨n1, hn1⟩ : ∃ b, isName a_ = b := ⟨_, rfl⟩
      have HNa_ := Lib.hid hn1
      clear hn1
      cases n1 with
      | false =>
        have HF : Hid (r = false) := by
          show _ = _
          rw [← HR.out]
          exact mayRo_no_one (List.getElem_mem hil) (by rw [HCD.out, HNa_.out]; rfl)
        clear uz
        replace hbX : (wr.alloc (bxEn a_ b_ c_ d_ e_ f_ g_)).drew.heap[_]? = _ := hbX
        replace D : Below _ _ (wr.alloc (bxEn a_ b_ c_ d_ e_ f_ g_)).drew := D.drew
        go_wp2_with fail
        refine Held.start (ops := opska) (S := fun w' => w'.cell? ⟨wr.heap.size, 0, none⟩ = some (.string a_) ∧ w'.cell? ⟨wr.heap.size, 1, none⟩ = some (.string b_) ∧ w'.cell? ⟨wr.heap.size, 2, none⟩ = some (.bool c_) ∧ w'.cell? ⟨wr.heap.size, 3, none⟩ = some (.bool d_) ∧ w'.cell? ⟨wr.heap.size, 4, none⟩ = some (.bool e_) ∧ w'.cell? ⟨wr.heap.size, 5, none⟩ = some (.bool f_) ∧ w'.cell? ⟨wr.heap.size, 6, none⟩ = some (.bool g_)) ordka 39 (by kernel_rfl) rgka.siz (by kernel_rfl) ⟨u0, u1, u2, u3, u4, u5, u6⟩ (fun hHeld => ?_)
        iterate 2
          refine Held.tw rgka ?_
          try simp only [Act.put, zA, zB, zC, zD, zE, zF]
        refine Held.only (k := 2) (i := 2) (by kernel_rfl) (by kernel_rfl) rfl (by kernel_rfl) (fun K hK => ?_)
        go_simp
        go_at_call 80
        with_reducible refine (refIs_below a_ _ HNa_ (by omega) _).mono ?_
        rintro e w3 ⟨rfl, hbx⟩
        replace u0 := cell_below hbx u0
        replace u1 := cell_below hbx u1
        replace u2 := cell_below hbx u2
        replace u3 := cell_below hbx u3
        replace u4 := cell_below hbx u4
        replace u5 := cell_below hbx u5
        replace u6 := cell_below hbx u6
        replace hbX := hcall hbX hbx
        replace D := below_call D hbx
        refine hK.out _ _ (by (try dsimp only); (exact ⟨u0, u1, u2, u3, u4, u5, u6⟩)) (fun hHeld => ?_)
        clear hK K
        try simp only [Act.put, zA, zB, zC, zD, zE, zF]
        iterate 2
          refine Held.tw rgka ?_
          try simp only [Act.put, zA, zB, zC, zD, zE, zF]
        iterate 4
          refine Held.tu rgka ?_
          try simp only [Act.put, zA, zB, zC, zD, zE, zF]
        iterate 2
          refine Held.tw rgka ?_
          try simp only [Act.put, zA, zB, zC, zD, zE, zF]
        iterate 5
          refine Held.tu rgka ?_
          try simp only [Act.put, zA, zB, zC, zD, zE, zF]
        iterate 2
          refine Held.tw rgka ?_
          try simp only [Act.put, zA, zB, zC, zD, zE, zF]
        iterate 12
          refine Held.tu rgka ?_
          try simp only [Act.put, zA, zB, zC, zD, zE, zF]
        iterate 2
          refine Held.tw rgka ?_
          try simp only [Act.put, zA, zB, zC, zD, zE, zF]
        iterate 6
          refine Held.tu rgka ?_
          try simp only [Act.put, zA, zB, zC, zD, zE, zF]
        iterate 1
          refine Held.tw rgka ?_
          try simp only [Act.put, zA, zB, zC, zD, zE, zF]
        refine wpAnyH_done (by kernel_rfl) ?_ _
        clear u0 u1 u2 u3 u4 u5 u6
        go_wp2
        go_ret
        rw [HF.out]
        exact ⟨rfl, D⟩
      | true =>
      obtain ⟨n2, hn2⟩ : ∃ b, isName b_ = b := ⟨_, rfl⟩
      have HNb_ := Lib.hid hn2
      clear hn2
      cases n2 with
      | false =>
        have HF : Hid (r = false) := by
          show _ = _
          rw [← HR.out]
          exact mayRo_no_one (List.getElem_mem hil) (by rw [HCD.out, HNa_.out, HNb_.out]; rfl)
        clear uz
        replace hbX : (wr.alloc (bxEn a_ b_ c_ d_ e_ f_ g_)).drew.heap[_]? = _ := hbX
        replace D : Below _ _ (wr.alloc (bxEn a_ b_ c_ d_ e_ f_ g_)).drew := D.drew
        go_wp2_with fail
        refine Held.start (ops := opskb) (S := fun w' => w'.cell? ⟨wr.heap.size, 0, none⟩ = some (.string a_) ∧ w'.cell? ⟨wr.heap.size, 1, none⟩ = some (.string b_) ∧ w'.cell? ⟨wr.heap.size, 2, none⟩ = some (.bool c_) ∧ w'.cell? ⟨wr.heap.size, 3, none⟩ = some (.bool d_) ∧ w'.cell? ⟨wr.heap.size, 4, none⟩ = some (.bool e_) ∧ w'.cell? ⟨wr.heap.size, 5, none⟩ = some (.bool f_) ∧ w'.cell? ⟨wr.heap.size, 6, none⟩ = some (.bool g_)) ordkb 39 (by kernel_rfl) rgkb.siz (by kernel_rfl) ⟨u0, u1, u2, u3, u4, u5, u6⟩ (fun hHeld => ?_)
        iterate 2
          refine Held.tw rgkb ?_
          try simp only [Act.put, zA, zB, zC, zD, zE, zF]
        refine Held.only (k := 2) (i := 2) (by kernel_rfl) (by kernel_rfl) rfl (by kernel_rfl) (fun K hK => ?_)
        go_simp
        go_at_call 80
        with_reducible refine (refIs_below a_ _ HNa_ (by omega) _).mono ?_
        rintro e w3 ⟨rfl, hbx⟩
        replace u0 := cell_below hbx u0
        replace u1 := cell_below hbx u1
        replace u2 := cell_below hbx u2
        replace u3 := cell_below hbx u3
        replace u4 := cell_below hbx u4
        replace u5 := cell_below hbx u5
        replace u6 := cell_below hbx u6
        replace hbX := hcall hbX hbx
        replace D := below_call D hbx
        refine hK.out _ _ (by (try dsimp only); (exact ⟨u0, u1, u2, u3, u4, u5, u6⟩)) (fun hHeld => ?_)
        clear hK K
        try simp only [Act.put, zA, zB, zC, zD, zE, zF]
        iterate 4
          refine Held.tw rgkb ?_
          try simp only [Act.put, zA, zB, zC, zD, zE, zF]
        refine Held.only (k := 7) (i := 7) (by kernel_rfl) (by kernel_rfl) rfl (by kernel_rfl) (fun K hK => ?_)
        go_simp
        go_at_call 80
        with_reducible refine (refIs_below b_ _ HNb_ (by omega) _).mono ?_
        rintro e w4 ⟨rfl, hbx⟩
        replace u0 := cell_below hbx u0
        replace u1 := cell_below hbx u1
        replace u2 := cell_below hbx u2
        replace u3 := cell_below hbx u3
        replace u4 := cell_below hbx u4
        replace u5 := cell_below hbx u5
        replace u6 := cell_below hbx u6
        replace hbX := hcall hbX hbx
        replace D := below_call D hbx
        refine hK.out _ _ (by (try dsimp only); (exact ⟨u0, u1, u2, u3, u4, u5, u6⟩)) (fun hHeld => ?_)
        clear hK K
        try simp only [Act.put, zA, zB, zC, zD, zE, zF]
        iterate 3
          refine Held.tw rgkb ?_
          try simp only [Act.put, zA, zB, zC, zD, zE, zF]
        iterate 5
          refine Held.tu rgkb ?_
          try simp only [Act.put, zA, zB, zC, zD, zE, zF]
        iterate 2
          refine Held.tw rgkb ?_
          try simp only [Act.put, zA, zB, zC, zD, zE, zF]
        iterate 12
          refine Held.tu rgkb ?_
          try simp only [Act.put, zA, zB, zC, zD, zE, zF]
        iterate 2
          refine Held.tw rgkb ?_
          try simp only [Act.put, zA, zB, zC, zD, zE, zF]
        iterate 6
          refine Held.tu rgkb ?_
          try simp only [Act.put, zA, zB, zC, zD, zE, zF]
        iterate 1
          refine Held.tw rgkb ?_
          try simp only [Act.put, zA, zB, zC, zD, zE, zF]
        refine wpAnyH_done (by kernel_rfl) ?_ _
        clear u0 u1 u2 u3 u4 u5 u6
        go_wp2
        go_ret
        rw [HF.out]
        exact ⟨rfl, D⟩
      | true =>
      by_cases hab : a_ = b_
      · have e1 : (a_.toList == b_.toList) = true := by rw [hab]; exact beq_self_eq_true _
        have HF : Hid (r = false) := by
          show _ = _
          rw [← HR.out]
          exact mayRo_no_one (List.getElem_mem hil) (by rw [HCD.out, decide_eq_true hab]; cases isName a_ <;> cases isName b_ <;> rfl)
        clear hab
        clear uz
        replace hbX : (wr.alloc (bxEn a_ b_ c_ d_ e_ f_ g_)).drew.heap[_]? = _ := hbX
        replace D : Below _ _ (wr.alloc (bxEn a_ b_ c_ d_ e_ f_ g_)).drew := D.drew
        go_wp2_with fail
        refine Held.start (ops := opskc) (S := fun w' => w'.cell? ⟨wr.heap.size, 0, none⟩ = some (.string a_) ∧ w'.cell? ⟨wr.heap.size, 1, none⟩ = some (.string b_) ∧ w'.cell? ⟨wr.heap.size, 2, none⟩ = some (.bool c_) ∧ w'.cell? ⟨wr.heap.size, 3, none⟩ = some (.bool d_) ∧ w'.cell? ⟨wr.heap.size, 4, none⟩ = some (.bool e_) ∧ w'.cell? ⟨wr.heap.size, 5, none⟩ = some (.bool f_) ∧ w'.cell? ⟨wr.heap.size, 6, none⟩ = some (.bool g_)) ordkc 39 (by kernel_rfl) rgkc.siz (by kernel_rfl) ⟨u0, u1, u2, u3, u4, u5, u6⟩ (fun hHeld => ?_)
        iterate 2
          refine Held.tw rgkc ?_
          try simp only [Act.put, zA, zB, zC, zD, zE, zF]
        refine Held.only (k := 2) (i := 2) (by kernel_rfl) (by kernel_rfl) rfl (by kernel_rfl) (fun K hK => ?_)
        go_simp
        go_at_call 80
        with_reducible refine (refIs_below a_ _ HNa_ (by omega) _).mono ?_
        rintro e w3 ⟨rfl, hbx⟩
        replace u0 := cell_below hbx u0
        replace u1 := cell_below hbx u1
        replace u2 := cell_below hbx u2
        replace u3 := cell_below hbx u3
        replace u4 := cell_below hbx u4
        replace u5 := cell_below hbx u5
        replace u6 := cell_below hbx u6
        replace hbX := hcall hbX hbx
        replace D := below_call D hbx
        refine hK.out _ _ (by (try dsimp only); (exact ⟨u0, u1, u2, u3, u4, u5, u6⟩)) (fun hHeld => ?_)
        clear hK K
        try simp only [Act.put, zA, zB, zC, zD, zE, zF]
        iterate 4
          refine Held.tw rgkc ?_
          try simp only [Act.put, zA, zB, zC, zD, zE, zF]
        refine Held.only (k := 7) (i := 7) (by kernel_rfl) (by kernel_rfl) rfl (by kernel_rfl) (fun K hK => ?_)
        go_simp
        go_at_call 80
        with_reducible refine (refIs_below b_ _ HNb_ (by omega) _).mono ?_
        rintro e w4 ⟨rfl, hbx⟩
        replace u0 := cell_below hbx u0
        replace u1 := cell_below hbx u1
        replace u2 := cell_below hbx u2
        replace u3 := cell_below hbx u3
        replace u4 := cell_below hbx u4
        replace u5 := cell_below hbx u5
        replace u6 := cell_below hbx u6
        replace hbX := hcall hbX hbx
        replace D := below_call D hbx
        refine hK.out _ _ (by (try dsimp only); (exact ⟨u0, u1, u2, u3, u4, u5, u6⟩)) (fun hHeld => ?_)
        clear hK K
        try simp only [Act.put, zA, zB, zC, zD, zE, zF]
        iterate 10
          refine Held.tw rgkc ?_
          try simp only [Act.put, zA, zB, zC, zD, zE, zF]
        iterate 12
          refine Held.tu rgkc ?_
          try simp only [Act.put, zA, zB, zC, zD, zE, zF]
        iterate 2
          refine Held.tw rgkc ?_
          try simp only [Act.put, zA, zB, zC, zD, zE, zF]
        iterate 6
          refine Held.tu rgkc ?_
          try simp only [Act.put, zA, zB, zC, zD, zE, zF]
        iterate 1
          refine Held.tw rgkc ?_
          try simp only [Act.put, zA, zB, zC, zD, zE, zF]
        refine wpAnyH_done (by kernel_rfl) ?_ _
        clear u0 u1 u2 u3 u4 u5 u6
        go_wp2
        go_ret
        rw [HF.out]
        exact ⟨rfl, D⟩
      have hcd := HCD.out
      rw [HNa_.out, HNb_.out, decide_eq_false hab] at hcd
      simp only [Bool.true_and, Bool.not_false] at hcd
      have HCE := Lib.hid hcd
      have e1 : (a_.toList == b_.toList) = false := by simpa [toList_inj'] using hab
      clear hab hcd
      by_cases hi0 : i = 0
      · have g1 : decide ((0 : Int) < (i : Int)) = false := decide_eq_false (by omega)
        have g1n : decide (0 < i) = false := decide_eq_false (by omega)
        have HJ2 : Hid (∀ j (h : j + 1 < l.length), j + 1 < i + 1 → ltRo (keyRo l[j]) (keyRo l[j + 1]) = true) := fun j _ h => absurd h (by omega)
        clear hi0
        by_cases hm16 : m ≤ 16
        · have d1 : decide ((16 : Int) < (m : Int)) = false := decide_eq_false (by omega)
          have d2 : decide (16 < m) = false := decide_eq_false (by omega)
          clear uz
          replace hbX : (wr.alloc (bxEn a_ b_ c_ d_ e_ f_ g_)).drew.heap[_]? = _ := hbX
          replace D : Below _ _ (wr.alloc (bxEn a_ b_ c_ d_ e_ f_ g_)).drew := D.drew
          go_wp2_with fail
          refine Held.start (ops := opskd1) (S := fun w' => w'.cell? ⟨wr.heap.size, 0, none⟩ = some (.string a_) ∧ w'.cell? ⟨wr.heap.size, 1, none⟩ = some (.string b_) ∧ w'.cell? ⟨wr.heap.size, 2, none⟩ = some (.bool c_) ∧ w'.cell? ⟨wr.heap.size, 3, none⟩ = some (.bool d_) ∧ w'.cell? ⟨wr.heap.size, 4, none⟩ = some (.bool e_) ∧ w'.cell? ⟨wr.heap.size, 5, none⟩ = some (.bool f_) ∧ w'.cell? ⟨wr.heap.size, 6, none⟩ = some (.bool g_)) ordkd1 39 (by kernel_rfl) rgkd1.siz (by kernel_rfl) ⟨u0, u1, u2, u3, u4, u5, u6⟩ (fun hHeld => ?_)
          iterate 2
            refine Held.tw rgkd1 ?_
            try simp only [Act.put, zA, zB, zC, zD, zE, zF]
          refine Held.only (k := 2) (i := 2) (by kernel_rfl) (by kernel_rfl) rfl (by kernel_rfl) (fun K hK => ?_)
          go_simp
          go_at_call 80
          with_reducible refine (refIs_below a_ _ HNa_ (by omega) _).mono ?_
          rintro e w3 ⟨rfl, hbx⟩
          replace u0 := cell_below hbx u0
          replace u1 := cell_below hbx u1
          replace u2 := cell_below hbx u2
          replace u3 := cell_below hbx u3
          replace u4 := cell_below hbx u4
          replace u5 := cell_below hbx u5
          replace u6 := cell_below hbx u6
          replace hbX := hcall hbX hbx
          replace D := below_call D hbx
          refine hK.out _ _ (by (try dsimp only); (exact ⟨u0, u1, u2, u3, u4, u5, u6⟩)) (fun hHeld => ?_)
          clear hK K
          try simp only [Act.put, zA, zB, zC, zD, zE, zF]
          iterate 4
            refine Held.tw rgkd1 ?_
            try simp only [Act.put, zA, zB, zC, zD, zE, zF]
          refine Held.only (k := 7) (i := 7) (by kernel_rfl) (by kernel_rfl) rfl (by kernel_rfl) (fun K hK => ?_)
          go_simp
          go_at_call 80
          with_reducible refine (refIs_below b_ _ HNb_ (by omega) _).mono ?_
          rintro e w4 ⟨rfl, hbx⟩
          replace u0 := cell_below hbx u0
          replace u1 := cell_below hbx u1
          replace u2 := cell_below hbx u2
          replace u3 := cell_below hbx u3
          replace u4 := cell_below hbx u4
          replace u5 := cell_below hbx u5
          replace u6 := cell_below hbx u6
          replace hbX := hcall hbX hbx
          replace D := below_call D hbx
          refine hK.out _ _ (by (try dsimp only); (exact ⟨u0, u1, u2, u3, u4, u5, u6⟩)) (fun hHeld => ?_)
          clear hK K
          try simp only [Act.put, zA, zB, zC, zD, zE, zF]
          iterate 13
            refine Held.tw rgkd1 ?_
            try simp only [Act.put, zA, zB, zC, zD, zE, zF]
          iterate 8
            refine Held.tu rgkd1 ?_
            try simp only [Act.put, zA, zB, zC, zD, zE, zF]
          iterate 6
            refine Held.tw rgkd1 ?_
            try simp only [Act.put, zA, zB, zC, zD, zE, zF]
          refine Held.only (k := 35) (i := 35) (by kernel_rfl) (by kernel_rfl) rfl (by kernel_rfl) (fun K hK => ?_)
          go_simp
          go_at_call 68
          with_reducible refine (refOfLen n c _ l a_ _ (hl.below D) hn m HM).mono ?_
          rintro e w5 ⟨⟨Ao, co, rfl⟩, hbx⟩
          replace u0 := cell_below hbx u0
          replace u1 := cell_below hbx u1
          replace u2 := cell_below hbx u2
          replace u3 := cell_below hbx u3
          replace u4 := cell_below hbx u4
          replace u5 := cell_below hbx u5
          replace u6 := cell_below hbx u6
          replace hbX := hcall hbX hbx
          replace D := below_call D hbx
          refine hK.out _ _ (by (try dsimp only); (exact ⟨u0, u1, u2, u3, u4, u5, u6⟩)) (fun hHeld => ?_)
          clear hK K
          try simp only [Act.put, zA, zB, zC, zD, zE, zF]
          iterate 3
            refine Held.tw rgkd1 ?_
            try simp only [Act.put, zA, zB, zC, zD, zE, zF]
          refine wpAnyH_done (by kernel_rfl) ?_ _
          clear u0 u1 u2 u3 u4 u5 u6
          obtain ⟨u0, u1, u2, u3, u4, u5, u6, uz⟩ := cellsEn a_ b_ c_ d_ e_ f_ g_ hbX
          go_wp2_with fail
          with_reducible refine (HGET.out _ (hl.below D)).mono ?_
          rintro e w6 ⟨rfl, b6⟩
          replace hbX := hcall hbX b6
          replace D := below_call D b6
          clear b6 u0 u1 u2 u3 u4 u5 u6 uz
          have hy := heap_alloc_new w6 (bxIt c' d' e' f' g')
          replace hbX := halloc hbX (bxIt c' d' e' f' g')
          replace D := below_alloc0 D (bxIt c' d' e' f' g')
          obtain ⟨u0, u1, u2, u3, u4, u5, u6, uz⟩ := cellsEn a_ b_ c_ d_ e_ f_ g_ hbX
          obtain ⟨⟨y0, y1, y2, y3, y4⟩, -, yz⟩ := iopen hy
          go_wp2_with fail
          with_reducible refine (re_ (hasRo_calls n c _ l b_ a_ _ (hl.below D)) (ret_bool HG2.out)).mono ?_
          rintro e w7 ⟨rfl, b7⟩
          replace hbX := hcall hbX b7
          replace hy := hcall hy b7
          replace D := below_call D b7
          clear b7 u0 u1 u2 u3 u4 u5 u6 uz y0 y1 y2 y3 y4 yz
          cases hh with
          | false =>
            have HF : Hid (r = false) := by
              show _ = _
              rw [← HR.out]
              exact mayRo_no_one (List.getElem_mem hil) (by rw [HCE.out]; simp)
            go_wp2
            go_ret
            rw [HF.out]
            exact ⟨rfl, D⟩
          | true =>
          obtain ⟨ft, hft⟩ : ∃ b, fitI ⟨c_, d_, e_, f_, g_⟩ ⟨c', d', e', f', g'⟩ = b := ⟨_, rfl⟩
          have HFT := Lib.hid hft
          clear hft
          obtain ⟨u0, u1, u2, u3, u4, u5, u6, uz⟩ := cellsEn a_ b_ c_ d_ e_ f_ g_ hbX
          obtain ⟨⟨y0, y1, y2, y3, y4⟩, -, yz⟩ := iopen hy
          go_wp2_with fail
          with_reducible refine (re_ (refMayI_calls c_ d_ e_ f_ g_ c' d' e' f' g' _) (ret_bool HFT.out)).mono ?_
          rintro e w8 ⟨rfl, b8⟩
          replace hbX := hcall hbX b8
          replace hy := hcall hy b8
          replace D := below_call D b8
          clear b8 u0 u1 u2 u3 u4 u5 u6 uz y0 y1 y2 y3 y4 yz
          cases ft with
          | false =>
            have HF : Hid (r = false) := by
              show _ = _
              rw [← HR.out]
              exact mayRo_no_one (List.getElem_mem hil) (by rw [HCE.out, HFT.out]; simp)
            go_wp2
            go_ret
            rw [HF.out]
            exact ⟨rfl, D⟩
          | true =>
          obtain ⟨m1, hm1⟩ : ∃ b, emptyI ⟨c_, d_, e_, f_, g_⟩ = b := ⟨_, rfl⟩
          have HM1 := Lib.hid hm1
          clear hm1
          obtain ⟨u0, u1, u2, u3, u4, u5, u6, uz⟩ := cellsEn a_ b_ c_ d_ e_ f_ g_ hbX
          obtain ⟨⟨y0, y1, y2, y3, y4⟩, -, yz⟩ := iopen hy
          go_wp2_with fail
          with_reducible refine (re_ (refEmptyI_calls c_ d_ e_ f_ g_ _) (ret_bool HM1.out)).mono ?_
          rintro e w9 ⟨rfl, b9⟩
          replace hbX := hcall hbX b9
          replace hy := hcall hy b9
          replace D := below_call D b9
          clear b9 u0 u1 u2 u3 u4 u5 u6 uz y0 y1 y2 y3 y4 yz
          cases m1 with
          | false =>
            have HK2 : Hid (∀ j (h : j < l.length), j < i + 1 → oneRo l l[j] = true) := fun j h hj => by
              rcases Nat.lt_or_ge j i with h' | h'
              · exact HK.out j h h'
              · obtain rfl : j = i := by omega
                rw [HCE.out, HFT.out, HM1.out, decide_eq_true hm16]
                rfl
            go_wp2
            exact ⟨⟨i + 1, by go_num, by omega, D, HK2, HJ2⟩, by simp [intOf]; omega⟩
          | true =>
          obtain ⟨m2, hm2⟩ : ∃ b, emptyI ⟨c', d', e', f', g'⟩ = b := ⟨_, rfl⟩
          have HM2 := Lib.hid hm2
          clear hm2
          obtain ⟨u0, u1, u2, u3, u4, u5, u6, uz⟩ := cellsEn a_ b_ c_ d_ e_ f_ g_ hbX
          obtain ⟨⟨y0, y1, y2, y3, y4⟩, -, yz⟩ := iopen hy
          go_wp2_with fail
          with_reducible refine (re_ (refEmptyI_calls c' d' e' f' g' _) (ret_bool HM2.out)).mono ?_
          rintro e w10 ⟨rfl, b10⟩
          replace hbX := hcall hbX b10
          replace hy := hcall hy b10
          replace D := below_call D b10
          clear b10 u0 u1 u2 u3 u4 u5 u6 uz y0 y1 y2 y3 y4 yz
          cases m2 with
          | false =>
            have HK2 : Hid (∀ j (h : j < l.length), j < i + 1 → oneRo l l[j] = true) := fun j h hj => by
              rcases Nat.lt_or_ge j i with h' | h'
              · exact HK.out j h h'
              · obtain rfl : j = i := by omega
                rw [HCE.out, HFT.out, HM1.out, decide_eq_true hm16]
                rw [HM2.out]
                rfl
            go_wp2
            exact ⟨⟨i + 1, by go_num, by omega, D, HK2, HJ2⟩, by simp [intOf]; omega⟩
          | true =>
            have HF : Hid (r = false) := by
              show _ = _
              rw [← HR.out]
              exact mayRo_no_one (List.getElem_mem hil) (by rw [HCE.out, HFT.out, HM1.out, HM2.out]; simp)
            go_wp2
            go_ret
            rw [HF.out]
            exact ⟨rfl, D⟩
        · have d1 : decide ((16 : Int) < (m : Int)) = true := decide_eq_true (by omega)
          have d2 : decide (16 < m) = true := decide_eq_true (by omega)
          have HF : Hid (r = false) := by
            show _ = _
            rw [← HR.out]
            exact mayRo_no_one (List.getElem_mem hil) (by rw [HCE.out, decide_eq_false hm16]; rfl)
          clear uz
          replace hbX : (wr.alloc (bxEn a_ b_ c_ d_ e_ f_ g_)).drew.heap[_]? = _ := hbX
          replace D : Below _ _ (wr.alloc (bxEn a_ b_ c_ d_ e_ f_ g_)).drew := D.drew
          go_wp2_with fail
          refine Held.start (ops := opskd2) (S := fun w' => w'.cell? ⟨wr.heap.size, 0, none⟩ = some (.string a_) ∧ w'.cell? ⟨wr.heap.size, 1, none⟩ = some (.string b_) ∧ w'.cell? ⟨wr.heap.size, 2, none⟩ = some (.bool c_) ∧ w'.cell? ⟨wr.heap.size, 3, none⟩ = some (.bool d_) ∧ w'.cell? ⟨wr.heap.size, 4, none⟩ = some (.bool e_) ∧ w'.cell? ⟨wr.heap.size, 5, none⟩ = some (.bool f_) ∧ w'.cell? ⟨wr.heap.size, 6, none⟩ = some (.bool g_)) ordkd2 39 (by kernel_rfl) rgkd2.siz (by kernel_rfl) ⟨u0, u1, u2, u3, u4, u5, u6⟩ (fun hHeld => ?_)
          iterate 2
            refine Held.tw rgkd2 ?_
            try simp only [Act.put, zA, zB, zC, zD, zE, zF]
          refine Held.only (k := 2) (i := 2) (by kernel_rfl) (by kernel_rfl) rfl (by kernel_rfl) (fun K hK => ?_)
          go_simp
          go_at_call 80
          with_reducible refine (refIs_below a_ _ HNa_ (by omega) _).mono ?_
          rintro e w3 ⟨rfl, hbx⟩
          replace u0 := cell_below hbx u0
          replace u1 := cell_below hbx u1
          replace u2 := cell_below hbx u2
          replace u3 := cell_below hbx u3
          replace u4 := cell_below hbx u4
          replace u5 := cell_below hbx u5
          replace u6 := cell_below hbx u6
          replace hbX := hcall hbX hbx
          replace D := below_call D hbx
          refine hK.out _ _ (by (try dsimp only); (exact ⟨u0, u1, u2, u3, u4, u5, u6⟩)) (fun hHeld => ?_)
          clear hK K
          try simp only [Act.put, zA, zB, zC, zD, zE, zF]
          iterate 4
            refine Held.tw rgkd2 ?_
            try simp only [Act.put, zA, zB, zC, zD, zE, zF]
          refine Held.only (k := 7) (i := 7) (by kernel_rfl) (by kernel_rfl) rfl (by kernel_rfl) (fun K hK => ?_)
          go_simp
          go_at_call 80
          with_reducible refine (refIs_below b_ _ HNb_ (by omega) _).mono ?_
          rintro e w4 ⟨rfl, hbx⟩
          replace u0 := cell_below hbx u0
          replace u1 := cell_below hbx u1
          replace u2 := cell_below hbx u2
          replace u3 := cell_below hbx u3
          replace u4 := cell_below hbx u4
          replace u5 := cell_below hbx u5
          replace u6 := cell_below hbx u6
          replace hbX := hcall hbX hbx
          replace D := below_call D hbx
          refine hK.out _ _ (by (try dsimp only); (exact ⟨u0, u1, u2, u3, u4, u5, u6⟩)) (fun hHeld => ?_)
          clear hK K
          try simp only [Act.put, zA, zB, zC, zD, zE, zF]
          iterate 13
            refine Held.tw rgkd2 ?_
            try simp only [Act.put, zA, zB, zC, zD, zE, zF]
          iterate 8
            refine Held.tu rgkd2 ?_
            try simp only [Act.put, zA, zB, zC, zD, zE, zF]
          iterate 6
            refine Held.tw rgkd2 ?_
            try simp only [Act.put, zA, zB, zC, zD, zE, zF]
          refine Held.only (k := 35) (i := 35) (by kernel_rfl) (by kernel_rfl) rfl (by kernel_rfl) (fun K hK => ?_)
          go_simp
          go_at_call 68
          with_reducible refine (refOfLen n c _ l a_ _ (hl.below D) hn m HM).mono ?_
          rintro e w5 ⟨⟨Ao, co, rfl⟩, hbx⟩
          replace u0 := cell_below hbx u0
          replace u1 := cell_below hbx u1
          replace u2 := cell_below hbx u2
          replace u3 := cell_below hbx u3
          replace u4 := cell_below hbx u4
          replace u5 := cell_below hbx u5
          replace u6 := cell_below hbx u6
          replace hbX := hcall hbX hbx
          replace D := below_call D hbx
          refine hK.out _ _ (by (try dsimp only); (exact ⟨u0, u1, u2, u3, u4, u5, u6⟩)) (fun hHeld => ?_)
          clear hK K
          try simp only [Act.put, zA, zB, zC, zD, zE, zF]
          iterate 3
            refine Held.tw rgkd2 ?_
            try simp only [Act.put, zA, zB, zC, zD, zE, zF]
          refine wpAnyH_done (by kernel_rfl) ?_ _
          clear u0 u1 u2 u3 u4 u5 u6
          go_wp2
          go_ret
          rw [HF.out]
          exact ⟨rfl, D⟩
      have g1 : decide ((0 : Int) < (i : Int)) = true := decide_eq_true (by omega)
      have g1n : decide (0 < i) = true := decide_eq_true (by omega)
      obtain ⟨q, hq⟩ : ∃ q, q = i - 1 := ⟨_, rfl⟩
      have hqi : q + 1 = i := by omega
      have hql : q < l.length := by omega
      obtain ⟨⟨p_, q_, r_, s_, t_, v_, x_⟩, heq⟩ : ∃ e, l[q] = e := ⟨_, rfl⟩
      have hw : IntKind.i64.wrap ((i : Int) - 1) = ((q : Nat) : Int) := by
        have : (i : Int) - 1 = (q : Int) := by omega
        rw [this, IntKind.wrap_i64]; omega
      have x1 : (0 : Int) ≤ (q : Int) := by omega
      have x2 : (q : Int) < (n : Int) := by have := EA.out; omega
      obtain ⟨bl, hbl⟩ : ∃ b, ltRo (p_, q_) (a_, b_) = b := ⟨_, rfl⟩
      have HADJ : Hid (∃ h : q + 1 < l.length, ltRo (keyRo l[q]) (keyRo l[q + 1]) = bl) := by
        subst hqi
        exact ⟨hil, by rw [heq, HE.out, ← hbl]; rfl⟩
      have HBL := Lib.hid hbl
      have HEQ := Lib.hid heq
      have HQI := Lib.hid hqi
      obtain ⟨p0, p1, p2, p3, p4, p5, p6⟩ := rowsEn (hl.below D) q hql p_ q_ r_ s_ t_ v_ x_ heq
      clear hbl heq hqi hq hi0
      cases bl with
      | false =>
        have HF : Hid (r = false) := by
          show _ = _
          rw [← HR.out]
          exact mayRo_no_adj q HADJ.out.1 HADJ.out.2
        clear uz
        replace hbX : (wr.alloc (bxEn a_ b_ c_ d_ e_ f_ g_)).drew.heap[_]? = _ := hbX
        replace D : Below _ _ (wr.alloc (bxEn a_ b_ c_ d_ e_ f_ g_)).drew := D.drew
        go_wp2_with fail
        refine Held.start (ops := opske) (S := fun w' => w'.cell? ⟨wr.heap.size, 0, none⟩ = some (.string a_) ∧ w'.cell? ⟨wr.heap.size, 1, none⟩ = some (.string b_) ∧ w'.cell? ⟨wr.heap.size, 2, none⟩ = some (.bool c_) ∧ w'.cell? ⟨wr.heap.size, 3, none⟩ = some (.bool d_) ∧ w'.cell? ⟨wr.heap.size, 4, none⟩ = some (.bool e_) ∧ w'.cell? ⟨wr.heap.size, 5, none⟩ = some (.bool f_) ∧ w'.cell? ⟨wr.heap.size, 6, none⟩ = some (.bool g_) ∧ w'.cell? (ad.add (q * 7)) = some (.string p_) ∧ w'.cell? ⟨(ad.add (q * 7)).block, (ad.add (q * 7)).off + 1, none⟩ = some (.string q_) ∧ w'.cell? ⟨(ad.add (q * 7)).block, (ad.add (q * 7)).off + 2, none⟩ = some (.bool r_) ∧ w'.cell? ⟨(ad.add (q * 7)).block, (ad.add (q * 7)).off + 3, none⟩ = some (.bool s_) ∧ w'.cell? ⟨(ad.add (q * 7)).block, (ad.add (q * 7)).off + 4, none⟩ = some (.bool t_) ∧ w'.cell? ⟨(ad.add (q * 7)).block, (ad.add (q * 7)).off + 5, none⟩ = some (.bool v_) ∧ w'.cell? ⟨(ad.add (q * 7)).block, (ad.add (q * 7)).off + 6, none⟩ = some (.bool x_)) ordke 39 (by kernel_rfl) rgke.siz (by kernel_rfl) ⟨u0, u1, u2, u3, u4, u5, u6, p0, p1, p2, p3, p4, p5, p6⟩ (fun hHeld => ?_)
        iterate 2
          refine Held.tw rgke ?_
          try simp only [Act.put, zA, zB, zC, zD, zE, zF]
        refine Held.only (k := 2) (i := 2) (by kernel_rfl) (by kernel_rfl) rfl (by kernel_rfl) (fun K hK => ?_)
        go_simp
        go_at_call 80
        with_reducible refine (refIs_below a_ _ HNa_ (by omega) _).mono ?_
        rintro e w3 ⟨rfl, hbx⟩
        replace u0 := cell_below hbx u0
        replace u1 := cell_below hbx u1
        replace u2 := cell_below hbx u2
        replace u3 := cell_below hbx u3
        replace u4 := cell_below hbx u4
        replace u5 := cell_below hbx u5
        replace u6 := cell_below hbx u6
        replace p0 := cell_below hbx p0
        replace p1 := cell_below hbx p1
        replace p2 := cell_below hbx p2
        replace p3 := cell_below hbx p3
        replace p4 := cell_below hbx p4
        replace p5 := cell_below hbx p5
        replace p6 := cell_below hbx p6
        replace hbX := hcall hbX hbx
        replace D := below_call D hbx
        refine hK.out _ _ (by (try dsimp only); (exact ⟨u0, u1, u2, u3, u4, u5, u6, p0, p1, p2, p3, p4, p5, p6⟩)) (fun hHeld => ?_)
        clear hK K
        try simp only [Act.put, zA, zB, zC, zD, zE, zF]
        iterate 4
          refine Held.tw rgke ?_
          try simp only [Act.put, zA, zB, zC, zD, zE, zF]
        refine Held.only (k := 7) (i := 7) (by kernel_rfl) (by kernel_rfl) rfl (by kernel_rfl) (fun K hK => ?_)
        go_simp
        go_at_call 80
        with_reducible refine (refIs_below b_ _ HNb_ (by omega) _).mono ?_
        rintro e w4 ⟨rfl, hbx⟩
        replace u0 := cell_below hbx u0
        replace u1 := cell_below hbx u1
        replace u2 := cell_below hbx u2
        replace u3 := cell_below hbx u3
        replace u4 := cell_below hbx u4
        replace u5 := cell_below hbx u5
        replace u6 := cell_below hbx u6
        replace p0 := cell_below hbx p0
        replace p1 := cell_below hbx p1
        replace p2 := cell_below hbx p2
        replace p3 := cell_below hbx p3
        replace p4 := cell_below hbx p4
        replace p5 := cell_below hbx p5
        replace p6 := cell_below hbx p6
        replace hbX := hcall hbX hbx
        replace D := below_call D hbx
        refine hK.out _ _ (by (try dsimp only); (exact ⟨u0, u1, u2, u3, u4, u5, u6, p0, p1, p2, p3, p4, p5, p6⟩)) (fun hHeld => ?_)
        clear hK K
        try simp only [Act.put, zA, zB, zC, zD, zE, zF]
        iterate 19
          refine Held.tw rgke ?_
          try simp only [Act.put, zA, zB, zC, zD, zE, zF]
        refine Held.only (k := 27) (i := 27) (by kernel_rfl) (by kernel_rfl) rfl (by kernel_rfl) (fun K hK => ?_)
        go_simp
        go_at_call 81
        with_reducible refine (re_ (refAheadR_calls p_ q_ r_ s_ t_ v_ x_ a_ b_ c_ d_ e_ f_ g_ _) (ret_bool HBL.out)).mono ?_
        rintro e w5 ⟨rfl, hbx⟩
        replace u0 := cell_below hbx u0
        replace u1 := cell_below hbx u1
        replace u2 := cell_below hbx u2
        replace u3 := cell_below hbx u3
        replace u4 := cell_below hbx u4
        replace u5 := cell_below hbx u5
        replace u6 := cell_below hbx u6
        replace p0 := cell_below hbx p0
        replace p1 := cell_below hbx p1
        replace p2 := cell_below hbx p2
        replace p3 := cell_below hbx p3
        replace p4 := cell_below hbx p4
        replace p5 := cell_below hbx p5
        replace p6 := cell_below hbx p6
        replace hbX := hcall hbX hbx
        replace D := below_call D hbx
        refine hK.out _ _ (by (try dsimp only); (exact ⟨u0, u1, u2, u3, u4, u5, u6, p0, p1, p2, p3, p4, p5, p6⟩)) (fun hHeld => ?_)
        clear hK K
        try simp only [Act.put, zA, zB, zC, zD, zE, zF]
        iterate 4
          refine Held.tw rgke ?_
          try simp only [Act.put, zA, zB, zC, zD, zE, zF]
        iterate 6
          refine Held.tu rgke ?_
          try simp only [Act.put, zA, zB, zC, zD, zE, zF]
        iterate 1
          refine Held.tw rgke ?_
          try simp only [Act.put, zA, zB, zC, zD, zE, zF]
        refine wpAnyH_done (by kernel_rfl) ?_ _
        clear u0 u1 u2 u3 u4 u5 u6 p0 p1 p2 p3 p4 p5 p6
        go_wp2
        go_ret
        rw [HF.out]
        exact ⟨rfl, D⟩
      | true =>
        have HJ2 : Hid (∀ j (h : j + 1 < l.length), j + 1 < i + 1 → ltRo (keyRo l[j]) (keyRo l[j + 1]) = true) := fun j h hj => by
          rcases Nat.lt_or_ge (j + 1) i with h' | h'
          · exact HJ.out j h h'
          · obtain rfl : j = q := by have := HQI.out; omega
            exact HADJ.out.2
        by_cases hm16 : m ≤ 16
        · have d1 : decide ((16 : Int) < (m : Int)) = false := decide_eq_false (by omega)
          have d2 : decide (16 < m) = false := decide_eq_false (by omega)
          clear uz
          replace hbX : (wr.alloc (bxEn a_ b_ c_ d_ e_ f_ g_)).drew.heap[_]? = _ := hbX
          replace D : Below _ _ (wr.alloc (bxEn a_ b_ c_ d_ e_ f_ g_)).drew := D.drew
          go_wp2_with fail
          refine Held.start (ops := opskf1) (S := fun w' => w'.cell? ⟨wr.heap.size, 0, none⟩ = some (.string a_) ∧ w'.cell? ⟨wr.heap.size, 1, none⟩ = some (.string b_) ∧ w'.cell? ⟨wr.heap.size, 2, none⟩ = some (.bool c_) ∧ w'.cell? ⟨wr.heap.size, 3, none⟩ = some (.bool d_) ∧ w'.cell? ⟨wr.heap.size, 4, none⟩ = some (.bool e_) ∧ w'.cell? ⟨wr.heap.size, 5, none⟩ = some (.bool f_) ∧ w'.cell? ⟨wr.heap.size, 6, none⟩ = some (.bool g_) ∧ w'.cell? (ad.add (q * 7)) = some (.string p_) ∧ w'.cell? ⟨(ad.add (q * 7)).block, (ad.add (q * 7)).off + 1, none⟩ = some (.string q_) ∧ w'.cell? ⟨(ad.add (q * 7)).block, (ad.add (q * 7)).off + 2, none⟩ = some (.bool r_) ∧ w'.cell? ⟨(ad.add (q * 7)).block, (ad.add (q * 7)).off + 3, none⟩ = some (.bool s_) ∧ w'.cell? ⟨(ad.add (q * 7)).block, (ad.add (q * 7)).off + 4, none⟩ = some (.bool t_) ∧ w'.cell? ⟨(ad.add (q * 7)).block, (ad.add (q * 7)).off + 5, none⟩ = some (.bool v_) ∧ w'.cell? ⟨(ad.add (q * 7)).block, (ad.add (q * 7)).off + 6, none⟩ = some (.bool x_)) ordkf1 39 (by kernel_rfl) rgkf1.siz (by kernel_rfl) ⟨u0, u1, u2, u3, u4, u5, u6, p0, p1, p2, p3, p4, p5, p6⟩ (fun hHeld => ?_)
          iterate 2
            refine Held.tw rgkf1 ?_
            try simp only [Act.put, zA, zB, zC, zD, zE, zF]
          refine Held.only (k := 2) (i := 2) (by kernel_rfl) (by kernel_rfl) rfl (by kernel_rfl) (fun K hK => ?_)
          go_simp
          go_at_call 80
          with_reducible refine (refIs_below a_ _ HNa_ (by omega) _).mono ?_
          rintro e w3 ⟨rfl, hbx⟩
          replace u0 := cell_below hbx u0
          replace u1 := cell_below hbx u1
          replace u2 := cell_below hbx u2
          replace u3 := cell_below hbx u3
          replace u4 := cell_below hbx u4
          replace u5 := cell_below hbx u5
          replace u6 := cell_below hbx u6
          replace p0 := cell_below hbx p0
          replace p1 := cell_below hbx p1
          replace p2 := cell_below hbx p2
          replace p3 := cell_below hbx p3
          replace p4 := cell_below hbx p4
          replace p5 := cell_below hbx p5
          replace p6 := cell_below hbx p6
          replace hbX := hcall hbX hbx
          replace D := below_call D hbx
          refine hK.out _ _ (by (try dsimp only); (exact ⟨u0, u1, u2, u3, u4, u5, u6, p0, p1, p2, p3, p4, p5, p6⟩)) (fun hHeld => ?_)
          clear hK K
          try simp only [Act.put, zA, zB, zC, zD, zE, zF]
          iterate 4
            refine Held.tw rgkf1 ?_
            try simp only [Act.put, zA, zB, zC, zD, zE, zF]
          refine Held.only (k := 7) (i := 7) (by kernel_rfl) (by kernel_rfl) rfl (by kernel_rfl) (fun K hK => ?_)
          go_simp
          go_at_call 80
          with_reducible refine (refIs_below b_ _ HNb_ (by omega) _).mono ?_
          rintro e w4 ⟨rfl, hbx⟩
          replace u0 := cell_below hbx u0
          replace u1 := cell_below hbx u1
          replace u2 := cell_below hbx u2
          replace u3 := cell_below hbx u3
          replace u4 := cell_below hbx u4
          replace u5 := cell_below hbx u5
          replace u6 := cell_below hbx u6
          replace p0 := cell_below hbx p0
          replace p1 := cell_below hbx p1
          replace p2 := cell_below hbx p2
          replace p3 := cell_below hbx p3
          replace p4 := cell_below hbx p4
          replace p5 := cell_below hbx p5
          replace p6 := cell_below hbx p6
          replace hbX := hcall hbX hbx
          replace D := below_call D hbx
          refine hK.out _ _ (by (try dsimp only); (exact ⟨u0, u1, u2, u3, u4, u5, u6, p0, p1, p2, p3, p4, p5, p6⟩)) (fun hHeld => ?_)
          clear hK K
          try simp only [Act.put, zA, zB, zC, zD, zE, zF]
          iterate 19
            refine Held.tw rgkf1 ?_
            try simp only [Act.put, zA, zB, zC, zD, zE, zF]
          refine Held.only (k := 27) (i := 27) (by kernel_rfl) (by kernel_rfl) rfl (by kernel_rfl) (fun K hK => ?_)
          go_simp
          go_at_call 81
          with_reducible refine (re_ (refAheadR_calls p_ q_ r_ s_ t_ v_ x_ a_ b_ c_ d_ e_ f_ g_ _) (ret_bool HBL.out)).mono ?_
          rintro e w5 ⟨rfl, hbx⟩
          replace u0 := cell_below hbx u0
          replace u1 := cell_below hbx u1
          replace u2 := cell_below hbx u2
          replace u3 := cell_below hbx u3
          replace u4 := cell_below hbx u4
          replace u5 := cell_below hbx u5
          replace u6 := cell_below hbx u6
          replace p0 := cell_below hbx p0
          replace p1 := cell_below hbx p1
          replace p2 := cell_below hbx p2
          replace p3 := cell_below hbx p3
          replace p4 := cell_below hbx p4
          replace p5 := cell_below hbx p5
          replace p6 := cell_below hbx p6
          replace hbX := hcall hbX hbx
          replace D := below_call D hbx
          refine hK.out _ _ (by (try dsimp only); (exact ⟨u0, u1, u2, u3, u4, u5, u6, p0, p1, p2, p3, p4, p5, p6⟩)) (fun hHeld => ?_)
          clear hK K
          try simp only [Act.put, zA, zB, zC, zD, zE, zF]
          iterate 7
            refine Held.tw rgkf1 ?_
            try simp only [Act.put, zA, zB, zC, zD, zE, zF]
          refine Held.only (k := 35) (i := 35) (by kernel_rfl) (by kernel_rfl) rfl (by kernel_rfl) (fun K hK => ?_)
          go_simp
          go_at_call 68
          with_reducible refine (refOfLen n c _ l a_ _ (hl.below D) hn m HM).mono ?_
          rintro e w6 ⟨⟨Ao, co, rfl⟩, hbx⟩
          replace u0 := cell_below hbx u0
          replace u1 := cell_below hbx u1
          replace u2 := cell_below hbx u2
          replace u3 := cell_below hbx u3
          replace u4 := cell_below hbx u4
          replace u5 := cell_below hbx u5
          replace u6 := cell_below hbx u6
          replace p0 := cell_below hbx p0
          replace p1 := cell_below hbx p1
          replace p2 := cell_below hbx p2
          replace p3 := cell_below hbx p3
          replace p4 := cell_below hbx p4
          replace p5 := cell_below hbx p5
          replace p6 := cell_below hbx p6
          replace hbX := hcall hbX hbx
          replace D := below_call D hbx
          refine hK.out _ _ (by (try dsimp only); (exact ⟨u0, u1, u2, u3, u4, u5, u6, p0, p1, p2, p3, p4, p5, p6⟩)) (fun hHeld => ?_)
          clear hK K
          try simp only [Act.put, zA, zB, zC, zD, zE, zF]
          iterate 3
            refine Held.tw rgkf1 ?_
            try simp only [Act.put, zA, zB, zC, zD, zE, zF]
          refine wpAnyH_done (by kernel_rfl) ?_ _
          clear u0 u1 u2 u3 u4 u5 u6 p0 p1 p2 p3 p4 p5 p6
          obtain ⟨u0, u1, u2, u3, u4, u5, u6, uz⟩ := cellsEn a_ b_ c_ d_ e_ f_ g_ hbX
          go_wp2_with fail
          with_reducible refine (HGET.out _ (hl.below D)).mono ?_
          rintro e w7 ⟨rfl, b7⟩
          replace hbX := hcall hbX b7
          replace D := below_call D b7
          clear b7 u0 u1 u2 u3 u4 u5 u6 uz
          have hy := heap_alloc_new w7 (bxIt c' d' e' f' g')
          replace hbX := halloc hbX (bxIt c' d' e' f' g')
          replace D := below_alloc0 D (bxIt c' d' e' f' g')
          obtain ⟨u0, u1, u2, u3, u4, u5, u6, uz⟩ := cellsEn a_ b_ c_ d_ e_ f_ g_ hbX
          obtain ⟨⟨y0, y1, y2, y3, y4⟩, -, yz⟩ := iopen hy
          go_wp2_with fail
          with_reducible refine (re_ (hasRo_calls n c _ l b_ a_ _ (hl.below D)) (ret_bool HG2.out)).mono ?_
          rintro e w8 ⟨rfl, b8⟩
          replace hbX := hcall hbX b8
          replace hy := hcall hy b8
          replace D := below_call D b8
          clear b8 u0 u1 u2 u3 u4 u5 u6 uz y0 y1 y2 y3 y4 yz
          cases hh with
          | false =>
            have HF : Hid (r = false) := by
              show _ = _
              rw [← HR.out]
              exact mayRo_no_one (List.getElem_mem hil) (by rw [HCE.out]; simp)
            go_wp2
            go_ret
            rw [HF.out]
            exact ⟨rfl, D⟩
          | true =>
          obtain ⟨ft, hft⟩ : ∃ b, fitI ⟨c_, d_, e_, f_, g_⟩ ⟨c', d', e', f', g'⟩ = b := ⟨_, rfl⟩
          have HFT := Lib.hid hft
          clear hft
          obtain ⟨u0, u1, u2, u3, u4, u5, u6, uz⟩ := cellsEn a_ b_ c_ d_ e_ f_ g_ hbX
          obtain ⟨⟨y0, y1, y2, y3, y4⟩, -, yz⟩ := iopen hy
          go_wp2_with fail
          with_reducible refine (re_ (refMayI_calls c_ d_ e_ f_ g_ c' d' e' f' g' _) (ret_bool HFT.out)).mono ?_
          rintro e w9 ⟨rfl, b9⟩
          replace hbX := hcall hbX b9
          replace hy := hcall hy b9
          replace D := below_call D b9
          clear b9 u0 u1 u2 u3 u4 u5 u6 uz y0 y1 y2 y3 y4 yz
          cases ft with
          | false =>
            have HF : Hid (r = false) := by
              show _ = _
              rw [← HR.out]
              exact mayRo_no_one (List.getElem_mem hil) (by rw [HCE.out, HFT.out]; simp)
            go_wp2
            go_ret
            rw [HF.out]
            exact ⟨rfl, D⟩
          | true =>
          obtain ⟨m1, hm1⟩ : ∃ b, emptyI ⟨c_, d_, e_, f_, g_⟩ = b := ⟨_, rfl⟩
          have HM1 := Lib.hid hm1
          clear hm1
          obtain ⟨u0, u1, u2, u3, u4, u5, u6, uz⟩ := cellsEn a_ b_ c_ d_ e_ f_ g_ hbX
          obtain ⟨⟨y0, y1, y2, y3, y4⟩, -, yz⟩ := iopen hy
          go_wp2_with fail
          with_reducible refine (re_ (refEmptyI_calls c_ d_ e_ f_ g_ _) (ret_bool HM1.out)).mono ?_
          rintro e w10 ⟨rfl, b10⟩
          replace hbX := hcall hbX b10
          replace hy := hcall hy b10
          replace D := below_call D b10
          clear b10 u0 u1 u2 u3 u4 u5 u6 uz y0 y1 y2 y3 y4 yz
          cases m1 with
          | false =>
            have HK2 : Hid (∀ j (h : j < l.length), j < i + 1 → oneRo l l[j] = true) := fun j h hj => by
              rcases Nat.lt_or_ge j i with h' | h'
              · exact HK.out j h h'
              · obtain rfl : j = i := by omega
                rw [HCE.out, HFT.out, HM1.out, decide_eq_true hm16]
                rfl
            go_wp2
            exact ⟨⟨i + 1, by go_num, by omega, D, HK2, HJ2⟩, by simp [intOf]; omega⟩
          | true =>
          obtain ⟨m2, hm2⟩ : ∃ b, emptyI ⟨c', d', e', f', g'⟩ = b := ⟨_, rfl⟩
          have HM2 := Lib.hid hm2
          clear hm2
          obtain ⟨u0, u1, u2, u3, u4, u5, u6, uz⟩ := cellsEn a_ b_ c_ d_ e_ f_ g_ hbX
          obtain ⟨⟨y0, y1, y2, y3, y4⟩, -, yz⟩ := iopen hy
          go_wp2_with fail
          with_reducible refine (re_ (refEmptyI_calls c' d' e' f' g' _) (ret_bool HM2.out)).mono ?_
          rintro e w11 ⟨rfl, b11⟩
          replace hbX := hcall hbX b11
          replace hy := hcall hy b11
          replace D := below_call D b11
          clear b11 u0 u1 u2 u3 u4 u5 u6 uz y0 y1 y2 y3 y4 yz
          cases m2 with
          | false =>
            have HK2 : Hid (∀ j (h : j < l.length), j < i + 1 → oneRo l l[j] = true) := fun j h hj => by
              rcases Nat.lt_or_ge j i with h' | h'
              · exact HK.out j h h'
              · obtain rfl : j = i := by omega
                rw [HCE.out, HFT.out, HM1.out, decide_eq_true hm16]
                rw [HM2.out]
                rfl
            go_wp2
            exact ⟨⟨i + 1, by go_num, by omega, D, HK2, HJ2⟩, by simp [intOf]; omega⟩
          | true =>
            have HF : Hid (r = false) := by
              show _ = _
              rw [← HR.out]
              exact mayRo_no_one (List.getElem_mem hil) (by rw [HCE.out, HFT.out, HM1.out, HM2.out]; simp)
            go_wp2
            go_ret
            rw [HF.out]
            exact ⟨rfl, D⟩
        · have d1 : decide ((16 : Int) < (m : Int)) = true := decide_eq_true (by omega)
          have d2 : decide (16 < m) = true := decide_eq_true (by omega)
          have HF : Hid (r = false) := by
            show _ = _
            rw [← HR.out]
            exact mayRo_no_one (List.getElem_mem hil) (by rw [HCE.out, decide_eq_false hm16]; rfl)
          clear uz
          replace hbX : (wr.alloc (bxEn a_ b_ c_ d_ e_ f_ g_)).drew.heap[_]? = _ := hbX
          replace D : Below _ _ (wr.alloc (bxEn a_ b_ c_ d_ e_ f_ g_)).drew := D.drew
          go_wp2_with fail
          refine Held.start (ops := opskf2) (S := fun w' => w'.cell? ⟨wr.heap.size, 0, none⟩ = some (.string a_) ∧ w'.cell? ⟨wr.heap.size, 1, none⟩ = some (.string b_) ∧ w'.cell? ⟨wr.heap.size, 2, none⟩ = some (.bool c_) ∧ w'.cell? ⟨wr.heap.size, 3, none⟩ = some (.bool d_) ∧ w'.cell? ⟨wr.heap.size, 4, none⟩ = some (.bool e_) ∧ w'.cell? ⟨wr.heap.size, 5, none⟩ = some (.bool f_) ∧ w'.cell? ⟨wr.heap.size, 6, none⟩ = some (.bool g_) ∧ w'.cell? (ad.add (q * 7)) = some (.string p_) ∧ w'.cell? ⟨(ad.add (q * 7)).block, (ad.add (q * 7)).off + 1, none⟩ = some (.string q_) ∧ w'.cell? ⟨(ad.add (q * 7)).block, (ad.add (q * 7)).off + 2, none⟩ = some (.bool r_) ∧ w'.cell? ⟨(ad.add (q * 7)).block, (ad.add (q * 7)).off + 3, none⟩ = some (.bool s_) ∧ w'.cell? ⟨(ad.add (q * 7)).block, (ad.add (q * 7)).off + 4, none⟩ = some (.bool t_) ∧ w'.cell? ⟨(ad.add (q * 7)).block, (ad.add (q * 7)).off + 5, none⟩ = some (.bool v_) ∧ w'.cell? ⟨(ad.add (q * 7)).block, (ad.add (q * 7)).off + 6, none⟩ = some (.bool x_)) ordkf2 39 (by kernel_rfl) rgkf2.siz (by kernel_rfl) ⟨u0, u1, u2, u3, u4, u5, u6, p0, p1, p2, p3, p4, p5, p6⟩ (fun hHeld => ?_)
          iterate 2
            refine Held.tw rgkf2 ?_
            try simp only [Act.put, zA, zB, zC, zD, zE, zF]
          refine Held.only (k := 2) (i := 2) (by kernel_rfl) (by kernel_rfl) rfl (by kernel_rfl) (fun K hK => ?_)
          go_simp
          go_at_call 80
          with_reducible refine (refIs_below a_ _ HNa_ (by omega) _).mono ?_
          rintro e w3 ⟨rfl, hbx⟩
          replace u0 := cell_below hbx u0
          replace u1 := cell_below hbx u1
          replace u2 := cell_below hbx u2
          replace u3 := cell_below hbx u3
          replace u4 := cell_below hbx u4
          replace u5 := cell_below hbx u5
          replace u6 := cell_below hbx u6
          replace p0 := cell_below hbx p0
          replace p1 := cell_below hbx p1
          replace p2 := cell_below hbx p2
          replace p3 := cell_below hbx p3
          replace p4 := cell_below hbx p4
          replace p5 := cell_below hbx p5
          replace p6 := cell_below hbx p6
          replace hbX := hcall hbX hbx
          replace D := below_call D hbx
          refine hK.out _ _ (by (try dsimp only); (exact ⟨u0, u1, u2, u3, u4, u5, u6, p0, p1, p2, p3, p4, p5, p6⟩)) (fun hHeld => ?_)
          clear hK K
          try simp only [Act.put, zA, zB, zC, zD, zE, zF]
          iterate 4
            refine Held.tw rgkf2 ?_
            try simp only [Act.put, zA, zB, zC, zD, zE, zF]
          refine Held.only (k := 7) (i := 7) (by kernel_rfl) (by kernel_rfl) rfl (by kernel_rfl) (fun K hK => ?_)
          go_simp
          go_at_call 80
          with_reducible refine (refIs_below b_ _ HNb_ (by omega) _).mono ?_
          rintro e w4 ⟨rfl, hbx⟩
          replace u0 := cell_below hbx u0
          replace u1 := cell_below hbx u1
          replace u2 := cell_below hbx u2
          replace u3 := cell_below hbx u3
          replace u4 := cell_below hbx u4
          replace u5 := cell_below hbx u5
          replace u6 := cell_below hbx u6
          replace p0 := cell_below hbx p0
          replace p1 := cell_below hbx p1
          replace p2 := cell_below hbx p2
          replace p3 := cell_below hbx p3
          replace p4 := cell_below hbx p4
          replace p5 := cell_below hbx p5
          replace p6 := cell_below hbx p6
          replace hbX := hcall hbX hbx
          replace D := below_call D hbx
          refine hK.out _ _ (by (try dsimp only); (exact ⟨u0, u1, u2, u3, u4, u5, u6, p0, p1, p2, p3, p4, p5, p6⟩)) (fun hHeld => ?_)
          clear hK K
          try simp only [Act.put, zA, zB, zC, zD, zE, zF]
          iterate 19
            refine Held.tw rgkf2 ?_
            try simp only [Act.put, zA, zB, zC, zD, zE, zF]
          refine Held.only (k := 27) (i := 27) (by kernel_rfl) (by kernel_rfl) rfl (by kernel_rfl) (fun K hK => ?_)
          go_simp
          go_at_call 81
          with_reducible refine (re_ (refAheadR_calls p_ q_ r_ s_ t_ v_ x_ a_ b_ c_ d_ e_ f_ g_ _) (ret_bool HBL.out)).mono ?_
          rintro e w5 ⟨rfl, hbx⟩
          replace u0 := cell_below hbx u0
          replace u1 := cell_below hbx u1
          replace u2 := cell_below hbx u2
          replace u3 := cell_below hbx u3
          replace u4 := cell_below hbx u4
          replace u5 := cell_below hbx u5
          replace u6 := cell_below hbx u6
          replace p0 := cell_below hbx p0
          replace p1 := cell_below hbx p1
          replace p2 := cell_below hbx p2
          replace p3 := cell_below hbx p3
          replace p4 := cell_below hbx p4
          replace p5 := cell_below hbx p5
          replace p6 := cell_below hbx p6
          replace hbX := hcall hbX hbx
          replace D := below_call D hbx
          refine hK.out _ _ (by (try dsimp only); (exact ⟨u0, u1, u2, u3, u4, u5, u6, p0, p1, p2, p3, p4, p5, p6⟩)) (fun hHeld => ?_)
          clear hK K
          try simp only [Act.put, zA, zB, zC, zD, zE, zF]
          iterate 7
            refine Held.tw rgkf2 ?_
            try simp only [Act.put, zA, zB, zC, zD, zE, zF]
          refine Held.only (k := 35) (i := 35) (by kernel_rfl) (by kernel_rfl) rfl (by kernel_rfl) (fun K hK => ?_)
          go_simp
          go_at_call 68
          with_reducible refine (refOfLen n c _ l a_ _ (hl.below D) hn m HM).mono ?_
          rintro e w6 ⟨⟨Ao, co, rfl⟩, hbx⟩
          replace u0 := cell_below hbx u0
          replace u1 := cell_below hbx u1
          replace u2 := cell_below hbx u2
          replace u3 := cell_below hbx u3
          replace u4 := cell_below hbx u4
          replace u5 := cell_below hbx u5
          replace u6 := cell_below hbx u6
          replace p0 := cell_below hbx p0
          replace p1 := cell_below hbx p1
          replace p2 := cell_below hbx p2
          replace p3 := cell_below hbx p3
          replace p4 := cell_below hbx p4
          replace p5 := cell_below hbx p5
          replace p6 := cell_below hbx p6
          replace hbX := hcall hbX hbx
          replace D := below_call D hbx
          refine hK.out _ _ (by (try dsimp only); (exact ⟨u0, u1, u2, u3, u4, u5, u6, p0, p1, p2, p3, p4, p5, p6⟩)) (fun hHeld => ?_)
          clear hK K
          try simp only [Act.put, zA, zB, zC, zD, zE, zF]
          iterate 3
            refine Held.tw rgkf2 ?_
            try simp only [Act.put, zA, zB, zC, zD, zE, zF]
          refine wpAnyH_done (by kernel_rfl) ?_ _
          clear u0 u1 u2 u3 u4 u5 u6 p0 p1 p2 p3 p4 p5 p6
          go_wp2
          go_ret
          rw [HF.out]
          exact ⟨rfl, D⟩
    · have hin : i = n := by omega
      subst hin
      have HF : Hid (r = true) := by
        show _ = _
        rw [← HR.out, mayRo_iff]
        refine ⟨fun s hs => ?_, fun j h => HJ.out j h (by have := EA.out; omega)⟩
        obtain ⟨j, hj, rfl⟩ := List.getElem_of_mem hs
        exact HK.out j hj (by have := EA.out; omega)
      go_wp2
      go_ret
      rw [HF.out]
      exact ⟨rfl, D⟩
end Go.Proofs.YtbpfcjdjhponaaaGreat
namespace Go.Proofs.YtbpfcjdjhponaaaGreat
open Go.RowKit
open Sp
section
variable (n c : Nat) (A : Option Addr) (l : List En) (w : World) (hl : Row enEn 7 w (.slice A n c) l)
include hl
theorem Do8F_is (k : Int) (u o : ByteArray) (r : List En) (er : Int) (hz : SzRo l) (hn : n ≤ 900) (hu : u.size ≤ 140737488351232) (ho : o.size ≤ 140737488351232) (h : Hid (doRo l k u o = (r, er))) :
    Calls Tryz.prog 56 #[.slice A n c, .int .i64 k, .string u, .string o] w fun e w' => ∃ v, e = .returned (.tuple #[v, .int .i64 er]) ∧ Row enEn 7 w' v r ∧ Below w.heap.size w w' ∧ (v = .slice A n c ∨ ∀ g, v.ownBlock = some g → w.heap.size ≤ g) := by
  have := DoRo_calls n c A l k u o w hl hz hn hu ho
  rwa [h.out] at this
theorem May8_is (b : Bool) (hz : SzRo l) (hn : n ≤ 100000) (h : Hid (mayRo l = b)) : Calls Tryz.prog 94 #[.slice A n c] w fun e w' => e = .returned (.bool b) ∧ Below w.heap.size w w' :=
  re_ (MayRo_calls n c A l w hl hz hn) (ret_bool h.out)
theorem refMay8_is (b : Bool) (hz : SzRo l) (hn : n ≤ 100000) (h : Hid (mayRo l = b)) : Calls Tryz.prog 37 #[.slice A n c] w fun e w' => e = .returned (.bool b) ∧ Below w.heap.size w w' :=
  re_ (refMayRo_calls n c A l w hl hz hn) (ret_bool h.out)
theorem Sees8_is (o q : ByteArray) (b : Bool) (h : Hid (seesRo l o q = b)) : Calls Tryz.prog 32 #[.slice A n c, .string o, .string q] w fun x w' => x = .returned (.bool b) ∧ Below w.heap.size w w' :=
  re_ (SeesRo_calls n c A l o q w hl) (ret_bool h.out)
theorem Watch8_is (q : ByteArray) (r : List ByteArray) (hn : n ≤ 100000) (h : Hid (watchRo l q = r)) : Calls Tryz.prog 69 #[.slice A n c, .string q] w fun e w' => ∃ v, e = .returned v ∧ Row enS 1 w' v r ∧ Below w.heap.size w w' := by
  have := WatchRo_calls n c A l q w hl hn
  rwa [h.out] at this
end
theorem Row.form8 {α : Type} {enc : α → List Value} {k : Nat} {w : World} {v : Value} {xs : List α} (h : Row enc k w v xs) (n : Nat) (hn : xs.length = n) : ∃ A c, v = .slice A n c := by
  obtain ⟨A, c, e, _⟩ := h
  exact ⟨A, c, by rw [e, hn]⟩
abbrev b8A : ByteArray := ⟨#[97, 110, 110]⟩
abbrev b8B : ByteArray := ⟨#[98, 111, 98]⟩
abbrev l8 : List En := [⟨b8A, b8B, false, false, false, true, false⟩, ⟨b8B, b8A, false, false, true, false, false⟩]
end Go.Proofs.YtbpfcjdjhponaaaGreat
namespace Go.Proofs.YtbpfcjdjhponaaaGreat
open Go.RowKit
open Sp
abbrev SzE (l : List En) : Prop := ∀ s ∈ l, s.o.size ≤ 9223372036854775807 ∧ s.c.size ≤ 9223372036854775807
theorem fewRo_sz {l : List En} (h : fewRo l = true) : SzRo l ∧ l.length ≤ 80 := by
  unfold fewRo at h
  rw [Bool.and_eq_true, List.all_eq_true, decide_eq_true_eq] at h
  refine ⟨fun s hs => ?_, h.1⟩
  have := h.2 s hs
  rw [Bool.and_eq_true, decide_eq_true_eq, decide_eq_true_eq] at this
  omega
theorem few8_is (n c : Nat) (A : Option Addr) (l : List En) (w : World) (hl : Row enEn 7 w (.slice A n c) l) (b : Bool) (hz : SzE l) (h : Hid (fewRo l = b)) : Calls Tryz.prog 35 #[.slice A n c] w fun e w' => e = .returned (.bool b) ∧ Below w.heap.size w w' :=
  re_ (few8_calls n c A l w hl hz) (ret_bool h.out)
end Go.Proofs.YtbpfcjdjhponaaaGreat
namespace Go.Proofs.YtbpfcjdjhponaaaGreat
open Go.RowKit
open Sp
set_option maxHeartbeats 8000000 in
set_option maxRecDepth 100000 in
theorem cloneSe_calls (n c : Nat) (A : Option Addr) (l : List Se) (w : World) (hl : Row enSe 6 w (.slice A n c) l) (hn : n ≤ 100000) :
    Calls Tryz.prog 106 #[.slice A n c] w fun e w' => ∃ v, e = .returned v ∧ Own enSe 6 99 w' w.heap.size v l ∧ Below w.heap.size w w' := by
  rcases A with _ | ad
  · have hl0 : l = [] := by
      obtain ⟨A', c', he, _, _, _, h4⟩ := hl
      rcases Nat.eq_zero_or_pos l.length with h0 | h0
      · exact List.eq_nil_of_length_eq_zero h0
      · obtain ⟨ad, h, _⟩ := h4 h0
        injection he with e1
        rw [← e1] at h
        cases h
    subst hl0
    have kn := fun (W : World) => Lib.run_eql_slice_nil (P := Tryz.prog) W 23 99 none n c 0 0 Tryz.underlying23
    go_enter Tryz.func106, Tryz.ntmps106
    go_wp2
    go_ret
    exact ⟨_, rfl, Own.nil _ _ _ _ _, Below.refl _ _⟩
  · have EA := Lib.hid hl.len_eq
    have hln : l.length ≤ 100000 := by have := EA.out; omega
    have hB := below_box (w := w) (.cells #[] 99)
    have kn := fun (W : World) => Lib.run_eql_slice_nil (P := Tryz.prog) W 23 99 (some ad) n c 0 0 Tryz.underlying23
    have hO : Own enSe 6 99 (w.alloc (.cells #[] 99)) w.heap.size (.slice (some ⟨w.heap.size, 0, none⟩) 0 0) [] := Own.lit enSe_len w [] #[] 0 rfl rfl (Nat.le_refl _) (by omega)
    go_enter Tryz.func106, Tryz.ntmps106
    go_wp2_with (at_builtin; refine Own.appendRow (w0 := w) w.heap.size rfl (.tmp 5) (.tmp 6) 23 99 zvSe 6 64 rfl Tryz.underlying23 infoSe rfl (by decide) (.slice (some ⟨w.heap.size, 0, none⟩) 0 0) (.slice (some ad) n c) [] l rfl rfl enSe_one hO (hl.below hB) hB hB.size (by simp only [List.length_nil]; omega) (by simp only [List.length_nil]; omega) ?_; intro v2 w2 hO2 hB2 _ _)
    go_ret
    exact ⟨_, rfl, hO2, hB2⟩
theorem szSe : (Tryz.prog.info? 99).map (·.size) = some 6 := by kernel_rfl
theorem szoSe (w : World) : (Go.sizeOf 99).run Tryz.prog w = .ok 6 w := by kernel_rfl
theorem flat_takeSe (xs : List Se) (i : Nat) (hi : i ≤ xs.length) : (xs.flatMap enSe) = (xs.take i).flatMap enSe ++ (xs.drop i).flatMap enSe ∧ ((xs.take i).flatMap enSe).length = i * 6 ∧ ((xs.drop i).flatMap enSe).length = (xs.length - i) * 6 := by
  refine ⟨by rw [← List.flatMap_append, List.take_append_drop], ?_, ?_⟩
  · rw [flat_length enSe_len, List.length_take]; congr 1; omega
  · rw [flat_length enSe_len, List.length_drop]
set_option maxHeartbeats 8000000 in
set_option maxRecDepth 100000 in
theorem insertSe_end (base n g : Nat) (v : Value) (xs : List Se) (x : Se) (w0 w : World) (hO : Own enSe 6 99 w base v xs) (hx : w.heap[g]? = some (.cells (enSe x).toArray 99 (0, 0))) (hn : n = xs.length) (hln : n ≤ 100000)
    (HB : Below base w0 w) (hbase : base ≤ w.heap.size) :
    Calls Tryz.prog 110 #[v, .int .i64 n, .slice (some ⟨g, 0, none⟩) 1 1] w fun e w' => ∃ v', e = .returned v' ∧ Own enSe 6 99 w' base v' (xs ++ [x]) ∧ Below base w0 w' := by
  obtain ⟨A, c, rfl, hnc⟩ := hO.slice
  have hR : Row enSe 6 w (.slice (some ⟨g, 0, none⟩) 1 1) [x] := ⟨_, 1, rfl, Nat.le_refl _, by simp [maxLen], rfl, fun _ => ⟨_, rfl, fun j u hu => by
    rw [add_plain, World.cell?, hx]
    simpa using hu⟩⟩
  rw [← hn] at hnc
  have HN := Lib.hid hn
  have hu : xs.length ≤ 100000 := by omega
  have hO' : Own enSe 6 99 w base (.slice A n c) xs := by rw [HN.out]; exact hO
  rw [← hn]
  clear hO hn
  have x1 : (0 : Int) ≤ (n : Int) := by omega
  have x2 : (n : Int) ≤ (c : Int) := by omega
  have heq : ((n : Int) == (n : Int)) = true := by simp
  go_enter Tryz.func110, Tryz.ntmps110
  go_wp2_with (at_builtin; refine Own.appendRow (w0 := w0) base rfl (.tmp 23) (.tmp 24) 23 99 zvSe 6 64 rfl Tryz.underlying23 infoSe rfl (by decide) (.slice A n c) (.slice (some ⟨g, 0, none⟩) 1 1) xs [x] rfl rfl enSe_one hO' hR HB hbase (by simp only [List.length_cons, List.length_nil]; omega) (by simp only [List.length_cons, List.length_nil]; omega) ?_; intro v2 w2 hO2 hB2 _ _)
  all_goals
    go_ret
    exact ⟨_, rfl, hO2, hB2⟩
set_option maxHeartbeats 8000000 in
set_option maxRecDepth 100000 in
theorem insertSe_shift (base n c i g b : Nat) (xs : List Se) (x : Se) (w0 w : World) (hO : Own enSe 6 99 w base (.slice (some ⟨b, 0, none⟩) n c) xs) (hx : w.heap[g]? = some (.cells (enSe x).toArray 99 (0, 0))) (hgb : g ≠ b) (hn : n = xs.length) (hln : n ≤ 100000)
    (hi : i < n) (hroom : n + 1 ≤ c) (HB : Below base w0 w) :
    Calls Tryz.prog 110 #[.slice (some ⟨b, 0, none⟩) n c, .int .i64 i, .slice (some ⟨g, 0, none⟩) 1 1] w fun e w' => ∃ v', e = .returned v' ∧ Own enSe 6 99 w' base v' (xs.take i ++ x :: xs.drop i) ∧ Below base w0 w' := by
  obtain ⟨hlen, h2⟩ := hO
  rcases h2 with ⟨h2, _⟩ | ⟨b', c', cur, he, hbb, hcur, hnc, hcm, hcs, htake⟩
  · cases h2
  simp only [Value.slice.injEq, Option.some.injEq, Addr.mk.injEq] at he
  obtain ⟨⟨rfl, -, -⟩, -, rfl⟩ := he
  obtain ⟨f1, f2, f3⟩ := flat_takeSe xs i (by omega)
  obtain ⟨X1, hX1⟩ : ∃ X1, (xs.take i).flatMap enSe = X1 := ⟨_, rfl⟩
  obtain ⟨X2, hX2⟩ : ∃ X2, (xs.drop i).flatMap enSe = X2 := ⟨_, rfl⟩
  obtain ⟨Y, hY⟩ : ∃ Y, enSe x = Y := ⟨_, rfl⟩
  obtain ⟨L, rfl⟩ : ∃ L : List Value, cur = L.toArray := ⟨cur.toList, by simp⟩
  rw [hX1, hX2] at f1
  rw [hX1] at f2
  rw [hX2, ← hn] at f3
  rw [f1] at htake
  rw [← hn] at hnc htake
  rw [hY] at hx
  have hYl : Y.length = 6 := by rw [← hY]; rfl
  have hY1 : ∀ v ∈ Y, v.oneCell' = true := by rw [← hY]; exact enSe_one x
  have hX21 : ∀ v ∈ X2, v.oneCell' = true := by rw [← hX2]; intro v hv; obtain ⟨y, _, hy⟩ := List.mem_flatMap.1 hv; exact enSe_one y v hy
  have hLl : L.length = c * 6 := by simpa using hcs
  have hLt : L.take (n * 6) = X1 ++ X2 := by simpa using htake
  obtain ⟨s1, s2⟩ := splice_ins L X1 X2 Y (n * 6) 6 hLt hYl (by rw [hLl, ← Nat.succ_mul]; exact Nat.mul_le_mul_right _ hroom)
  have hsrc : ∀ j u, X2[j]? = some u → w.cell? ⟨b, i * 6 + j, none⟩ = some u := by
    intro j u hu
    have hj : j < X2.length := (List.getElem?_eq_some_iff.1 hu).1
    have h1 : L[i * 6 + j]? = some u := by
      have h2 : (L.take (n * 6))[i * 6 + j]? = some u := by
        rw [hLt, ← f2, List.getElem?_append_right (by omega), Nat.add_sub_cancel_left]; exact hu
      rw [List.getElem?_take] at h2
      split at h2
      · exact h2
      · cases h2
    rw [World.cell?, hcur]
    simpa using h1
  have hgcell : ∀ j u, Y[j]? = some u → w.cell? ⟨g, j, none⟩ = some u := fun j u hu => by rw [World.cell?, hx]; simpa using hu
  have hov : ∀ lb cb, (callFunc 156 #[.slice (some ⟨g, 0, none⟩) 1 1, .slice (some ⟨b, (i + 1) * 6, none⟩) lb cb]).run Tryz.prog w = .ok (.value (.bool false)) w := fun lb cb => by
    rw [run_callFunc_extern Tryz.func156 (by kernel_rfl) (by kernel_rfl) (by kernel_rfl) (e := Extern.SlicesOverlaps.overlaps #[23, 23] #[4]) (by kernel_rfl),
      Lib.run_overlaps_apart w 23 4 99 Tryz.underlying23 6 szoSe ⟨g, 0, none⟩ ⟨b, (i + 1) * 6, none⟩ 1 1 lb cb hgb 99 99 Y.length L.length (by simp [World.shape?, hx]) (by simp [World.shape?, hcur]) (by rw [hLl]; have : 0 < c * 6 := Nat.mul_pos (by omega) (by omega); omega) (by simp [World.frozen?, hx]) (by simp [World.frozen?, hx])]
    rfl
  have hcur' : w.drew.heap[b]? = some (.cells L.toArray 99 (0, 0)) := hcur
  have hBd : Below base w0 w.drew := HB.drew
  have hdl : X2.length = Nat.min (n + 1 - i) (n - i) * 6 := by rw [f3]; congr 1; simp only [Nat.min_def]; split <;> omega
  have HS1 := Lib.hid s1
  have HS2 := Lib.hid s2
  have HF1 := Lib.hid f1
  have HF2 := Lib.hid f2
  have HLL := Lib.hid hLl
  have HDL := Lib.hid hdl
  have HX1 := Lib.hid hX1
  have HX2 := Lib.hid hX2
  have HY := Lib.hid hY
  have HYL := Lib.hid hYl
  have HXN := Lib.hid hn
  have HG := Lib.hid hx
  have HSRC := Lib.hid hsrc
  have HGC := Lib.hid hgcell
  have HX21 := Lib.hid hX21
  have HY1 := Lib.hid hY1
  have HCUR := Lib.hid hcur'
  have HFIT : Hid (X1.length + 6 + X2.length ≤ L.length ∧ X1.length = i * 6 ∧ X1.length + 6 = (i + 1) * 6) := by
    refine ⟨?_, f2, by rw [f2, Nat.succ_mul]⟩
    have := congrArg List.length hLt
    rw [List.length_take, List.length_append] at this
    have h3 : (n + 1) * 6 ≤ L.length := by rw [hLl]; exact Nat.mul_le_mul_right _ hroom
    omega
  have HMK : Hid (∀ w' : World, w'.heap[b]? = some (.cells (splice (splice L (X1.length + 6) X2) X1.length Y).toArray 99 (0, 0)) → Own enSe 6 99 w' base (.slice (some ⟨b, 0, none⟩) (n + 1) c) (xs.take i ++ x :: xs.drop i)) := by
    intro w' hw'
    have hl2 : (xs.take i ++ x :: xs.drop i).length = n + 1 := by rw [List.length_append, List.length_cons, List.length_take, List.length_drop]; omega
    have hfl : (xs.take i ++ x :: xs.drop i).flatMap enSe = X1 ++ (Y ++ X2) := by rw [List.flatMap_append, List.flatMap_cons, hX1, hX2, hY]
    refine ⟨by rw [flat_length enSe_len], .inr ⟨b, c, _, by rw [hl2], hbb, hw', by omega, hcm, by simpa [s2] using hLl, ?_⟩⟩
    rw [hl2, hfl, ← s1]
    congr 1
    omega
  clear s1 s2 f1 f2 f3 hLl hdl hX1 hX2 hY hYl hn hx hsrc hgcell hX21 hY1 hcur' hlen hcs htake hLt
  have x1 : (0 : Int) ≤ (i : Int) := by omega
  have x2 : (i : Int) ≤ (n : Int) := by omega
  have x3 : (i : Int) < (n : Int) := by omega
  have x4 : (n : Int) + 1 ≤ (c : Int) := by omega
  have x5 : ((i : Int) == (n : Int)) = false := by simp; omega
  have x6 : ¬ ((i : Int) = (n : Int)) := by omega
  have x7 : ¬ (c = i) := by omega
  have x8 : ¬ (c = i + 1) := by omega
  have x9 : IntKind.i64.wrap ((i : Int) + 1) = (i : Int) + 1 := by rw [IntKind.wrap_i64]; omega
  have x10 : (0 : Int) ≤ (i : Int) + 1 := by omega
  have x11 : ((i : Int) + 1).toNat = i + 1 := by omega
  have x12 : (i : Int) + 1 ≤ (n : Int) + 1 := by omega
  have x13 : (i : Int) ≤ (n : Int) + 1 := by omega
  have x14 : i ≤ n := by omega
  go_enter Tryz.func110, Tryz.ntmps110
  go_wp2_with (simp only [hov])
  go_region_law (refine step_copyK rfl _ _ 23 23 rfl 99 6 Tryz.underlying23 szSe (by decide) (some ⟨b, (i + 1) * 6, none⟩) (some ⟨b, i * 6, none⟩) (n - i) (c - (i + 1)) (n + 1 - i) (c - i) (by simp [Act.eval, Act.put]) (by simp [Act.eval, Act.put]) b (X1.length + 6) L 99 HCUR.out X2 HDL.out (fun _ => ⟨by rw [HFIT.out.2.2], _, rfl, fun j v hj => by rw [Addr.add_lit]; exact HSRC.out j v hj⟩) HFIT.out.1 HX21.out base w0 hBd hbb ?_; intro w1 HC1 hB1 hz1 ho1)
  have hg1 := ho1 g hgb
  have hH2 : Y.length = Nat.min 1 (n + 1 - i) * 6 := by rw [HYL.out]; simp only [Nat.min_def]; split <;> omega
  have hF2 : X1.length + Y.length ≤ (splice L (X1.length + 6) X2).length := by rw [HYL.out, length_splice _ _ _ HFIT.out.1]; have := HFIT.out.1; omega
  have hP2 : 0 < Y.length → (some ⟨b, i * 6, none⟩ : Option Addr) = some ⟨b, X1.length, none⟩ ∧ ∃ ad, (some ⟨g, 0, none⟩ : Option Addr) = some ad ∧ ∀ j v, Y[j]? = some v → w1.cell? (ad.add j) = some v := fun _ => ⟨by rw [HFIT.out.2.1], _, rfl, fun j v hj => by rw [add_plain, World.cell?, hg1]; exact HGC.out j v hj⟩
  have HH2 := Lib.hid hH2
  have HF2 := Lib.hid hF2
  have HP2 := Lib.hid hP2
  clear hH2 hF2 hP2 hg1 ho1 hz1
  go_wp2_with (with_reducible refine wpList_copyK rfl (.tmp 80) (.tmp 81) 23 23 rfl 99 6 Tryz.underlying23 szSe (by decide) (some ⟨b, i * 6, none⟩) (some ⟨g, 0, none⟩) (n + 1 - i) (c - i) 1 1 rfl rfl b X1.length (splice L (X1.length + 6) X2) 99 HC1.out Y HH2.out HP2.out HF2.out HY1.out base w0 hB1 hbb ?_; intro w2 HC2 hB2 hz2 ho2)
  go_ret
  exact ⟨_, rfl, HMK.out _ HC2.out, hB2⟩
set_option maxHeartbeats 8000000 in
set_option maxRecDepth 100000 in
theorem insertSe_grow (base n c i g b : Nat) (xs : List Se) (x : Se) (w0 w : World) (hO : Own enSe 6 99 w base (.slice (some ⟨b, 0, none⟩) n c) xs) (hx : w.heap[g]? = some (.cells (enSe x).toArray 99 (0, 0))) (hn : n = xs.length) (hln : n ≤ 100000)
    (hi : i < n) (hroom : c < n + 1) (HB : Below base w0 w) (hbase : base ≤ w.heap.size) :
    Calls Tryz.prog 110 #[.slice (some ⟨b, 0, none⟩) n c, .int .i64 i, .slice (some ⟨g, 0, none⟩) 1 1] w fun e w' => ∃ v', e = .returned v' ∧ Own enSe 6 99 w' base v' (xs.take i ++ x :: xs.drop i) ∧ Below base w0 w' := by
  obtain ⟨hlen, h2⟩ := hO
  rcases h2 with ⟨h2, _⟩ | ⟨b', c', cur, he, hbb, hcur, hnc, hcm, hcs, htake⟩
  · cases h2
  simp only [Value.slice.injEq, Option.some.injEq, Addr.mk.injEq] at he
  obtain ⟨⟨rfl, -, -⟩, -, rfl⟩ := he
  obtain ⟨f1, f2, f3⟩ := flat_takeSe xs i (by omega)
  obtain ⟨X1, hX1⟩ : ∃ X1, (xs.take i).flatMap enSe = X1 := ⟨_, rfl⟩
  obtain ⟨X2, hX2⟩ : ∃ X2, (xs.drop i).flatMap enSe = X2 := ⟨_, rfl⟩
  obtain ⟨Y, hY⟩ : ∃ Y, enSe x = Y := ⟨_, rfl⟩
  obtain ⟨L, rfl⟩ : ∃ L : List Value, cur = L.toArray := ⟨cur.toList, by simp⟩
  rw [hX1, hX2] at f1
  rw [hX1] at f2
  rw [hX2, ← hn] at f3
  rw [f1] at htake
  rw [← hn] at hnc htake
  rw [hY] at hx
  have hYl : Y.length = 6 := by rw [← hY]; rfl
  have hY1 : ∀ v ∈ Y, v.oneCell' = true := by rw [← hY]; exact enSe_one x
  have hX21 : ∀ v ∈ X2, v.oneCell' = true := by rw [← hX2]; intro v hv; obtain ⟨y, _, hy⟩ := List.mem_flatMap.1 hv; exact enSe_one y v hy
  have hLt : L.take (n * 6) = X1 ++ X2 := by simpa using htake
  have hget : ∀ j u, (X1 ++ X2)[j]? = some u → w.cell? ⟨b, j, none⟩ = some u := by
    intro j u hu
    rw [← hLt, List.getElem?_take] at hu
    rw [World.cell?, hcur]
    split at hu
    · simpa using hu
    · cases hu
  have hsrc1 : ∀ j u, X1[j]? = some u → w.cell? ⟨b, j, none⟩ = some u := fun j u hu => hget j u (by rw [List.getElem?_append_left (List.getElem?_eq_some_iff.1 hu).1]; exact hu)
  have hsrc : ∀ j u, X2[j]? = some u → w.cell? ⟨b, i * 6 + j, none⟩ = some u := fun j u hu => hget _ u (by rw [← f2, List.getElem?_append_right (by omega), Nat.add_sub_cancel_left]; exact hu)
  have hgcell : ∀ j u, Y[j]? = some u → w.cell? ⟨g, j, none⟩ = some u := fun j u hu => by rw [World.cell?, hx]; simpa using hu
  have hglt : g < w.heap.size := (Array.getElem?_eq_some_iff.1 hx).1
  have hblt : b < w.heap.size := (Array.getElem?_eq_some_iff.1 hcur).1
  obtain ⟨m, hm⟩ : ∃ m, n + 1 - i = m := ⟨_, rfl⟩
  have hmi : (n : Int) + 1 - (i : Int) = (m : Int) := by omega
  have hHA : Hid (c < i + m ∧ 0 < m ∧ (i + m) * 64 ≤ 140737488355328 ∧ i + m ≤ 140737488355328 ∧ i + m = n + 1) := ⟨by omega, by omega, by omega, by omega, by omega⟩
  have hm2 : 2 ≤ m := by omega
  have HS0 := Lib.hid f2
  have HSRC1 := Lib.hid hsrc1
  have HSRC := Lib.hid hsrc
  have HGC := Lib.hid hgcell
  have HX21 := Lib.hid hX21
  have HY1 := Lib.hid hY1
  have HYL := Lib.hid hYl
  have HF3 := Lib.hid f3
  have HXN := Lib.hid hn
  have HMI := Lib.hid hm
  have HMK : Hid (∀ (w' : World) (g' nc : Nat) (L' : List Value), base ≤ g' → i + m ≤ nc → nc ≤ 9223372036854775807 → L'.length = nc * 6 → L'.take ((n + 1) * 6) = X1 ++ (Y ++ X2) → w'.heap[g']? = some (.cells L'.toArray 99 (0, 0)) → Own enSe 6 99 w' base (.slice (some ⟨g', 0, none⟩) (i + m) nc) (xs.take i ++ x :: xs.drop i)) := by
    intro w' g' nc L' hbg hnc1 hnc2 hl1 hl3 hw'
    have hl2 : (xs.take i ++ x :: xs.drop i).length = n + 1 := by rw [List.length_append, List.length_cons, List.length_take, List.length_drop]; omega
    have hfl : (xs.take i ++ x :: xs.drop i).flatMap enSe = X1 ++ (Y ++ X2) := by rw [List.flatMap_append, List.flatMap_cons, hX1, hX2, hY]
    refine ⟨by rw [flat_length enSe_len], .inr ⟨g', nc, _, by rw [hl2]; congr 1; omega, hbg, hw', by omega, by simpa [maxLen] using hnc2, by simpa using hl1, ?_⟩⟩
    rw [hl2, hfl, ← hl3]
  clear hsrc1 hsrc hgcell hget hX21 hY1 hYl hn hlen hcs htake hLt hX1 hX2 hY f1 f2 f3
  have x1 : (0 : Int) ≤ (i : Int) := by omega
  have x2 : (i : Int) ≤ (n : Int) := by omega
  have x3 : (i : Int) < (n : Int) := by omega
  have x4 : (c : Int) < (n : Int) + 1 := by omega
  have x5 : ((i : Int) == (n : Int)) = false := by simp; omega
  have x6 : ¬ ((i : Int) = (n : Int)) := by omega
  have x7 : ¬ (c = i) := by omega
  have x9 : IntKind.i64.wrap ((i : Int) + 1) = (i : Int) + 1 := by rw [IntKind.wrap_i64]; omega
  have x10 : (0 : Int) ≤ (i : Int) + 1 := by omega
  have x11 : ((i : Int) + 1).toNat = i + 1 := by omega
  have x12 : (i : Int) + 1 ≤ (i : Int) + (m : Int) := by omega
  have x13 : (i : Int) ≤ (i : Int) + (m : Int) := by omega
  have x14 : i ≤ n := by omega
  have x15 : i ≤ c := by omega
  have x16 : (i : Int) ≤ (c : Int) := by omega
  have x17 : 1 ≤ m := by omega
  clear hm
  go_enter Tryz.func110, Tryz.ntmps110
  go_wp2_with (first | (at_builtin; refine wpList_append_zerosK rfl (.tmp 34) (.tmp 39) 23 3 rfl 99 zvSe 6 64 .i64 .i64 Tryz.underlying23 Tryz.underlying3 infoSe rfl (by decide) b i c m rfl rfl X1 HS0.out HSRC1.out hHA.out.1 hHA.out.2.1 hHA.out.2.2.1 hHA.out.2.2.2.1 ?_; intro nc cur w1 hnc1 hnc2 HCL HCT HC1 hz1 hB1; (have HB1 := HB.trans (hB1.mono hbase)); (have hcx : w1.heap[g]? = w.heap[g]? := hB1.block g hglt); (have hcb : w1.heap[b]? = w.heap[b]? := hB1.block b hblt); (have hgne : g ≠ w.heap.size := (by omega)); (have hbne : b ≠ w.heap.size := (by omega)); (obtain ⟨s1, s2, s3⟩ := splice_app cur X1 X2 Y (i * 6) HCT.out HS0.out (by rw [HYL.out, HF3.out, HCL]; have := hHA.out.2.2.2.2; omega)); (have y1 : ¬ (nc = i) := (by omega)); (have y2 : ¬ (nc = i + 1) := (by omega)); (have hH2 : Y.length = Nat.min 1 m * 6 := (by rw [HYL.out]; simp only [Nat.min_def]; split <;> omega)); (have hF2 : i * 6 + Y.length ≤ cur.length := (by rw [HYL.out, HCL]; have := hHA.out.2.2.2.2; omega)); (have hP2 : ∀ j v, Y[j]? = some v → w1.cell? ⟨g, j, none⟩ = some v := fun j v hj => by rw [World.cell?, hcx]; exact HGC.out j v hj); (have HH2 := Lib.hid hH2); (have HF2 := Lib.hid hF2); (have HP2 := Lib.hid hP2); (have HC1' := Lib.hid HC1); (have HCL' := Lib.hid HCL); (have HS1 := Lib.hid s1); (have HS2 := Lib.hid s2); (have HS3 := Lib.hid s3); (have HCB := Lib.hid hcb); (clear hH2 hF2 hP2 HC1 HCL s1 s2 s3 hcb hcx)) | (with_reducible refine wpList_copyK rfl (.tmp 43) (.tmp 44) 23 23 rfl 99 6 Tryz.underlying23 szSe (by decide) (some ⟨w.heap.size, i * 6, none⟩) (some ⟨g, 0, none⟩) m (nc - i) 1 1 rfl rfl w.heap.size (i * 6) cur 99 HC1'.out Y HH2.out (fun _ => ⟨rfl, _, rfl, fun j v hj => by rw [add_plain]; exact HP2.out j v hj⟩) HF2.out HY1.out base w0 HB1 hbase ?_; intro w2 HC2 hB2 hz2 ho2))
  have hcb2 := (ho2 b hbne).trans HCB.out
  have hH3 : X2.length = Nat.min (n - i) (m - 1) * 6 := by rw [HF3.out]; congr 1; have := hHA.out.2.2.2.2; simp only [Nat.min_def]; split <;> omega
  have hF3 : i * 6 + Y.length + X2.length ≤ (splice cur (i * 6) Y).length := by
    rw [HS3.out, HYL.out, HF3.out, HCL'.out]; have := hHA.out.2.2.2.2; omega
  have hP3 : 0 < X2.length → (some ⟨w.heap.size, (i + 1) * 6, none⟩ : Option Addr) = some ⟨w.heap.size, i * 6 + Y.length, none⟩ ∧ ∃ ad, (some ⟨b, i * 6, none⟩ : Option Addr) = some ad ∧ ∀ j v, X2[j]? = some v → w2.drew.cell? (ad.add j) = some v := fun _ => ⟨by rw [HYL.out, Nat.succ_mul], _, rfl, fun j v hj => by rw [Addr.add_lit]; show w2.cell? _ = _; rw [World.cell?, hcb2]; exact HSRC.out j v hj⟩
  have HH3 := Lib.hid hH3
  have HF3' := Lib.hid hF3
  have HP3 := Lib.hid hP3
  have HC2' : Hid (w2.drew.heap[w.heap.size]? = some (.cells (splice cur (i * 6) Y).toArray 99 (0, 0))) := HC2.out
  have hB2d : Below base w0 w2.drew := hB2.drew
  clear hH3 hF3 hP3 hcb2 ho2 hz2
  go_region_law (refine step_copyK rfl (.tmp 50) (.tmp 53) 23 23 rfl 99 6 Tryz.underlying23 szSe (by decide) (some ⟨w.heap.size, (i + 1) * 6, none⟩) (some ⟨b, i * 6, none⟩) (m - 1) (nc - (i + 1)) (n - i) (c - i) (by simp [Act.eval, Act.put]; omega) (by simp [Act.eval, Act.put]) w.heap.size (i * 6 + Y.length) (splice cur (i * 6) Y) 99 HC2'.out X2 HH3.out HP3.out HF3'.out HX21.out base w0 hB2d hbase ?_; intro w3 HC3 hB3 hz3 ho3)
  go_wp2
  go_ret
  refine ⟨_, rfl, HMK.out w3 w.heap.size nc _ hbase hnc1 hnc2 (by rw [HS2.out, HCL'.out]) ?_ HC3.out, hB3⟩
  rw [← HS1.out]
  congr 1
  rw [HYL.out, HF3.out]
  omega
theorem insertSe_calls (base i g : Nat) (v : Value) (xs : List Se) (x : Se) (w0 w : World) (hO : Own enSe 6 99 w base v xs) (hx : w.heap[g]? = some (.cells (enSe x).toArray 99 (0, 0))) (hgb : v.ownBlock ≠ some g) (hln : xs.length ≤ 100000)
    (hi : i ≤ xs.length) (HB : Below base w0 w) (hbase : base ≤ w.heap.size) :
    Calls Tryz.prog 110 #[v, .int .i64 i, .slice (some ⟨g, 0, none⟩) 1 1] w fun e w' => ∃ v', e = .returned v' ∧ Own enSe 6 99 w' base v' (xs.take i ++ x :: xs.drop i) ∧ Below base w0 w' := by
  by_cases he : i = xs.length
  · rw [List.take_of_length_le (by omega), List.drop_eq_nil_of_le (by omega)]
    exact insertSe_end base i g v xs x w0 w hO hx he (by omega) HB hbase
  · obtain ⟨A, c, rfl, hnc⟩ := hO.slice
    rcases A with _ | ad
    · rcases hO.2 with ⟨_, h0⟩ | ⟨b, c', cur, h, _⟩
      · omega
      · cases h
    · obtain ⟨b, rfl⟩ : ∃ b, ad = ⟨b, 0, none⟩ := by
        rcases hO.2 with ⟨h, _⟩ | ⟨b, c', cur, h, _⟩
        · cases h
        · injection h with h; injection h with h; exact ⟨b, h⟩
      by_cases hroom : xs.length + 1 ≤ c
      · exact insertSe_shift base xs.length c i g b xs x w0 w hO hx (fun e => hgb (by rw [e]; rfl)) rfl hln (by omega) hroom HB
      · exact insertSe_grow base xs.length c i g b xs x w0 w hO hx rfl hln (by omega) (by omega) HB hbase
theorem zoSe (w : World) : (zeroValue 99).run Tryz.prog w = .ok zvSe w := by kernel_rfl
theorem zcSe : ∀ v ∈ (zvSe).cells.toList, v.oneCell' = true := by decide
set_option maxHeartbeats 8000000 in
set_option maxRecDepth 100000 in
theorem deleteSe_calls (base i : Nat) (v : Value) (xs : List Se) (w0 w : World) (hO : Own enSe 6 99 w base v xs) (hln : xs.length ≤ 100000) (hi : i < xs.length) (HB : Below base w0 w) (hbase : base ≤ w.heap.size) :
    Calls Tryz.prog 111 #[v, .int .i64 i, .int .i64 ((i : Int) + 1)] w fun e w' => ∃ v', e = .returned v' ∧ Own enSe 6 99 w' base v' (xs.take i ++ xs.drop (i + 1)) ∧ Below base w0 w' := by
  obtain ⟨hlen, h2⟩ := hO
  rcases h2 with ⟨_, h0⟩ | ⟨b, c, cur, rfl, hbb, hcur, hnc, hcm, hcs, htake⟩
  · omega
  obtain ⟨n, hn⟩ : ∃ n, n = xs.length := ⟨_, rfl⟩
  obtain ⟨f1, f2, f3⟩ := flat_takeSe xs i (by omega)
  obtain ⟨g1, g2, g3⟩ := flat_takeSe xs (i + 1) (by omega)
  obtain ⟨X1, hX1⟩ : ∃ X1, (xs.take i).flatMap enSe = X1 := ⟨_, rfl⟩
  obtain ⟨X2, hX2⟩ : ∃ X2, (xs.drop (i + 1)).flatMap enSe = X2 := ⟨_, rfl⟩
  obtain ⟨X0, hX0⟩ : ∃ X0, (xs.take (i + 1)).flatMap enSe = X0 := ⟨_, rfl⟩
  obtain ⟨L, rfl⟩ : ∃ L : List Value, cur = L.toArray := ⟨cur.toList, by simp⟩
  obtain ⟨m, hm⟩ : ∃ m, n - (i + 1) = m := ⟨_, rfl⟩
  rw [hX0, hX2] at g1
  rw [hX0] at g2
  rw [hX2, ← hn, hm] at g3
  rw [hX1] at f2
  rw [hX1] at f1
  have hLl : L.length = c * 6 := by simpa using hcs
  have hLt : L.take (n * 6) = X0 ++ X2 := by rw [hn, ← g1]; simpa using htake
  have hL1 : L.take (i * 6) = X1 := by
    have e : L.take (i * 6) = (L.take (n * 6)).take (i * 6) := by rw [List.take_take]; congr 1; simp only [Nat.min_def]; split <;> omega
    rw [e, hLt, ← g1, f1, ← f2, List.take_left]
  rw [← hn] at hnc ⊢
  have hX21 : ∀ v ∈ X2, v.oneCell' = true := by rw [← hX2]; intro v hv; obtain ⟨y, _, hy⟩ := List.mem_flatMap.1 hv; exact enSe_one y v hy
  have hsrc : ∀ j u, X2[j]? = some u → w.cell? ⟨b, (i + 1) * 6 + j, none⟩ = some u := by
    intro j u hu
    have h2 : (L.take (n * 6))[(i + 1) * 6 + j]? = some u := by
      rw [hLt, ← g2, List.getElem?_append_right (by omega), Nat.add_sub_cancel_left]; exact hu
    rw [List.getElem?_take] at h2
    rw [World.cell?, hcur]
    split at h2
    · simpa using h2
    · cases h2
  have hcur' : w.drew.heap[b]? = some (.cells L.toArray 99 (0, 0)) := hcur
  have hBd : Below base w0 w.drew := HB.drew
  obtain ⟨s1, s2⟩ := splice_take L (i * 6) X2 (by omega)
  have s3 := length_splice L (i * 6) X2 (by omega)
  obtain ⟨s4, _⟩ := splice_take (splice L (i * 6) X2) ((i + m) * 6) (zerosK (zvSe).cells.toList 1) (by omega)
  have s5 := length_splice (splice L (i * 6) X2) ((i + m) * 6) (zerosK (zvSe).cells.toList 1) (by rw [zerosK_len, s3, hLl, show (zvSe).cells.toList.length = 6 from rfl]; omega)
  have HMK : Hid (∀ w' : World, w'.heap[b]? = some (.cells (splice (splice L (i * 6) X2) ((i + m) * 6) (zerosK (zvSe).cells.toList 1)).toArray 99 (0, 0)) → Own enSe 6 99 w' base (.slice (some ⟨b, 0, none⟩) (i + m) c) (xs.take i ++ xs.drop (i + 1))) := by
    intro w' hw'
    have hl2 : (xs.take i ++ xs.drop (i + 1)).length = i + m := by rw [List.length_append, List.length_take, List.length_drop]; omega
    have hfl : (xs.take i ++ xs.drop (i + 1)).flatMap enSe = X1 ++ X2 := by rw [List.flatMap_append, hX1, hX2]
    refine ⟨by rw [flat_length enSe_len], .inr ⟨b, c, _, by rw [hl2], hbb, hw', by omega, hcm, by simpa [s5, s3] using hLl, ?_⟩⟩
    rw [hl2, hfl]
    show (splice _ _ _).take _ = _
    rw [s4, show (i + m) * 6 = i * 6 + X2.length by omega, s2, hL1]
  have HF : Hid (i * 6 + X2.length ≤ L.length) := by show _ ≤ _; omega
  have HF2 : Hid ((i + m) * 6 + 1 * 6 ≤ (splice L (i * 6) X2).length) := by show _ ≤ _; rw [s3, hLl]; omega
  have HX2 := Lib.hid g3
  have HX21 := Lib.hid hX21
  have HSRC := Lib.hid hsrc
  have HCUR := Lib.hid hcur'
  have hni : n = i + m + 1 := by omega
  have HN := Lib.hid hni
  have x1 : (0 : Int) ≤ (i : Int) := by omega
  have x2 : (i : Int) < (n : Int) := by omega
  have x3 : (i : Int) + 1 ≤ (n : Int) := by omega
  have x4 : (n : Int) ≤ (c : Int) := by omega
  have x5 : ((i : Int) == (i : Int) + 1) = false := beq_eq_false_iff_ne.2 (by omega)
  have x6 : ¬ ((i : Int) = (i : Int) + 1) := by omega
  have x7 : ¬ (c = i) := by omega
  have x8 : (0 : Int) ≤ (i : Int) + 1 := by omega
  have x9 : ((i : Int) + 1).toNat = i + 1 := by omega
  have x10 : i + 1 ≤ n := by omega
  have x11 : i ≤ n := by omega
  have x12 : i ≤ c := by omega
  have x13 : (i : Int) ≤ (c : Int) := by omega
  have x14 : (i : Int) ≤ (i : Int) + 1 := by omega
  have y1 : (i : Int) + (m : Int) ≤ (n : Int) := by omega
  have y2 : (0 : Int) ≤ (i : Int) + (m : Int) := by omega
  have y3 : ¬ (c = i + m) := by omega
  have y4 : i + m ≤ n := by omega
  have y5 : n - (i + m) = 1 := by omega
  have y6 : ((i : Int) + (m : Int)).toNat = i + m := by omega
  clear f1 f2 f3 g1 g2 g3 hX1 hX2 hX0 hn hLl hLt hL1 hlen hcs htake hX21 hsrc hcur' s1 s2 s3 s4 s5 hni hln hi
  by_cases hce : c = i + 1
  · obtain rfl : m = 0 := by omega
    obtain rfl : n = i + 1 := by omega
    subst hce
    have z1 : i + 1 - i = 1 := by omega
    simp only [Nat.add_zero] at HMK HF2 y1 y2 y3 y4 y5 y6
    clear y1 y2 y6 x10
    go_enter Tryz.func111, Tryz.ntmps111
    go_wp2_with fail
    go_region_law (refine step_appendK rfl (.tmp 22) (.tmp 25) 23 rfl 99 6 Tryz.underlying23 szSe b i (i + 1) (by simp [Act.eval, Act.put]) (some ⟨b, 0, none⟩) 0 0 (by simp [Act.eval, Act.put]) L HCUR.out X2 HX2.out (fun hp => absurd hp (by have := HX2.out; omega)) (by decide) (by omega) HF.out HX21.out base w0 hBd hbb ?_; intro w1 HC1 hB1 hz1 ho1)
    clear hm
    go_wp2_with (with_reducible refine wpList_clearK rfl (.tmp 31) 23 rfl 99 zvSe 6 Tryz.underlying23 zoSe rfl zcSe b (i * 6) 1 1 rfl (splice L (i * 6) X2) 99 HC1.out HF2.out (by decide) base w0 hB1 hbb ?_; intro w2 HC2 hB2 hz2 ho2)
    go_ret
    exact ⟨_, rfl, HMK.out _ HC2.out, hB2⟩
  · clear hm
    go_enter Tryz.func111, Tryz.ntmps111
    go_wp2_with fail
    go_region_law (refine step_appendK rfl (.tmp 22) (.tmp 25) 23 rfl 99 6 Tryz.underlying23 szSe b i c (by simp [Act.eval, Act.put]) (some ⟨b, (i + 1) * 6, none⟩) m (c - (i + 1)) (by simp [Act.eval, Act.put]; try omega) L HCUR.out X2 HX2.out (fun hp => ⟨_, rfl, fun j v hj => by rw [Addr.add_lit]; exact HSRC.out j v hj⟩) (by decide) (by omega) HF.out HX21.out base w0 hBd hbb ?_; intro w1 HC1 hB1 hz1 ho1)
    go_wp2_with (with_reducible refine wpList_clearK rfl (.tmp 31) 23 rfl 99 zvSe 6 Tryz.underlying23 zoSe rfl zcSe b ((i + m) * 6) 1 (c - (i + m)) rfl (splice L (i * 6) X2) 99 HC1.out HF2.out (by decide) base w0 hB1 hbb ?_; intro w2 HC2 hB2 hz2 ho2)
    go_ret
    exact ⟨_, rfl, HMK.out _ HC2.out, hB2⟩
end Go.Proofs.YtbpfcjdjhponaaaGreat
