import Derived.Test.YtbpfcjdjhponaaaGreatPViewHides03
set_option linter.unusedVariables false
set_option linter.unusedSimpArgs false
namespace Go.Proofs.YtbpfcjdjhponaaaGreat
open Go.RowKit
noncomputable def opsja : Array Oper := Held.inBody 8 Tryz.f94.body
def ordja : List Nat := [0, 1, 2, 3, 4, 5, 6, 7, 8, 9, 10, 11, 12, 13, 14, 15, 16, 17, 18, 19, 20, 21, 22, 23, 24, 25, 26, 27, 28, 29, 30, 31, 32]
set_option maxRecDepth 100000 in
theorem rgja : Held.Reg opsja ordja 33 [0, 1, 3, 4, 5, 6, 7, 8, 9, 10, 11, 12, 13, 14, 15, 16, 17, 18, 19, 20, 21, 22, 23, 24, 25, 26, 27, 28, 29, 30, 31, 32] := ⟨by kernel_rfl, by kernel_rfl, by kernel_rfl⟩
noncomputable def opsjb : Array Oper := Held.inBody 8 Tryz.f94.body
def ordjb : List Nat := [0, 1, 2, 3, 4, 5, 6, 7, 8, 9, 10, 11, 12, 13, 14, 15, 16, 17, 18, 19, 20, 21, 22, 23, 24, 25, 26, 27, 28, 29, 30, 31, 32]
set_option maxRecDepth 100000 in
theorem rgjb : Held.Reg opsjb ordjb 33 [0, 1, 3, 4, 5, 6, 8, 9, 10, 11, 12, 13, 14, 15, 16, 17, 18, 19, 20, 21, 22, 23, 24, 25, 26, 27, 28, 29, 30, 31, 32] := ⟨by kernel_rfl, by kernel_rfl, by kernel_rfl⟩
noncomputable def opsjc : Array Oper := Held.inBody 8 Tryz.f94.body
def ordjc : List Nat := [0, 1, 2, 3, 4, 5, 6, 7, 8, 9, 10, 11, 12, 13, 14, 15, 16, 17, 18, 19, 20, 21, 22, 23, 24, 25, 26, 27, 28, 29, 30, 31, 32]
set_option maxRecDepth 100000 in
theorem rgjc : Held.Reg opsjc ordjc 33 [0, 1, 3, 4, 5, 6, 8, 9, 10, 11, 12, 13, 14, 15, 16, 17, 18, 19, 20, 21, 22, 23, 24, 25, 26, 27, 28, 29, 30, 31, 32] := ⟨by kernel_rfl, by kernel_rfl, by kernel_rfl⟩
noncomputable def opsjd : Array Oper := Held.inBody 8 Tryz.f94.body
def ordjd : List Nat := [0, 1, 2, 3, 4, 5, 6, 7, 8, 9, 10, 11, 12, 13, 14, 15, 16, 17, 18, 19, 20, 21, 22, 23, 24, 25, 26, 27, 28, 29, 30, 31, 32]
set_option maxRecDepth 100000 in
theorem rgjd : Held.Reg opsjd ordjd 33 [0, 1, 3, 4, 5, 6, 8, 9, 10, 11, 12, 13, 14, 15, 16, 17, 18, 19, 20, 21, 22, 23, 24, 25, 26, 27, 28, 29, 30, 31, 32] := ⟨by kernel_rfl, by kernel_rfl, by kernel_rfl⟩
noncomputable def opsj0p : Array Oper := Held.inBody 11 Tryz.f94.body
def ordj0p : List Nat := [0, 1, 2, 3, 4, 5, 6, 7, 8, 9, 10, 11, 12, 13, 14, 15, 16, 17, 18, 19, 20, 21, 22, 23, 24, 25]
set_option maxRecDepth 100000 in
theorem rgj0p : Held.Reg opsj0p ordj0p 26 [0, 1, 2, 3, 4, 5, 6, 7, 8, 9, 10, 11, 12, 13, 14, 15, 16, 17, 18, 19, 20, 21, 22, 23, 24, 25] := ⟨by kernel_rfl, by kernel_rfl, by kernel_rfl⟩
noncomputable def opsj1p : Array Oper := Held.inBody 11 Tryz.f94.body
def ordj1p : List Nat := [0, 1, 2, 3, 4, 5, 6, 7, 8, 9, 10, 11, 12, 13, 14, 15, 16, 17, 18, 19, 20, 21, 22, 23, 24, 25]
set_option maxRecDepth 100000 in
theorem rgj1p : Held.Reg opsj1p ordj1p 26 [0, 1, 2, 3, 4, 5, 6, 7, 8, 9, 11, 12, 13, 14, 15, 16, 17, 18, 19, 20, 21, 22, 23, 24, 25] := ⟨by kernel_rfl, by kernel_rfl, by kernel_rfl⟩
noncomputable def opsj2p : Array Oper := Held.inBody 11 Tryz.f94.body
def ordj2p : List Nat := [0, 1, 2, 3, 4, 5, 6, 7, 8, 9, 10, 11, 12, 13, 14, 15, 16, 17, 18, 19, 20, 21, 22, 23, 24, 25]
set_option maxRecDepth 100000 in
theorem rgj2p : Held.Reg opsj2p ordj2p 26 [0, 1, 2, 3, 4, 5, 6, 7, 8, 9, 11, 12, 13, 14, 15, 17, 18, 19, 20, 21, 22, 23, 24, 25] := ⟨by kernel_rfl, by kernel_rfl, by kernel_rfl⟩
noncomputable def opsj3p : Array Oper := Held.inBody 11 Tryz.f94.body
def ordj3p : List Nat := [0, 1, 2, 3, 4, 5, 6, 7, 8, 9, 10, 11, 12, 13, 14, 15, 16, 17, 18, 19, 20, 21, 22, 23, 24, 25]
set_option maxRecDepth 100000 in
theorem rgj3p : Held.Reg opsj3p ordj3p 26 [0, 1, 2, 3, 4, 5, 6, 7, 8, 9, 11, 12, 13, 14, 15, 17, 18, 19, 20, 21, 22, 24, 25] := ⟨by kernel_rfl, by kernel_rfl, by kernel_rfl⟩
noncomputable def opsj4p : Array Oper := Held.inBody 11 Tryz.f94.body
def ordj4p : List Nat := [0, 1, 2, 3, 4, 5, 6, 7, 8, 9, 10, 11, 12, 13, 14, 15, 16, 17, 18, 19, 20, 21, 22, 23, 24, 25]
set_option maxRecDepth 100000 in
theorem rgj4p : Held.Reg opsj4p ordj4p 26 [0, 1, 2, 3, 4, 5, 6, 7, 8, 9, 11, 12, 13, 14, 15, 17, 18, 19, 20, 21, 22, 24, 25] := ⟨by kernel_rfl, by kernel_rfl, by kernel_rfl⟩
noncomputable def opsje : Array Oper := Held.inBody 8 Tryz.f94.body
def ordje : List Nat := [0, 1, 2, 3, 4, 5, 6, 7, 8, 9, 10, 11, 12, 13, 14, 15, 16, 17, 18, 19, 20, 21, 22, 23, 24, 25, 27, 26, 28, 29, 30, 31, 32]
set_option maxRecDepth 100000 in
theorem rgje : Held.Reg opsje ordje 33 [0, 1, 3, 4, 5, 6, 8, 9, 10, 11, 12, 13, 14, 15, 16, 17, 18, 19, 20, 21, 22, 23, 24, 25, 26, 30, 31, 32] := ⟨by kernel_rfl, by kernel_rfl, by kernel_rfl⟩
noncomputable def opsjf : Array Oper := Held.inBody 8 Tryz.f94.body
def ordjf : List Nat := [0, 1, 2, 3, 4, 5, 6, 7, 8, 9, 10, 11, 12, 13, 14, 15, 16, 17, 18, 19, 20, 21, 22, 23, 24, 25, 27, 26, 28, 29, 30, 31, 32]
set_option maxRecDepth 100000 in
theorem rgjf : Held.Reg opsjf ordjf 33 [0, 1, 3, 4, 5, 6, 8, 9, 10, 11, 12, 13, 14, 15, 16, 17, 18, 19, 20, 21, 22, 23, 24, 25, 26, 30, 31, 32] := ⟨by kernel_rfl, by kernel_rfl, by kernel_rfl⟩
noncomputable def opsj0q : Array Oper := Held.inBody 11 Tryz.f94.body
def ordj0q : List Nat := [0, 1, 2, 3, 4, 5, 6, 7, 8, 9, 10, 11, 12, 13, 14, 15, 16, 17, 18, 19, 20, 21, 22, 23, 24, 25]
set_option maxRecDepth 100000 in
theorem rgj0q : Held.Reg opsj0q ordj0q 26 [0, 1, 2, 3, 4, 5, 6, 7, 8, 9, 10, 11, 12, 13, 14, 15, 16, 17, 18, 19, 20, 21, 22, 23, 24, 25] := ⟨by kernel_rfl, by kernel_rfl, by kernel_rfl⟩
noncomputable def opsj1q : Array Oper := Held.inBody 11 Tryz.f94.body
def ordj1q : List Nat := [0, 1, 2, 3, 4, 5, 6, 7, 8, 9, 10, 11, 12, 13, 14, 15, 16, 17, 18, 19, 20, 21, 22, 23, 24, 25]
set_option maxRecDepth 100000 in
theorem rgj1q : Held.Reg opsj1q ordj1q 26 [0, 1, 2, 3, 4, 5, 6, 7, 8, 9, 11, 12, 13, 14, 15, 16, 17, 18, 19, 20, 21, 22, 23, 24, 25] := ⟨by kernel_rfl, by kernel_rfl, by kernel_rfl⟩
noncomputable def opsj2q : Array Oper := Held.inBody 11 Tryz.f94.body
def ordj2q : List Nat := [0, 1, 2, 3, 4, 5, 6, 7, 8, 9, 10, 11, 12, 13, 14, 15, 16, 17, 18, 19, 20, 21, 22, 23, 24, 25]
set_option maxRecDepth 100000 in
theorem rgj2q : Held.Reg opsj2q ordj2q 26 [0, 1, 2, 3, 4, 5, 6, 7, 8, 9, 11, 12, 13, 14, 15, 17, 18, 19, 20, 21, 22, 23, 24, 25] := ⟨by kernel_rfl, by kernel_rfl, by kernel_rfl⟩
noncomputable def opsj3q : Array Oper := Held.inBody 11 Tryz.f94.body
def ordj3q : List Nat := [0, 1, 2, 3, 4, 5, 6, 7, 8, 9, 10, 11, 12, 13, 14, 15, 16, 17, 18, 19, 20, 21, 22, 23, 24, 25]
set_option maxRecDepth 100000 in
theorem rgj3q : Held.Reg opsj3q ordj3q 26 [0, 1, 2, 3, 4, 5, 6, 7, 8, 9, 11, 12, 13, 14, 15, 17, 18, 19, 20, 21, 22, 24, 25] := ⟨by kernel_rfl, by kernel_rfl, by kernel_rfl⟩
noncomputable def opsj4q : Array Oper := Held.inBody 11 Tryz.f94.body
def ordj4q : List Nat := [0, 1, 2, 3, 4, 5, 6, 7, 8, 9, 10, 11, 12, 13, 14, 15, 16, 17, 18, 19, 20, 21, 22, 23, 24, 25]
set_option maxRecDepth 100000 in
theorem rgj4q : Held.Reg opsj4q ordj4q 26 [0, 1, 2, 3, 4, 5, 6, 7, 8, 9, 11, 12, 13, 14, 15, 17, 18, 19, 20, 21, 22, 24, 25] := ⟨by kernel_rfl, by kernel_rfl, by kernel_rfl⟩
end Go.Proofs.YtbpfcjdjhponaaaGreat
namespace Go.Proofs.YtbpfcjdjhponaaaGreat
open Go.RowKit Go.WideMaps Go.Maps
open Sp
def SzRo (l : List En) : Prop := ∀ s ∈ l, s.o.size ≤ 140737488351232 ∧ s.c.size ≤ 140737488351232
theorem CntMap.drew {w : World} {b n : Nat} {xs : List ByteArray} (h : CntMap w b n xs) : CntMap w.drew b n xs := h
set_option maxHeartbeats 32000000 in
set_option maxRecDepth 100000 in
theorem MayRo_calls (n c : Nat) (A : Option Addr) (l : List En) (w : World) (hl : Row enEn 7 w (.slice A n c) l) (hz : SzRo l) (hn : n ≤ 100000) :
    Calls Tryz.prog 94 #[.slice A n c] w fun e w' => e = .returned (.bool (mayRo l)) ∧ Below w.heap.size w w' := by
  have EA := Lib.hid hl.len_eq
  obtain ⟨r, hr⟩ : ∃ r, mayRo l = r := ⟨_, rfl⟩
  rw [hr]
  have HR := Lib.hid hr
  have HZ := Lib.hid hz
  clear hr hz
  have hmm := @run_makeMap Tryz.prog
  go_enter Tryz.func94, Tryz.ntmps94
  go_wp2
  go_loopw [11] (fun v11 wr => ∃ i : Nat, v11 = .int .i64 i ∧ i ≤ n ∧ CntMap wr w.heap.size i ((l.take i).map En.o) ∧ Below w.heap.size w wr ∧ Hid (∀ o, cntL ((l.take i).map En.o) o ≤ 16) ∧ Hid (∀ j (h : j < l.length), j < i → condRo l l[j] = true) ∧ Hid (∀ j (h : j + 1 < l.length), j + 1 < i → ltRo (keyRo l[j]) (keyRo l[j + 1]) = true)) (fun v11 _ => (n - intOf v11).toNat)
  case atStart => exact ⟨0, rfl, Nat.zero_le _, CntMap.new _, below_alloc (Below.refl _ _) _, fun o => Nat.zero_le _, fun j _ h => absurd h (by omega), fun j _ h => absurd h (by omega)⟩
  case round =>
    obtain ⟨i, rfl, hi, CM, D, HC, HK, HJ⟩ := hrel
    by_cases hlt : i < n
    · have hil : i < l.length := by have := EA.out; omega
      obtain ⟨⟨a_, b_, c_, d_, e_, f_, g_⟩, he⟩ : ∃ e, l[i] = e := ⟨_, rfl⟩
      obtain ⟨z1, z2⟩ := HZ.out l[i] (List.getElem_mem _)
      rw [he] at z1 z2
      simp only at z1 z2
      obtain ⟨ad, rfl, c0, c1, c2, c3, c4, c5, c6⟩ := rowEn (hl.below D) i hil a_ b_ c_ d_ e_ f_ g_ he
      have HE := Lib.hid he
      have htk : (l.take (i + 1)).map En.o = (l.take i).map En.o ++ [a_] := by rw [List.take_succ_eq_append_getElem hil, List.map_append, he]; rfl
      have HTK := Lib.hid htk
      clear he htk
      have hmb : w.heap.size < wr.heap.size := by
        obtain ⟨_, ⟨_, _, hb, _⟩, _⟩ := CM
        exact (Array.getElem?_eq_some_iff.1 hb).1
      have hbX := heap_alloc_new wr (bxEn a_ b_ c_ d_ e_ f_ g_)
      obtain ⟨u0, u1, u2, u3, u4, u5, u6, uz⟩ := cellsEn a_ b_ c_ d_ e_ f_ g_ hbX
      have D1 := below_alloc0 D (bxEn a_ b_ c_ d_ e_ f_ g_)
      have CM1 := CM.below (below_box (bxEn a_ b_ c_ d_ e_ f_ g_))
      have hzm : a_.size ≤ maxLen := by simp only [maxLen]; omega
      have hlook := CM1.look a_ hzm
      obtain ⟨k, hk⟩ : ∃ k, cntL ((l.take i).map En.o) a_ = k := ⟨_, rfl⟩
      rw [hk] at hlook
      have hki : k ≤ 16 := by rw [← hk]; exact HC.out a_
      have HK0 := Lib.hid hk
      obtain ⟨M, hown, hM⟩ := CM1
      have hput := hM.put a_
      rw [hk] at hput
      have hwf : (Lit.int .i64 (((k + 1 : Nat) : Int))).wf = true := WalkArith.wf_i64 ⟨by omega, by omega⟩
      clear hk CM D
      go_wp2_with (first | (at_mapUpdate; refine wpList_mapUpdate_own _ rfl _ _ _ 183 rfl 9 3 mapLawC Tryz.underlying183 _ w.heap.size i _ rfl hown (by unfold maxLen; omega) _ (.int .i64 (((k + 1 : Nat) : Int))) (keyC a_) rfl (by go_num) (keyOf_string_mk Tryz.underlying9 hzm) (.lit (.int .i64 (((k + 1 : Nat) : Int)))) [] (plainElem_int Tryz.underlying3 hwf) ?_) | go_in)
      intro w2 hown2 hgrow2
      have CM : CntMap w2 w.heap.size (i + 1) ((l.take (i + 1)).map En.o) := by rw [HTK.out]; exact ⟨_, hown2, hput⟩
      have D := D1.grown hgrow2 D1.size (fun j hj => by cases hj; exact Nat.le_refl _)
      replace hbX : w2.heap[wr.heap.size]? = some (bxEn a_ b_ c_ d_ e_ f_ g_) := (hgrow2.block wr.heap.size (by rw [size_alloc]; exact Nat.lt_succ_self _) (fun h => by injection h with h; omega)).trans hbX
      have hcn : cntL ((l.take (i + 1)).map En.o) a_ = k + 1 := by rw [HTK.out, cntL_snoc, HK0.out, if_pos rfl]
      have hlook2 := CM.look a_ hzm
      rw [hcn] at hlook2
      clear hown2 hgrow2 hown hM hput D1 hlook c0 c1 c2 c3 c4 c5 c6 u0 u1 u2 u3 u4 u5 u6 uz hmb hwf
      obtain ⟨u0, u1, u2, u3, u4, u5, u6, uz⟩ := cellsEn a_ b_ c_ d_ e_ f_ g_ hbX
      by_cases h16 : 16 < k + 1
      · have HF : Hid (r = false) := by
          show _ = _
          rw [← HR.out]
          exact mayRo_no_cnt i (i + 1) hil (by rw [HE.out, hcn]; exact h16)
        have h17 : (16 : Int) < ((k + 1 : Nat) : Int) := by omega
        have h18 : decide ((16 : Int) < ((k + 1 : Nat) : Int)) = true := decide_eq_true h17
        clear hcn
        go_wp2
        go_ret
        rw [HF.out]
        exact ⟨rfl, D⟩
      have h17 : ¬ (16 : Int) < ((k + 1 : Nat) : Int) := by omega
      have h18 : decide ((16 : Int) < ((k + 1 : Nat) : Int)) = false := decide_eq_false h17
      have HC2 : Hid (∀ o, cntL ((l.take (i + 1)).map En.o) o ≤ 16) := fun o => by
        by_cases ho : a_ = o
        · subst ho; rw [hcn]; omega
        · rw [HTK.out, cntL_snoc, if_neg ho]; exact HC.out o
      clear hcn h16 HK0
      have hcd : condRo l l[i] = (isName a_ && (isName b_ && (!decide (a_ = b_) && (hasRo l b_ a_ && (fitI ⟨c_, d_, e_, f_, g_⟩ (getRo l b_ a_) && !(emptyI ⟨c_, d_, e_, f_, g_⟩ && emptyI (getRo l b_ a_))))))) := by rw [HE.out]; rfl
      have HCD := Lib.hid hcd
      clear hcd
      obtain ⟨n1, hn1⟩ : ∃ b, isName a_ = b := ⟨_, rfl⟩
      have HNa_ := Lib.hid hn1
      clear hn1
      cases n1 with
      | false =>
        have HF : Hid (r = false) := by
          show _ = _
          rw [← HR.out]
          exact mayRo_no_cond i hil (by rw [HCD.out, HNa_.out]; rfl)
        clear uz
        replace hbX : w2.drew.heap[_]? = _ := hbX
        replace CM : CntMap w2.drew _ _ _ := CM
        replace D : Below _ _ w2.drew := D.drew
        go_wp2_with fail
        refine Held.start (ops := opsja) (S := fun w' => w'.cell? ⟨wr.heap.size, 0, none⟩ = some (.string a_) ∧ w'.cell? ⟨wr.heap.size, 1, none⟩ = some (.string b_) ∧ w'.cell? ⟨wr.heap.size, 2, none⟩ = some (.bool c_) ∧ w'.cell? ⟨wr.heap.size, 3, none⟩ = some (.bool d_) ∧ w'.cell? ⟨wr.heap.size, 4, none⟩ = some (.bool e_) ∧ w'.cell? ⟨wr.heap.size, 5, none⟩ = some (.bool f_) ∧ w'.cell? ⟨wr.heap.size, 6, none⟩ = some (.bool g_)) ordja 33 (by kernel_rfl) rgja.siz (by kernel_rfl) ⟨u0, u1, u2, u3, u4, u5, u6⟩ (fun hHeld => ?_)
        iterate 2
          refine Held.tw rgja ?_
          try simp only [Act.put, zA, zB, zC, zD, zE, zF]
        refine Held.only (k := 2) (i := 2) (by kernel_rfl) (by kernel_rfl) rfl (by kernel_rfl) (fun K hK => ?_)
        go_simp
        go_at_call 74
        with_reducible refine (re_ (Is_calls a_ _ (by omega)) (ret_bool HNa_.out)).mono ?_
        rintro e w3 ⟨rfl, hbx⟩
        replace u0 := cell_below hbx u0
        replace u1 := cell_below hbx u1
        replace u2 := cell_below hbx u2
        replace u3 := cell_below hbx u3
        replace u4 := cell_below hbx u4
        replace u5 := cell_below hbx u5
        replace u6 := cell_below hbx u6
        replace hbX := hcall hbX hbx
        replace CM := CM.below hbx
        replace D := below_call D hbx
        refine hK.out _ _ (by (try dsimp only); (exact ⟨u0, u1, u2, u3, u4, u5, u6⟩)) (fun hHeld => ?_)
        clear hK K
        try simp only [Act.put, zA, zB, zC, zD, zE, zF]
        iterate 2
          refine Held.tw rgja ?_
          try simp only [Act.put, zA, zB, zC, zD, zE, zF]
        iterate 4
          refine Held.tu rgja ?_
          try simp only [Act.put, zA, zB, zC, zD, zE, zF]
        iterate 2
          refine Held.tw rgja ?_
          try simp only [Act.put, zA, zB, zC, zD, zE, zF]
        iterate 5
          refine Held.tu rgja ?_
          try simp only [Act.put, zA, zB, zC, zD, zE, zF]
        iterate 2
          refine Held.tw rgja ?_
          try simp only [Act.put, zA, zB, zC, zD, zE, zF]
        iterate 14
          refine Held.tu rgja ?_
          try simp only [Act.put, zA, zB, zC, zD, zE, zF]
        iterate 1
          refine Held.tw rgja ?_
          try simp only [Act.put, zA, zB, zC, zD, zE, zF]
        refine wpAnyH_done (by kernel_rfl) ?_ _
        clear u0 u1 u2 u3 u4 u5 u6
        clear CM
        go_wp2
        go_ret
        rw [HF.out]
        exact ⟨rfl, D⟩
      | true =>
      obtain ⟨n2, hn2⟩ : ∃ b, isName b_ = b := ⟨_, rfl⟩
      have HNb_ := Lib.hid hn2
      clear hn2
      cases n2 with
      | false =>
        have HF : Hid (r = false) := by
          show _ = _
          rw [← HR.out]
          exact mayRo_no_cond i hil (by rw [HCD.out, HNa_.out, HNb_.out]; rfl)
        clear uz
        replace hbX : w2.drew.heap[_]? = _ := hbX
        replace CM : CntMap w2.drew _ _ _ := CM
        replace D : Below _ _ w2.drew := D.drew
        go_wp2_with fail
        refine Held.start (ops := opsjb) (S := fun w' => w'.cell? ⟨wr.heap.size, 0, none⟩ = some (.string a_) ∧ w'.cell? ⟨wr.heap.size, 1, none⟩ = some (.string b_) ∧ w'.cell? ⟨wr.heap.size, 2, none⟩ = some (.bool c_) ∧ w'.cell? ⟨wr.heap.size, 3, none⟩ = some (.bool d_) ∧ w'.cell? ⟨wr.heap.size, 4, none⟩ = some (.bool e_) ∧ w'.cell? ⟨wr.heap.size, 5, none⟩ = some (.bool f_) ∧ w'.cell? ⟨wr.heap.size, 6, none⟩ = some (.bool g_)) ordjb 33 (by kernel_rfl) rgjb.siz (by kernel_rfl) ⟨u0, u1, u2, u3, u4, u5, u6⟩ (fun hHeld => ?_)
        iterate 2
          refine Held.tw rgjb ?_
          try simp only [Act.put, zA, zB, zC, zD, zE, zF]
        refine Held.only (k := 2) (i := 2) (by kernel_rfl) (by kernel_rfl) rfl (by kernel_rfl) (fun K hK => ?_)
        go_simp
        go_at_call 74
        with_reducible refine (re_ (Is_calls a_ _ (by omega)) (ret_bool HNa_.out)).mono ?_
        rintro e w3 ⟨rfl, hbx⟩
        replace u0 := cell_below hbx u0
        replace u1 := cell_below hbx u1
        replace u2 := cell_below hbx u2
        replace u3 := cell_below hbx u3
        replace u4 := cell_below hbx u4
        replace u5 := cell_below hbx u5
        replace u6 := cell_below hbx u6
        replace hbX := hcall hbX hbx
        replace CM := CM.below hbx
        replace D := below_call D hbx
        refine hK.out _ _ (by (try dsimp only); (exact ⟨u0, u1, u2, u3, u4, u5, u6⟩)) (fun hHeld => ?_)
        clear hK K
        try simp only [Act.put, zA, zB, zC, zD, zE, zF]
        iterate 4
          refine Held.tw rgjb ?_
          try simp only [Act.put, zA, zB, zC, zD, zE, zF]
        refine Held.only (k := 7) (i := 7) (by kernel_rfl) (by kernel_rfl) rfl (by kernel_rfl) (fun K hK => ?_)
        go_simp
        go_at_call 74
        with_reducible refine (re_ (Is_calls b_ _ (by omega)) (ret_bool HNb_.out)).mono ?_
        rintro e w4 ⟨rfl, hbx⟩
        replace u0 := cell_below hbx u0
        replace u1 := cell_below hbx u1
        replace u2 := cell_below hbx u2
        replace u3 := cell_below hbx u3
        replace u4 := cell_below hbx u4
        replace u5 := cell_below hbx u5
        replace u6 := cell_below hbx u6
        replace hbX := hcall hbX hbx
        replace CM := CM.below hbx
        replace D := below_call D hbx
        refine hK.out _ _ (by (try dsimp only); (exact ⟨u0, u1, u2, u3, u4, u5, u6⟩)) (fun hHeld => ?_)
        clear hK K
        try simp only [Act.put, zA, zB, zC, zD, zE, zF]
        iterate 3
          refine Held.tw rgjb ?_
          try simp only [Act.put, zA, zB, zC, zD, zE, zF]
        iterate 5
          refine Held.tu rgjb ?_
          try simp only [Act.put, zA, zB, zC, zD, zE, zF]
        iterate 2
          refine Held.tw rgjb ?_
          try simp only [Act.put, zA, zB, zC, zD, zE, zF]
        iterate 14
          refine Held.tu rgjb ?_
          try simp only [Act.put, zA, zB, zC, zD, zE, zF]
        iterate 1
          refine Held.tw rgjb ?_
          try simp only [Act.put, zA, zB, zC, zD, zE, zF]
        refine wpAnyH_done (by kernel_rfl) ?_ _
        clear u0 u1 u2 u3 u4 u5 u6
        clear CM
        go_wp2
        go_ret
        rw [HF.out]
        exact ⟨rfl, D⟩
      | true =>
      by_cases hab : a_ = b_
      · have e1 : (a_.toList == b_.toList) = true := by rw [hab]; exact beq_self_eq_true _
        have HF : Hid (r = false) := by
          show _ = _
          rw [← HR.out]
          exact mayRo_no_cond i hil (by rw [HCD.out, decide_eq_true hab]; cases isName a_ <;> cases isName b_ <;> rfl)
        clear hab
        clear uz
        replace hbX : w2.drew.heap[_]? = _ := hbX
        replace CM : CntMap w2.drew _ _ _ := CM
        replace D : Below _ _ w2.drew := D.drew
        go_wp2_with fail
        refine Held.start (ops := opsjc) (S := fun w' => w'.cell? ⟨wr.heap.size, 0, none⟩ = some (.string a_) ∧ w'.cell? ⟨wr.heap.size, 1, none⟩ = some (.string b_) ∧ w'.cell? ⟨wr.heap.size, 2, none⟩ = some (.bool c_) ∧ w'.cell? ⟨wr.heap.size, 3, none⟩ = some (.bool d_) ∧ w'.cell? ⟨wr.heap.size, 4, none⟩ = some (.bool e_) ∧ w'.cell? ⟨wr.heap.size, 5, none⟩ = some (.bool f_) ∧ w'.cell? ⟨wr.heap.size, 6, none⟩ = some (.bool g_)) ordjc 33 (by kernel_rfl) rgjc.siz (by kernel_rfl) ⟨u0, u1, u2, u3, u4, u5, u6⟩ (fun hHeld => ?_)
        iterate 2
          refine Held.tw rgjc ?_
          try simp only [Act.put, zA, zB, zC, zD, zE, zF]
        refine Held.only (k := 2) (i := 2) (by kernel_rfl) (by kernel_rfl) rfl (by kernel_rfl) (fun K hK => ?_)
        go_simp
        go_at_call 74
        with_reducible refine (re_ (Is_calls a_ _ (by omega)) (ret_bool HNa_.out)).mono ?_
        rintro e w3 ⟨rfl, hbx⟩
        replace u0 := cell_below hbx u0
        replace u1 := cell_below hbx u1
        replace u2 := cell_below hbx u2
        replace u3 := cell_below hbx u3
        replace u4 := cell_below hbx u4
        replace u5 := cell_below hbx u5
        replace u6 := cell_below hbx u6
        replace hbX := hcall hbX hbx
        replace CM := CM.below hbx
        replace D := below_call D hbx
        refine hK.out _ _ (by (try dsimp only); (exact ⟨u0, u1, u2, u3, u4, u5, u6⟩)) (fun hHeld => ?_)
        clear hK K
        try simp only [Act.put, zA, zB, zC, zD, zE, zF]
        iterate 4
          refine Held.tw rgjc ?_
          try simp only [Act.put, zA, zB, zC, zD, zE, zF]
        refine Held.only (k := 7) (i := 7) (by kernel_rfl) (by kernel_rfl) rfl (by kernel_rfl) (fun K hK => ?_)
        go_simp
        go_at_call 74
        with_reducible refine (re_ (Is_calls b_ _ (by omega)) (ret_bool HNb_.out)).mono ?_
        rintro e w4 ⟨rfl, hbx⟩
        replace u0 := cell_below hbx u0
        replace u1 := cell_below hbx u1
        replace u2 := cell_below hbx u2
        replace u3 := cell_below hbx u3
        replace u4 := cell_below hbx u4
        replace u5 := cell_below hbx u5
        replace u6 := cell_below hbx u6
        replace hbX := hcall hbX hbx
        replace CM := CM.below hbx
        replace D := below_call D hbx
        refine hK.out _ _ (by (try dsimp only); (exact ⟨u0, u1, u2, u3, u4, u5, u6⟩)) (fun hHeld => ?_)
        clear hK K
        try simp only [Act.put, zA, zB, zC, zD, zE, zF]
        iterate 10
          refine Held.tw rgjc ?_
          try simp only [Act.put, zA, zB, zC, zD, zE, zF]
        iterate 14
          refine Held.tu rgjc ?_
          try simp only [Act.put, zA, zB, zC, zD, zE, zF]
        iterate 1
          refine Held.tw rgjc ?_
          try simp only [Act.put, zA, zB, zC, zD, zE, zF]
        refine wpAnyH_done (by kernel_rfl) ?_ _
        clear u0 u1 u2 u3 u4 u5 u6
        clear CM
        go_wp2
        go_ret
        rw [HF.out]
        exact ⟨rfl, D⟩
      have HAB := Lib.hid hab
      have e1 : (a_.toList == b_.toList) = false := by simpa [toList_inj'] using hab
      clear hab
      by_cases hi0 : i = 0
      · have g1 : decide ((0 : Int) < (i : Int)) = false := decide_eq_false (by omega)
        have g1n : decide (0 < i) = false := decide_eq_false (by omega)
        have HJ2 : Hid (∀ j (h : j + 1 < l.length), j + 1 < i + 1 → ltRo (keyRo l[j]) (keyRo l[j + 1]) = true) := fun j _ h => absurd h (by omega)
        clear hi0
        clear uz
        replace hbX : w2.drew.heap[_]? = _ := hbX
        replace CM : CntMap w2.drew _ _ _ := CM
        replace D : Below _ _ w2.drew := D.drew
        go_wp2_with fail
        refine Held.start (ops := opsjd) (S := fun w' => w'.cell? ⟨wr.heap.size, 0, none⟩ = some (.string a_) ∧ w'.cell? ⟨wr.heap.size, 1, none⟩ = some (.string b_) ∧ w'.cell? ⟨wr.heap.size, 2, none⟩ = some (.bool c_) ∧ w'.cell? ⟨wr.heap.size, 3, none⟩ = some (.bool d_) ∧ w'.cell? ⟨wr.heap.size, 4, none⟩ = some (.bool e_) ∧ w'.cell? ⟨wr.heap.size, 5, none⟩ = some (.bool f_) ∧ w'.cell? ⟨wr.heap.size, 6, none⟩ = some (.bool g_)) ordjd 33 (by kernel_rfl) rgjd.siz (by kernel_rfl) ⟨u0, u1, u2, u3, u4, u5, u6⟩ (fun hHeld => ?_)
        iterate 2
          refine Held.tw rgjd ?_
          try simp only [Act.put, zA, zB, zC, zD, zE, zF]
        refine Held.only (k := 2) (i := 2) (by kernel_rfl) (by kernel_rfl) rfl (by kernel_rfl) (fun K hK => ?_)
        go_simp
        go_at_call 74
        with_reducible refine (re_ (Is_calls a_ _ (by omega)) (ret_bool HNa_.out)).mono ?_
        rintro e w3 ⟨rfl, hbx⟩
        replace u0 := cell_below hbx u0
        replace u1 := cell_below hbx u1
        replace u2 := cell_below hbx u2
        replace u3 := cell_below hbx u3
        replace u4 := cell_below hbx u4
        replace u5 := cell_below hbx u5
        replace u6 := cell_below hbx u6
        replace hbX := hcall hbX hbx
        replace CM := CM.below hbx
        replace D := below_call D hbx
        refine hK.out _ _ (by (try dsimp only); (exact ⟨u0, u1, u2, u3, u4, u5, u6⟩)) (fun hHeld => ?_)
        clear hK K
        try simp only [Act.put, zA, zB, zC, zD, zE, zF]
        iterate 4
          refine Held.tw rgjd ?_
          try simp only [Act.put, zA, zB, zC, zD, zE, zF]
        refine Held.only (k := 7) (i := 7) (by kernel_rfl) (by kernel_rfl) rfl (by kernel_rfl) (fun K hK => ?_)
        go_simp
        go_at_call 74
        with_reducible refine (re_ (Is_calls b_ _ (by omega)) (ret_bool HNb_.out)).mono ?_
        rintro e w4 ⟨rfl, hbx⟩
        replace u0 := cell_below hbx u0
        replace u1 := cell_below hbx u1
        replace u2 := cell_below hbx u2
        replace u3 := cell_below hbx u3
        replace u4 := cell_below hbx u4
        replace u5 := cell_below hbx u5
        replace u6 := cell_below hbx u6
        replace hbX := hcall hbX hbx
        replace CM := CM.below hbx
        replace D := below_call D hbx
        refine hK.out _ _ (by (try dsimp only); (exact ⟨u0, u1, u2, u3, u4, u5, u6⟩)) (fun hHeld => ?_)
        clear hK K
        try simp only [Act.put, zA, zB, zC, zD, zE, zF]
        iterate 13
          refine Held.tw rgjd ?_
          try simp only [Act.put, zA, zB, zC, zD, zE, zF]
        iterate 10
          refine Held.tu rgjd ?_
          try simp only [Act.put, zA, zB, zC, zD, zE, zF]
        iterate 2
          refine Held.tw rgjd ?_
          try simp only [Act.put, zA, zB, zC, zD, zE, zF]
        refine wpAnyH_done (by kernel_rfl) ?_ _
        clear u0 u1 u2 u3 u4 u5 u6
        obtain ⟨u0, u1, u2, u3, u4, u5, u6, uz⟩ := cellsEn a_ b_ c_ d_ e_ f_ g_ hbX
        have HFD' := fun (W : World) (h : Row enEn 7 W (.slice (some ad) n c) l) => findRo_calls n c (some ad) l b_ a_ W h
        cases hp : placeRo l b_ a_ with
        | none =>
          have HNH := (getRo_no l b_ a_ (place_none hp)).2
          have HF : Hid (r = false) := by
            show _ = _
            rw [← HR.out]
            exact mayRo_no_cond i hil (by rw [HCD.out, HNH]; simp)
          rw [hp] at HFD'
          have HFD := Lib.hid (show ∀ (W : World), Row enEn 7 W (.slice (some ad) n c) l → Calls Tryz.prog 97 #[.slice (some ad) n c, agKr b_ a_] W fun e w' => e = .returned (.tuple #[.int .i64 0, .bool false]) ∧ Below W.heap.size W w' from HFD')
          clear HFD' hp HNH
          go_wp2_with fail
          with_reducible refine (HFD.out _ (hl.below D)).mono ?_
          rintro e w5 ⟨rfl, b5⟩
          replace hbX := hcall hbX b5
          replace CM := CM.below b5
          replace D := below_call D b5
          clear b5 u0 u1 u2 u3 u4 u5 u6 uz
          clear HFD
          obtain ⟨u0, u1, u2, u3, u4, u5, u6, uz⟩ := cellsEn a_ b_ c_ d_ e_ f_ g_ hbX
          clear uz
          replace hbX : w5.drew.heap[_]? = _ := hbX
          replace CM : CntMap w5.drew _ _ _ := CM
          replace D : Below _ _ w5.drew := D.drew
          go_wp2_with fail
          refine Held.start (ops := opsj0p) (S := fun w' => w'.cell? ⟨wr.heap.size, 0, none⟩ = some (.string a_) ∧ w'.cell? ⟨wr.heap.size, 1, none⟩ = some (.string b_) ∧ w'.cell? ⟨wr.heap.size, 2, none⟩ = some (.bool c_) ∧ w'.cell? ⟨wr.heap.size, 3, none⟩ = some (.bool d_) ∧ w'.cell? ⟨wr.heap.size, 4, none⟩ = some (.bool e_) ∧ w'.cell? ⟨wr.heap.size, 5, none⟩ = some (.bool f_) ∧ w'.cell? ⟨wr.heap.size, 6, none⟩ = some (.bool g_)) ordj0p 26 (by kernel_rfl) rgj0p.siz (by kernel_rfl) ⟨u0, u1, u2, u3, u4, u5, u6⟩ (fun hHeld => ?_)
          iterate 3
            refine Held.tw rgj0p ?_
            try simp only [Act.put, zA, zB, zC, zD, zE, zF]
          iterate 9
            refine Held.tu rgj0p ?_
            try simp only [Act.put, zA, zB, zC, zD, zE, zF]
          iterate 2
            refine Held.tw rgj0p ?_
            try simp only [Act.put, zA, zB, zC, zD, zE, zF]
          iterate 11
            refine Held.tu rgj0p ?_
            try simp only [Act.put, zA, zB, zC, zD, zE, zF]
          iterate 1
            refine Held.tw rgj0p ?_
            try simp only [Act.put, zA, zB, zC, zD, zE, zF]
          refine wpAnyH_done (by kernel_rfl) ?_ _
          clear u0 u1 u2 u3 u4 u5 u6
          clear CM
          go_wp2
          go_ret
          rw [HF.out]
          exact ⟨rfl, D⟩
        | some k2 =>
          obtain ⟨hkl, hkk, hk4⟩ := place_some hp
          obtain ⟨⟨a', b', c', d', e', f', g'⟩, he'⟩ : ∃ e, l[k2] = e := ⟨_, rfl⟩
          obtain ⟨hg1, hg2⟩ := getRo_at l b_ a_ k2 hkl hk4 hkk
          rw [he'] at hg1
          simp only at hg1
          rw [hp] at HFD'
          have HFD := Lib.hid (show ∀ (W : World), Row enEn 7 W (.slice (some ad) n c) l → Calls Tryz.prog 97 #[.slice (some ad) n c, agKr b_ a_] W fun e w' => e = .returned (.tuple #[.int .i64 k2, .bool true]) ∧ Below W.heap.size W w' from fun W h => by
            have := HFD' W h
            rwa [show maxI (idxI (some k2)) = (k2 : Int) from by unfold maxI idxI; simp, show decide (0 ≤ idxI (some k2)) = true from by unfold idxI; simp] at this)
          have hcd := HCD.out
          rw [hg1, hg2, HNa_.out, HNb_.out, decide_eq_false HAB.out] at hcd
          simp only [Bool.true_and, Bool.not_false] at hcd
          have HCE := Lib.hid hcd
          have HE2 := Lib.hid he'
          have x5 : (0 : Int) ≤ (k2 : Int) := by omega
          have x6 : (k2 : Int) < (n : Int) := by have := EA.out; omega
          obtain ⟨ft, hft⟩ : ∃ b, fitI ⟨c_, d_, e_, f_, g_⟩ ⟨c', d', e', f', g'⟩ = b := ⟨_, rfl⟩
          obtain ⟨m1, hm1⟩ : ∃ b, emptyI ⟨c_, d_, e_, f_, g_⟩ = b := ⟨_, rfl⟩
          obtain ⟨m2, hm2⟩ : ∃ b, emptyI ⟨c', d', e', f', g'⟩ = b := ⟨_, rfl⟩
          have HFT := Lib.hid hft
          have HM1 := Lib.hid hm1
          have HM2 := Lib.hid hm2
          clear HFD' hp hkk hk4 he' hg1 hg2 hcd hft hm1 hm2
          go_wp2_with fail
          with_reducible refine (HFD.out _ (hl.below D)).mono ?_
          rintro e w5 ⟨rfl, b5⟩
          replace hbX := hcall hbX b5
          replace CM := CM.below b5
          replace D := below_call D b5
          clear b5 u0 u1 u2 u3 u4 u5 u6 uz
          clear HFD
          obtain ⟨u0, u1, u2, u3, u4, u5, u6, uz⟩ := cellsEn a_ b_ c_ d_ e_ f_ g_ hbX
          obtain ⟨k0, k1, k2_, k3, k4, k5, k6⟩ := rowsEn (hl.below D) k2 hkl a' b' c' d' e' f' g' HE2.out
          cases ft with
          | false =>
            have HF : Hid (r = false) := by
              show _ = _
              rw [← HR.out]
              exact mayRo_no_cond i hil (by rw [HCE.out, HFT.out]; rfl)
            clear uz
            replace hbX : w5.drew.heap[_]? = _ := hbX
            replace CM : CntMap w5.drew _ _ _ := CM
            replace D : Below _ _ w5.drew := D.drew
            go_wp2_with fail
            refine Held.start (ops := opsj1p) (S := fun w' => w'.cell? ⟨wr.heap.size, 0, none⟩ = some (.string a_) ∧ w'.cell? ⟨wr.heap.size, 1, none⟩ = some (.string b_) ∧ w'.cell? ⟨wr.heap.size, 2, none⟩ = some (.bool c_) ∧ w'.cell? ⟨wr.heap.size, 3, none⟩ = some (.bool d_) ∧ w'.cell? ⟨wr.heap.size, 4, none⟩ = some (.bool e_) ∧ w'.cell? ⟨wr.heap.size, 5, none⟩ = some (.bool f_) ∧ w'.cell? ⟨wr.heap.size, 6, none⟩ = some (.bool g_) ∧ w'.cell? (ad.add (k2 * 7)) = some (.string a') ∧ w'.cell? ⟨(ad.add (k2 * 7)).block, (ad.add (k2 * 7)).off + 1, none⟩ = some (.string b') ∧ w'.cell? ⟨(ad.add (k2 * 7)).block, (ad.add (k2 * 7)).off + 2, none⟩ = some (.bool c') ∧ w'.cell? ⟨(ad.add (k2 * 7)).block, (ad.add (k2 * 7)).off + 3, none⟩ = some (.bool d') ∧ w'.cell? ⟨(ad.add (k2 * 7)).block, (ad.add (k2 * 7)).off + 4, none⟩ = some (.bool e') ∧ w'.cell? ⟨(ad.add (k2 * 7)).block, (ad.add (k2 * 7)).off + 5, none⟩ = some (.bool f') ∧ w'.cell? ⟨(ad.add (k2 * 7)).block, (ad.add (k2 * 7)).off + 6, none⟩ = some (.bool g')) ordj1p 26 (by kernel_rfl) rgj1p.siz (by kernel_rfl) ⟨u0, u1, u2, u3, u4, u5, u6, k0, k1, k2_, k3, k4, k5, k6⟩ (fun hHeld => ?_)
            iterate 10
              refine Held.tw rgj1p ?_
              try simp only [Act.put, zA, zB, zC, zD, zE, zF]
            refine Held.only (k := 10) (i := 10) (by kernel_rfl) (by kernel_rfl) rfl (by kernel_rfl) (fun K hK => ?_)
            go_simp
            go_at_call 140
            with_reducible refine (re_ (MayI_calls c_ d_ e_ f_ g_ c' d' e' f' g' _) (ret_bool HFT.out)).mono ?_
            rintro e w6 ⟨rfl, hbx⟩
            replace u0 := cell_below hbx u0
            replace u1 := cell_below hbx u1
            replace u2 := cell_below hbx u2
            replace u3 := cell_below hbx u3
            replace u4 := cell_below hbx u4
            replace u5 := cell_below hbx u5
            replace u6 := cell_below hbx u6
            replace k0 := cell_below hbx k0
            replace k1 := cell_below hbx k1
            replace k2_ := cell_below hbx k2_
            replace k3 := cell_below hbx k3
            replace k4 := cell_below hbx k4
            replace k5 := cell_below hbx k5
            replace k6 := cell_below hbx k6
            replace hbX := hcall hbX hbx
            replace CM := CM.below hbx
            replace D := below_call D hbx
            refine hK.out _ _ (by (try dsimp only); (exact ⟨u0, u1, u2, u3, u4, u5, u6, k0, k1, k2_, k3, k4, k5, k6⟩)) (fun hHeld => ?_)
            clear hK K
            try simp only [Act.put, zA, zB, zC, zD, zE, zF]
            iterate 3
              refine Held.tw rgj1p ?_
              try simp only [Act.put, zA, zB, zC, zD, zE, zF]
            iterate 11
              refine Held.tu rgj1p ?_
              try simp only [Act.put, zA, zB, zC, zD, zE, zF]
            iterate 1
              refine Held.tw rgj1p ?_
              try simp only [Act.put, zA, zB, zC, zD, zE, zF]
            refine wpAnyH_done (by kernel_rfl) ?_ _
            clear u0 u1 u2 u3 u4 u5 u6 k0 k1 k2_ k3 k4 k5 k6
            clear CM
            go_wp2
            go_ret
            rw [HF.out]
            exact ⟨rfl, D⟩
          | true =>
            cases m1 with
            | false =>
              clear uz
              replace hbX : w5.drew.heap[_]? = _ := hbX
              replace CM : CntMap w5.drew _ _ _ := CM
              replace D : Below _ _ w5.drew := D.drew
              go_wp2_with fail
              refine Held.start (ops := opsj2p) (S := fun w' => w'.cell? ⟨wr.heap.size, 0, none⟩ = some (.string a_) ∧ w'.cell? ⟨wr.heap.size, 1, none⟩ = some (.string b_) ∧ w'.cell? ⟨wr.heap.size, 2, none⟩ = some (.bool c_) ∧ w'.cell? ⟨wr.heap.size, 3, none⟩ = some (.bool d_) ∧ w'.cell? ⟨wr.heap.size, 4, none⟩ = some (.bool e_) ∧ w'.cell? ⟨wr.heap.size, 5, none⟩ = some (.bool f_) ∧ w'.cell? ⟨wr.heap.size, 6, none⟩ = some (.bool g_) ∧ w'.cell? (ad.add (k2 * 7)) = some (.string a') ∧ w'.cell? ⟨(ad.add (k2 * 7)).block, (ad.add (k2 * 7)).off + 1, none⟩ = some (.string b') ∧ w'.cell? ⟨(ad.add (k2 * 7)).block, (ad.add (k2 * 7)).off + 2, none⟩ = some (.bool c') ∧ w'.cell? ⟨(ad.add (k2 * 7)).block, (ad.add (k2 * 7)).off + 3, none⟩ = some (.bool d') ∧ w'.cell? ⟨(ad.add (k2 * 7)).block, (ad.add (k2 * 7)).off + 4, none⟩ = some (.bool e') ∧ w'.cell? ⟨(ad.add (k2 * 7)).block, (ad.add (k2 * 7)).off + 5, none⟩ = some (.bool f') ∧ w'.cell? ⟨(ad.add (k2 * 7)).block, (ad.add (k2 * 7)).off + 6, none⟩ = some (.bool g')) ordj2p 26 (by kernel_rfl) rgj2p.siz (by kernel_rfl) ⟨u0, u1, u2, u3, u4, u5, u6, k0, k1, k2_, k3, k4, k5, k6⟩ (fun hHeld => ?_)
              iterate 10
                refine Held.tw rgj2p ?_
                try simp only [Act.put, zA, zB, zC, zD, zE, zF]
              refine Held.only (k := 10) (i := 10) (by kernel_rfl) (by kernel_rfl) rfl (by kernel_rfl) (fun K hK => ?_)
              go_simp
              go_at_call 140
              with_reducible refine (re_ (MayI_calls c_ d_ e_ f_ g_ c' d' e' f' g' _) (ret_bool HFT.out)).mono ?_
              rintro e w6 ⟨rfl, hbx⟩
              replace u0 := cell_below hbx u0
              replace u1 := cell_below hbx u1
              replace u2 := cell_below hbx u2
              replace u3 := cell_below hbx u3
              replace u4 := cell_below hbx u4
              replace u5 := cell_below hbx u5
              replace u6 := cell_below hbx u6
              replace k0 := cell_below hbx k0
              replace k1 := cell_below hbx k1
              replace k2_ := cell_below hbx k2_
              replace k3 := cell_below hbx k3
              replace k4 := cell_below hbx k4
              replace k5 := cell_below hbx k5
              replace k6 := cell_below hbx k6
              replace hbX := hcall hbX hbx
              replace CM := CM.below hbx
              replace D := below_call D hbx
              refine hK.out _ _ (by (try dsimp only); (exact ⟨u0, u1, u2, u3, u4, u5, u6, k0, k1, k2_, k3, k4, k5, k6⟩)) (fun hHeld => ?_)
              clear hK K
              try simp only [Act.put, zA, zB, zC, zD, zE, zF]
              iterate 5
                refine Held.tw rgj2p ?_
                try simp only [Act.put, zA, zB, zC, zD, zE, zF]
              refine Held.only (k := 16) (i := 16) (by kernel_rfl) (by kernel_rfl) rfl (by kernel_rfl) (fun K hK => ?_)
              go_simp
              go_at_call 100
              with_reducible refine (re_ (EmptyI_calls c_ d_ e_ f_ g_ _) (ret_bool HM1.out)).mono ?_
              rintro e w7 ⟨rfl, hbx⟩
              replace u0 := cell_below hbx u0
              replace u1 := cell_below hbx u1
              replace u2 := cell_below hbx u2
              replace u3 := cell_below hbx u3
              replace u4 := cell_below hbx u4
              replace u5 := cell_below hbx u5
              replace u6 := cell_below hbx u6
              replace k0 := cell_below hbx k0
              replace k1 := cell_below hbx k1
              replace k2_ := cell_below hbx k2_
              replace k3 := cell_below hbx k3
              replace k4 := cell_below hbx k4
              replace k5 := cell_below hbx k5
              replace k6 := cell_below hbx k6
              replace hbX := hcall hbX hbx
              replace CM := CM.below hbx
              replace D := below_call D hbx
              refine hK.out _ _ (by (try dsimp only); (exact ⟨u0, u1, u2, u3, u4, u5, u6, k0, k1, k2_, k3, k4, k5, k6⟩)) (fun hHeld => ?_)
              clear hK K
              try simp only [Act.put, zA, zB, zC, zD, zE, zF]
              iterate 1
                refine Held.tw rgj2p ?_
                try simp only [Act.put, zA, zB, zC, zD, zE, zF]
              iterate 6
                refine Held.tu rgj2p ?_
                try simp only [Act.put, zA, zB, zC, zD, zE, zF]
              iterate 2
                refine Held.tw rgj2p ?_
                try simp only [Act.put, zA, zB, zC, zD, zE, zF]
              refine wpAnyH_done (by kernel_rfl) ?_ _
              clear u0 u1 u2 u3 u4 u5 u6 k0 k1 k2_ k3 k4 k5 k6
              have HK2 : Hid (∀ j (h : j < l.length), j < i + 1 → condRo l l[j] = true) := fun j h hj => by
                rcases Nat.lt_or_ge j i with h' | h'
                · exact HK.out j h h'
                · obtain rfl : j = i := by omega
                  rw [HCE.out, HFT.out, HM1.out]; first | rfl | (rw [HM2.out]; rfl)
              go_wp2
              exact ⟨⟨i + 1, by go_num, by omega, CM, D, HC2, HK2, HJ2⟩, by simp [intOf]; omega⟩
            | true =>
              cases m2 with
              | false =>
                clear uz
                replace hbX : w5.drew.heap[_]? = _ := hbX
                replace CM : CntMap w5.drew _ _ _ := CM
                replace D : Below _ _ w5.drew := D.drew
                go_wp2_with fail
                refine Held.start (ops := opsj3p) (S := fun w' => w'.cell? ⟨wr.heap.size, 0, none⟩ = some (.string a_) ∧ w'.cell? ⟨wr.heap.size, 1, none⟩ = some (.string b_) ∧ w'.cell? ⟨wr.heap.size, 2, none⟩ = some (.bool c_) ∧ w'.cell? ⟨wr.heap.size, 3, none⟩ = some (.bool d_) ∧ w'.cell? ⟨wr.heap.size, 4, none⟩ = some (.bool e_) ∧ w'.cell? ⟨wr.heap.size, 5, none⟩ = some (.bool f_) ∧ w'.cell? ⟨wr.heap.size, 6, none⟩ = some (.bool g_) ∧ w'.cell? (ad.add (k2 * 7)) = some (.string a') ∧ w'.cell? ⟨(ad.add (k2 * 7)).block, (ad.add (k2 * 7)).off + 1, none⟩ = some (.string b') ∧ w'.cell? ⟨(ad.add (k2 * 7)).block, (ad.add (k2 * 7)).off + 2, none⟩ = some (.bool c') ∧ w'.cell? ⟨(ad.add (k2 * 7)).block, (ad.add (k2 * 7)).off + 3, none⟩ = some (.bool d') ∧ w'.cell? ⟨(ad.add (k2 * 7)).block, (ad.add (k2 * 7)).off + 4, none⟩ = some (.bool e') ∧ w'.cell? ⟨(ad.add (k2 * 7)).block, (ad.add (k2 * 7)).off + 5, none⟩ = some (.bool f') ∧ w'.cell? ⟨(ad.add (k2 * 7)).block, (ad.add (k2 * 7)).off + 6, none⟩ = some (.bool g')) ordj3p 26 (by kernel_rfl) rgj3p.siz (by kernel_rfl) ⟨u0, u1, u2, u3, u4, u5, u6, k0, k1, k2_, k3, k4, k5, k6⟩ (fun hHeld => ?_)
                iterate 10
                  refine Held.tw rgj3p ?_
                  try simp only [Act.put, zA, zB, zC, zD, zE, zF]
                refine Held.only (k := 10) (i := 10) (by kernel_rfl) (by kernel_rfl) rfl (by kernel_rfl) (fun K hK => ?_)
                go_simp
                go_at_call 140
                with_reducible refine (re_ (MayI_calls c_ d_ e_ f_ g_ c' d' e' f' g' _) (ret_bool HFT.out)).mono ?_
                rintro e w6 ⟨rfl, hbx⟩
                replace u0 := cell_below hbx u0
                replace u1 := cell_below hbx u1
                replace u2 := cell_below hbx u2
                replace u3 := cell_below hbx u3
                replace u4 := cell_below hbx u4
                replace u5 := cell_below hbx u5
                replace u6 := cell_below hbx u6
                replace k0 := cell_below hbx k0
                replace k1 := cell_below hbx k1
                replace k2_ := cell_below hbx k2_
                replace k3 := cell_below hbx k3
                replace k4 := cell_below hbx k4
                replace k5 := cell_below hbx k5
                replace k6 := cell_below hbx k6
                replace hbX := hcall hbX hbx
                replace CM := CM.below hbx
                replace D := below_call D hbx
                refine hK.out _ _ (by (try dsimp only); (exact ⟨u0, u1, u2, u3, u4, u5, u6, k0, k1, k2_, k3, k4, k5, k6⟩)) (fun hHeld => ?_)
                clear hK K
                try simp only [Act.put, zA, zB, zC, zD, zE, zF]
                iterate 5
                  refine Held.tw rgj3p ?_
                  try simp only [Act.put, zA, zB, zC, zD, zE, zF]
                refine Held.only (k := 16) (i := 16) (by kernel_rfl) (by kernel_rfl) rfl (by kernel_rfl) (fun K hK => ?_)
                go_simp
                go_at_call 100
                with_reducible refine (re_ (EmptyI_calls c_ d_ e_ f_ g_ _) (ret_bool HM1.out)).mono ?_
                rintro e w7 ⟨rfl, hbx⟩
                replace u0 := cell_below hbx u0
                replace u1 := cell_below hbx u1
                replace u2 := cell_below hbx u2
                replace u3 := cell_below hbx u3
                replace u4 := cell_below hbx u4
                replace u5 := cell_below hbx u5
                replace u6 := cell_below hbx u6
                replace k0 := cell_below hbx k0
                replace k1 := cell_below hbx k1
                replace k2_ := cell_below hbx k2_
                replace k3 := cell_below hbx k3
                replace k4 := cell_below hbx k4
                replace k5 := cell_below hbx k5
                replace k6 := cell_below hbx k6
                replace hbX := hcall hbX hbx
                replace CM := CM.below hbx
                replace D := below_call D hbx
                refine hK.out _ _ (by (try dsimp only); (exact ⟨u0, u1, u2, u3, u4, u5, u6, k0, k1, k2_, k3, k4, k5, k6⟩)) (fun hHeld => ?_)
                clear hK K
                try simp only [Act.put, zA, zB, zC, zD, zE, zF]
                iterate 6
                  refine Held.tw rgj3p ?_
                  try simp only [Act.put, zA, zB, zC, zD, zE, zF]
                refine Held.only (k := 23) (i := 23) (by kernel_rfl) (by kernel_rfl) rfl (by kernel_rfl) (fun K hK => ?_)
                go_simp
                go_at_call 100
                with_reducible refine (re_ (EmptyI_calls c' d' e' f' g' _) (ret_bool HM2.out)).mono ?_
                rintro e w8 ⟨rfl, hbx⟩
                replace u0 := cell_below hbx u0
                replace u1 := cell_below hbx u1
                replace u2 := cell_below hbx u2
                replace u3 := cell_below hbx u3
                replace u4 := cell_below hbx u4
                replace u5 := cell_below hbx u5
                replace u6 := cell_below hbx u6
                replace k0 := cell_below hbx k0
                replace k1 := cell_below hbx k1
                replace k2_ := cell_below hbx k2_
                replace k3 := cell_below hbx k3
                replace k4 := cell_below hbx k4
                replace k5 := cell_below hbx k5
                replace k6 := cell_below hbx k6
                replace hbX := hcall hbX hbx
                replace CM := CM.below hbx
                replace D := below_call D hbx
                refine hK.out _ _ (by (try dsimp only); (exact ⟨u0, u1, u2, u3, u4, u5, u6, k0, k1, k2_, k3, k4, k5, k6⟩)) (fun hHeld => ?_)
                clear hK K
                try simp only [Act.put, zA, zB, zC, zD, zE, zF]
                iterate 2
                  refine Held.tw rgj3p ?_
                  try simp only [Act.put, zA, zB, zC, zD, zE, zF]
                refine wpAnyH_done (by kernel_rfl) ?_ _
                clear u0 u1 u2 u3 u4 u5 u6 k0 k1 k2_ k3 k4 k5 k6
                have HK2 : Hid (∀ j (h : j < l.length), j < i + 1 → condRo l l[j] = true) := fun j h hj => by
                  rcases Nat.lt_or_ge j i with h' | h'
                  · exact HK.out j h h'
                  · obtain rfl : j = i := by omega
                    rw [HCE.out, HFT.out, HM1.out]; first | rfl | (rw [HM2.out]; rfl)
                go_wp2
                exact ⟨⟨i + 1, by go_num, by omega, CM, D, HC2, HK2, HJ2⟩, by simp [intOf]; omega⟩
              | true =>
                have HF : Hid (r = false) := by
                  show _ = _
                  rw [← HR.out]
                  exact mayRo_no_cond i hil (by rw [HCE.out, HFT.out, HM1.out, HM2.out]; rfl)
                clear uz
                replace hbX : w5.drew.heap[_]? = _ := hbX
                replace CM : CntMap w5.drew _ _ _ := CM
                replace D : Below _ _ w5.drew := D.drew
                go_wp2_with fail
                refine Held.start (ops := opsj4p) (S := fun w' => w'.cell? ⟨wr.heap.size, 0, none⟩ = some (.string a_) ∧ w'.cell? ⟨wr.heap.size, 1, none⟩ = some (.string b_) ∧ w'.cell? ⟨wr.heap.size, 2, none⟩ = some (.bool c_) ∧ w'.cell? ⟨wr.heap.size, 3, none⟩ = some (.bool d_) ∧ w'.cell? ⟨wr.heap.size, 4, none⟩ = some (.bool e_) ∧ w'.cell? ⟨wr.heap.size, 5, none⟩ = some (.bool f_) ∧ w'.cell? ⟨wr.heap.size, 6, none⟩ = some (.bool g_) ∧ w'.cell? (ad.add (k2 * 7)) = some (.string a') ∧ w'.cell? ⟨(ad.add (k2 * 7)).block, (ad.add (k2 * 7)).off + 1, none⟩ = some (.string b') ∧ w'.cell? ⟨(ad.add (k2 * 7)).block, (ad.add (k2 * 7)).off + 2, none⟩ = some (.bool c') ∧ w'.cell? ⟨(ad.add (k2 * 7)).block, (ad.add (k2 * 7)).off + 3, none⟩ = some (.bool d') ∧ w'.cell? ⟨(ad.add (k2 * 7)).block, (ad.add (k2 * 7)).off + 4, none⟩ = some (.bool e') ∧ w'.cell? ⟨(ad.add (k2 * 7)).block, (ad.add (k2 * 7)).off + 5, none⟩ = some (.bool f') ∧ w'.cell? ⟨(ad.add (k2 * 7)).block, (ad.add (k2 * 7)).off + 6, none⟩ = some (.bool g')) ordj4p 26 (by kernel_rfl) rgj4p.siz (by kernel_rfl) ⟨u0, u1, u2, u3, u4, u5, u6, k0, k1, k2_, k3, k4, k5, k6⟩ (fun hHeld => ?_)
                iterate 10
                  refine Held.tw rgj4p ?_
                  try simp only [Act.put, zA, zB, zC, zD, zE, zF]
                refine Held.only (k := 10) (i := 10) (by kernel_rfl) (by kernel_rfl) rfl (by kernel_rfl) (fun K hK => ?_)
                go_simp
                go_at_call 140
                with_reducible refine (re_ (MayI_calls c_ d_ e_ f_ g_ c' d' e' f' g' _) (ret_bool HFT.out)).mono ?_
                rintro e w6 ⟨rfl, hbx⟩
                replace u0 := cell_below hbx u0
                replace u1 := cell_below hbx u1
                replace u2 := cell_below hbx u2
                replace u3 := cell_below hbx u3
                replace u4 := cell_below hbx u4
                replace u5 := cell_below hbx u5
                replace u6 := cell_below hbx u6
                replace k0 := cell_below hbx k0
                replace k1 := cell_below hbx k1
                replace k2_ := cell_below hbx k2_
                replace k3 := cell_below hbx k3
                replace k4 := cell_below hbx k4
                replace k5 := cell_below hbx k5
                replace k6 := cell_below hbx k6
                replace hbX := hcall hbX hbx
                replace CM := CM.below hbx
                replace D := below_call D hbx
                refine hK.out _ _ (by (try dsimp only); (exact ⟨u0, u1, u2, u3, u4, u5, u6, k0, k1, k2_, k3, k4, k5, k6⟩)) (fun hHeld => ?_)
                clear hK K
                try simp only [Act.put, zA, zB, zC, zD, zE, zF]
                iterate 5
                  refine Held.tw rgj4p ?_
                  try simp only [Act.put, zA, zB, zC, zD, zE, zF]
                refine Held.only (k := 16) (i := 16) (by kernel_rfl) (by kernel_rfl) rfl (by kernel_rfl) (fun K hK => ?_)
                go_simp
                go_at_call 100
                with_reducible refine (re_ (EmptyI_calls c_ d_ e_ f_ g_ _) (ret_bool HM1.out)).mono ?_
                rintro e w7 ⟨rfl, hbx⟩
                replace u0 := cell_below hbx u0
                replace u1 := cell_below hbx u1
                replace u2 := cell_below hbx u2
                replace u3 := cell_below hbx u3
                replace u4 := cell_below hbx u4
                replace u5 := cell_below hbx u5
                replace u6 := cell_below hbx u6
                replace k0 := cell_below hbx k0
                replace k1 := cell_below hbx k1
                replace k2_ := cell_below hbx k2_
                replace k3 := cell_below hbx k3
                replace k4 := cell_below hbx k4
                replace k5 := cell_below hbx k5
                replace k6 := cell_below hbx k6
                replace hbX := hcall hbX hbx
                replace CM := CM.below hbx
                replace D := below_call D hbx
                refine hK.out _ _ (by (try dsimp only); (exact ⟨u0, u1, u2, u3, u4, u5, u6, k0, k1, k2_, k3, k4, k5, k6⟩)) (fun hHeld => ?_)
                clear hK K
                try simp only [Act.put, zA, zB, zC, zD, zE, zF]
                iterate 6
                  refine Held.tw rgj4p ?_
                  try simp only [Act.put, zA, zB, zC, zD, zE, zF]
                refine Held.only (k := 23) (i := 23) (by kernel_rfl) (by kernel_rfl) rfl (by kernel_rfl) (fun K hK => ?_)
                go_simp
                go_at_call 100
                with_reducible refine (re_ (EmptyI_calls c' d' e' f' g' _) (ret_bool HM2.out)).mono ?_
                rintro e w8 ⟨rfl, hbx⟩
                replace u0 := cell_below hbx u0
                replace u1 := cell_below hbx u1
                replace u2 := cell_below hbx u2
                replace u3 := cell_below hbx u3
                replace u4 := cell_below hbx u4
                replace u5 := cell_below hbx u5
                replace u6 := cell_below hbx u6
                replace k0 := cell_below hbx k0
                replace k1 := cell_below hbx k1
                replace k2_ := cell_below hbx k2_
                replace k3 := cell_below hbx k3
                replace k4 := cell_below hbx k4
                replace k5 := cell_below hbx k5
                replace k6 := cell_below hbx k6
                replace hbX := hcall hbX hbx
                replace CM := CM.below hbx
                replace D := below_call D hbx
                refine hK.out _ _ (by (try dsimp only); (exact ⟨u0, u1, u2, u3, u4, u5, u6, k0, k1, k2_, k3, k4, k5, k6⟩)) (fun hHeld => ?_)
                clear hK K
                try simp only [Act.put, zA, zB, zC, zD, zE, zF]
                iterate 2
                  refine Held.tw rgj4p ?_
                  try simp only [Act.put, zA, zB, zC, zD, zE, zF]
                refine wpAnyH_done (by kernel_rfl) ?_ _
                clear u0 u1 u2 u3 u4 u5 u6 k0 k1 k2_ k3 k4 k5 k6
                clear CM
                go_wp2
                go_ret
                rw [HF.out]
                exact ⟨rfl, D⟩
      have g1 : decide ((0 : Int) < (i : Int)) = true := decide_eq_true (by omega)
      have g1n : decide (0 < i) = true := decide_eq_true (by omega)
      obtain ⟨q, hq⟩ : ∃ q, q = i - 1 := ⟨_, rfl⟩
      have hqi : q + 1 = i := by omega
      have hql : q < l.length := by omega
      obtain ⟨⟨p_, q_, r_, s_, t_, v_, x_⟩, heq⟩ : ∃ e, l[q] = e := ⟨_, rfl⟩
      have hw : IntKind.i64.wrap ((i : Int) - 1) = ((q : Nat) : Int) := by
        have : (i : Int) - 1 = (q : Int) := by omega
        rw [this, IntKind.wrap_i64]; omega
      have x1 : (0 : Int) ≤ (q : Int) := by omega
      have x2 : (q : Int) < (n : Int) := by have := EA.out; omega
      obtain ⟨bl, hbl⟩ : ∃ b, ltRo (p_, q_) (a_, b_) = b := ⟨_, rfl⟩
      have HADJ : Hid (∃ h : q + 1 < l.length, ltRo (keyRo l[q]) (keyRo l[q + 1]) = bl) := by
        subst hqi
        exact ⟨hil, by rw [heq, HE.out, ← hbl]; rfl⟩
      obtain ⟨cm, hcm⟩ : ∃ x, cmpRo (p_, q_) (a_, b_) = x := ⟨_, rfl⟩
      have hge := cmpRo_ge (p_, q_) (a_, b_)
      rw [hcm, hbl] at hge
      have HCM := Lib.hid hcm
      have HEQ := Lib.hid heq
      have HQI := Lib.hid hqi
      obtain ⟨p0, p1, p2, p3, p4, p5, p6⟩ := rowsEn (hl.below D) q hql p_ q_ r_ s_ t_ v_ x_ heq
      clear hbl hcm heq hqi hq hi0
      cases bl with
      | false =>
        have HF : Hid (r = false) := by
          show _ = _
          rw [← HR.out]
          exact mayRo_no_adj q HADJ.out.1 HADJ.out.2
        clear uz
        have hge2 : decide (0 ≤ cm) = true := by simpa using hge
        replace hbX : w2.drew.heap[_]? = _ := hbX
        replace CM : CntMap w2.drew _ _ _ := CM
        replace D : Below _ _ w2.drew := D.drew
        go_wp2_with fail
        refine Held.start (ops := opsje) (S := fun w' => w'.cell? ⟨wr.heap.size, 0, none⟩ = some (.string a_) ∧ w'.cell? ⟨wr.heap.size, 1, none⟩ = some (.string b_) ∧ w'.cell? ⟨wr.heap.size, 2, none⟩ = some (.bool c_) ∧ w'.cell? ⟨wr.heap.size, 3, none⟩ = some (.bool d_) ∧ w'.cell? ⟨wr.heap.size, 4, none⟩ = some (.bool e_) ∧ w'.cell? ⟨wr.heap.size, 5, none⟩ = some (.bool f_) ∧ w'.cell? ⟨wr.heap.size, 6, none⟩ = some (.bool g_) ∧ w'.cell? (ad.add (q * 7)) = some (.string p_) ∧ w'.cell? ⟨(ad.add (q * 7)).block, (ad.add (q * 7)).off + 1, none⟩ = some (.string q_) ∧ w'.cell? ⟨(ad.add (q * 7)).block, (ad.add (q * 7)).off + 2, none⟩ = some (.bool r_) ∧ w'.cell? ⟨(ad.add (q * 7)).block, (ad.add (q * 7)).off + 3, none⟩ = some (.bool s_) ∧ w'.cell? ⟨(ad.add (q * 7)).block, (ad.add (q * 7)).off + 4, none⟩ = some (.bool t_) ∧ w'.cell? ⟨(ad.add (q * 7)).block, (ad.add (q * 7)).off + 5, none⟩ = some (.bool v_) ∧ w'.cell? ⟨(ad.add (q * 7)).block, (ad.add (q * 7)).off + 6, none⟩ = some (.bool x_)) ordje 33 (by kernel_rfl) rgje.siz (by kernel_rfl) ⟨u0, u1, u2, u3, u4, u5, u6, p0, p1, p2, p3, p4, p5, p6⟩ (fun hHeld => ?_)
        iterate 2
          refine Held.tw rgje ?_
          try simp only [Act.put, zA, zB, zC, zD, zE, zF]
        refine Held.only (k := 2) (i := 2) (by kernel_rfl) (by kernel_rfl) rfl (by kernel_rfl) (fun K hK => ?_)
        go_simp
        go_at_call 74
        with_reducible refine (re_ (Is_calls a_ _ (by omega)) (ret_bool HNa_.out)).mono ?_
        rintro e w3 ⟨rfl, hbx⟩
        replace u0 := cell_below hbx u0
        replace u1 := cell_below hbx u1
        replace u2 := cell_below hbx u2
        replace u3 := cell_below hbx u3
        replace u4 := cell_below hbx u4
        replace u5 := cell_below hbx u5
        replace u6 := cell_below hbx u6
        replace p0 := cell_below hbx p0
        replace p1 := cell_below hbx p1
        replace p2 := cell_below hbx p2
        replace p3 := cell_below hbx p3
        replace p4 := cell_below hbx p4
        replace p5 := cell_below hbx p5
        replace p6 := cell_below hbx p6
        replace hbX := hcall hbX hbx
        replace CM := CM.below hbx
        replace D := below_call D hbx
        refine hK.out _ _ (by (try dsimp only); (exact ⟨u0, u1, u2, u3, u4, u5, u6, p0, p1, p2, p3, p4, p5, p6⟩)) (fun hHeld => ?_)
        clear hK K
        try simp only [Act.put, zA, zB, zC, zD, zE, zF]
        iterate 4
          refine Held.tw rgje ?_
          try simp only [Act.put, zA, zB, zC, zD, zE, zF]
        refine Held.only (k := 7) (i := 7) (by kernel_rfl) (by kernel_rfl) rfl (by kernel_rfl) (fun K hK => ?_)
        go_simp
        go_at_call 74
        with_reducible refine (re_ (Is_calls b_ _ (by omega)) (ret_bool HNb_.out)).mono ?_
        rintro e w4 ⟨rfl, hbx⟩
        replace u0 := cell_below hbx u0
        replace u1 := cell_below hbx u1
        replace u2 := cell_below hbx u2
        replace u3 := cell_below hbx u3
        replace u4 := cell_below hbx u4
        replace u5 := cell_below hbx u5
        replace u6 := cell_below hbx u6
        replace p0 := cell_below hbx p0
        replace p1 := cell_below hbx p1
        replace p2 := cell_below hbx p2
        replace p3 := cell_below hbx p3
        replace p4 := cell_below hbx p4
        replace p5 := cell_below hbx p5
        replace p6 := cell_below hbx p6
        replace hbX := hcall hbX hbx
        replace CM := CM.below hbx
        replace D := below_call D hbx
        refine hK.out _ _ (by (try dsimp only); (exact ⟨u0, u1, u2, u3, u4, u5, u6, p0, p1, p2, p3, p4, p5, p6⟩)) (fun hHeld => ?_)
        clear hK K
        try simp only [Act.put, zA, zB, zC, zD, zE, zF]
        iterate 19
          refine Held.tw rgje ?_
          try simp only [Act.put, zA, zB, zC, zD, zE, zF]
        refine Held.only (k := 27) (i := 26) (by kernel_rfl) (by kernel_rfl) rfl (by kernel_rfl) (fun K hK => ?_)
        go_simp
        go_at_call 103
        with_reducible refine (ofK_calls p_ q_ r_ s_ t_ v_ x_ _).mono ?_
        rintro e w5 ⟨rfl, hbx⟩
        replace u0 := cell_below hbx u0
        replace u1 := cell_below hbx u1
        replace u2 := cell_below hbx u2
        replace u3 := cell_below hbx u3
        replace u4 := cell_below hbx u4
        replace u5 := cell_below hbx u5
        replace u6 := cell_below hbx u6
        replace p0 := cell_below hbx p0
        replace p1 := cell_below hbx p1
        replace p2 := cell_below hbx p2
        replace p3 := cell_below hbx p3
        replace p4 := cell_below hbx p4
        replace p5 := cell_below hbx p5
        replace p6 := cell_below hbx p6
        replace hbX := hcall hbX hbx
        replace CM := CM.below hbx
        replace D := below_call D hbx
        refine hK.out _ _ (by (try dsimp only); (exact ⟨u0, u1, u2, u3, u4, u5, u6, p0, p1, p2, p3, p4, p5, p6⟩)) (fun hHeld => ?_)
        clear hK K
        try simp only [Act.put, zA, zB, zC, zD, zE, zF]
        refine Held.only (k := 28) (i := 28) (by kernel_rfl) (by kernel_rfl) rfl (by kernel_rfl) (fun K hK => ?_)
        go_simp
        go_at_call 103
        with_reducible refine (ofK_calls a_ b_ c_ d_ e_ f_ g_ _).mono ?_
        rintro e w6 ⟨rfl, hbx⟩
        replace u0 := cell_below hbx u0
        replace u1 := cell_below hbx u1
        replace u2 := cell_below hbx u2
        replace u3 := cell_below hbx u3
        replace u4 := cell_below hbx u4
        replace u5 := cell_below hbx u5
        replace u6 := cell_below hbx u6
        replace p0 := cell_below hbx p0
        replace p1 := cell_below hbx p1
        replace p2 := cell_below hbx p2
        replace p3 := cell_below hbx p3
        replace p4 := cell_below hbx p4
        replace p5 := cell_below hbx p5
        replace p6 := cell_below hbx p6
        replace hbX := hcall hbX hbx
        replace CM := CM.below hbx
        replace D := below_call D hbx
        refine hK.out _ _ (by (try dsimp only); (exact ⟨u0, u1, u2, u3, u4, u5, u6, p0, p1, p2, p3, p4, p5, p6⟩)) (fun hHeld => ?_)
        clear hK K
        try simp only [Act.put, zA, zB, zC, zD, zE, zF]
        refine Held.only (k := 29) (i := 29) (by kernel_rfl) (by kernel_rfl) rfl (by kernel_rfl) (fun K hK => ?_)
        go_simp
        go_at_call 139
        with_reducible refine (re_ (orderR_calls p_ q_ a_ b_ _) (by rw [HCM.out])).mono ?_
        rintro e w7 ⟨rfl, hbx⟩
        replace u0 := cell_below hbx u0
        replace u1 := cell_below hbx u1
        replace u2 := cell_below hbx u2
        replace u3 := cell_below hbx u3
        replace u4 := cell_below hbx u4
        replace u5 := cell_below hbx u5
        replace u6 := cell_below hbx u6
        replace p0 := cell_below hbx p0
        replace p1 := cell_below hbx p1
        replace p2 := cell_below hbx p2
        replace p3 := cell_below hbx p3
        replace p4 := cell_below hbx p4
        replace p5 := cell_below hbx p5
        replace p6 := cell_below hbx p6
        replace hbX := hcall hbX hbx
        replace CM := CM.below hbx
        replace D := below_call D hbx
        refine hK.out _ _ (by (try dsimp only); (exact ⟨u0, u1, u2, u3, u4, u5, u6, p0, p1, p2, p3, p4, p5, p6⟩)) (fun hHeld => ?_)
        clear hK K
        try simp only [Act.put, zA, zB, zC, zD, zE, zF]
        iterate 3
          refine Held.tw rgje ?_
          try simp only [Act.put, zA, zB, zC, zD, zE, zF]
        refine wpAnyH_done (by kernel_rfl) ?_ _
        clear u0 u1 u2 u3 u4 u5 u6 p0 p1 p2 p3 p4 p5 p6
        clear CM
        go_wp2
        go_ret
        rw [HF.out]
        exact ⟨rfl, D⟩
      | true =>
        have HJ2 : Hid (∀ j (h : j + 1 < l.length), j + 1 < i + 1 → ltRo (keyRo l[j]) (keyRo l[j + 1]) = true) := fun j h hj => by
          rcases Nat.lt_or_ge (j + 1) i with h' | h'
          · exact HJ.out j h h'
          · obtain rfl : j = q := by have := HQI.out; omega
            exact HADJ.out.2
        clear uz
        have hge2 : decide (0 ≤ cm) = false := by simpa using hge
        replace hbX : w2.drew.heap[_]? = _ := hbX
        replace CM : CntMap w2.drew _ _ _ := CM
        replace D : Below _ _ w2.drew := D.drew
        go_wp2_with fail
        refine Held.start (ops := opsjf) (S := fun w' => w'.cell? ⟨wr.heap.size, 0, none⟩ = some (.string a_) ∧ w'.cell? ⟨wr.heap.size, 1, none⟩ = some (.string b_) ∧ w'.cell? ⟨wr.heap.size, 2, none⟩ = some (.bool c_) ∧ w'.cell? ⟨wr.heap.size, 3, none⟩ = some (.bool d_) ∧ w'.cell? ⟨wr.heap.size, 4, none⟩ = some (.bool e_) ∧ w'.cell? ⟨wr.heap.size, 5, none⟩ = some (.bool f_) ∧ w'.cell? ⟨wr.heap.size, 6, none⟩ = some (.bool g_) ∧ w'.cell? (ad.add (q * 7)) = some (.string p_) ∧ w'.cell? ⟨(ad.add (q * 7)).block, (ad.add (q * 7)).off + 1, none⟩ = some (.string q_) ∧ w'.cell? ⟨(ad.add (q * 7)).block, (ad.add (q * 7)).off + 2, none⟩ = some (.bool r_) ∧ w'.cell? ⟨(ad.add (q * 7)).block, (ad.add (q * 7)).off + 3, none⟩ = some (.bool s_) ∧ w'.cell? ⟨(ad.add (q * 7)).block, (ad.add (q * 7)).off + 4, none⟩ = some (.bool t_) ∧ w'.cell? ⟨(ad.add (q * 7)).block, (ad.add (q * 7)).off + 5, none⟩ = some (.bool v_) ∧ w'.cell? ⟨(ad.add (q * 7)).block, (ad.add (q * 7)).off + 6, none⟩ = some (.bool x_)) ordjf 33 (by kernel_rfl) rgjf.siz (by kernel_rfl) ⟨u0, u1, u2, u3, u4, u5, u6, p0, p1, p2, p3, p4, p5, p6⟩ (fun hHeld => ?_)
        iterate 2
          refine Held.tw rgjf ?_
          try simp only [Act.put, zA, zB, zC, zD, zE, zF]
        refine Held.only (k := 2) (i := 2) (by kernel_rfl) (by kernel_rfl) rfl (by kernel_rfl) (fun K hK => ?_)
        go_simp
        go_at_call 74
        with_reducible refine (re_ (Is_calls a_ _ (by omega)) (ret_bool HNa_.out)).mono ?_
        rintro e w3 ⟨rfl, hbx⟩
        replace u0 := cell_below hbx u0
        replace u1 := cell_below hbx u1
        replace u2 := cell_below hbx u2
        replace u3 := cell_below hbx u3
        replace u4 := cell_below hbx u4
        replace u5 := cell_below hbx u5
        replace u6 := cell_below hbx u6
        replace p0 := cell_below hbx p0
        replace p1 := cell_below hbx p1
        replace p2 := cell_below hbx p2
        replace p3 := cell_below hbx p3
        replace p4 := cell_below hbx p4
        replace p5 := cell_below hbx p5
        replace p6 := cell_below hbx p6
        replace hbX := hcall hbX hbx
        replace CM := CM.below hbx
        replace D := below_call D hbx
        refine hK.out _ _ (by (try dsimp only); (exact ⟨u0, u1, u2, u3, u4, u5, u6, p0, p1, p2, p3, p4, p5, p6⟩)) (fun hHeld => ?_)
        clear hK K
        try simp only [Act.put, zA, zB, zC, zD, zE, zF]
        iterate 4
          refine Held.tw rgjf ?_
          try simp only [Act.put, zA, zB, zC, zD, zE, zF]
        refine Held.only (k := 7) (i := 7) (by kernel_rfl) (by kernel_rfl) rfl (by kernel_rfl) (fun K hK => ?_)
        go_simp
        go_at_call 74
        with_reducible refine (re_ (Is_calls b_ _ (by omega)) (ret_bool HNb_.out)).mono ?_
        rintro e w4 ⟨rfl, hbx⟩
        replace u0 := cell_below hbx u0
        replace u1 := cell_below hbx u1
        replace u2 := cell_below hbx u2
        replace u3 := cell_below hbx u3
        replace u4 := cell_below hbx u4
        replace u5 := cell_below hbx u5
        replace u6 := cell_below hbx u6
        replace p0 := cell_below hbx p0
        replace p1 := cell_below hbx p1
        replace p2 := cell_below hbx p2
        replace p3 := cell_below hbx p3
        replace p4 := cell_below hbx p4
        replace p5 := cell_below hbx p5
        replace p6 := cell_below hbx p6
        replace hbX := hcall hbX hbx
        replace CM := CM.below hbx
        replace D := below_call D hbx
        refine hK.out _ _ (by (try dsimp only); (exact ⟨u0, u1, u2, u3, u4, u5, u6, p0, p1, p2, p3, p4, p5, p6⟩)) (fun hHeld => ?_)
        clear hK K
        try simp only [Act.put, zA, zB, zC, zD, zE, zF]
        iterate 19
          refine Held.tw rgjf ?_
          try simp only [Act.put, zA, zB, zC, zD, zE, zF]
        refine Held.only (k := 27) (i := 26) (by kernel_rfl) (by kernel_rfl) rfl (by kernel_rfl) (fun K hK => ?_)
        go_simp
        go_at_call 103
        with_reducible refine (ofK_calls p_ q_ r_ s_ t_ v_ x_ _).mono ?_
        rintro e w5 ⟨rfl, hbx⟩
        replace u0 := cell_below hbx u0
        replace u1 := cell_below hbx u1
        replace u2 := cell_below hbx u2
        replace u3 := cell_below hbx u3
        replace u4 := cell_below hbx u4
        replace u5 := cell_below hbx u5
        replace u6 := cell_below hbx u6
        replace p0 := cell_below hbx p0
        replace p1 := cell_below hbx p1
        replace p2 := cell_below hbx p2
        replace p3 := cell_below hbx p3
        replace p4 := cell_below hbx p4
        replace p5 := cell_below hbx p5
        replace p6 := cell_below hbx p6
        replace hbX := hcall hbX hbx
        replace CM := CM.below hbx
        replace D := below_call D hbx
        refine hK.out _ _ (by (try dsimp only); (exact ⟨u0, u1, u2, u3, u4, u5, u6, p0, p1, p2, p3, p4, p5, p6⟩)) (fun hHeld => ?_)
        clear hK K
        try simp only [Act.put, zA, zB, zC, zD, zE, zF]
        refine Held.only (k := 28) (i := 28) (by kernel_rfl) (by kernel_rfl) rfl (by kernel_rfl) (fun K hK => ?_)
        go_simp
        go_at_call 103
        with_reducible refine (ofK_calls a_ b_ c_ d_ e_ f_ g_ _).mono ?_
        rintro e w6 ⟨rfl, hbx⟩
        replace u0 := cell_below hbx u0
        replace u1 := cell_below hbx u1
        replace u2 := cell_below hbx u2
        replace u3 := cell_below hbx u3
        replace u4 := cell_below hbx u4
        replace u5 := cell_below hbx u5
        replace u6 := cell_below hbx u6
        replace p0 := cell_below hbx p0
        replace p1 := cell_below hbx p1
        replace p2 := cell_below hbx p2
        replace p3 := cell_below hbx p3
        replace p4 := cell_below hbx p4
        replace p5 := cell_below hbx p5
        replace p6 := cell_below hbx p6
        replace hbX := hcall hbX hbx
        replace CM := CM.below hbx
        replace D := below_call D hbx
        refine hK.out _ _ (by (try dsimp only); (exact ⟨u0, u1, u2, u3, u4, u5, u6, p0, p1, p2, p3, p4, p5, p6⟩)) (fun hHeld => ?_)
        clear hK K
        try simp only [Act.put, zA, zB, zC, zD, zE, zF]
        refine Held.only (k := 29) (i := 29) (by kernel_rfl) (by kernel_rfl) rfl (by kernel_rfl) (fun K hK => ?_)
        go_simp
        go_at_call 139
        with_reducible refine (re_ (orderR_calls p_ q_ a_ b_ _) (by rw [HCM.out])).mono ?_
        rintro e w7 ⟨rfl, hbx⟩
        replace u0 := cell_below hbx u0
        replace u1 := cell_below hbx u1
        replace u2 := cell_below hbx u2
        replace u3 := cell_below hbx u3
        replace u4 := cell_below hbx u4
        replace u5 := cell_below hbx u5
        replace u6 := cell_below hbx u6
        replace p0 := cell_below hbx p0
        replace p1 := cell_below hbx p1
        replace p2 := cell_below hbx p2
        replace p3 := cell_below hbx p3
        replace p4 := cell_below hbx p4
        replace p5 := cell_below hbx p5
        replace p6 := cell_below hbx p6
        replace hbX := hcall hbX hbx
        replace CM := CM.below hbx
        replace D := below_call D hbx
        refine hK.out _ _ (by (try dsimp only); (exact ⟨u0, u1, u2, u3, u4, u5, u6, p0, p1, p2, p3, p4, p5, p6⟩)) (fun hHeld => ?_)
        clear hK K
        try simp only [Act.put, zA, zB, zC, zD, zE, zF]
        iterate 3
          refine Held.tw rgjf ?_
          try simp only [Act.put, zA, zB, zC, zD, zE, zF]
        refine wpAnyH_done (by kernel_rfl) ?_ _
        clear u0 u1 u2 u3 u4 u5 u6 p0 p1 p2 p3 p4 p5 p6
        obtain ⟨u0, u1, u2, u3, u4, u5, u6, uz⟩ := cellsEn a_ b_ c_ d_ e_ f_ g_ hbX
        have HFD' := fun (W : World) (h : Row enEn 7 W (.slice (some ad) n c) l) => findRo_calls n c (some ad) l b_ a_ W h
        cases hp : placeRo l b_ a_ with
        | none =>
          have HNH := (getRo_no l b_ a_ (place_none hp)).2
          have HF : Hid (r = false) := by
            show _ = _
            rw [← HR.out]
            exact mayRo_no_cond i hil (by rw [HCD.out, HNH]; simp)
          rw [hp] at HFD'
          have HFD := Lib.hid (show ∀ (W : World), Row enEn 7 W (.slice (some ad) n c) l → Calls Tryz.prog 97 #[.slice (some ad) n c, agKr b_ a_] W fun e w' => e = .returned (.tuple #[.int .i64 0, .bool false]) ∧ Below W.heap.size W w' from HFD')
          clear HFD' hp HNH
          go_wp2_with fail
          with_reducible refine (HFD.out _ (hl.below D)).mono ?_
          rintro e w8 ⟨rfl, b8⟩
          replace hbX := hcall hbX b8
          replace CM := CM.below b8
          replace D := below_call D b8
          clear b8 u0 u1 u2 u3 u4 u5 u6 uz
          clear HFD
          obtain ⟨u0, u1, u2, u3, u4, u5, u6, uz⟩ := cellsEn a_ b_ c_ d_ e_ f_ g_ hbX
          clear uz
          replace hbX : w8.drew.heap[_]? = _ := hbX
          replace CM : CntMap w8.drew _ _ _ := CM
          replace D : Below _ _ w8.drew := D.drew
          go_wp2_with fail
          refine Held.start (ops := opsj0q) (S := fun w' => w'.cell? ⟨wr.heap.size, 0, none⟩ = some (.string a_) ∧ w'.cell? ⟨wr.heap.size, 1, none⟩ = some (.string b_) ∧ w'.cell? ⟨wr.heap.size, 2, none⟩ = some (.bool c_) ∧ w'.cell? ⟨wr.heap.size, 3, none⟩ = some (.bool d_) ∧ w'.cell? ⟨wr.heap.size, 4, none⟩ = some (.bool e_) ∧ w'.cell? ⟨wr.heap.size, 5, none⟩ = some (.bool f_) ∧ w'.cell? ⟨wr.heap.size, 6, none⟩ = some (.bool g_)) ordj0q 26 (by kernel_rfl) rgj0q.siz (by kernel_rfl) ⟨u0, u1, u2, u3, u4, u5, u6⟩ (fun hHeld => ?_)
          iterate 3
            refine Held.tw rgj0q ?_
            try simp only [Act.put, zA, zB, zC, zD, zE, zF]
          iterate 9
            refine Held.tu rgj0q ?_
            try simp only [Act.put, zA, zB, zC, zD, zE, zF]
          iterate 2
            refine Held.tw rgj0q ?_
            try simp only [Act.put, zA, zB, zC, zD, zE, zF]
          iterate 11
            refine Held.tu rgj0q ?_
            try simp only [Act.put, zA, zB, zC, zD, zE, zF]
          iterate 1
            refine Held.tw rgj0q ?_
            try simp only [Act.put, zA, zB, zC, zD, zE, zF]
          refine wpAnyH_done (by kernel_rfl) ?_ _
          clear u0 u1 u2 u3 u4 u5 u6
          clear CM
          go_wp2
          go_ret
          rw [HF.out]
          exact ⟨rfl, D⟩
        | some k2 =>
          obtain ⟨hkl, hkk, hk4⟩ := place_some hp
          obtain ⟨⟨a', b', c', d', e', f', g'⟩, he'⟩ : ∃ e, l[k2] = e := ⟨_, rfl⟩
          obtain ⟨hg1, hg2⟩ := getRo_at l b_ a_ k2 hkl hk4 hkk
          rw [he'] at hg1
          simp only at hg1
          rw [hp] at HFD'
          have HFD := Lib.hid (show ∀ (W : World), Row enEn 7 W (.slice (some ad) n c) l → Calls Tryz.prog 97 #[.slice (some ad) n c, agKr b_ a_] W fun e w' => e = .returned (.tuple #[.int .i64 k2, .bool true]) ∧ Below W.heap.size W w' from fun W h => by
            have := HFD' W h
            rwa [show maxI (idxI (some k2)) = (k2 : Int) from by unfold maxI idxI; simp, show decide (0 ≤ idxI (some k2)) = true from by unfold idxI; simp] at this)
          have hcd := HCD.out
          rw [hg1, hg2, HNa_.out, HNb_.out, decide_eq_false HAB.out] at hcd
          simp only [Bool.true_and, Bool.not_false] at hcd
          have HCE := Lib.hid hcd
          have HE2 := Lib.hid he'
          have x5 : (0 : Int) ≤ (k2 : Int) := by omega
          have x6 : (k2 : Int) < (n : Int) := by have := EA.out; omega
          obtain ⟨ft, hft⟩ : ∃ b, fitI ⟨c_, d_, e_, f_, g_⟩ ⟨c', d', e', f', g'⟩ = b := ⟨_, rfl⟩
          obtain ⟨m1, hm1⟩ : ∃ b, emptyI ⟨c_, d_, e_, f_, g_⟩ = b := ⟨_, rfl⟩
          obtain ⟨m2, hm2⟩ : ∃ b, emptyI ⟨c', d', e', f', g'⟩ = b := ⟨_, rfl⟩
          have HFT := Lib.hid hft
          have HM1 := Lib.hid hm1
          have HM2 := Lib.hid hm2
          clear HFD' hp hkk hk4 he' hg1 hg2 hcd hft hm1 hm2
          go_wp2_with fail
          with_reducible refine (HFD.out _ (hl.below D)).mono ?_
          rintro e w8 ⟨rfl, b8⟩
          replace hbX := hcall hbX b8
          replace CM := CM.below b8
          replace D := below_call D b8
          clear b8 u0 u1 u2 u3 u4 u5 u6 uz
          clear HFD
          obtain ⟨u0, u1, u2, u3, u4, u5, u6, uz⟩ := cellsEn a_ b_ c_ d_ e_ f_ g_ hbX
          obtain ⟨k0, k1, k2_, k3, k4, k5, k6⟩ := rowsEn (hl.below D) k2 hkl a' b' c' d' e' f' g' HE2.out
          cases ft with
          | false =>
            have HF : Hid (r = false) := by
              show _ = _
              rw [← HR.out]
              exact mayRo_no_cond i hil (by rw [HCE.out, HFT.out]; rfl)
            clear uz
            replace hbX : w8.drew.heap[_]? = _ := hbX
            replace CM : CntMap w8.drew _ _ _ := CM
            replace D : Below _ _ w8.drew := D.drew
            go_wp2_with fail
            refine Held.start (ops := opsj1q) (S := fun w' => w'.cell? ⟨wr.heap.size, 0, none⟩ = some (.string a_) ∧ w'.cell? ⟨wr.heap.size, 1, none⟩ = some (.string b_) ∧ w'.cell? ⟨wr.heap.size, 2, none⟩ = some (.bool c_) ∧ w'.cell? ⟨wr.heap.size, 3, none⟩ = some (.bool d_) ∧ w'.cell? ⟨wr.heap.size, 4, none⟩ = some (.bool e_) ∧ w'.cell? ⟨wr.heap.size, 5, none⟩ = some (.bool f_) ∧ w'.cell? ⟨wr.heap.size, 6, none⟩ = some (.bool g_) ∧ w'.cell? (ad.add (k2 * 7)) = some (.string a') ∧ w'.cell? ⟨(ad.add (k2 * 7)).block, (ad.add (k2 * 7)).off + 1, none⟩ = some (.string b') ∧ w'.cell? ⟨(ad.add (k2 * 7)).block, (ad.add (k2 * 7)).off + 2, none⟩ = some (.bool c') ∧ w'.cell? ⟨(ad.add (k2 * 7)).block, (ad.add (k2 * 7)).off + 3, none⟩ = some (.bool d') ∧ w'.cell? ⟨(ad.add (k2 * 7)).block, (ad.add (k2 * 7)).off + 4, none⟩ = some (.bool e') ∧ w'.cell? ⟨(ad.add (k2 * 7)).block, (ad.add (k2 * 7)).off + 5, none⟩ = some (.bool f') ∧ w'.cell? ⟨(ad.add (k2 * 7)).block, (ad.add (k2 * 7)).off + 6, none⟩ = some (.bool g')) ordj1q 26 (by kernel_rfl) rgj1q.siz (by kernel_rfl) ⟨u0, u1, u2, u3, u4, u5, u6, k0, k1, k2_, k3, k4, k5, k6⟩ (fun hHeld => ?_)
            iterate 10
              refine Held.tw rgj1q ?_
              try simp only [Act.put, zA, zB, zC, zD, zE, zF]
            refine Held.only (k := 10) (i := 10) (by kernel_rfl) (by kernel_rfl) rfl (by kernel_rfl) (fun K hK => ?_)
            go_simp
            go_at_call 140
            with_reducible refine (re_ (MayI_calls c_ d_ e_ f_ g_ c' d' e' f' g' _) (ret_bool HFT.out)).mono ?_
            rintro e w9 ⟨rfl, hbx⟩
            replace u0 := cell_below hbx u0
            replace u1 := cell_below hbx u1
            replace u2 := cell_below hbx u2
            replace u3 := cell_below hbx u3
            replace u4 := cell_below hbx u4
            replace u5 := cell_below hbx u5
            replace u6 := cell_below hbx u6
            replace k0 := cell_below hbx k0
            replace k1 := cell_below hbx k1
            replace k2_ := cell_below hbx k2_
            replace k3 := cell_below hbx k3
            replace k4 := cell_below hbx k4
            replace k5 := cell_below hbx k5
            replace k6 := cell_below hbx k6
            replace hbX := hcall hbX hbx
            replace CM := CM.below hbx
            replace D := below_call D hbx
            refine hK.out _ _ (by (try dsimp only); (exact ⟨u0, u1, u2, u3, u4, u5, u6, k0, k1, k2_, k3, k4, k5, k6⟩)) (fun hHeld => ?_)
            clear hK K
            try simp only [Act.put, zA, zB, zC, zD, zE, zF]
            iterate 3
              refine Held.tw rgj1q ?_
              try simp only [Act.put, zA, zB, zC, zD, zE, zF]
            iterate 11
              refine Held.tu rgj1q ?_
              try simp only [Act.put, zA, zB, zC, zD, zE, zF]
            iterate 1
              refine Held.tw rgj1q ?_
              try simp only [Act.put, zA, zB, zC, zD, zE, zF]
            refine wpAnyH_done (by kernel_rfl) ?_ _
            clear u0 u1 u2 u3 u4 u5 u6 k0 k1 k2_ k3 k4 k5 k6
            clear CM
            go_wp2
            go_ret
            rw [HF.out]
            exact ⟨rfl, D⟩
          | true =>
            cases m1 with
            | false =>
              clear uz
              replace hbX : w8.drew.heap[_]? = _ := hbX
              replace CM : CntMap w8.drew _ _ _ := CM
              replace D : Below _ _ w8.drew := D.drew
              go_wp2_with fail
              refine Held.start (ops := opsj2q) (S := fun w' => w'.cell? ⟨wr.heap.size, 0, none⟩ = some (.string a_) ∧ w'.cell? ⟨wr.heap.size, 1, none⟩ = some (.string b_) ∧ w'.cell? ⟨wr.heap.size, 2, none⟩ = some (.bool c_) ∧ w'.cell? ⟨wr.heap.size, 3, none⟩ = some (.bool d_) ∧ w'.cell? ⟨wr.heap.size, 4, none⟩ = some (.bool e_) ∧ w'.cell? ⟨wr.heap.size, 5, none⟩ = some (.bool f_) ∧ w'.cell? ⟨wr.heap.size, 6, none⟩ = some (.bool g_) ∧ w'.cell? (ad.add (k2 * 7)) = some (.string a') ∧ w'.cell? ⟨(ad.add (k2 * 7)).block, (ad.add (k2 * 7)).off + 1, none⟩ = some (.string b') ∧ w'.cell? ⟨(ad.add (k2 * 7)).block, (ad.add (k2 * 7)).off + 2, none⟩ = some (.bool c') ∧ w'.cell? ⟨(ad.add (k2 * 7)).block, (ad.add (k2 * 7)).off + 3, none⟩ = some (.bool d') ∧ w'.cell? ⟨(ad.add (k2 * 7)).block, (ad.add (k2 * 7)).off + 4, none⟩ = some (.bool e') ∧ w'.cell? ⟨(ad.add (k2 * 7)).block, (ad.add (k2 * 7)).off + 5, none⟩ = some (.bool f') ∧ w'.cell? ⟨(ad.add (k2 * 7)).block, (ad.add (k2 * 7)).off + 6, none⟩ = some (.bool g')) ordj2q 26 (by kernel_rfl) rgj2q.siz (by kernel_rfl) ⟨u0, u1, u2, u3, u4, u5, u6, k0, k1, k2_, k3, k4, k5, k6⟩ (fun hHeld => ?_)
              iterate 10
                refine Held.tw rgj2q ?_
                try simp only [Act.put, zA, zB, zC, zD, zE, zF]
              refine Held.only (k := 10) (i := 10) (by kernel_rfl) (by kernel_rfl) rfl (by kernel_rfl) (fun K hK => ?_)
              go_simp
              go_at_call 140
              with_reducible refine (re_ (MayI_calls c_ d_ e_ f_ g_ c' d' e' f' g' _) (ret_bool HFT.out)).mono ?_
              rintro e w9 ⟨rfl, hbx⟩
              replace u0 := cell_below hbx u0
              replace u1 := cell_below hbx u1
              replace u2 := cell_below hbx u2
              replace u3 := cell_below hbx u3
              replace u4 := cell_below hbx u4
              replace u5 := cell_below hbx u5
              replace u6 := cell_below hbx u6
              replace k0 := cell_below hbx k0
              replace k1 := cell_below hbx k1
              replace k2_ := cell_below hbx k2_
              replace k3 := cell_below hbx k3
              replace k4 := cell_below hbx k4
              replace k5 := cell_below hbx k5
              replace k6 := cell_below hbx k6
              replace hbX := hcall hbX hbx
              replace CM := CM.below hbx
              replace D := below_call D hbx
              refine hK.out _ _ (by (try dsimp only); (exact ⟨u0, u1, u2, u3, u4, u5, u6, k0, k1, k2_, k3, k4, k5, k6⟩)) (fun hHeld => ?_)
              clear hK K
              try simp only [Act.put, zA, zB, zC, zD, zE, zF]
              iterate 5
                refine Held.tw rgj2q ?_
                try simp only [Act.put, zA, zB, zC, zD, zE, zF]
              refine Held.only (k := 16) (i := 16) (by kernel_rfl) (by kernel_rfl) rfl (by kernel_rfl) (fun K hK => ?_)
              go_simp
              go_at_call 100
              with_reducible refine (re_ (EmptyI_calls c_ d_ e_ f_ g_ _) (ret_bool HM1.out)).mono ?_
              rintro e w10 ⟨rfl, hbx⟩
              replace u0 := cell_below hbx u0
              replace u1 := cell_below hbx u1
              replace u2 := cell_below hbx u2
              replace u3 := cell_below hbx u3
              replace u4 := cell_below hbx u4
              replace u5 := cell_below hbx u5
              replace u6 := cell_below hbx u6
              replace k0 := cell_below hbx k0
              replace k1 := cell_below hbx k1
              replace k2_ := cell_below hbx k2_
              replace k3 := cell_below hbx k3
              replace k4 := cell_below hbx k4
              replace k5 := cell_below hbx k5
              replace k6 := cell_below hbx k6
              replace hbX := hcall hbX hbx
              replace CM := CM.below hbx
              replace D := below_call D hbx
              refine hK.out _ _ (by (try dsimp only); (exact ⟨u0, u1, u2, u3, u4, u5, u6, k0, k1, k2_, k3, k4, k5, k6⟩)) (fun hHeld => ?_)
              clear hK K
              try simp only [Act.put, zA, zB, zC, zD, zE, zF]
              iterate 1
                refine Held.tw rgj2q ?_
                try simp only [Act.put, zA, zB, zC, zD, zE, zF]
              iterate 6
                refine Held.tu rgj2q ?_
                try simp only [Act.put, zA, zB, zC, zD, zE, zF]
              iterate 2
                refine Held.tw rgj2q ?_
                try simp only [Act.put, zA, zB, zC, zD, zE, zF]
              refine wpAnyH_done (by kernel_rfl) ?_ _
              clear u0 u1 u2 u3 u4 u5 u6 k0 k1 k2_ k3 k4 k5 k6
              have HK2 : Hid (∀ j (h : j < l.length), j < i + 1 → condRo l l[j] = true) := fun j h hj => by
                rcases Nat.lt_or_ge j i with h' | h'
                · exact HK.out j h h'
                · obtain rfl : j = i := by omega
                  rw [HCE.out, HFT.out, HM1.out]; first | rfl | (rw [HM2.out]; rfl)
              go_wp2
              exact ⟨⟨i + 1, by go_num, by omega, CM, D, HC2, HK2, HJ2⟩, by simp [intOf]; omega⟩
            | true =>
              cases m2 with
              | false =>
                clear uz
                replace hbX : w8.drew.heap[_]? = _ := hbX
                replace CM : CntMap w8.drew _ _ _ := CM
                replace D : Below _ _ w8.drew := D.drew
                go_wp2_with fail
                refine Held.start (ops := opsj3q) (S := fun w' => w'.cell? ⟨wr.heap.size, 0, none⟩ = some (.string a_) ∧ w'.cell? ⟨wr.heap.size, 1, none⟩ = some (.string b_) ∧ w'.cell? ⟨wr.heap.size, 2, none⟩ = some (.bool c_) ∧ w'.cell? ⟨wr.heap.size, 3, none⟩ = some (.bool d_) ∧ w'.cell? ⟨wr.heap.size, 4, none⟩ = some (.bool e_) ∧ w'.cell? ⟨wr.heap.size, 5, none⟩ = some (.bool f_) ∧ w'.cell? ⟨wr.heap.size, 6, none⟩ = some (.bool g_) ∧ w'.cell? (ad.add (k2 * 7)) = some (.string a') ∧ w'.cell? ⟨(ad.add (k2 * 7)).block, (ad.add (k2 * 7)).off + 1, none⟩ = some (.string b') ∧ w'.cell? ⟨(ad.add (k2 * 7)).block, (ad.add (k2 * 7)).off + 2, none⟩ = some (.bool c') ∧ w'.cell? ⟨(ad.add (k2 * 7)).block, (ad.add (k2 * 7)).off + 3, none⟩ = some (.bool d') ∧ w'.cell? ⟨(ad.add (k2 * 7)).block, (ad.add (k2 * 7)).off + 4, none⟩ = some (.bool e') ∧ w'.cell? ⟨(ad.add (k2 * 7)).block, (ad.add (k2 * 7)).off + 5, none⟩ = some (.bool f') ∧ w'.cell? ⟨(ad.add (k2 * 7)).block, (ad.add (k2 * 7)).off + 6, none⟩ = some (.bool g')) ordj3q 26 (by kernel_rfl) rgj3q.siz (by kernel_rfl) ⟨u0, u1, u2, u3, u4, u5, u6, k0, k1, k2_, k3, k4, k5, k6⟩ (fun hHeld => ?_)
                iterate 10
                  refine Held.tw rgj3q ?_
                  try simp only [Act.put, zA, zB, zC, zD, zE, zF]
                refine Held.only (k := 10) (i := 10) (by kernel_rfl) (by kernel_rfl) rfl (by kernel_rfl) (fun K hK => ?_)
                go_simp
                go_at_call 140
                with_reducible refine (re_ (MayI_calls c_ d_ e_ f_ g_ c' d' e' f' g' _) (ret_bool HFT.out)).mono ?_
                rintro e w9 ⟨rfl, hbx⟩
                replace u0 := cell_below hbx u0
                replace u1 := cell_below hbx u1
                replace u2 := cell_below hbx u2
                replace u3 := cell_below hbx u3
                replace u4 := cell_below hbx u4
                replace u5 := cell_below hbx u5
                replace u6 := cell_below hbx u6
                replace k0 := cell_below hbx k0
                replace k1 := cell_below hbx k1
                replace k2_ := cell_below hbx k2_
                replace k3 := cell_below hbx k3
                replace k4 := cell_below hbx k4
                replace k5 := cell_below hbx k5
                replace k6 := cell_below hbx k6
                replace hbX := hcall hbX hbx
                replace CM := CM.below hbx
                replace D := below_call D hbx
                refine hK.out _ _ (by (try dsimp only); (exact ⟨u0, u1, u2, u3, u4, u5, u6, k0, k1, k2_, k3, k4, k5, k6⟩)) (fun hHeld => ?_)
                clear hK K
                try simp only [Act.put, zA, zB, zC, zD, zE, zF]
                iterate 5
                  refine Held.tw rgj3q ?_
                  try simp only [Act.put, zA, zB, zC, zD, zE, zF]
                refine Held.only (k := 16) (i := 16) (by kernel_rfl) (by kernel_rfl) rfl (by kernel_rfl) (fun K hK => ?_)
                go_simp
                go_at_call 100
                with_reducible refine (re_ (EmptyI_calls c_ d_ e_ f_ g_ _) (ret_bool HM1.out)).mono ?_
                rintro e w10 ⟨rfl, hbx⟩
                replace u0 := cell_below hbx u0
                replace u1 := cell_below hbx u1
                replace u2 := cell_below hbx u2
                replace u3 := cell_below hbx u3
                replace u4 := cell_below hbx u4
                replace u5 := cell_below hbx u5
                replace u6 := cell_below hbx u6
                replace k0 := cell_below hbx k0
                replace k1 := cell_below hbx k1
                replace k2_ := cell_below hbx k2_
                replace k3 := cell_below hbx k3
                replace k4 := cell_below hbx k4
                replace k5 := cell_below hbx k5
                replace k6 := cell_below hbx k6
                replace hbX := hcall hbX hbx
                replace CM := CM.below hbx
                replace D := below_call D hbx
                refine hK.out _ _ (by (try dsimp only); (exact ⟨u0, u1, u2, u3, u4, u5, u6, k0, k1, k2_, k3, k4, k5, k6⟩)) (fun hHeld => ?_)
                clear hK K
                try simp only [Act.put, zA, zB, zC, zD, zE, zF]
                iterate 6
                  refine Held.tw rgj3q ?_
                  try simp only [Act.put, zA, zB, zC, zD, zE, zF]
                refine Held.only (k := 23) (i := 23) (by kernel_rfl) (by kernel_rfl) rfl (by kernel_rfl) (fun K hK => ?_)
                go_simp
                go_at_call 100
                with_reducible refine (re_ (EmptyI_calls c' d' e' f' g' _) (ret_bool HM2.out)).mono ?_
                rintro e w11 ⟨rfl, hbx⟩
                replace u0 := cell_below hbx u0
                replace u1 := cell_below hbx u1
                replace u2 := cell_below hbx u2
                replace u3 := cell_below hbx u3
                replace u4 := cell_below hbx u4
                replace u5 := cell_below hbx u5
                replace u6 := cell_below hbx u6
                replace k0 := cell_below hbx k0
                replace k1 := cell_below hbx k1
                replace k2_ := cell_below hbx k2_
                replace k3 := cell_below hbx k3
                replace k4 := cell_below hbx k4
                replace k5 := cell_below hbx k5
                replace k6 := cell_below hbx k6
                replace hbX := hcall hbX hbx
                replace CM := CM.below hbx
                replace D := below_call D hbx
                refine hK.out _ _ (by (try dsimp only); (exact ⟨u0, u1, u2, u3, u4, u5, u6, k0, k1, k2_, k3, k4, k5, k6⟩)) (fun hHeld => ?_)
                clear hK K
                try simp only [Act.put, zA, zB, zC, zD, zE, zF]
                iterate 2
                  refine Held.tw rgj3q ?_
                  try simp only [Act.put, zA, zB, zC, zD, zE, zF]
                refine wpAnyH_done (by kernel_rfl) ?_ _
                clear u0 u1 u2 u3 u4 u5 u6 k0 k1 k2_ k3 k4 k5 k6
                have HK2 : Hid (∀ j (h : j < l.length), j < i + 1 → condRo l l[j] = true) := fun j h hj => by
                  rcases Nat.lt_or_ge j i with h' | h'
                  · exact HK.out j h h'
                  · obtain rfl : j = i := by omega
                    rw [HCE.out, HFT.out, HM1.out]; first | rfl | (rw [HM2.out]; rfl)
                go_wp2
                exact ⟨⟨i + 1, by go_num, by omega, CM, D, HC2, HK2, HJ2⟩, by simp [intOf]; omega⟩
              | true =>
                have HF : Hid (r = false) := by
                  show _ = _
                  rw [← HR.out]
                  exact mayRo_no_cond i hil (by rw [HCE.out, HFT.out, HM1.out, HM2.out]; rfl)
                clear uz
                replace hbX : w8.drew.heap[_]? = _ := hbX
                replace CM : CntMap w8.drew _ _ _ := CM
                replace D : Below _ _ w8.drew := D.drew
                go_wp2_with fail
                refine Held.start (ops := opsj4q) (S := fun w' => w'.cell? ⟨wr.heap.size, 0, none⟩ = some (.string a_) ∧ w'.cell? ⟨wr.heap.size, 1, none⟩ = some (.string b_) ∧ w'.cell? ⟨wr.heap.size, 2, none⟩ = some (.bool c_) ∧ w'.cell? ⟨wr.heap.size, 3, none⟩ = some (.bool d_) ∧ w'.cell? ⟨wr.heap.size, 4, none⟩ = some (.bool e_) ∧ w'.cell? ⟨wr.heap.size, 5, none⟩ = some (.bool f_) ∧ w'.cell? ⟨wr.heap.size, 6, none⟩ = some (.bool g_) ∧ w'.cell? (ad.add (k2 * 7)) = some (.string a') ∧ w'.cell? ⟨(ad.add (k2 * 7)).block, (ad.add (k2 * 7)).off + 1, none⟩ = some (.string b') ∧ w'.cell? ⟨(ad.add (k2 * 7)).block, (ad.add (k2 * 7)).off + 2, none⟩ = some (.bool c') ∧ w'.cell? ⟨(ad.add (k2 * 7)).block, (ad.add (k2 * 7)).off + 3, none⟩ = some (.bool d') ∧ w'.cell? ⟨(ad.add (k2 * 7)).block, (ad.add (k2 * 7)).off + 4, none⟩ = some (.bool e') ∧ w'.cell? ⟨(ad.add (k2 * 7)).block, (ad.add (k2 * 7)).off + 5, none⟩ = some (.bool f') ∧ w'.cell? ⟨(ad.add (k2 * 7)).block, (ad.add (k2 * 7)).off + 6, none⟩ = some (.bool g')) ordj4q 26 (by kernel_rfl) rgj4q.siz (by kernel_rfl) ⟨u0, u1, u2, u3, u4, u5, u6, k0, k1, k2_, k3, k4, k5, k6⟩ (fun hHeld => ?_)
                iterate 10
                  refine Held.tw rgj4q ?_
                  try simp only [Act.put, zA, zB, zC, zD, zE, zF]
                refine Held.only (k := 10) (i := 10) (by kernel_rfl) (by kernel_rfl) rfl (by kernel_rfl) (fun K hK => ?_)
                go_simp
                go_at_call 140
                with_reducible refine (re_ (MayI_calls c_ d_ e_ f_ g_ c' d' e' f' g' _) (ret_bool HFT.out)).mono ?_
                rintro e w9 ⟨rfl, hbx⟩
                replace u0 := cell_below hbx u0
                replace u1 := cell_below hbx u1
                replace u2 := cell_below hbx u2
                replace u3 := cell_below hbx u3
                replace u4 := cell_below hbx u4
                replace u5 := cell_below hbx u5
                replace u6 := cell_below hbx u6
                replace k0 := cell_below hbx k0
                replace k1 := cell_below hbx k1
                replace k2_ := cell_below hbx k2_
                replace k3 := cell_below hbx k3
                replace k4 := cell_below hbx k4
                replace k5 := cell_below hbx k5
                replace k6 := cell_below hbx k6
                replace hbX := hcall hbX hbx
                replace CM := CM.below hbx
                replace D := below_call D hbx
                refine hK.out _ _ (by (try dsimp only); (exact ⟨u0, u1, u2, u3, u4, u5, u6, k0, k1, k2_, k3, k4, k5, k6⟩)) (fun hHeld => ?_)
                clear hK K
                try simp only [Act.put, zA, zB, zC, zD, zE, zF]
                iterate 5
                  refine Held.tw rgj4q ?_
                  try simp only [Act.put, zA, zB, zC, zD, zE, zF]
                refine Held.only (k := 16) (i := 16) (by kernel_rfl) (by kernel_rfl) rfl (by kernel_rfl) (fun K hK => ?_)
                go_simp
                go_at_call 100
                with_reducible refine (re_ (EmptyI_calls c_ d_ e_ f_ g_ _) (ret_bool HM1.out)).mono ?_
                rintro e w10 ⟨rfl, hbx⟩
                replace u0 := cell_below hbx u0
                replace u1 := cell_below hbx u1
                replace u2 := cell_below hbx u2
                replace u3 := cell_below hbx u3
                replace u4 := cell_below hbx u4
                replace u5 := cell_below hbx u5
                replace u6 := cell_below hbx u6
                replace k0 := cell_below hbx k0
                replace k1 := cell_below hbx k1
                replace k2_ := cell_below hbx k2_
                replace k3 := cell_below hbx k3
                replace k4 := cell_below hbx k4
                replace k5 := cell_below hbx k5
                replace k6 := cell_below hbx k6
                replace hbX := hcall hbX hbx
                replace CM := CM.below hbx
                replace D := below_call D hbx
                refine hK.out _ _ (by (try dsimp only); (exact ⟨u0, u1, u2, u3, u4, u5, u6, k0, k1, k2_, k3, k4, k5, k6⟩)) (fun hHeld => ?_)
                clear hK K
                try simp only [Act.put, zA, zB, zC, zD, zE, zF]
                iterate 6
                  refine Held.tw rgj4q ?_
                  try simp only [Act.put, zA, zB, zC, zD, zE, zF]
                refine Held.only (k := 23) (i := 23) (by kernel_rfl) (by kernel_rfl) rfl (by kernel_rfl) (fun K hK => ?_)
                go_simp
                go_at_call 100
                with_reducible refine (re_ (EmptyI_calls c' d' e' f' g' _) (ret_bool HM2.out)).mono ?_
                rintro e w11 ⟨rfl, hbx⟩
                replace u0 := cell_below hbx u0
                replace u1 := cell_below hbx u1
                replace u2 := cell_below hbx u2
                replace u3 := cell_below hbx u3
                replace u4 := cell_below hbx u4
                replace u5 := cell_below hbx u5
                replace u6 := cell_below hbx u6
                replace k0 := cell_below hbx k0
                replace k1 := cell_below hbx k1
                replace k2_ := cell_below hbx k2_
                replace k3 := cell_below hbx k3
                replace k4 := cell_below hbx k4
                replace k5 := cell_below hbx k5
                replace k6 := cell_below hbx k6
                replace hbX := hcall hbX hbx
                replace CM := CM.below hbx
                replace D := below_call D hbx
                refine hK.out _ _ (by (try dsimp only); (exact ⟨u0, u1, u2, u3, u4, u5, u6, k0, k1, k2_, k3, k4, k5, k6⟩)) (fun hHeld => ?_)
                clear hK K
                try simp only [Act.put, zA, zB, zC, zD, zE, zF]
                iterate 2
                  refine Held.tw rgj4q ?_
                  try simp only [Act.put, zA, zB, zC, zD, zE, zF]
                refine wpAnyH_done (by kernel_rfl) ?_ _
                clear u0 u1 u2 u3 u4 u5 u6 k0 k1 k2_ k3 k4 k5 k6
                clear CM
                go_wp2
                go_ret
                rw [HF.out]
                exact ⟨rfl, D⟩
    · have hin : i = n := by omega
      subst hin
      have HF : Hid (r = true) := by
        show _ = _
        rw [← HR.out]
        refine mayRo_yes (fun o => ?_) (fun j h => HK.out j h (by have := EA.out; omega)) (fun j h => HJ.out j h (by have := EA.out; omega))
        have := HC.out o
        rwa [List.take_of_length_le (by rw [EA.out]; exact Nat.le_refl _)] at this
      clear CM
      go_wp2
      go_ret
      rw [HF.out]
      exact ⟨rfl, D⟩
end Go.Proofs.YtbpfcjdjhponaaaGreat
