/-
Contracts: keys of entries, an entry's place, what is got, whose entries there are.
-/
import Derived.Test.YtpmafghknafhaaaRosE
import Derived.Test.YtpmafghknafhaaaEnSt
import Derived.Test.YtpmafghknafhaaaMergeB
import Derived.Test.YtpmafghknafhaaaLaw03a
import Derived.Deep.RegionHeld3
import Derived.Deep.QuietTactic
import Derived.BigQuiet
set_option linter.unusedVariables false
set_option linter.unusedSimpArgs false
namespace Go.Proofs.Ytpmafghknafhaaa
open Go.RowKit
open Sp
abbrev agKr (u v : ByteArray) : Value := .agg #[.string u, .string v]
abbrev bxKr (u v : ByteArray) : Obj := .cells #[.string u, .string v] 69
theorem eqlKr (u v u' v' : ByteArray) (W : World) :
    (binOp .eql 69 (agKr u v) (agKr u' v')).run Try.prog W = .ok (.bool (decide (((u, v) : EnK) = (u', v')))) W := by
  have e : decide (((u, v) : EnK) = (u', v')) = (u.toList == u'.toList && (v.toList == v'.toList)) := by
    rw [Bool.eq_iff_iff, decide_eq_true_eq]
    simp only [Bool.and_eq_true, beq_iff_eq, toList_inj', Prod.mk.injEq]
  rw [e]
  cases h0 : u.toList == u'.toList
  · simp [go_sem, h0]
  cases h1 : v.toList == v'.toList <;> simp [go_sem, h0, h1]
set_option maxHeartbeats 8000000 in
set_option maxRecDepth 100000 in
theorem ofK_calls (a_ b_ : ByteArray) (c_ d_ e_ f_ g_ : Bool) (w : World) :
    Calls Try.prog 37 #[(.agg #[.string a_, .string b_, .bool c_, .bool d_, .bool e_, .bool f_, .bool g_])] w fun e w' => e = .returned (agKr a_ b_) ∧ Below w.heap.size w w' := by
  go_enter Try.func37, Try.ntmps37
  go_wp2
  exact bodyPost_ret (v := agKr a_ b_) (by simp [results, Try.results37, go_sem]) rfl ⟨rfl, below_alloc0 (below_alloc0 (Below.refl _ _) _) _⟩
set_option maxHeartbeats 8000000 in
set_option maxRecDepth 100000 in
theorem findR1_calls (a_ b_ : ByteArray) (c_ d_ e_ f_ g_ : Bool) (g : Nat) (ku kv : ByteArray) (w : World) (hg : w.heap[g]? = some (bxKr ku kv)) :
    Calls Try.prog 71 #[(.agg #[.string a_, .string b_, .bool c_, .bool d_, .bool e_, .bool f_, .bool g_]), .pointer (some ⟨g, 0, none⟩)] w fun e w' => e = .returned (.bool (decide (keyRo ⟨a_, b_, c_, d_, e_, f_, g_⟩ = (ku, kv)))) ∧ Below w.heap.size w w' := by
  have hgl : g < w.heap.size := (Array.getElem?_eq_some_iff.1 hg).1
  have k0 : w.cell? ⟨g, 0, none⟩ = some (.string ku) := by simp [World.cell?, hg]
  have k1 : w.cell? ⟨g, 1, none⟩ = some (.string kv) := by simp [World.cell?, hg]
  have hB := below_box (w := w) (bxEn a_ b_ c_ d_ e_ f_ g_)
  have h0 := heap_alloc_new w (bxEn a_ b_ c_ d_ e_ f_ g_)
  obtain ⟨c0, c1, c2, c3, c4, c5, c6, hz⟩ := cellsEn a_ b_ c_ d_ e_ f_ g_ h0
  have j0 := cell_below hB k0
  have j1 := cell_below hB k1
  have hE := eqlKr a_ b_ ku kv
  clear hg k0 k1
  go_enter Try.func71, Try.ntmps71
  go_wp2_with fail
  go_region_held3 (fun w' => w'.cell? ⟨w.heap.size, 0, none⟩ = some (.string a_) ∧ w'.cell? ⟨w.heap.size, 1, none⟩ = some (.string b_) ∧ w'.cell? ⟨w.heap.size, 2, none⟩ = some (.bool c_) ∧ w'.cell? ⟨w.heap.size, 3, none⟩ = some (.bool d_) ∧ w'.cell? ⟨w.heap.size, 4, none⟩ = some (.bool e_) ∧ w'.cell? ⟨w.heap.size, 5, none⟩ = some (.bool f_) ∧ w'.cell? ⟨w.heap.size, 6, none⟩ = some (.bool g_) ∧ w'.cell? ⟨g, 0, none⟩ = some (.string ku) ∧ w'.cell? ⟨g, 1, none⟩ = some (.string kv)) (first | exact ⟨c0, c1, c2, c3, c4, c5, c6, j0, j1⟩ | exact ⟨cell_below hbx c0, cell_below hbx c1, cell_below hbx c2, cell_below hbx c3, cell_below hbx c4, cell_below hbx c5, cell_below hbx c6, cell_below hbx j0, cell_below hbx j1⟩) ((go_at_call 37; refine (ofK_calls a_ b_ c_ d_ e_ f_ g_ _).mono ?_; rintro e wx ⟨rfl, hbx⟩))
  have hBx := below_call (w1 := (w.alloc (bxEn a_ b_ c_ d_ e_ f_ g_)).drew) hB.drew hbx
  clear hbx
  go_wp2
  go_ret
  exact ⟨ret_bool (by rw [Bool.eq_iff_iff]; simp [keyRo]), hBx⟩
set_option maxHeartbeats 8000000 in
set_option maxRecDepth 100000 in
theorem idxFindR_calls (n c : Nat) (A : Option Addr) (l : List En) (g : Nat) (ku kv : ByteArray) (w : World) (hl : Row enEn 7 w (.slice A n c) l) (hg : w.heap[g]? = some (bxKr ku kv)) :
    Calls Try.prog 76 #[.slice A n c, .func (.func 71) #[] #[.pointer (some ⟨g, 0, none⟩)]] w fun e w' => e = .returned (.int .i64 (idxI (l.findIdx? (fun s : En => decide (keyRo s = (ku, kv)))))) ∧ Below w.heap.size w w' := by
  have EA := Lib.hid hl.len_eq
  have hnl : n ≤ 9223372036854775807 := by rw [EA.out]; exact hl.len
  obtain ⟨r, hr⟩ : ∃ r, idxI (l.findIdx? (fun s : En => decide (keyRo s = (ku, kv)))) = r := ⟨_, rfl⟩
  rw [hr]
  have HR := Lib.hid hr
  clear hr
  have HG := Lib.hid hg
  clear hg
  go_enter Try.func76, Try.ntmps76
  go_wp2
  go_loopw [8] (fun v8 wr => ∃ i : Nat, v8 = .int .i64 i ∧ i ≤ n ∧ Below w.heap.size w wr ∧ Hid (∀ j (h : j < l.length), j < i → ((fun s : En => decide (keyRo s = (ku, kv)))) l[j] = false)) (fun v8 _ => (n - intOf v8).toNat)
  case atStart => exact ⟨0, rfl, Nat.zero_le _, Below.refl _ _, fun j _ h => absurd h (by omega)⟩
  case round =>
    obtain ⟨i, rfl, hi, hB, HT⟩ := hrel
    by_cases hlt : i < n
    · have hil : i < l.length := by have := EA.out; omega
      obtain ⟨⟨a_, b_, c_, d_, e_, f_, g_⟩, he⟩ : ∃ e, l[i] = e := ⟨_, rfl⟩
      obtain ⟨ad, rfl, c0, c1, c2, c3, c4, c5, c6⟩ := rowEn (hl.below hB) i hil a_ b_ c_ d_ e_ f_ g_ he
      have HE := Lib.hid he
      clear he
      obtain ⟨b, hb⟩ : ∃ b, ((fun s : En => decide (keyRo s = (ku, kv)))) ⟨a_, b_, c_, d_, e_, f_, g_⟩ = b := ⟨_, rfl⟩
      have HB := Lib.hid hb
      clear hb
      go_wp2_with fail
      refine (re_ (findR1_calls a_ b_ c_ d_ e_ f_ g_ g ku kv _ (hcall HG.out hB)) (ret_bool HB.out)).mono ?_
      rintro e w1 ⟨rfl, b1⟩
      have hB1 := below_call hB b1
      clear c0 c1 c2 c3 c4 c5 c6 b1 hB
      cases b with
      | true =>
        have HF : Hid (r = (i : Int)) := by
          show _ = _
          rw [← HR.out, idx_at _ l i hil HT.out (by rw [HE.out]; exact HB.out)]; rfl
        go_wp2
        go_ret
        rw [HF.out]
        exact ⟨rfl, hB1⟩
      | false =>
        go_wp2
        exact ⟨⟨i + 1, by go_num, by omega, hB1, fun j h hj => by
          rcases Nat.lt_or_ge j i with h' | h'
          · exact HT.out j h h'
          · obtain rfl : j = i := by omega
            rw [HE.out]; exact HB.out⟩, by simp [intOf]; omega⟩
    · have hin : i = n := by omega
      subst hin
      have HF : Hid (r = -1) := by
        show _ = _
        rw [← HR.out, idx_no _ l (fun j hj => HT.out j hj (by rw [EA.out]; exact hj))]; rfl
      go_wp2
      go_ret
      rw [HF.out]
      exact ⟨rfl, hB⟩
/-- The place of an entry. -/
def placeRo (l : List En) (u v : ByteArray) : Option Nat := l.findIdx? fun s => decide (keyRo s = (u, v))
def maxI (x : Int) : Int := if 0 ≤ x then x else 0
set_option maxHeartbeats 8000000 in
set_option maxRecDepth 100000 in
theorem seekR_calls (n c : Nat) (A : Option Addr) (l : List En) (g : Nat) (ku kv : ByteArray) (w : World) (hl : Row enEn 7 w (.slice A n c) l) (hg : w.heap[g]? = some (bxKr ku kv)) :
    Calls Try.prog 70 #[.slice A n c, .func (.func 71) #[] #[.pointer (some ⟨g, 0, none⟩)]] w fun e w' => e = .returned (.tuple #[.int .i64 (maxI (idxI (placeRo l ku kv))), .bool (decide (0 ≤ idxI (placeRo l ku kv)))]) ∧ Below w.heap.size w w' := by
  obtain ⟨r, hr⟩ : ∃ r, idxI (placeRo l ku kv) = r := ⟨_, rfl⟩
  have HC := idxFindR_calls n c A l g ku kv w hl hg
  rw [show l.findIdx? (fun s : En => decide (keyRo s = (ku, kv))) = placeRo l ku kv from rfl] at HC
  rw [hr] at HC ⊢
  clear hr
  unfold maxI
  go_enter Try.func70, Try.ntmps70
  go_wp2_with fail
  refine HC.mono ?_
  rintro e w1 ⟨rfl, b1⟩
  go_wp2
  all_goals go_ret2
  all_goals refine ⟨?_, b1⟩
  all_goals (by_cases h0 : 0 ≤ r <;> simp_all)
  all_goals (try omega)
set_option maxHeartbeats 8000000 in
set_option maxRecDepth 100000 in
theorem findRo_calls (n c : Nat) (A : Option Addr) (l : List En) (ku kv : ByteArray) (w : World) (hl : Row enEn 7 w (.slice A n c) l) :
    Calls Try.prog 38 #[.slice A n c, agKr ku kv] w fun e w' => e = .returned (.tuple #[.int .i64 (maxI (idxI (placeRo l ku kv))), .bool (decide (0 ≤ idxI (placeRo l ku kv)))]) ∧ Below w.heap.size w w' := by
  have hb := below_box (w := w) (bxKr ku kv)
  have HC := seekR_calls n c A l w.heap.size ku kv _ (hl.below hb) (heap_alloc_new w (bxKr ku kv))
  obtain ⟨r, hr⟩ : ∃ r, maxI (idxI (placeRo l ku kv)) = r := ⟨_, rfl⟩
  obtain ⟨s, hs⟩ : ∃ s, decide (0 ≤ idxI (placeRo l ku kv)) = s := ⟨_, rfl⟩
  rw [hr, hs] at HC ⊢
  clear hr hs
  have hmf : ∀ W : World, (Instr.makeFunc (.func 71) #[] #[.pointer (some ⟨w.heap.size, 0, none⟩)]).run Try.prog W = .ok (.func (.func 71) #[] #[.pointer (some ⟨w.heap.size, 0, none⟩)]) W := fun W => by kernel_rfl
  go_enter Try.func38, Try.ntmps38
  go_wp2_with fail
  refine HC.mono ?_
  rintro e w1 ⟨rfl, b1⟩
  have B1 := below_call hb b1
  clear b1 hb
  go_wp2
  go_ret2
  exact ⟨rfl, B1⟩
set_option maxHeartbeats 8000000 in
set_option maxRecDepth 100000 in
theorem OfRo_calls (n c : Nat) (A : Option Addr) (l : List En) (q : ByteArray) (w : World) (hl : Row enEn 7 w (.slice A n c) l) (hn : n ≤ 100000) :
    Calls Try.prog 17 #[.slice A n c, .string q] w fun e w' => ∃ v, e = .returned v ∧ Own enS 1 9 w' w.heap.size v ((l.filter (fun s : En => decide (s.o = q))).map En.c) ∧ Below w.heap.size w w' := by
  have EA := Lib.hid hl.len_eq
  go_enter Try.func17, Try.ntmps17
  go_wp2
  go_loopw [5, 10] (fun vo vc wr => ∃ (i : Nat) (ys : List ByteArray), vc = .int .i64 i ∧ i ≤ n ∧ ys.length ≤ i ∧ Hid ((((l.take i).filter (fun s : En => decide (s.o = q))).map En.c) = ys) ∧ Own enS 1 9 wr w.heap.size vo ys ∧ Below w.heap.size w wr) (fun _ vc _ => (n - intOf vc).toNat)
  case atStart => exact ⟨0, [], rfl, Nat.zero_le _, Nat.le_refl _, rfl, Own.nil _ _ _ _ _, Below.refl _ _⟩
  case round =>
    obtain ⟨i, ys, rfl, hi, hys, HT, hO, hB⟩ := hrel
    by_cases hlt : i < n
    · have hil : i < l.length := by have := EA.out; omega
      obtain ⟨⟨a_, b_, c_, d_, e_, f_, g_⟩, he⟩ : ∃ e, l[i] = e := ⟨_, rfl⟩
      obtain ⟨ad, rfl, c0, c1, c2, c3, c4, c5, c6⟩ := rowEn (hl.below hB) i hil a_ b_ c_ d_ e_ f_ g_ he
      have HE := Lib.hid he
      clear he
      by_cases hq : a_ = q
      · replace hq := hq.symm
        subst hq
        have HT2 : Hid ((((l.take (i + 1)).filter (fun s : En => decide (s.o = q))).map En.c) = ys ++ [b_]) := by
          show _ = _
          rw [List.take_succ_eq_append_getElem hil, HE.out, List.filter_append, List.map_append, HT.out]
          congr 1; simp
        have hO1 := hO.alloc (bxEn q b_ c_ d_ e_ f_ g_)
        have hB1 := below_alloc0 hB (bxEn q b_ c_ d_ e_ f_ g_)
        have HZ1 : Hid ((wr.alloc (bxEn q b_ c_ d_ e_ f_ g_)).heap.size = wr.heap.size + 1) := size_alloc _ _
        go_wp2_with (at_builtin; refine Own.append (w0 := w) w.heap.size rfl (.tmp 18) (.tmp 21) 29 9 (.string ⟨#[]⟩) 1 16 rfl Try.underlying29 info_str rfl (by decide) _ ys b_ [.string b_] rfl (by rw [HZ1.out]; rfl) rfl rfl (enS_one _) hO1 hB1 hB1.size (by omega) (by omega) ?_; intro v2 w2 hO2 hB2 _ _)
        exact ⟨⟨i + 1, ys ++ [b_], by go_num, by omega, by rw [List.length_append]; simp only [List.length_cons, List.length_nil]; omega, HT2, hO2, hB2⟩, by simp [intOf]; omega⟩
      · have hne : ¬ a_ = q := hq
        have hne2 : (a_.toList == q.toList) = false := by simpa [toList_inj'] using hne
        have hne3 : ¬ a_.toList = q.toList := by simpa [toList_inj'] using hne
        clear hq
        have HT2 : Hid ((((l.take (i + 1)).filter (fun s : En => decide (s.o = q))).map En.c) = ys) := by
          show _ = _
          rw [List.take_succ_eq_append_getElem hil, HE.out, List.filter_append, List.map_append, HT.out]
          simp [hne]
        have hO1 := hO.alloc (bxEn a_ b_ c_ d_ e_ f_ g_)
        have hB1 := below_alloc0 hB (bxEn a_ b_ c_ d_ e_ f_ g_)
        go_wp2
        exact ⟨⟨i + 1, ys, by go_num, by omega, by omega, HT2, hO1, hB1⟩, by simp [intOf]; omega⟩
    · have hin : i = n := by omega
      subst hin
      have HF : Hid (((l.filter (fun s : En => decide (s.o = q))).map En.c) = ys) := by
        show _ = _
        have := HT.out
        rwa [List.take_of_length_le (by rw [EA.out]; exact Nat.le_refl _)] at this
      go_wp2
      go_ret
      rw [HF.out]
      exact ⟨_, rfl, hO, hB⟩
set_option maxHeartbeats 8000000 in
set_option maxRecDepth 100000 in
theorem refOfRo_calls (n c : Nat) (A : Option Addr) (l : List En) (q : ByteArray) (w : World) (hl : Row enEn 7 w (.slice A n c) l) (hn : n ≤ 100000) :
    Calls Try.prog 18 #[.slice A n c, .string q] w fun e w' => ∃ v, e = .returned v ∧ Own enS 1 9 w' w.heap.size v ((l.filter (fun s : En => decide (s.o = q))).map En.c) ∧ Below w.heap.size w w' := by
  have EA := Lib.hid hl.len_eq
  go_enter Try.func18, Try.ntmps18
  go_wp2
  go_loopw [5, 6] (fun vo vc wr => ∃ (i : Nat) (ys : List ByteArray), vc = .int .i64 i ∧ i ≤ n ∧ ys.length ≤ i ∧ Hid ((((l.take i).filter (fun s : En => decide (s.o = q))).map En.c) = ys) ∧ Own enS 1 9 wr w.heap.size vo ys ∧ Below w.heap.size w wr) (fun _ vc _ => (n - intOf vc).toNat)
  case atStart => exact ⟨0, [], rfl, Nat.zero_le _, Nat.le_refl _, rfl, Own.nil _ _ _ _ _, Below.refl _ _⟩
  case round =>
    obtain ⟨i, ys, rfl, hi, hys, HT, hO, hB⟩ := hrel
    by_cases hlt : i < n
    · have hil : i < l.length := by have := EA.out; omega
      obtain ⟨⟨a_, b_, c_, d_, e_, f_, g_⟩, he⟩ : ∃ e, l[i] = e := ⟨_, rfl⟩
      obtain ⟨ad, rfl, c0, c1, c2, c3, c4, c5, c6⟩ := rowEn (hl.below hB) i hil a_ b_ c_ d_ e_ f_ g_ he
      have HE := Lib.hid he
      clear he
      by_cases hq : a_ = q
      · replace hq := hq.symm
        subst hq
        have HT2 : Hid ((((l.take (i + 1)).filter (fun s : En => decide (s.o = q))).map En.c) = ys ++ [b_]) := by
          show _ = _
          rw [List.take_succ_eq_append_getElem hil, HE.out, List.filter_append, List.map_append, HT.out]
          congr 1; simp
        go_wp2_with (at_builtin; refine Own.append (w0 := w) w.heap.size rfl (.tmp 20) (.tmp 26) 29 9 (.string ⟨#[]⟩) 1 16 rfl Try.underlying29 info_str rfl (by decide) _ ys b_ [.string b_] rfl rfl rfl rfl (enS_one _) hO hB hB.size (by omega) (by omega) ?_; intro v2 w2 hO2 hB2 _ _)
        exact ⟨⟨i + 1, ys ++ [b_], by go_num, by omega, by rw [List.length_append]; simp only [List.length_cons, List.length_nil]; omega, HT2, hO2, hB2⟩, by simp [intOf]; omega⟩
      · have hne : ¬ a_ = q := hq
        have hne2 : (a_.toList == q.toList) = false := by simpa [toList_inj'] using hne
        have hne3 : ¬ a_.toList = q.toList := by simpa [toList_inj'] using hne
        clear hq
        have HT2 : Hid ((((l.take (i + 1)).filter (fun s : En => decide (s.o = q))).map En.c) = ys) := by
          show _ = _
          rw [List.take_succ_eq_append_getElem hil, HE.out, List.filter_append, List.map_append, HT.out]
          simp [hne]
        go_wp2
        exact ⟨⟨i + 1, ys, by go_num, by omega, by omega, HT2, hO, hB⟩, by simp [intOf]; omega⟩
    · have hin : i = n := by omega
      subst hin
      have HF : Hid (((l.filter (fun s : En => decide (s.o = q))).map En.c) = ys) := by
        show _ = _
        have := HT.out
        rwa [List.take_of_length_le (by rw [EA.out]; exact Nat.le_refl _)] at this
      go_wp2
      go_ret
      rw [HF.out]
      exact ⟨_, rfl, hO, hB⟩
end Go.Proofs.Ytpmafghknafhaaa
