import Derived.Deep.RegionHeld3
import Derived.Deep.QuietTactic
import Derived.BigQuiet
import Derived.Maps.OwnOps
import Derived.Maps.OwnSet
import Derived.Test.YtbpfcjdjhponaaaGreatProg
import Derived.MapKept
import Derived.Test.YtbpfcjdjhponaaaGreatPViewRows02
set_option linter.unusedVariables false
set_option linter.unusedSimpArgs false
namespace Go.Proofs.YtbpfcjdjhponaaaGreat
open Go.RowKit
open Sp
abbrev agKr (u v : ByteArray) : Value := .agg #[.string u, .string v]
abbrev bxKr (u v : ByteArray) : Obj := .cells #[.string u, .string v] 145
theorem eqlKr (u v u' v' : ByteArray) (W : World) :
    (binOp .eql 145 (agKr u v) (agKr u' v')).run Tryz.prog W = .ok (.bool (decide (((u, v) : EnK) = (u', v')))) W := by
  have e : decide (((u, v) : EnK) = (u', v')) = (u.toList == u'.toList && (v.toList == v'.toList)) := by
    rw [Bool.eq_iff_iff, decide_eq_true_eq]
    simp only [Bool.and_eq_true, beq_iff_eq, toList_inj', Prod.mk.injEq]
  rw [e]
  cases h0 : u.toList == u'.toList
  · simp [go_sem, h0]
  cases h1 : v.toList == v'.toList <;> simp [go_sem, h0, h1]
set_option maxHeartbeats 8000000 in
set_option maxRecDepth 100000 in
theorem ofK_calls (a_ b_ : ByteArray) (c_ d_ e_ f_ g_ : Bool) (w : World) :
    Calls Tryz.prog 103 #[(.agg #[.string a_, .string b_, .bool c_, .bool d_, .bool e_, .bool f_, .bool g_])] w fun e w' => e = .returned (agKr a_ b_) ∧ Below w.heap.size w w' := by
  go_enter Tryz.func103, Tryz.ntmps103
  go_wp2
  exact bodyPost_ret (v := agKr a_ b_) (by simp [results, Tryz.results103, go_sem]) rfl ⟨rfl, below_alloc0 (below_alloc0 (Below.refl _ _) _) _⟩
set_option maxHeartbeats 8000000 in
set_option maxRecDepth 100000 in
theorem findR1_calls (a_ b_ : ByteArray) (c_ d_ e_ f_ g_ : Bool) (g : Nat) (ku kv : ByteArray) (w : World) (hg : w.heap[g]? = some (bxKr ku kv)) :
    Calls Tryz.prog 150 #[(.agg #[.string a_, .string b_, .bool c_, .bool d_, .bool e_, .bool f_, .bool g_]), .pointer (some ⟨g, 0, none⟩)] w fun e w' => e = .returned (.bool (decide (keyRo ⟨a_, b_, c_, d_, e_, f_, g_⟩ = (ku, kv)))) ∧ Below w.heap.size w w' := by
  have hgl : g < w.heap.size := (Array.getElem?_eq_some_iff.1 hg).1
  have k0 : w.cell? ⟨g, 0, none⟩ = some (.string ku) := by simp [World.cell?, hg]
  have k1 : w.cell? ⟨g, 1, none⟩ = some (.string kv) := by simp [World.cell?, hg]
  have hB := below_box (w := w) (bxEn a_ b_ c_ d_ e_ f_ g_)
  have h0 := heap_alloc_new w (bxEn a_ b_ c_ d_ e_ f_ g_)
  obtain ⟨c0, c1, c2, c3, c4, c5, c6, hz⟩ := cellsEn a_ b_ c_ d_ e_ f_ g_ h0
  have j0 := cell_below hB k0
  have j1 := cell_below hB k1
  have hE := eqlKr a_ b_ ku kv
  clear hg k0 k1
  go_enter Tryz.func150, Tryz.ntmps150
  go_wp2_with fail
  go_region_held3 (fun w' => w'.cell? ⟨w.heap.size, 0, none⟩ = some (.string a_) ∧ w'.cell? ⟨w.heap.size, 1, none⟩ = some (.string b_) ∧ w'.cell? ⟨w.heap.size, 2, none⟩ = some (.bool c_) ∧ w'.cell? ⟨w.heap.size, 3, none⟩ = some (.bool d_) ∧ w'.cell? ⟨w.heap.size, 4, none⟩ = some (.bool e_) ∧ w'.cell? ⟨w.heap.size, 5, none⟩ = some (.bool f_) ∧ w'.cell? ⟨w.heap.size, 6, none⟩ = some (.bool g_) ∧ w'.cell? ⟨g, 0, none⟩ = some (.string ku) ∧ w'.cell? ⟨g, 1, none⟩ = some (.string kv)) (first | exact ⟨c0, c1, c2, c3, c4, c5, c6, j0, j1⟩ | exact ⟨cell_below hbx c0, cell_below hbx c1, cell_below hbx c2, cell_below hbx c3, cell_below hbx c4, cell_below hbx c5, cell_below hbx c6, cell_below hbx j0, cell_below hbx j1⟩) ((go_at_call 103; refine (ofK_calls a_ b_ c_ d_ e_ f_ g_ _).mono ?_; rintro e wx ⟨rfl, hbx⟩))
  have hBx := below_call (w1 := (w.alloc (bxEn a_ b_ c_ d_ e_ f_ g_)).drew) hB.drew hbx
  clear hbx
  go_wp2
  go_ret
  exact ⟨ret_bool (by rw [Bool.eq_iff_iff]; simp [keyRo]), hBx⟩
set_option maxHeartbeats 8000000 in
set_option maxRecDepth 100000 in
theorem idxFindR_calls (n c : Nat) (A : Option Addr) (l : List En) (g : Nat) (ku kv : ByteArray) (w : World) (hl : Row enEn 7 w (.slice A n c) l) (hg : w.heap[g]? = some (bxKr ku kv)) :
    Calls Tryz.prog 151 #[.slice A n c, .func (.func 150) #[] #[.pointer (some ⟨g, 0, none⟩)]] w fun e w' => e = .returned (.int .i64 (idxI (l.findIdx? (fun s : En => decide (keyRo s = (ku, kv)))))) ∧ Below w.heap.size w w' := by
  have EA := Lib.hid hl.len_eq
  have hnl : n ≤ 9223372036854775807 := by rw [EA.out]; exact hl.len
  obtain ⟨r, hr⟩ : ∃ r, idxI (l.findIdx? (fun s : En => decide (keyRo s = (ku, kv)))) = r := ⟨_, rfl⟩
  rw [hr]
  have HR := Lib.hid hr
  clear hr
  have HG := Lib.hid hg
  clear hg
  go_enter Tryz.func151, Tryz.ntmps151
  go_wp2
  go_loopw [8] (fun v8 wr => ∃ i : Nat, v8 = .int .i64 i ∧ i ≤ n ∧ Below w.heap.size w wr ∧ Hid (∀ j (h : j < l.length), j < i → ((fun s : En => decide (keyRo s = (ku, kv)))) l[j] = false)) (fun v8 _ => (n - intOf v8).toNat)
  case atStart => exact ⟨0, rfl, Nat.zero_le _, Below.refl _ _, fun j _ h => absurd h (by omega)⟩
  case round =>
    obtain ⟨i, rfl, hi, hB, HT⟩ := hrel
    by_cases hlt : i < n
    · have hil : i < l.length := by have := EA.out; omega
      obtain ⟨⟨a_, b_, c_, d_, e_, f_, g_⟩, he⟩ : ∃ e, l[i] = e := ⟨_, rfl⟩
      obtain ⟨ad, rfl, c0, c1, c2, c3, c4, c5, c6⟩ := rowEn (hl.below hB) i hil a_ b_ c_ d_ e_ f_ g_ he
      have HE := Lib.hid he
      clear he
      obtain ⟨b, hb⟩ : ∃ b, ((fun s : En => decide (keyRo s = (ku, kv)))) ⟨a_, b_, c_, d_, e_, f_, g_⟩ = b := ⟨_, rfl⟩
      have HB := Lib.hid hb
      clear hb
      go_wp2_with fail
      refine (re_ (findR1_calls a_ b_ c_ d_ e_ f_ g_ g ku kv _ (hcall HG.out hB)) (ret_bool HB.out)).mono ?_
      rintro e w1 ⟨rfl, b1⟩
      have hB1 := below_call hB b1
      clear c0 c1 c2 c3 c4 c5 c6 b1 hB
      cases b with
      | true =>
        have HF : Hid (r = (i : Int)) := by
          show _ = _
          rw [← HR.out, idx_at _ l i hil HT.out (by rw [HE.out]; exact HB.out)]; rfl
        go_wp2
        go_ret
        rw [HF.out]
        exact ⟨rfl, hB1⟩
      | false =>
        go_wp2
        exact ⟨⟨i + 1, by go_num, by omega, hB1, fun j h hj => by
          rcases Nat.lt_or_ge j i with h' | h'
          · exact HT.out j h h'
          · obtain rfl : j = i := by omega
            rw [HE.out]; exact HB.out⟩, by simp [intOf]; omega⟩
    · have hin : i = n := by omega
      subst hin
      have HF : Hid (r = -1) := by
        show _ = _
        rw [← HR.out, idx_no _ l (fun j hj => HT.out j hj (by rw [EA.out]; exact hj))]; rfl
      go_wp2
      go_ret
      rw [HF.out]
      exact ⟨rfl, hB⟩
def placeRo (l : List En) (u v : ByteArray) : Option Nat := l.findIdx? fun s => decide (keyRo s = (u, v))
def maxI (x : Int) : Int := if 0 ≤ x then x else 0
set_option maxHeartbeats 8000000 in
set_option maxRecDepth 100000 in
theorem seekR_calls (n c : Nat) (A : Option Addr) (l : List En) (g : Nat) (ku kv : ByteArray) (w : World) (hl : Row enEn 7 w (.slice A n c) l) (hg : w.heap[g]? = some (bxKr ku kv)) :
    Calls Tryz.prog 149 #[.slice A n c, .func (.func 150) #[] #[.pointer (some ⟨g, 0, none⟩)]] w fun e w' => e = .returned (.tuple #[.int .i64 (maxI (idxI (placeRo l ku kv))), .bool (decide (0 ≤ idxI (placeRo l ku kv)))]) ∧ Below w.heap.size w w' := by
  obtain ⟨r, hr⟩ : ∃ r, idxI (placeRo l ku kv) = r := ⟨_, rfl⟩
  have HC := idxFindR_calls n c A l g ku kv w hl hg
  rw [show l.findIdx? (fun s : En => decide (keyRo s = (ku, kv))) = placeRo l ku kv from rfl] at HC
  rw [hr] at HC ⊢
  clear hr
  unfold maxI
  go_enter Tryz.func149, Tryz.ntmps149
  go_wp2_with fail
  refine HC.mono ?_
  rintro e w1 ⟨rfl, b1⟩
  go_wp2
  all_goals go_ret2
  all_goals refine ⟨?_, b1⟩
  all_goals (by_cases h0 : 0 ≤ r <;> simp_all)
  all_goals (try omega)
set_option maxHeartbeats 8000000 in
set_option maxRecDepth 100000 in
theorem findRo_calls (n c : Nat) (A : Option Addr) (l : List En) (ku kv : ByteArray) (w : World) (hl : Row enEn 7 w (.slice A n c) l) :
    Calls Tryz.prog 97 #[.slice A n c, agKr ku kv] w fun e w' => e = .returned (.tuple #[.int .i64 (maxI (idxI (placeRo l ku kv))), .bool (decide (0 ≤ idxI (placeRo l ku kv)))]) ∧ Below w.heap.size w w' := by
  have hb := below_box (w := w) (bxKr ku kv)
  have HC := seekR_calls n c A l w.heap.size ku kv _ (hl.below hb) (heap_alloc_new w (bxKr ku kv))
  obtain ⟨r, hr⟩ : ∃ r, maxI (idxI (placeRo l ku kv)) = r := ⟨_, rfl⟩
  obtain ⟨s, hs⟩ : ∃ s, decide (0 ≤ idxI (placeRo l ku kv)) = s := ⟨_, rfl⟩
  rw [hr, hs] at HC ⊢
  clear hr hs
  have hmf : ∀ W : World, (Instr.makeFunc (.func 150) #[] #[.pointer (some ⟨w.heap.size, 0, none⟩)]).run Tryz.prog W = .ok (.func (.func 150) #[] #[.pointer (some ⟨w.heap.size, 0, none⟩)]) W := fun W => by kernel_rfl
  go_enter Tryz.func97, Tryz.ntmps97
  go_wp2_with fail
  refine HC.mono ?_
  rintro e w1 ⟨rfl, b1⟩
  have B1 := below_call hb b1
  clear b1 hb
  go_wp2
  go_ret2
  exact ⟨rfl, B1⟩
set_option maxHeartbeats 8000000 in
set_option maxRecDepth 100000 in
theorem OfRo_calls (n c : Nat) (A : Option Addr) (l : List En) (q : ByteArray) (w : World) (hl : Row enEn 7 w (.slice A n c) l) (hn : n ≤ 100000) :
    Calls Tryz.prog 98 #[.slice A n c, .string q] w fun e w' => ∃ v, e = .returned v ∧ Own enS 1 9 w' w.heap.size v ((l.filter (fun s : En => decide (s.o = q))).map En.c) ∧ Below w.heap.size w w' := by
  have EA := Lib.hid hl.len_eq
  go_enter Tryz.func98, Tryz.ntmps98
  go_wp2
  go_loopw [5, 10] (fun vo vc wr => ∃ (i : Nat) (ys : List ByteArray), vc = .int .i64 i ∧ i ≤ n ∧ ys.length ≤ i ∧ Hid ((((l.take i).filter (fun s : En => decide (s.o = q))).map En.c) = ys) ∧ Own enS 1 9 wr w.heap.size vo ys ∧ Below w.heap.size w wr) (fun _ vc _ => (n - intOf vc).toNat)
  case atStart => exact ⟨0, [], rfl, Nat.zero_le _, Nat.le_refl _, rfl, Own.nil _ _ _ _ _, Below.refl _ _⟩
  case round =>
    obtain ⟨i, ys, rfl, hi, hys, HT, hO, hB⟩ := hrel
    by_cases hlt : i < n
    · have hil : i < l.length := by have := EA.out; omega
      obtain ⟨⟨a_, b_, c_, d_, e_, f_, g_⟩, he⟩ : ∃ e, l[i] = e := ⟨_, rfl⟩
      obtain ⟨ad, rfl, c0, c1, c2, c3, c4, c5, c6⟩ := rowEn (hl.below hB) i hil a_ b_ c_ d_ e_ f_ g_ he
      have HE := Lib.hid he
      clear he
      by_cases hq : a_ = q
      · replace hq := hq.symm
        subst hq
        have HT2 : Hid ((((l.take (i + 1)).filter (fun s : En => decide (s.o = q))).map En.c) = ys ++ [b_]) := by
          show _ = _
          rw [List.take_succ_eq_append_getElem hil, HE.out, List.filter_append, List.map_append, HT.out]
          congr 1; simp
        have hO1 := hO.alloc (bxEn q b_ c_ d_ e_ f_ g_)
        have hB1 := below_alloc0 hB (bxEn q b_ c_ d_ e_ f_ g_)
        have HZ1 : Hid ((wr.alloc (bxEn q b_ c_ d_ e_ f_ g_)).heap.size = wr.heap.size + 1) := size_alloc _ _
        go_wp2_with (at_builtin; refine Own.append (w0 := w) w.heap.size rfl (.tmp 18) (.tmp 21) 51 9 (.string ⟨#[]⟩) 1 16 rfl Tryz.underlying51 info_str rfl (by decide) _ ys b_ [.string b_] rfl (by rw [HZ1.out]; rfl) rfl rfl (enS_one _) hO1 hB1 hB1.size (by omega) (by omega) ?_; intro v2 w2 hO2 hB2 _ _)
        exact ⟨⟨i + 1, ys ++ [b_], by go_num, by omega, by rw [List.length_append]; simp only [List.length_cons, List.length_nil]; omega, HT2, hO2, hB2⟩, by simp [intOf]; omega⟩
      · have hne : ¬ a_ = q := hq
        have hne2 : (a_.toList == q.toList) = false := by simpa [toList_inj'] using hne
        have hne3 : ¬ a_.toList = q.toList := by simpa [toList_inj'] using hne
        clear hq
        have HT2 : Hid ((((l.take (i + 1)).filter (fun s : En => decide (s.o = q))).map En.c) = ys) := by
          show _ = _
          rw [List.take_succ_eq_append_getElem hil, HE.out, List.filter_append, List.map_append, HT.out]
          simp [hne]
        have hO1 := hO.alloc (bxEn a_ b_ c_ d_ e_ f_ g_)
        have hB1 := below_alloc0 hB (bxEn a_ b_ c_ d_ e_ f_ g_)
        go_wp2
        exact ⟨⟨i + 1, ys, by go_num, by omega, by omega, HT2, hO1, hB1⟩, by simp [intOf]; omega⟩
    · have hin : i = n := by omega
      subst hin
      have HF : Hid (((l.filter (fun s : En => decide (s.o = q))).map En.c) = ys) := by
        show _ = _
        have := HT.out
        rwa [List.take_of_length_le (by rw [EA.out]; exact Nat.le_refl _)] at this
      go_wp2
      go_ret
      rw [HF.out]
      exact ⟨_, rfl, hO, hB⟩
set_option maxHeartbeats 8000000 in
set_option maxRecDepth 100000 in
theorem refOfRo_calls (n c : Nat) (A : Option Addr) (l : List En) (q : ByteArray) (w : World) (hl : Row enEn 7 w (.slice A n c) l) (hn : n ≤ 100000) :
    Calls Tryz.prog 68 #[.slice A n c, .string q] w fun e w' => ∃ v, e = .returned v ∧ Own enS 1 9 w' w.heap.size v ((l.filter (fun s : En => decide (s.o = q))).map En.c) ∧ Below w.heap.size w w' := by
  have EA := Lib.hid hl.len_eq
  go_enter Tryz.func68, Tryz.ntmps68
  go_wp2
  go_loopw [5, 6] (fun vo vc wr => ∃ (i : Nat) (ys : List ByteArray), vc = .int .i64 i ∧ i ≤ n ∧ ys.length ≤ i ∧ Hid ((((l.take i).filter (fun s : En => decide (s.o = q))).map En.c) = ys) ∧ Own enS 1 9 wr w.heap.size vo ys ∧ Below w.heap.size w wr) (fun _ vc _ => (n - intOf vc).toNat)
  case atStart => exact ⟨0, [], rfl, Nat.zero_le _, Nat.le_refl _, rfl, Own.nil _ _ _ _ _, Below.refl _ _⟩
  case round =>
    obtain ⟨i, ys, rfl, hi, hys, HT, hO, hB⟩ := hrel
    by_cases hlt : i < n
    · have hil : i < l.length := by have := EA.out; omega
      obtain ⟨⟨a_, b_, c_, d_, e_, f_, g_⟩, he⟩ : ∃ e, l[i] = e := ⟨_, rfl⟩
      obtain ⟨ad, rfl, c0, c1, c2, c3, c4, c5, c6⟩ := rowEn (hl.below hB) i hil a_ b_ c_ d_ e_ f_ g_ he
      have HE := Lib.hid he
      clear he
      by_cases hq : a_ = q
      · replace hq := hq.symm
        subst hq
        have HT2 : Hid ((((l.take (i + 1)).filter (fun s : En => decide (s.o = q))).map En.c) = ys ++ [b_]) := by
          show _ = _
          rw [List.take_succ_eq_append_getElem hil, HE.out, List.filter_append, List.map_append, HT.out]
          congr 1; simp
        go_wp2_with (at_builtin; refine Own.append (w0 := w) w.heap.size rfl (.tmp 20) (.tmp 26) 51 9 (.string ⟨#[]⟩) 1 16 rfl Tryz.underlying51 info_str rfl (by decide) _ ys b_ [.string b_] rfl rfl rfl rfl (enS_one _) hO hB hB.size (by omega) (by omega) ?_; intro v2 w2 hO2 hB2 _ _)
        exact ⟨⟨i + 1, ys ++ [b_], by go_num, by omega, by rw [List.length_append]; simp only [List.length_cons, List.length_nil]; omega, HT2, hO2, hB2⟩, by simp [intOf]; omega⟩
      · have hne : ¬ a_ = q := hq
        have hne2 : (a_.toList == q.toList) = false := by simpa [toList_inj'] using hne
        have hne3 : ¬ a_.toList = q.toList := by simpa [toList_inj'] using hne
        clear hq
        have HT2 : Hid ((((l.take (i + 1)).filter (fun s : En => decide (s.o = q))).map En.c) = ys) := by
          show _ = _
          rw [List.take_succ_eq_append_getElem hil, HE.out, List.filter_append, List.map_append, HT.out]
          simp [hne]
        go_wp2
        exact ⟨⟨i + 1, ys, by go_num, by omega, by omega, HT2, hO, hB⟩, by simp [intOf]; omega⟩
    · have hin : i = n := by omega
      subst hin
      have HF : Hid (((l.filter (fun s : En => decide (s.o = q))).map En.c) = ys) := by
        show _ = _
        have := HT.out
        rwa [List.take_of_length_le (by rw [EA.out]; exact Nat.le_refl _)] at this
      go_wp2
      go_ret
      rw [HF.out]
      exact ⟨_, rfl, hO, hB⟩
end Go.Proofs.YtbpfcjdjhponaaaGreat
namespace Go.Proofs.YtbpfcjdjhponaaaGreat
open Go.RowKit
open Sp
theorem bodyPost_vc {P : Program} {fn : Func} {R : Ending → World → Prop} {a : Act} {w : World} {p : Tmp} {ty : TypeId} (h : fn.results = #[.cell p ty]) (g : Nat) (t : TypeId) (cs : Array Value) (fr : Nat × Nat) (d : TypeDesc)
    (hp : a.tmps.getD p undef = .pointer (some ⟨g, 0, none⟩)) (hg : w.heap[g]? = some (.cells cs t fr))
    (hu : P.underlying ty = some d) (hd : (match d with | .struct _ | .array _ _ => true | _ => false) = true) (hi : (P.info? ty).map (·.size) = some cs.size)
    (hde : a.defers = []) (hR : R (.returned (.agg cs)) w) : bodyPost P fn R .ret a w := by
  refine bodyPost_ret ?_ hde hR
  have hp' : a.tmps[p]?.getD undef = .pointer (some ⟨g, 0, none⟩) := by simpa using hp
  simp [results, h, hp', asAddr, run_loadVar_row w g t ty cs fr d hg hu hd hi]
abbrev bxIt (c d e f g : Bool) : Obj := .cells #[.bool c, .bool d, .bool e, .bool f, .bool g] 103
theorem iopen {W : World} {k : Nat} {c d e f g : Bool} (h : W.heap[k]? = some (bxIt c d e f g)) : (W.cell? ⟨k, 0, none⟩ = some (.bool c) ∧ W.cell? ⟨k, 1, none⟩ = some (.bool d) ∧ W.cell? ⟨k, 2, none⟩ = some (.bool e) ∧ W.cell? ⟨k, 3, none⟩ = some (.bool f) ∧ W.cell? ⟨k, 4, none⟩ = some (.bool g)) ∧
    (W.frozen? ⟨k, 0, none⟩ = false ∧ W.frozen? ⟨k, 1, none⟩ = false ∧ W.frozen? ⟨k, 2, none⟩ = false ∧ W.frozen? ⟨k, 3, none⟩ = false ∧ W.frozen? ⟨k, 4, none⟩ = false) ∧ k < W.heap.size :=
  ⟨⟨by simp [World.cell?, h], by simp [World.cell?, h], by simp [World.cell?, h], by simp [World.cell?, h], by simp [World.cell?, h]⟩, ⟨by simp [World.frozen?, h], by simp [World.frozen?, h], by simp [World.frozen?, h], by simp [World.frozen?, h], by simp [World.frozen?, h]⟩, (Array.getElem?_eq_some_iff.1 h).1⟩
theorem info_it : (Tryz.prog.info? 103).map (·.size) = some 5 := by kernel_rfl
theorem place_some {l : List En} {u v : ByteArray} {i : Nat} (h : placeRo l u v = some i) : ∃ hi : i < l.length, keyRo l[i] = (u, v) ∧ ∀ j (hj : j < l.length), j < i → keyRo l[j] ≠ (u, v) := by
  unfold placeRo at h
  rw [List.findIdx?_eq_some_iff_getElem] at h
  obtain ⟨hi, h1, h2⟩ := h
  exact ⟨hi, by simpa using h1, fun j hj hji => by simpa using h2 j hji⟩
theorem place_none {l : List En} {u v : ByteArray} (h : placeRo l u v = none) : ∀ j (hj : j < l.length), keyRo l[j] ≠ (u, v) := by
  unfold placeRo at h
  rw [List.findIdx?_eq_none_iff] at h
  intro j hj
  simpa using h l[j] (List.getElem_mem hj)
set_option maxHeartbeats 8000000 in
set_option maxRecDepth 100000 in
theorem GetRo_calls (n c : Nat) (A : Option Addr) (l : List En) (o q : ByteArray) (w : World) (hl : Row enEn 7 w (.slice A n c) l) :
    Calls Tryz.prog 78 #[.slice A n c, .string o, .string q] w fun e w' => e = .returned (vaIt (getRo l o q)) ∧ Below w.heap.size w w' := by
  have EA := Lib.hid hl.len_eq
  have hB := below_box (w := w) (bxIt false false false false false)
  have HX := heap_alloc_new w (bxIt false false false false false)
  have HC := findRo_calls n c A l o q _ (hl.below hB)
  cases hp : placeRo l o q with
  | some i =>
    obtain ⟨hil, hk, hb4⟩ := place_some hp
    obtain ⟨⟨a_, b_, c_, d_, e_, f_, g_⟩, he⟩ : ∃ e, l[i] = e := ⟨_, rfl⟩
    have HF : Hid (getRo l o q = ⟨c_, d_, e_, f_, g_⟩) := by
      show _ = _
      rw [(getRo_at l o q i hil hb4 hk).1, he]
    have e1 : maxI (idxI (placeRo l o q)) = (i : Int) := by rw [hp]; unfold maxI idxI; simp
    have e2 : decide (0 ≤ idxI (placeRo l o q)) = true := by rw [hp]; unfold idxI; simp
    rw [e1, e2] at HC
    have HE := Lib.hid he
    clear e1 e2 hp hk hb4 he
    go_enter Tryz.func78, Tryz.ntmps78
    go_wp2_with fail
    refine HC.mono ?_
    rintro e w1 ⟨rfl, b1⟩
    have HX1 := hcall HX b1
    have hB1 := below_call hB b1
    obtain ⟨ad, rfl, c0, c1, c2, c3, c4, c5, c6⟩ := rowEn (hl.below hB1) i hil a_ b_ c_ d_ e_ f_ g_ HE.out
    obtain ⟨⟨o0, o1, o2, o3, o4⟩, ⟨f0, f1, f2, f3, f4⟩, og⟩ := iopen HX1
    have x1 : (0 : Int) ≤ (i : Int) := by omega
    have x2 : (i : Int) < (n : Int) := by have := EA.out; omega
    go_wp2
    (try simp only [Exit.inBlock, Exit.then])
    refine bodyPost_vc rfl w.heap.size 103 #[.bool c_, .bool d_, .bool e_, .bool f_, .bool g_] (0, 0) _ rfl ?_ Tryz.underlying103 rfl info_it rfl ⟨?_, ?_⟩
    · simp [World.setCell, Array.getElem?_modify, HX1]
    · rw [HF.out]
    · exact bset (bset (bset (bset (bset hB1 w.heap.size 0 _ (Nat.le_refl _)) w.heap.size 1 _ (Nat.le_refl _)) w.heap.size 2 _ (Nat.le_refl _)) w.heap.size 3 _ (Nat.le_refl _)) w.heap.size 4 _ (Nat.le_refl _)
  | none =>
    have HF : Hid (getRo l o q = noI) := (getRo_no l o q (place_none hp)).1
    have e1 : maxI (idxI (placeRo l o q)) = 0 := by rw [hp]; rfl
    have e2 : decide (0 ≤ idxI (placeRo l o q)) = false := by rw [hp]; rfl
    rw [e1, e2] at HC
    clear e1 e2 hp
    go_enter Tryz.func78, Tryz.ntmps78
    go_wp2_with fail
    refine HC.mono ?_
    rintro e w1 ⟨rfl, b1⟩
    have HX1 := hcall HX b1
    have hB1 := below_call hB b1
    obtain ⟨⟨o0, o1, o2, o3, o4⟩, ⟨f0, f1, f2, f3, f4⟩, og⟩ := iopen HX1
    go_wp2
    (try simp only [Exit.inBlock, Exit.then])
    refine bodyPost_vc rfl w.heap.size 103 #[.bool false, .bool false, .bool false, .bool false, .bool false] (0, 0) _ rfl ?_ Tryz.underlying103 rfl info_it rfl ⟨?_, ?_⟩
    · simp [World.setCell, Array.getElem?_modify, HX1]
    · rw [HF.out]; rfl
    · exact bset (bset (bset (bset (bset hB1 w.heap.size 0 _ (Nat.le_refl _)) w.heap.size 1 _ (Nat.le_refl _)) w.heap.size 2 _ (Nat.le_refl _)) w.heap.size 3 _ (Nat.le_refl _)) w.heap.size 4 _ (Nat.le_refl _)
set_option maxHeartbeats 8000000 in
set_option maxRecDepth 100000 in
theorem refGetRo_calls (n c : Nat) (A : Option Addr) (l : List En) (o q : ByteArray) (w : World) (hl : Row enEn 7 w (.slice A n c) l) :
    Calls Tryz.prog 82 #[.slice A n c, .string o, .string q] w fun e w' => e = .returned (vaIt (getRo l o q)) ∧ Below w.heap.size w w' := by
  have EA := Lib.hid hl.len_eq
  have hnl : n ≤ 9223372036854775807 := by rw [EA.out]; exact hl.len
  go_enter Tryz.func82, Tryz.ntmps82
  go_wp2
  go_loopw [7] (fun vc wr => ∃ (i : Nat), vc = .int .i64 i ∧ i ≤ n ∧ Below w.heap.size w wr ∧ wr.heap[w.heap.size]? = some (bxIt false false false false false) ∧ Hid (∀ j (h : j < l.length), j < i → keyRo l[j] ≠ (o, q))) (fun vc _ => (n - intOf vc).toNat)
  case atStart => exact ⟨0, rfl, Nat.zero_le _, below_box _, heap_alloc_new w _, fun j _ h => absurd h (by omega)⟩
  case round =>
    obtain ⟨i, rfl, hi, hB, HX, HT⟩ := hrel
    by_cases hlt : i < n
    · have hil : i < l.length := by have := EA.out; omega
      obtain ⟨⟨a_, b_, c_, d_, e_, f_, g_⟩, he⟩ : ∃ e, l[i] = e := ⟨_, rfl⟩
      obtain ⟨ad, rfl, c0, c1, c2, c3, c4, c5, c6⟩ := rowEn (hl.below hB) i hil a_ b_ c_ d_ e_ f_ g_ he
      have HX1 := HX
      have hB1 := hB
      by_cases hq : a_ = o ∧ b_ = q
      · have HAT := getRo_at l o q i hil HT.out (by rw [he]; exact Prod.ext hq.1 hq.2)
        have HF : Hid (getRo l o q = ⟨c_, d_, e_, f_, g_⟩) := by
          show _ = _
          rw [HAT.1, he]
        obtain ⟨q1, q2⟩ := hq
        have hs1 : a_.toList = o.toList := by rw [q1]
        have hs2 : b_.toList = q.toList := by rw [q2]
        have hs3 : (a_.toList == o.toList) = true := by rw [q1]; exact beq_self_eq_true _
        have hs4 : (b_.toList == q.toList) = true := by rw [q2]; exact beq_self_eq_true _
        clear he HT HAT q1 q2
        obtain ⟨⟨o0, o1, o2, o3, o4⟩, ⟨f0, f1, f2, f3, f4⟩, og⟩ := iopen HX1
        go_wp2
        (try simp only [Exit.inBlock, Exit.then])
        refine bodyPost_vc rfl w.heap.size 103 #[.bool c_, .bool d_, .bool e_, .bool f_, .bool g_] (0, 0) _ rfl ?_ Tryz.underlying103 rfl info_it rfl ⟨?_, ?_⟩
        · simp [World.setCell, Array.getElem?_modify, HX1]
        · rw [HF.out]
        · exact bset (bset (bset (bset (bset hB1 w.heap.size 0 _ (Nat.le_refl _)) w.heap.size 1 _ (Nat.le_refl _)) w.heap.size 2 _ (Nat.le_refl _)) w.heap.size 3 _ (Nat.le_refl _)) w.heap.size 4 _ (Nat.le_refl _)
      · have HN : Hid (∀ j (h : j < l.length), j < i + 1 → keyRo l[j] ≠ (o, q)) := fun j h hj => by
          rcases Nat.lt_or_ge j i with h' | h'
          · exact HT.out j h h'
          · obtain rfl : j = i := by omega
            rw [he]
            exact fun e => hq ⟨congrArg Prod.fst e, congrArg Prod.snd e⟩
        by_cases q1 : a_ = o
        · have q2 : ¬ b_ = q := fun e => hq ⟨q1, e⟩
          have hs1 : a_.toList = o.toList := by rw [q1]
          have hs3 : (a_.toList == o.toList) = true := by rw [q1]; exact beq_self_eq_true _
          have hs2 : ¬ b_.toList = q.toList := by simpa [toList_inj'] using q2
          have hs4 : (b_.toList == q.toList) = false := by simpa [toList_inj'] using q2
          clear he q1 q2 hq
          go_wp2
          exact ⟨⟨i + 1, by go_num, by omega, hB1, HX1, HN⟩, by simp [intOf]; omega⟩
        · have hs1 : ¬ a_.toList = o.toList := by simpa [toList_inj'] using q1
          have hs3 : (a_.toList == o.toList) = false := by simpa [toList_inj'] using q1
          clear he q1 hq
          go_wp2
          exact ⟨⟨i + 1, by go_num, by omega, hB1, HX1, HN⟩, by simp [intOf]; omega⟩
    · have hin : i = n := by omega
      subst hin
      have HNO := getRo_no l o q (fun j hj => HT.out j hj (by rw [EA.out]; exact hj))
      have HF : Hid (getRo l o q = noI) := HNO.1
      have HX1 := HX
      have hB1 := hB
      clear HT HNO
      obtain ⟨⟨o0, o1, o2, o3, o4⟩, ⟨f0, f1, f2, f3, f4⟩, og⟩ := iopen HX1
      go_wp2
      (try simp only [Exit.inBlock, Exit.then])
      refine bodyPost_vc rfl w.heap.size 103 #[.bool false, .bool false, .bool false, .bool false, .bool false] (0, 0) _ rfl ?_ Tryz.underlying103 rfl info_it rfl ⟨?_, ?_⟩
      · simp [World.setCell, Array.getElem?_modify, HX1]
      · rw [HF.out]; rfl
      · exact bset (bset (bset (bset (bset hB1 w.heap.size 0 _ (Nat.le_refl _)) w.heap.size 1 _ (Nat.le_refl _)) w.heap.size 2 _ (Nat.le_refl _)) w.heap.size 3 _ (Nat.le_refl _)) w.heap.size 4 _ (Nat.le_refl _)
set_option maxHeartbeats 8000000 in
set_option maxRecDepth 100000 in
theorem hasRo_calls (n c : Nat) (A : Option Addr) (l : List En) (o q : ByteArray) (w : World) (hl : Row enEn 7 w (.slice A n c) l) :
    Calls Tryz.prog 83 #[.slice A n c, .string o, .string q] w fun e w' => e = .returned (.bool (hasRo l o q)) ∧ Below w.heap.size w w' := by
  have EA := Lib.hid hl.len_eq
  have hnl : n ≤ 9223372036854775807 := by rw [EA.out]; exact hl.len
  go_enter Tryz.func83, Tryz.ntmps83
  go_wp2
  go_loopw [7] (fun vc wr => ∃ (i : Nat), vc = .int .i64 i ∧ i ≤ n ∧ Below w.heap.size w wr ∧ Hid (∀ j (h : j < l.length), j < i → keyRo l[j] ≠ (o, q))) (fun vc _ => (n - intOf vc).toNat)
  case atStart => exact ⟨0, rfl, Nat.zero_le _, Below.refl _ _, fun j _ h => absurd h (by omega)⟩
  case round =>
    obtain ⟨i, rfl, hi, hB, HT⟩ := hrel
    by_cases hlt : i < n
    · have hil : i < l.length := by have := EA.out; omega
      obtain ⟨⟨a_, b_, c_, d_, e_, f_, g_⟩, he⟩ : ∃ e, l[i] = e := ⟨_, rfl⟩
      obtain ⟨ad, rfl, c0, c1, c2, c3, c4, c5, c6⟩ := rowEn (hl.below hB) i hil a_ b_ c_ d_ e_ f_ g_ he
      have hB1 := hB
      by_cases hq : a_ = o ∧ b_ = q
      · have HAT := getRo_at l o q i hil HT.out (by rw [he]; exact Prod.ext hq.1 hq.2)
        have HF : Hid (hasRo l o q = true) := by
          show _ = _
          exact HAT.2
        obtain ⟨q1, q2⟩ := hq
        have hs1 : a_.toList = o.toList := by rw [q1]
        have hs2 : b_.toList = q.toList := by rw [q2]
        have hs3 : (a_.toList == o.toList) = true := by rw [q1]; exact beq_self_eq_true _
        have hs4 : (b_.toList == q.toList) = true := by rw [q2]; exact beq_self_eq_true _
        clear he HT HAT q1 q2
        go_wp2
        go_ret
        rw [HF.out]
        exact ⟨rfl, hB1⟩
      · have HN : Hid (∀ j (h : j < l.length), j < i + 1 → keyRo l[j] ≠ (o, q)) := fun j h hj => by
          rcases Nat.lt_or_ge j i with h' | h'
          · exact HT.out j h h'
          · obtain rfl : j = i := by omega
            rw [he]
            exact fun e => hq ⟨congrArg Prod.fst e, congrArg Prod.snd e⟩
        by_cases q1 : a_ = o
        · have q2 : ¬ b_ = q := fun e => hq ⟨q1, e⟩
          have hs1 : a_.toList = o.toList := by rw [q1]
          have hs3 : (a_.toList == o.toList) = true := by rw [q1]; exact beq_self_eq_true _
          have hs2 : ¬ b_.toList = q.toList := by simpa [toList_inj'] using q2
          have hs4 : (b_.toList == q.toList) = false := by simpa [toList_inj'] using q2
          clear he q1 q2 hq
          go_wp2
          exact ⟨⟨i + 1, by go_num, by omega, hB1, HN⟩, by simp [intOf]; omega⟩
        · have hs1 : ¬ a_.toList = o.toList := by simpa [toList_inj'] using q1
          have hs3 : (a_.toList == o.toList) = false := by simpa [toList_inj'] using q1
          clear he q1 hq
          go_wp2
          exact ⟨⟨i + 1, by go_num, by omega, hB1, HN⟩, by simp [intOf]; omega⟩
    · have hin : i = n := by omega
      subst hin
      have HNO := getRo_no l o q (fun j hj => HT.out j hj (by rw [EA.out]; exact hj))
      have HF : Hid (hasRo l o q = false) := HNO.2
      have hB1 := hB
      clear HT HNO
      go_wp2
      go_ret
      rw [HF.out]
      exact ⟨rfl, hB1⟩
set_option maxHeartbeats 8000000 in
set_option maxRecDepth 100000 in
theorem SeesRo_calls (n c : Nat) (A : Option Addr) (l : List En) (o q : ByteArray) (w : World) (hl : Row enEn 7 w (.slice A n c) l) :
    Calls Tryz.prog 32 #[.slice A n c, .string o, .string q] w fun e w' => e = .returned (.bool (seesRo l o q)) ∧ Below w.heap.size w w' := by
  unfold seesRo
  obtain ⟨⟨a, b, c', d, e⟩, h1⟩ : ∃ x, getRo l o q = x := ⟨_, rfl⟩
  obtain ⟨⟨a', b', c'', d', e'⟩, h2⟩ : ∃ x, getRo l q o = x := ⟨_, rfl⟩
  have H1 := GetRo_calls n c A l o q w hl
  have H2 := fun (w1 : World) (h : Below w.heap.size w w1) => GetRo_calls n c A l q o w1 (hl.below h)
  rw [h1] at H1 ⊢
  rw [h2] at H2 ⊢
  have HH2 := Lib.hid H2
  obtain ⟨r, hr⟩ : ∃ r, seesI ⟨a, b, c', d, e⟩ ⟨a', b', c'', d', e'⟩ = r := ⟨_, rfl⟩
  rw [hr]
  have HR := Lib.hid hr
  clear hr h1 h2 H2
  go_enter Tryz.func32, Tryz.ntmps32
  go_wp2_with fail
  refine H1.mono ?_
  rintro x w1 ⟨rfl, b1⟩
  go_wp2_with fail
  refine (HH2.out w1 b1).mono ?_
  rintro x w2 ⟨rfl, b2⟩
  go_wp2_with fail
  with_reducible refine (re_ (SeesI_calls a b c' d e a' b' c'' d' e' _) (ret_bool HR.out)).mono ?_
  rintro x w3 ⟨rfl, b3⟩
  go_wp2
  go_ret
  exact ⟨rfl, below_call (below_call b1 b2) b3⟩
end Go.Proofs.YtbpfcjdjhponaaaGreat
namespace Go.Proofs.YtbpfcjdjhponaaaGreat
open Go.RowKit
open Sp
set_option maxHeartbeats 8000000 in
set_option maxRecDepth 100000 in
theorem few8_calls (n c : Nat) (A : Option Addr) (l : List En) (w : World) (hl : Row enEn 7 w (.slice A n c) l) (hz : ∀ s ∈ l, s.o.size ≤ 9223372036854775807 ∧ s.c.size ≤ 9223372036854775807) :
    Calls Tryz.prog 35 #[.slice A n c] w fun e w' => e = .returned (.bool (fewRo l)) ∧ Below w.heap.size w w' := by
  have EA := Lib.hid hl.len_eq
  have hnl : n ≤ 9223372036854775807 := by rw [EA.out]; exact hl.len
  obtain ⟨r, hr⟩ : ∃ r, fewRo l = r := ⟨_, rfl⟩
  rw [hr]
  unfold fewRo at hr
  have HR := Lib.hid hr
  have HZ := Lib.hid hz
  clear hr hz
  by_cases hm : 80 < (n : Int)
  · have HF : Hid (r = false) := by
      show _ = _
      rw [← HR.out, decide_eq_false (by rw [← EA.out]; omega)]; rfl
    go_enter Tryz.func35, Tryz.ntmps35
    go_wp2
    go_ret
    rw [HF.out]
    exact ⟨rfl, Below.refl _ _⟩
  · have hm' : (n : Int) ≤ 80 := by omega
    clear hm
    go_enter Tryz.func35, Tryz.ntmps35
    go_wp2
    go_loopw [3] (fun v3 wr => ∃ i : Nat, v3 = .int .i64 i ∧ i ≤ n ∧ Below w.heap.size w wr ∧ Hid (∀ j (h : j < l.length), j < i → (decide (l[j].o.size ≤ 40) && decide (l[j].c.size ≤ 40)) = true)) (fun v3 _ => (n - intOf v3).toNat)
    case atStart => exact ⟨0, rfl, Nat.zero_le _, Below.refl _ _, fun j _ h => absurd h (by omega)⟩
    case round =>
      obtain ⟨i, rfl, hi, hB, HT⟩ := hrel
      by_cases hlt : i < n
      · have hil : i < l.length := by have := EA.out; omega
        obtain ⟨z1, z2⟩ := HZ.out l[i] (List.getElem_mem _)
        obtain ⟨⟨a_, b_, c_, d_, e_, f_, g_⟩, he⟩ : ∃ e, l[i] = e := ⟨_, rfl⟩
        rw [he] at z1 z2
        simp only at z1 z2
        obtain ⟨ad, rfl, c0, c1, c2, c3, c4, c5, c6⟩ := rowEn (hl.below hB) i hil a_ b_ c_ d_ e_ f_ g_ he
        have HE := Lib.hid he
        clear he
        by_cases hq : a_.size ≤ 40 ∧ b_.size ≤ 40
        · have HN : Hid (∀ j (h : j < l.length), j < i + 1 → (decide (l[j].o.size ≤ 40) && decide (l[j].c.size ≤ 40)) = true) := fun j h hj => by
            rcases Nat.lt_or_ge j i with h' | h'
            · exact HT.out j h h'
            · obtain rfl : j = i := by omega
              rw [HE.out]
              simp only
              rw [decide_eq_true hq.1, decide_eq_true hq.2]; rfl
          have h1 : ((a_.size : Nat) : Int) ≤ 40 := by omega
          have h2 : ((b_.size : Nat) : Int) ≤ 40 := by omega
          clear hq
          go_wp2
          exact ⟨⟨i + 1, by go_num, by omega, hB, HN⟩, by simp [intOf]; omega⟩
        · have HF : Hid (r = false) := by
            show _ = _
            rw [← HR.out, Bool.and_eq_false_iff]
            right
            rw [List.all_eq_false]
            refine ⟨l[i], List.getElem_mem _, ?_⟩
            rw [HE.out]
            simp only [Bool.and_eq_true, decide_eq_true_eq]
            exact hq
          by_cases h1 : ((a_.size : Nat) : Int) ≤ 40
          · have h2 : 40 < ((b_.size : Nat) : Int) := by omega
            clear hq
            go_wp2
            go_ret
            rw [HF.out]
            exact ⟨rfl, hB⟩
          · have h2 : 40 < ((a_.size : Nat) : Int) := by omega
            clear hq h1
            go_wp2
            go_ret
            rw [HF.out]
            exact ⟨rfl, hB⟩
      · have hin : i = n := by omega
        subst hin
        have HF : Hid (r = true) := by
          show _ = _
          rw [← HR.out, Bool.and_eq_true]
          refine ⟨decide_eq_true (by rw [← EA.out]; omega), ?_⟩
          rw [List.all_eq_true]
          intro e he
          obtain ⟨j, hj, rfl⟩ := List.getElem_of_mem he
          exact HT.out j hj (by rw [EA.out]; exact hj)
        go_wp2
        go_ret
        rw [HF.out]
        exact ⟨rfl, hB⟩
set_option maxHeartbeats 8000000 in
set_option maxRecDepth 100000 in
theorem WatchRo_calls (n c : Nat) (A : Option Addr) (l : List En) (q : ByteArray) (w : World) (hl : Row enEn 7 w (.slice A n c) l) (hn : n ≤ 100000) :
    Calls Tryz.prog 69 #[.slice A n c, .string q] w fun e w' => ∃ v, e = .returned v ∧ Row enS 1 w' v (watchRo l q) ∧ Below w.heap.size w w' := by
  have EA := Lib.hid hl.len_eq
  go_enter Tryz.func69, Tryz.ntmps69
  go_wp2
  go_loopw [5, 10] (fun vo vc wr => ∃ (i : Nat) (ys : List ByteArray), vc = .int .i64 i ∧ i ≤ n ∧ ys.length ≤ i ∧ Hid (((l.take i).filter (fun x : En => decide (x.c = q) && seesRo l x.o q)).map En.o = ys) ∧ Own enS 1 9 wr w.heap.size vo ys ∧ Below w.heap.size w wr) (fun _ vc _ => (n - intOf vc).toNat)
  case atStart => exact ⟨0, [], rfl, Nat.zero_le _, Nat.le_refl _, rfl, Own.nil _ _ _ _ _, Below.refl _ _⟩
  case round =>
    obtain ⟨i, ys, rfl, hi, hys, HT, hO, hB⟩ := hrel
    by_cases hlt : i < n
    · have hil : i < l.length := by have := EA.out; omega
      obtain ⟨⟨a_, b_, c_, d_, e_, f_, g_⟩, he⟩ : ∃ e, l[i] = e := ⟨_, rfl⟩
      obtain ⟨ad, rfl, c0, c1, c2, c3, c4, c5, c6⟩ := rowEn (hl.below hB) i hil a_ b_ c_ d_ e_ f_ g_ he
      have htk : ((l.take (i + 1)).filter (fun x : En => decide (x.c = q) && seesRo l x.o q)).map En.o = ys ++ (if decide (b_ = q) && seesRo l a_ q then [a_] else []) := by
        rw [List.take_succ_eq_append_getElem hil, List.filter_append, List.map_append, HT.out, he, List.filter_cons]
        simp only
        split <;> rfl
      have HTK := Lib.hid htk
      clear he htk HT
      have hO1 := hO.alloc (bxEn a_ b_ c_ d_ e_ f_ g_)
      have hB1 := below_alloc0 hB (bxEn a_ b_ c_ d_ e_ f_ g_)
      obtain ⟨u0, u1, u2, u3, u4, u5, u6, uz⟩ := cellsEn a_ b_ c_ d_ e_ f_ g_ (heap_alloc_new wr (bxEn a_ b_ c_ d_ e_ f_ g_))
      by_cases hq : b_ = q
      · replace hq := hq.symm
        subst hq
        obtain ⟨bs, hbs⟩ : ∃ bs, seesRo l a_ q = bs := ⟨_, rfl⟩
        have HS := Lib.hid hbs
        clear hbs hO hB
        cases bs with
        | true =>
          have HT2 : Hid (((l.take (i + 1)).filter (fun x : En => decide (x.c = q) && seesRo l x.o q)).map En.o = ys ++ [a_]) := by
            show _ = _
            rw [HTK.out, HS.out, decide_eq_true rfl]
            rfl
          go_wp2_with fail
          with_reducible refine (re_ (SeesRo_calls n c _ l a_ q _ (hl.below hB1)) (ret_bool HS.out)).mono ?_
          rintro e w4 ⟨rfl, b4⟩
          replace hO1 := hO1.below b4
          replace hB1 := below_call hB1 b4
          replace u0 := cell_below b4 u0
          clear b4
          go_wp2_with (at_builtin; refine Own.append (w0 := w) w.heap.size rfl (.tmp 25) (.tmp 28) 51 9 (.string ⟨#[]⟩) 1 16 rfl Tryz.underlying51 info_str rfl (by decide) _ ys a_ [.string a_] rfl rfl rfl rfl (enS_one _) hO1 hB1 hB1.size (by omega) (by omega) ?_; intro v2 w2 hO2 hB2 _ _)
          exact ⟨⟨i + 1, ys ++ [a_], by go_num, by omega, by rw [List.length_append]; simp only [List.length_cons, List.length_nil]; omega, HT2, hO2, hB2⟩, by simp [intOf]; omega⟩
        | false =>
          have HT2 : Hid (((l.take (i + 1)).filter (fun x : En => decide (x.c = q) && seesRo l x.o q)).map En.o = ys) := by
            show _ = _
            rw [HTK.out, HS.out, decide_eq_true rfl]
            simp
          go_wp2_with fail
          with_reducible refine (re_ (SeesRo_calls n c _ l a_ q _ (hl.below hB1)) (ret_bool HS.out)).mono ?_
          rintro e w4 ⟨rfl, b4⟩
          replace hO1 := hO1.below b4
          replace hB1 := below_call hB1 b4
          replace u0 := cell_below b4 u0
          clear b4
          go_wp2
          exact ⟨⟨i + 1, ys, by go_num, by omega, by omega, HT2, hO1, hB1⟩, by simp [intOf]; omega⟩
      · have HT2 : Hid (((l.take (i + 1)).filter (fun x : En => decide (x.c = q) && seesRo l x.o q)).map En.o = ys) := by
          show _ = _
          rw [HTK.out, decide_eq_false hq]
          simp
        have hs1 : ¬ b_.toList = q.toList := by simpa [toList_inj'] using hq
        have hs2 : (b_.toList == q.toList) = false := by simpa [toList_inj'] using hq
        clear hq hO hB
        go_wp2
        exact ⟨⟨i + 1, ys, by go_num, by omega, by omega, HT2, hO1, hB1⟩, by simp [intOf]; omega⟩
    · have hin : i = n := by omega
      subst hin
      have HF : Hid ((l.filter (fun x : En => decide (x.c = q) && seesRo l x.o q)).map En.o = ys) := by
        show _ = _
        have := HT.out
        rwa [List.take_of_length_le (by rw [EA.out]; exact Nat.le_refl _)] at this
      obtain ⟨A2, c2, rfl, _⟩ := hO.slice
      go_wp2_with fail
      refine (Merge_calls ys.length c2 0 0 A2 none ys [] _ hO.row (Row.nil _ _ _) (by omega) (by omega)).mono ?_
      rintro e w2 ⟨v2, rfl, hv2, b2⟩
      go_wp2
      go_ret
      refine ⟨_, rfl, ?_, below_call hB b2⟩
      unfold watchRo
      rw [HF.out]
      exact hv2
end Go.Proofs.YtbpfcjdjhponaaaGreat
namespace Go.Proofs.YtbpfcjdjhponaaaGreat
open Go.RowKit
open Sp
def cmpRo (a b : EnK) : Int := if a = b then 0 else if ltRo a b then -1 else 1
theorem cmpRo_ge (a b : EnK) : decide (0 ≤ cmpRo a b) = !ltRo a b := by
  unfold cmpRo
  by_cases h : a = b
  · rw [if_pos h, h, ltRo_ord.irr]; rfl
  · rw [if_neg h]
    cases ltRo a b <;> rfl
theorem cellsKr {W : World} {g : Nat} {u v : ByteArray} (h : W.heap[g]? = some (bxKr u v)) : W.cell? ⟨g, 0, none⟩ = some (.string u) ∧ W.cell? ⟨g, 1, none⟩ = some (.string v) := ⟨by simp [World.cell?, h], by simp [World.cell?, h]⟩
set_option maxHeartbeats 8000000 in
set_option maxRecDepth 100000 in
theorem orderR_calls (u v u' v' : ByteArray) (w : World) :
    Calls Tryz.prog 139 #[agKr u v, agKr u' v'] w fun e w' => e = .returned (.int .i64 (cmpRo (u, v) (u', v'))) ∧ Below w.heap.size w w' := by
  have D := below_alloc0 (below_box (w := w) (bxKr u v)) (bxKr u' v')
  have ha := halloc (heap_alloc_new w (bxKr u v)) (bxKr u' v')
  have hb := heap_alloc_new (w.alloc (bxKr u v)) (bxKr u' v')
  rw [size_alloc] at hb
  have hE := eqlKr u v u' v'
  by_cases h : ((u, v) : EnK) = (u', v')
  · have HF : Hid (cmpRo (u, v) (u', v') = 0) := if_pos h
    rw [decide_eq_true h] at hE
    obtain ⟨k0, k1⟩ := cellsKr ha
    obtain ⟨j0, j1⟩ := cellsKr hb
    clear h
    go_enter Tryz.func139, Tryz.ntmps139
    go_wp2
    go_ret
    rw [HF.out]
    exact ⟨rfl, D⟩
  rw [decide_eq_false h] at hE
  obtain ⟨b1, hb1⟩ : ∃ b, less u u' = b := ⟨_, rfl⟩
  have HL := Lib.hid hb1
  have hcm : cmpRo (u, v) (u', v') = if (b1 || (decide (u = u') && less v v')) then -1 else 1 := by
    unfold cmpRo ltRo
    rw [if_neg h, ← hb1]
  clear hb1 h
  obtain ⟨k0, k1⟩ := cellsKr ha
  obtain ⟨j0, j1⟩ := cellsKr hb
  cases b1 with
  | true =>
    have HF : Hid (cmpRo (u, v) (u', v') = -1) := hcm
    clear hcm
    go_enter Tryz.func139, Tryz.ntmps139
    go_wp2_with fail
    with_reducible refine (Less_is _ u u' true HL).mono ?_
    rintro e w1 ⟨rfl, c1⟩
    have D1 := below_call D c1
    clear k0 k1 j0 j1
    go_wp2
    go_ret
    rw [HF.out]
    exact ⟨rfl, D1⟩
  | false =>
    by_cases hu : u = u'
    · obtain ⟨b2, hb2⟩ : ∃ b, less v v' = b := ⟨_, rfl⟩
      have HL2 := Lib.hid hb2
      rw [decide_eq_true hu, hb2, Bool.false_or, Bool.true_and] at hcm
      have HC := Lib.hid hcm
      have e1 : (u.toList == u'.toList) = true := by rw [hu]; exact beq_self_eq_true _
      have e2 : u.toList = u'.toList := by rw [hu]
      clear hb2 hcm hu
      go_enter Tryz.func139, Tryz.ntmps139
      go_wp2_with fail
      with_reducible refine (Less_is _ u u' false HL).mono ?_
      rintro e w1 ⟨rfl, c1⟩
      replace ha := hcall ha c1
      replace hb := hcall hb c1
      have D1 := below_call D c1
      clear k0 k1 j0 j1 c1
      obtain ⟨k0, k1⟩ := cellsKr ha
      obtain ⟨j0, j1⟩ := cellsKr hb
      go_wp2_with fail
      with_reducible refine (Less_is _ v v' b2 HL2).mono ?_
      rintro e w2 ⟨rfl, c2⟩
      have D2 := below_call D1 c2
      clear k0 k1 j0 j1 c2
      cases b2 with
      | true =>
        have HF : Hid (cmpRo (u, v) (u', v') = -1) := HC.out
        go_wp2
        go_ret
        rw [HF.out]
        exact ⟨rfl, D2⟩
      | false =>
        have HF : Hid (cmpRo (u, v) (u', v') = 1) := HC.out
        go_wp2
        go_ret
        rw [HF.out]
        exact ⟨rfl, D2⟩
    · rw [decide_eq_false hu, Bool.false_and, Bool.or_false] at hcm
      have HF : Hid (cmpRo (u, v) (u', v') = 1) := hcm
      have e1 : (u.toList == u'.toList) = false := by simpa [toList_inj'] using hu
      have e2 : ¬ u.toList = u'.toList := by simpa [toList_inj'] using hu
      clear hcm hu
      go_enter Tryz.func139, Tryz.ntmps139
      go_wp2_with fail
      with_reducible refine (Less_is _ u u' false HL).mono ?_
      rintro e w1 ⟨rfl, c1⟩
      replace ha := hcall ha c1
      replace hb := hcall hb c1
      have D1 := below_call D c1
      clear k0 k1 j0 j1 c1
      obtain ⟨k0, k1⟩ := cellsKr ha
      obtain ⟨j0, j1⟩ := cellsKr hb
      go_wp2
      go_ret
      rw [HF.out]
      exact ⟨rfl, D1⟩
set_option maxHeartbeats 8000000 in
set_option maxRecDepth 100000 in
theorem refAheadR_calls (a b : ByteArray) (c d e f g : Bool) (a' b' : ByteArray) (c' d' e' f' g' : Bool) (w : World) :
    Calls Tryz.prog 81 #[.agg #[.string a, .string b, .bool c, .bool d, .bool e, .bool f, .bool g], .agg #[.string a', .string b', .bool c', .bool d', .bool e', .bool f', .bool g']] w fun x w' => x = .returned (.bool (ltRo (a, b) (a', b'))) ∧ Below w.heap.size w w' := by
  have D := below_alloc0 (below_box (w := w) (bxEn a b c d e f g)) (bxEn a' b' c' d' e' f' g')
  have ha := halloc (heap_alloc_new w (bxEn a b c d e f g)) (bxEn a' b' c' d' e' f' g')
  have hb := heap_alloc_new (w.alloc (bxEn a b c d e f g)) (bxEn a' b' c' d' e' f' g')
  rw [size_alloc] at hb
  obtain ⟨b1, hb1⟩ : ∃ x, less a a' = x := ⟨_, rfl⟩
  have HL := Lib.hid hb1
  have hcm : ltRo (a, b) (a', b') = (b1 || (decide (a = a') && less b b')) := by
    unfold ltRo
    rw [← hb1]
  clear hb1
  obtain ⟨k0, k1, k2, k3, k4, k5, k6, kz⟩ := cellsEn a b c d e f g ha
  obtain ⟨j0, j1, j2, j3, j4, j5, j6, jz⟩ := cellsEn a' b' c' d' e' f' g' hb
  cases b1 with
  | true =>
    have HF : Hid (ltRo (a, b) (a', b') = true) := hcm
    clear hcm
    go_enter Tryz.func81, Tryz.ntmps81
    go_wp2_with fail
    with_reducible refine (refLess_is _ a a' true HL).mono ?_
    rintro x w1 ⟨rfl, c1⟩
    subst c1
    go_wp2
    go_ret
    rw [HF.out]
    exact ⟨rfl, D⟩
  | false =>
    by_cases hu : a = a'
    · obtain ⟨b2, hb2⟩ : ∃ x, less b b' = x := ⟨_, rfl⟩
      have HL2 := Lib.hid hb2
      rw [decide_eq_true hu, hb2, Bool.false_or, Bool.true_and] at hcm
      have HC := Lib.hid hcm
      have e1 : (a.toList == a'.toList) = true := by rw [hu]; exact beq_self_eq_true _
      have e2 : a.toList = a'.toList := by rw [hu]
      clear hb2 hcm hu
      go_enter Tryz.func81, Tryz.ntmps81
      go_wp2_with fail
      with_reducible refine (refLess_is _ a a' false HL).mono ?_
      rintro x w1 ⟨rfl, c1⟩
      subst c1
      go_wp2_with fail
      with_reducible refine (refLess_is _ b b' b2 HL2).mono ?_
      rintro x w2 ⟨rfl, c2⟩
      subst c2
      go_wp2
      go_ret
      rw [HC.out]
      exact ⟨by rfl, D⟩
    · rw [decide_eq_false hu, Bool.false_and, Bool.or_false] at hcm
      have HF : Hid (ltRo (a, b) (a', b') = false) := hcm
      have e1 : (a.toList == a'.toList) = false := by simpa [toList_inj'] using hu
      have e2 : ¬ a.toList = a'.toList := by simpa [toList_inj'] using hu
      clear hcm hu
      go_enter Tryz.func81, Tryz.ntmps81
      go_wp2_with fail
      with_reducible refine (refLess_is _ a a' false HL).mono ?_
      rintro x w1 ⟨rfl, c1⟩
      subst c1
      go_wp2
      go_ret
      rw [HF.out]
      exact ⟨rfl, D⟩
end Go.Proofs.YtbpfcjdjhponaaaGreat
namespace Go.Proofs.YtbpfcjdjhponaaaGreat
open Go.RowKit Go.WideMaps Go.Maps Sp
def keyC (s : ByteArray) : Lit := .string s.data.toList
theorem keyC_key (s : ByteArray) : WideAt.IsKeyLit (keyC s) := trivial
theorem keyC_ne {s t : ByteArray} (h : s ≠ t) : keyC s ≠ keyC t := fun e => h (by
  have e2 : s.data.toList = t.data.toList := by injection e
  exact toList_inj.1 e2)
theorem mapLawC : Keyed Tryz.prog 9 := string_keyed Tryz.underlying9
theorem zeroInt (w : World) : (zeroValue 3).run Tryz.prog w = .ok (.int .i64 0) w := by kernel_rfl
def CntOf (D : DataW Unit) (xs : List ByteArray) : Prop := Tidy D ∧ ∀ s, D.atKey (keyC s) (.lit (.int .i64 0)) = .lit (.int .i64 (cntL xs s : Int))
theorem CntOf.new : CntOf (.map []) [] := ⟨tidy_empty, fun _ => by simp [DataW.atKey, cntL]⟩
theorem CntOf.put {D : DataW Unit} {xs : List ByteArray} (h : CntOf D xs) (s : ByteArray) : CntOf (D.put (keyC s) (.lit (.int .i64 ((cntL xs s + 1 : Nat) : Int)))) (xs ++ [s]) := by
  obtain ⟨h1, h2⟩ := h
  refine ⟨h1.put (keyC_key s) _, fun t => ?_⟩
  rw [cntL_snoc]
  by_cases e : t = s
  · subst e
    rw [atKey_put_same h1.isMap (keyC_key t), if_pos rfl]
  · rw [atKey_put_other (keyC_ne e), h2, if_neg (Ne.symm e), Nat.add_zero]
def CntMap (w : World) (b n : Nat) (xs : List ByteArray) : Prop := ∃ D : DataW Unit, w.ownsMap Tryz.prog 9 (plainElem Tryz.prog 3) b n D ∧ CntOf D xs
theorem CntMap.new (w : World) : CntMap (w.alloc (.map #[] 0)) w.heap.size 0 [] := ⟨_, World.ownsMap_made _ _ _ _, CntOf.new⟩
theorem CntMap.below {w w1 : World} {b n : Nat} {xs : List ByteArray} (h : CntMap w b n xs) (hb : Below w.heap.size w w1) : CntMap w1 b n xs := by
  obtain ⟨D, h1, h2⟩ := h
  exact ⟨D, h1.kept (grown_of_below hb none) (by simp), h2⟩
theorem CntMap.look {w : World} {b n : Nat} {xs : List ByteArray} (h : CntMap w b n xs) (s : ByteArray) (hs : s.size ≤ maxLen) :
    (Instr.lookup 183 (.map (some b)) (.string s) false).run Tryz.prog w = .ok (.int .i64 (cntL xs s)) w := by
  obtain ⟨D, h1, h2⟩ := h
  obtain ⟨v, ps, hrun, hv⟩ := h1.lookup mapLawC Tryz.underlying183 (zeroInt _) (plainElem_int Tryz.underlying3 (by decide)) (keyOf_string_mk Tryz.underlying9 hs)
  rw [show (.string s.data.toList : Lit) = keyC s from rfl, h2.2] at hv
  obtain ⟨x, rfl, e, _⟩ := plainElem_int_inv Tryz.underlying3 hv
  simp only [Prod.mk.injEq, DataW.lit.injEq, Lit.int.injEq, true_and] at e
  rw [hrun, e.1]
end Go.Proofs.YtbpfcjdjhponaaaGreat
namespace Go.Proofs.YtbpfcjdjhponaaaGreat
open Go.RowKit Go.MapKept
end Go.Proofs.YtbpfcjdjhponaaaGreat
