import Derived.Carry
import Derived.RegionTactic
import Derived.ChangeAlike
import Derived.Test.YtbpfcjdjhponaaaGreatPViewHides04
set_option linter.unusedVariables false
set_option linter.unusedSimpArgs false
namespace Go.Proofs.YtbpfcjdjhponaaaGreat
open Go.RowKit
open Sp
abbrev entI (k f : Nat) : MapEntry := { key := .int .i64 k, val := .func (.func f) #[] #[], born := k - 1 }
theorem bodyPost_cct {P : Program} {fn : Func} {R : Ending → World → Prop} {a : Act} {w : World} {p q u : Tmp} {ty : TypeId} (h : fn.results = #[.cell p ty, .cell q ty, .tmp u]) (g g2 : Nat) (t t2 : TypeId) (cs cs2 : Array Value) (fr fr2 : Nat × Nat) (d : TypeDesc)
    (hp : a.tmps.getD p undef = .pointer (some ⟨g, 0, none⟩)) (hq : a.tmps.getD q undef = .pointer (some ⟨g2, 0, none⟩)) (hg : w.heap[g]? = some (.cells cs t fr)) (hg2 : w.heap[g2]? = some (.cells cs2 t2 fr2))
    (hu : P.underlying ty = some d) (hd : (match d with | .struct _ | .array _ _ => true | _ => false) = true) (hi : (P.info? ty).map (·.size) = some cs.size) (hi2 : cs2.size = cs.size)
    (hde : a.defers = []) (hR : R (.returned (.tuple #[.agg cs, .agg cs2, a.tmps.getD u undef])) w) : bodyPost P fn R .ret a w := by
  refine bodyPost_ret ?_ hde hR
  have hp' : a.tmps[p]?.getD undef = .pointer (some ⟨g, 0, none⟩) := by simpa using hp
  have hq' : a.tmps[q]?.getD undef = .pointer (some ⟨g2, 0, none⟩) := by simpa using hq
  simp [results, h, hp', hq', asAddr, run_loadVar_row w g t ty cs fr d hg hu hd hi, run_loadVar_row w g2 t2 ty cs2 fr2 d hg2 hu hd (by rw [hi2]; exact hi)]
theorem iopen5 {W : World} {k : Nat} {c d e f g : Bool} (h : W.heap[k]? = some (.cells #[.bool c, .bool d, .bool e, .bool f, .bool g] 103)) : (W.cell? ⟨k, 0, none⟩ = some (.bool c) ∧ W.cell? ⟨k, 1, none⟩ = some (.bool d) ∧ W.cell? ⟨k, 2, none⟩ = some (.bool e) ∧ W.cell? ⟨k, 3, none⟩ = some (.bool f) ∧ W.cell? ⟨k, 4, none⟩ = some (.bool g)) ∧
    (W.frozen? ⟨k, 0, none⟩ = false ∧ W.frozen? ⟨k, 1, none⟩ = false ∧ W.frozen? ⟨k, 2, none⟩ = false ∧ W.frozen? ⟨k, 3, none⟩ = false ∧ W.frozen? ⟨k, 4, none⟩ = false) ∧ k < W.heap.size :=
  ⟨⟨by simp [World.cell?, h], by simp [World.cell?, h], by simp [World.cell?, h], by simp [World.cell?, h], by simp [World.cell?, h]⟩, ⟨by simp [World.frozen?, h], by simp [World.frozen?, h], by simp [World.frozen?, h], by simp [World.frozen?, h], by simp [World.frozen?, h]⟩, (Array.getElem?_eq_some_iff.1 h).1⟩
abbrev put5 (w : World) (g : Nat) (c d e f x : Bool) : World := ((((w.setCell ⟨g, 0, none⟩ (.bool c)).setCell ⟨g, 1, none⟩ (.bool d)).setCell ⟨g, 2, none⟩ (.bool e)).setCell ⟨g, 3, none⟩ (.bool f)).setCell ⟨g, 4, none⟩ (.bool x)
theorem put5_at {w : World} {g : Nat} {c' d' e' f' x' : Bool} (c d e f x : Bool) (h : w.heap[g]? = some (.cells #[.bool c', .bool d', .bool e', .bool f', .bool x'] 103)) : (put5 w g c d e f x).heap[g]? = some (.cells #[.bool c, .bool d, .bool e, .bool f, .bool x] 103) := by
  simp [put5, World.setCell, Array.getElem?_modify, h]
theorem put5_ne {w : World} {g k : Nat} (c d e f x : Bool) (hk : k ≠ g) : (put5 w g c d e f x).heap[k]? = w.heap[k]? := by
  simp [put5, World.setCell, Array.getElem?_modify, Ne.symm hk]
theorem put5_below {B : Nat} {a w : World} (h : Below B a w) (g : Nat) (hg : B ≤ g) (c d e f x : Bool) : Below B a (put5 w g c d e f x) := bset (bset (bset (bset (bset h g 0 _ hg) g 1 _ hg) g 2 _ hg) g 3 _ hg) g 4 _ hg
theorem heap_drew' {w : World} {k : Nat} {o : Option Obj} (h : w.heap[k]? = o) : w.drew.heap[k]? = o := h
theorem doI_err (a b : It) (k : Nat) (h : (doI k a b).2.2 ≠ 0) : (doI k a b).1 = a ∧ (doI k a b).2.1 = b := by
  unfold doI at h ⊢
  obtain ⟨a1, a2, a3, a4, a5⟩ := a
  obtain ⟨b1, b2, b3, b4, b5⟩ := b
  by_cases h1 : k = 1
  · subst h1; cases a1 <;> cases a3 <;> cases a5 <;> cases b5 <;> simp_all
  by_cases h2 : k = 2
  · subst h2; cases a4 <;> cases a5 <;> cases b5 <;> simp_all
  by_cases h3 : k = 3
  · subst h3; cases a1 <;> cases a3 <;> simp_all
  by_cases h4 : k = 4
  · subst h4; cases a2 <;> cases a4 <;> simp_all
  by_cases h5 : k = 5
  · subst h5; cases a5 <;> simp_all
  rw [if_neg h1, if_neg h2, if_neg h3, if_neg h4, if_neg h5] at h ⊢
  cases a5 <;> simp_all
theorem info_it5 : (Tryz.prog.info? 103).map (·.size) = some 5 := by kernel_rfl
theorem upd_1 (W : World) (b : Nat) (h : W.heap.size = b) : (Instr.mapUpdate 189 (.map (some b)) (.int .i64 1) (.func (.func 142) #[] #[])).run Tryz.prog (W.alloc (.map #[] 0)) = .ok () (W.alloc (.map #[entI 1 142] 1)) :=
  upd_new (kt := 3) Tryz.underlying189 Tryz.underlying3 (by trivial) (by rfl) W b h
theorem lok_1 (W : World) (b : Nat) (h : W.heap.size = b) : (Instr.lookup 189 (.map (some b)) (.int .i64 1) true).run Tryz.prog (W.alloc (.map #[entI 1 142, entI 2 143, entI 3 144, entI 4 145, entI 5 146, entI 6 147] 6)) = .ok (.tuple #[.func (.func 142) #[] #[], .bool true]) (W.alloc (.map #[entI 1 142, entI 2 143, entI 3 144, entI 4 145, entI 5 146, entI 6 147] 6)) :=
  look_at (kt := 3) (es := #[entI 1 142, entI 2 143, entI 3 144, entI 4 145, entI 5 146, entI 6 147]) (clock := 6) (i := 0) Tryz.underlying189 Tryz.underlying3 (by trivial) (by rfl) _ b (by subst h; exact heap_alloc_new _ _)
theorem upd_2 (W : World) (b : Nat) (h : W.heap.size = b) : (Instr.mapUpdate 189 (.map (some b)) (.int .i64 2) (.func (.func 143) #[] #[])).run Tryz.prog (W.alloc (.map #[entI 1 142] 1)) = .ok () (W.alloc (.map #[entI 1 142, entI 2 143] 2)) :=
  upd_new (kt := 3) Tryz.underlying189 Tryz.underlying3 (by trivial) (by rfl) W b h
theorem lok_2 (W : World) (b : Nat) (h : W.heap.size = b) : (Instr.lookup 189 (.map (some b)) (.int .i64 2) true).run Tryz.prog (W.alloc (.map #[entI 1 142, entI 2 143, entI 3 144, entI 4 145, entI 5 146, entI 6 147] 6)) = .ok (.tuple #[.func (.func 143) #[] #[], .bool true]) (W.alloc (.map #[entI 1 142, entI 2 143, entI 3 144, entI 4 145, entI 5 146, entI 6 147] 6)) :=
  look_at (kt := 3) (es := #[entI 1 142, entI 2 143, entI 3 144, entI 4 145, entI 5 146, entI 6 147]) (clock := 6) (i := 1) Tryz.underlying189 Tryz.underlying3 (by trivial) (by rfl) _ b (by subst h; exact heap_alloc_new _ _)
theorem upd_3 (W : World) (b : Nat) (h : W.heap.size = b) : (Instr.mapUpdate 189 (.map (some b)) (.int .i64 3) (.func (.func 144) #[] #[])).run Tryz.prog (W.alloc (.map #[entI 1 142, entI 2 143] 2)) = .ok () (W.alloc (.map #[entI 1 142, entI 2 143, entI 3 144] 3)) :=
  upd_new (kt := 3) Tryz.underlying189 Tryz.underlying3 (by trivial) (by rfl) W b h
theorem lok_3 (W : World) (b : Nat) (h : W.heap.size = b) : (Instr.lookup 189 (.map (some b)) (.int .i64 3) true).run Tryz.prog (W.alloc (.map #[entI 1 142, entI 2 143, entI 3 144, entI 4 145, entI 5 146, entI 6 147] 6)) = .ok (.tuple #[.func (.func 144) #[] #[], .bool true]) (W.alloc (.map #[entI 1 142, entI 2 143, entI 3 144, entI 4 145, entI 5 146, entI 6 147] 6)) :=
  look_at (kt := 3) (es := #[entI 1 142, entI 2 143, entI 3 144, entI 4 145, entI 5 146, entI 6 147]) (clock := 6) (i := 2) Tryz.underlying189 Tryz.underlying3 (by trivial) (by rfl) _ b (by subst h; exact heap_alloc_new _ _)
theorem upd_4 (W : World) (b : Nat) (h : W.heap.size = b) : (Instr.mapUpdate 189 (.map (some b)) (.int .i64 4) (.func (.func 145) #[] #[])).run Tryz.prog (W.alloc (.map #[entI 1 142, entI 2 143, entI 3 144] 3)) = .ok () (W.alloc (.map #[entI 1 142, entI 2 143, entI 3 144, entI 4 145] 4)) :=
  upd_new (kt := 3) Tryz.underlying189 Tryz.underlying3 (by trivial) (by rfl) W b h
theorem lok_4 (W : World) (b : Nat) (h : W.heap.size = b) : (Instr.lookup 189 (.map (some b)) (.int .i64 4) true).run Tryz.prog (W.alloc (.map #[entI 1 142, entI 2 143, entI 3 144, entI 4 145, entI 5 146, entI 6 147] 6)) = .ok (.tuple #[.func (.func 145) #[] #[], .bool true]) (W.alloc (.map #[entI 1 142, entI 2 143, entI 3 144, entI 4 145, entI 5 146, entI 6 147] 6)) :=
  look_at (kt := 3) (es := #[entI 1 142, entI 2 143, entI 3 144, entI 4 145, entI 5 146, entI 6 147]) (clock := 6) (i := 3) Tryz.underlying189 Tryz.underlying3 (by trivial) (by rfl) _ b (by subst h; exact heap_alloc_new _ _)
theorem upd_5 (W : World) (b : Nat) (h : W.heap.size = b) : (Instr.mapUpdate 189 (.map (some b)) (.int .i64 5) (.func (.func 146) #[] #[])).run Tryz.prog (W.alloc (.map #[entI 1 142, entI 2 143, entI 3 144, entI 4 145] 4)) = .ok () (W.alloc (.map #[entI 1 142, entI 2 143, entI 3 144, entI 4 145, entI 5 146] 5)) :=
  upd_new (kt := 3) Tryz.underlying189 Tryz.underlying3 (by trivial) (by rfl) W b h
theorem lok_5 (W : World) (b : Nat) (h : W.heap.size = b) : (Instr.lookup 189 (.map (some b)) (.int .i64 5) true).run Tryz.prog (W.alloc (.map #[entI 1 142, entI 2 143, entI 3 144, entI 4 145, entI 5 146, entI 6 147] 6)) = .ok (.tuple #[.func (.func 146) #[] #[], .bool true]) (W.alloc (.map #[entI 1 142, entI 2 143, entI 3 144, entI 4 145, entI 5 146, entI 6 147] 6)) :=
  look_at (kt := 3) (es := #[entI 1 142, entI 2 143, entI 3 144, entI 4 145, entI 5 146, entI 6 147]) (clock := 6) (i := 4) Tryz.underlying189 Tryz.underlying3 (by trivial) (by rfl) _ b (by subst h; exact heap_alloc_new _ _)
theorem upd_6 (W : World) (b : Nat) (h : W.heap.size = b) : (Instr.mapUpdate 189 (.map (some b)) (.int .i64 6) (.func (.func 147) #[] #[])).run Tryz.prog (W.alloc (.map #[entI 1 142, entI 2 143, entI 3 144, entI 4 145, entI 5 146] 5)) = .ok () (W.alloc (.map #[entI 1 142, entI 2 143, entI 3 144, entI 4 145, entI 5 146, entI 6 147] 6)) :=
  upd_new (kt := 3) Tryz.underlying189 Tryz.underlying3 (by trivial) (by rfl) W b h
theorem lok_6 (W : World) (b : Nat) (h : W.heap.size = b) : (Instr.lookup 189 (.map (some b)) (.int .i64 6) true).run Tryz.prog (W.alloc (.map #[entI 1 142, entI 2 143, entI 3 144, entI 4 145, entI 5 146, entI 6 147] 6)) = .ok (.tuple #[.func (.func 147) #[] #[], .bool true]) (W.alloc (.map #[entI 1 142, entI 2 143, entI 3 144, entI 4 145, entI 5 146, entI 6 147] 6)) :=
  look_at (kt := 3) (es := #[entI 1 142, entI 2 143, entI 3 144, entI 4 145, entI 5 146, entI 6 147]) (clock := 6) (i := 5) Tryz.underlying189 Tryz.underlying3 (by trivial) (by rfl) _ b (by subst h; exact heap_alloc_new _ _)
set_option maxHeartbeats 16000000 in
set_option maxRecDepth 100000 in
theorem act1_calls (a b c d e a' b' c' d' e' : Bool) (w : World) :
    Calls Tryz.prog 96 #[agI a b c d e, agI a' b' c' d' e', .int .i64 1] w fun x w' => x = .returned (.tuple #[vaIt (actI ⟨a, b, c, d, e⟩ ⟨a', b', c', d', e'⟩ 1).1, vaIt (actI ⟨a, b, c, d, e⟩ ⟨a', b', c', d', e'⟩ 1).2.1, .int .i64 (actI ⟨a, b, c, d, e⟩ ⟨a', b', c', d', e'⟩ 1).2.2]) ∧ Below w.heap.size w w' := by
  have hmm := @run_makeMap Tryz.prog
  have hu1 := upd_1
  have hu2 := upd_2
  have hu3 := upd_3
  have hu4 := upd_4
  have hu5 := upd_5
  have hu6 := upd_6
  have hl := lok_1
  have hx0 := heap_alloc_new w (.cells #[.bool a, .bool b, .bool c, .bool d, .bool e] 103)
  have hx1 := heap_alloc_new (w.alloc (.cells #[.bool a, .bool b, .bool c, .bool d, .bool e] 103)) (.cells #[.bool a', .bool b', .bool c', .bool d', .bool e'] 103)
  replace hx0 := halloc hx0 (.cells #[.bool a', .bool b', .bool c', .bool d', .bool e'] 103)
  have hx2 := heap_alloc_new ((w.alloc (.cells #[.bool a, .bool b, .bool c, .bool d, .bool e] 103)).alloc (.cells #[.bool a', .bool b', .bool c', .bool d', .bool e'] 103)) (.cells #[.bool false, .bool false, .bool false, .bool false, .bool false] 103)
  replace hx0 := halloc hx0 (.cells #[.bool false, .bool false, .bool false, .bool false, .bool false] 103)
  replace hx1 := halloc hx1 (.cells #[.bool false, .bool false, .bool false, .bool false, .bool false] 103)
  have hx3 := heap_alloc_new (((w.alloc (.cells #[.bool a, .bool b, .bool c, .bool d, .bool e] 103)).alloc (.cells #[.bool a', .bool b', .bool c', .bool d', .bool e'] 103)).alloc (.cells #[.bool false, .bool false, .bool false, .bool false, .bool false] 103)) (.cells #[.bool false, .bool false, .bool false, .bool false, .bool false] 103)
  replace hx0 := halloc hx0 (.cells #[.bool false, .bool false, .bool false, .bool false, .bool false] 103)
  replace hx1 := halloc hx1 (.cells #[.bool false, .bool false, .bool false, .bool false, .bool false] 103)
  replace hx2 := halloc hx2 (.cells #[.bool false, .bool false, .bool false, .bool false, .bool false] 103)
  have hx4 := heap_alloc_new ((((w.alloc (.cells #[.bool a, .bool b, .bool c, .bool d, .bool e] 103)).alloc (.cells #[.bool a', .bool b', .bool c', .bool d', .bool e'] 103)).alloc (.cells #[.bool false, .bool false, .bool false, .bool false, .bool false] 103)).alloc (.cells #[.bool false, .bool false, .bool false, .bool false, .bool false] 103)) (.map #[entI 1 142, entI 2 143, entI 3 144, entI 4 145, entI 5 146, entI 6 147] 6)
  replace hx0 := halloc hx0 (.map #[entI 1 142, entI 2 143, entI 3 144, entI 4 145, entI 5 146, entI 6 147] 6)
  replace hx1 := halloc hx1 (.map #[entI 1 142, entI 2 143, entI 3 144, entI 4 145, entI 5 146, entI 6 147] 6)
  replace hx2 := halloc hx2 (.map #[entI 1 142, entI 2 143, entI 3 144, entI 4 145, entI 5 146, entI 6 147] 6)
  replace hx3 := halloc hx3 (.map #[entI 1 142, entI 2 143, entI 3 144, entI 4 145, entI 5 146, entI 6 147] 6)
  have hx5 := heap_alloc_new (((((w.alloc (.cells #[.bool a, .bool b, .bool c, .bool d, .bool e] 103)).alloc (.cells #[.bool a', .bool b', .bool c', .bool d', .bool e'] 103)).alloc (.cells #[.bool false, .bool false, .bool false, .bool false, .bool false] 103)).alloc (.cells #[.bool false, .bool false, .bool false, .bool false, .bool false] 103)).alloc (.map #[entI 1 142, entI 2 143, entI 3 144, entI 4 145, entI 5 146, entI 6 147] 6)) (bxP a b c d e a' b' c' d' e')
  replace hx0 := halloc hx0 (bxP a b c d e a' b' c' d' e')
  replace hx1 := halloc hx1 (bxP a b c d e a' b' c' d' e')
  replace hx2 := halloc hx2 (bxP a b c d e a' b' c' d' e')
  replace hx3 := halloc hx3 (bxP a b c d e a' b' c' d' e')
  replace hx4 := halloc hx4 (bxP a b c d e a' b' c' d' e')
  simp only [size_alloc] at hx0 hx1 hx2 hx3 hx4 hx5
  have DD : Below w.heap.size w ((((((w.alloc (.cells #[.bool a, .bool b, .bool c, .bool d, .bool e] 103)).alloc (.cells #[.bool a', .bool b', .bool c', .bool d', .bool e'] 103)).alloc (.cells #[.bool false, .bool false, .bool false, .bool false, .bool false] 103)).alloc (.cells #[.bool false, .bool false, .bool false, .bool false, .bool false] 103)).alloc (.map #[entI 1 142, entI 2 143, entI 3 144, entI 4 145, entI 5 146, entI 6 147] 6)).alloc (bxP a b c d e a' b' c' d' e')) := below_alloc0 (below_alloc0 (below_alloc0 (below_alloc0 (below_alloc0 (below_box _) _) _) _) _) _
  obtain ⟨r, hr⟩ : ∃ r, actI ⟨a, b, c, d, e⟩ ⟨a', b', c', d', e'⟩ 1 = r := ⟨_, rfl⟩
  rw [hr]
  cases hf : fitI ⟨a, b, c, d, e⟩ ⟨a', b', c', d', e'⟩ with
  | false =>
    have HF : Hid (r = (⟨a, b, c, d, e⟩, ⟨a', b', c', d', e'⟩, 1)) := by
      show _ = _
      rw [← hr]
      unfold actI
      rw [if_pos hf]
    have HFT := Lib.hid hf
    clear hf hr
    go_enter Tryz.func96, Tryz.ntmps96
    go_wp2_with fail
    with_reducible refine (re_ (fits_calls a b c d e a' b' c' d' e' _) (ret_bool HFT.out)).mono ?_
    rintro x w1 ⟨rfl, b1⟩
    have hy0 := hcall hx0 b1
    have hy1 := hcall hx1 b1
    have hy2 := hcall hx2 b1
    have hy3 := hcall hx3 b1
    have D := below_call DD b1
    obtain ⟨⟨q0, q1, q2, q3, q4⟩, ⟨g0, g1, g2, g3, g4⟩, gz⟩ := iopen5 hy2
    obtain ⟨⟨r0, r1, r2, r3, r4⟩, ⟨l0, l1, l2, l3, l4⟩, lz⟩ := iopen5 hy3
    obtain ⟨⟨p0, p1, p2, p3, p4⟩, -, pz⟩ := iopen5 hy0
    obtain ⟨⟨s0, s1, s2, s3, s4⟩, -, sz⟩ := iopen5 hy1
    have hz0 := D.size
    clear b1
    go_wp2_with fail
    go_region
    all_goals (try go_wp2)
    all_goals (try simp only [Exit.inBlock, Exit.then])
    (refine bodyPost_cct rfl (w.heap.size + 1 + 1) (w.heap.size + 1 + 1 + 1) 103 103 #[.bool a, .bool b, .bool c, .bool d, .bool e] #[.bool a', .bool b', .bool c', .bool d', .bool e'] (0, 0) (0, 0) _ rfl rfl ?_ ?_ Tryz.underlying103 rfl info_it5 rfl rfl ⟨?_, ?_⟩)
    · refine heap_drew' ?_
      exact (put5_ne (w := put5 w1 (w.heap.size + 1 + 1) a b c d e) (g := w.heap.size + 1 + 1 + 1) (k := w.heap.size + 1 + 1) a' b' c' d' e' (by omega)).trans (put5_at a b c d e hy2)
    · refine heap_drew' ?_
      exact put5_at (w := put5 w1 (w.heap.size + 1 + 1) a b c d e) (g := w.heap.size + 1 + 1 + 1) a' b' c' d' e' ((put5_ne (w := w1) (g := w.heap.size + 1 + 1) (k := w.heap.size + 1 + 1 + 1) a b c d e (by omega)).trans hy3)
    · rw [HF.out]; rfl
    · exact (put5_below (put5_below D (w.heap.size + 1 + 1) (by omega) a b c d e) (w.heap.size + 1 + 1 + 1) (by omega) a' b' c' d' e').drew
  | true =>
  obtain ⟨⟨⟨m1, m2, m3, m4, m5⟩, ⟨o1, o2, o3, o4, o5⟩, er⟩, hd⟩ : ∃ r, doI 1 ⟨a, b, c, d, e⟩ ⟨a', b', c', d', e'⟩ = r := ⟨_, rfl⟩
  have HS' := fun (W : World) (g : Nat) (h : W.heap[g]? = some (bxP a b c d e a' b' c' d' e')) => sub1_calls a b c d e a' b' c' d' e' g W h
  have hda := doI_fit hf 1 (by decide) (by decide)
  rw [hd] at HS' hda
  have HS := Lib.hid HS'
  have HFT := Lib.hid hf
  have hde : er ≠ 0 → (⟨m1, m2, m3, m4, m5⟩ : It) = ⟨a, b, c, d, e⟩ ∧ (⟨o1, o2, o3, o4, o5⟩ : It) = ⟨a', b', c', d', e'⟩ := fun h => by
    have := doI_err ⟨a, b, c, d, e⟩ ⟨a', b', c', d', e'⟩ 1
    rw [hd] at this
    exact this h
  have HR2 : Hid (r = (⟨m1, m2, m3, m4, m5⟩, ⟨o1, o2, o3, o4, o5⟩, er)) := by
    show _ = _
    rw [← hr]
    exact hda
  clear HS' hda hd hf hr
  by_cases he : er = 0
  · subst he
    clear hde
    go_enter Tryz.func96, Tryz.ntmps96
    go_wp2_with fail
    with_reducible refine (re_ (fits_calls a b c d e a' b' c' d' e' _) (ret_bool HFT.out)).mono ?_
    rintro x w1 ⟨rfl, b1⟩
    have hp := hcall hx5 b1
    have D := below_call DD b1
    go_wp2_with fail
    with_reducible refine (HS.out _ _ hp).mono ?_
    rintro x w2 ⟨rfl, hp2, b2⟩
    have hz0 := D.size
    have hsz1 := b1.size
    have hy2 := (b2.block (w.heap.size + 1 + 1) (by omega)).trans (hcall hx2 b1)
    have hy3 := (b2.block (w.heap.size + 1 + 1 + 1) (by omega)).trans (hcall hx3 b1)
    replace D : Below w.heap.size w w2 := D.trans (b2.mono (by omega))
    obtain ⟨⟨q0, q1, q2, q3, q4⟩, ⟨g0, g1, g2, g3, g4⟩, gz⟩ := iopen5 hy2
    obtain ⟨⟨r0, r1, r2, r3, r4⟩, ⟨l0, l1, l2, l3, l4⟩, lz⟩ := iopen5 hy3
    obtain ⟨⟨p0, p1, p2, p3, p4, p5, p6, p7, p8, p9⟩, -, pz⟩ := popen hp2
    clear b1 b2 hp hp2 HS
    go_wp2_with fail
    go_region
    all_goals (try go_wp2)
    all_goals (try simp only [Exit.inBlock, Exit.then])
    (refine bodyPost_cct rfl (w.heap.size + 1 + 1) (w.heap.size + 1 + 1 + 1) 103 103 #[.bool m1, .bool m2, .bool m3, .bool m4, .bool m5] #[.bool o1, .bool o2, .bool o3, .bool o4, .bool o5] (0, 0) (0, 0) _ rfl rfl ?_ ?_ Tryz.underlying103 rfl info_it5 rfl rfl ⟨?_, ?_⟩)
    · refine heap_drew' ?_
      exact (put5_ne (w := put5 w2 (w.heap.size + 1 + 1) m1 m2 m3 m4 m5) (g := w.heap.size + 1 + 1 + 1) (k := w.heap.size + 1 + 1) o1 o2 o3 o4 o5 (by omega)).trans (put5_at m1 m2 m3 m4 m5 hy2)
    · refine heap_drew' ?_
      exact put5_at (w := put5 w2 (w.heap.size + 1 + 1) m1 m2 m3 m4 m5) (g := w.heap.size + 1 + 1 + 1) o1 o2 o3 o4 o5 ((put5_ne (w := w2) (g := w.heap.size + 1 + 1) (k := w.heap.size + 1 + 1 + 1) m1 m2 m3 m4 m5 (by omega)).trans hy3)
    · rw [HR2.out]; rfl
    · exact (put5_below (put5_below D (w.heap.size + 1 + 1) (by omega) m1 m2 m3 m4 m5) (w.heap.size + 1 + 1 + 1) (by omega) o1 o2 o3 o4 o5).drew
  · obtain ⟨h1, h2⟩ := hde he
    have HF : Hid (r = (⟨a, b, c, d, e⟩, ⟨a', b', c', d', e'⟩, er)) := by
      show _ = _
      rw [HR2.out, h1, h2]
    have he2 : (er == 0) = false := by simpa using he
    clear hde h1 h2 HR2
    go_enter Tryz.func96, Tryz.ntmps96
    go_wp2_with fail
    with_reducible refine (re_ (fits_calls a b c d e a' b' c' d' e' _) (ret_bool HFT.out)).mono ?_
    rintro x w1 ⟨rfl, b1⟩
    have hp := hcall hx5 b1
    have D := below_call DD b1
    go_wp2_with fail
    with_reducible refine (HS.out _ _ hp).mono ?_
    rintro x w2 ⟨rfl, hp2, b2⟩
    have hz0 := D.size
    have hsz1 := b1.size
    have hy0 := (b2.block w.heap.size (by omega)).trans (hcall hx0 b1)
    have hy1 := (b2.block (w.heap.size + 1) (by omega)).trans (hcall hx1 b1)
    have hy2 := (b2.block (w.heap.size + 1 + 1) (by omega)).trans (hcall hx2 b1)
    have hy3 := (b2.block (w.heap.size + 1 + 1 + 1) (by omega)).trans (hcall hx3 b1)
    replace D : Below w.heap.size w w2 := D.trans (b2.mono (by omega))
    obtain ⟨⟨q0, q1, q2, q3, q4⟩, ⟨g0, g1, g2, g3, g4⟩, gz⟩ := iopen5 hy2
    obtain ⟨⟨r0, r1, r2, r3, r4⟩, ⟨l0, l1, l2, l3, l4⟩, lz⟩ := iopen5 hy3
    obtain ⟨⟨p0, p1, p2, p3, p4⟩, -, pz⟩ := iopen5 hy0
    obtain ⟨⟨s0, s1, s2, s3, s4⟩, -, sz⟩ := iopen5 hy1
    clear b1 b2 hp hp2 HS
    go_wp2_with fail
    go_region
    all_goals (try go_wp2)
    all_goals (try simp only [Exit.inBlock, Exit.then])
    (refine bodyPost_cct rfl (w.heap.size + 1 + 1) (w.heap.size + 1 + 1 + 1) 103 103 #[.bool a, .bool b, .bool c, .bool d, .bool e] #[.bool a', .bool b', .bool c', .bool d', .bool e'] (0, 0) (0, 0) _ rfl rfl ?_ ?_ Tryz.underlying103 rfl info_it5 rfl rfl ⟨?_, ?_⟩)
    · refine heap_drew' ?_
      exact (put5_ne (w := put5 w2 (w.heap.size + 1 + 1) a b c d e) (g := w.heap.size + 1 + 1 + 1) (k := w.heap.size + 1 + 1) a' b' c' d' e' (by omega)).trans (put5_at a b c d e hy2)
    · refine heap_drew' ?_
      exact put5_at (w := put5 w2 (w.heap.size + 1 + 1) a b c d e) (g := w.heap.size + 1 + 1 + 1) a' b' c' d' e' ((put5_ne (w := w2) (g := w.heap.size + 1 + 1) (k := w.heap.size + 1 + 1 + 1) a b c d e (by omega)).trans hy3)
    · rw [HF.out]; rfl
    · exact (put5_below (put5_below D (w.heap.size + 1 + 1) (by omega) a b c d e) (w.heap.size + 1 + 1 + 1) (by omega) a' b' c' d' e').drew
set_option maxHeartbeats 16000000 in
set_option maxRecDepth 100000 in
theorem act2_calls (a b c d e a' b' c' d' e' : Bool) (w : World) :
    Calls Tryz.prog 96 #[agI a b c d e, agI a' b' c' d' e', .int .i64 2] w fun x w' => x = .returned (.tuple #[vaIt (actI ⟨a, b, c, d, e⟩ ⟨a', b', c', d', e'⟩ 2).1, vaIt (actI ⟨a, b, c, d, e⟩ ⟨a', b', c', d', e'⟩ 2).2.1, .int .i64 (actI ⟨a, b, c, d, e⟩ ⟨a', b', c', d', e'⟩ 2).2.2]) ∧ Below w.heap.size w w' := by
  have hmm := @run_makeMap Tryz.prog
  have hu1 := upd_1
  have hu2 := upd_2
  have hu3 := upd_3
  have hu4 := upd_4
  have hu5 := upd_5
  have hu6 := upd_6
  have hl := lok_2
  have hx0 := heap_alloc_new w (.cells #[.bool a, .bool b, .bool c, .bool d, .bool e] 103)
  have hx1 := heap_alloc_new (w.alloc (.cells #[.bool a, .bool b, .bool c, .bool d, .bool e] 103)) (.cells #[.bool a', .bool b', .bool c', .bool d', .bool e'] 103)
  replace hx0 := halloc hx0 (.cells #[.bool a', .bool b', .bool c', .bool d', .bool e'] 103)
  have hx2 := heap_alloc_new ((w.alloc (.cells #[.bool a, .bool b, .bool c, .bool d, .bool e] 103)).alloc (.cells #[.bool a', .bool b', .bool c', .bool d', .bool e'] 103)) (.cells #[.bool false, .bool false, .bool false, .bool false, .bool false] 103)
  replace hx0 := halloc hx0 (.cells #[.bool false, .bool false, .bool false, .bool false, .bool false] 103)
  replace hx1 := halloc hx1 (.cells #[.bool false, .bool false, .bool false, .bool false, .bool false] 103)
  have hx3 := heap_alloc_new (((w.alloc (.cells #[.bool a, .bool b, .bool c, .bool d, .bool e] 103)).alloc (.cells #[.bool a', .bool b', .bool c', .bool d', .bool e'] 103)).alloc (.cells #[.bool false, .bool false, .bool false, .bool false, .bool false] 103)) (.cells #[.bool false, .bool false, .bool false, .bool false, .bool false] 103)
  replace hx0 := halloc hx0 (.cells #[.bool false, .bool false, .bool false, .bool false, .bool false] 103)
  replace hx1 := halloc hx1 (.cells #[.bool false, .bool false, .bool false, .bool false, .bool false] 103)
  replace hx2 := halloc hx2 (.cells #[.bool false, .bool false, .bool false, .bool false, .bool false] 103)
  have hx4 := heap_alloc_new ((((w.alloc (.cells #[.bool a, .bool b, .bool c, .bool d, .bool e] 103)).alloc (.cells #[.bool a', .bool b', .bool c', .bool d', .bool e'] 103)).alloc (.cells #[.bool false, .bool false, .bool false, .bool false, .bool false] 103)).alloc (.cells #[.bool false, .bool false, .bool false, .bool false, .bool false] 103)) (.map #[entI 1 142, entI 2 143, entI 3 144, entI 4 145, entI 5 146, entI 6 147] 6)
  replace hx0 := halloc hx0 (.map #[entI 1 142, entI 2 143, entI 3 144, entI 4 145, entI 5 146, entI 6 147] 6)
  replace hx1 := halloc hx1 (.map #[entI 1 142, entI 2 143, entI 3 144, entI 4 145, entI 5 146, entI 6 147] 6)
  replace hx2 := halloc hx2 (.map #[entI 1 142, entI 2 143, entI 3 144, entI 4 145, entI 5 146, entI 6 147] 6)
  replace hx3 := halloc hx3 (.map #[entI 1 142, entI 2 143, entI 3 144, entI 4 145, entI 5 146, entI 6 147] 6)
  have hx5 := heap_alloc_new (((((w.alloc (.cells #[.bool a, .bool b, .bool c, .bool d, .bool e] 103)).alloc (.cells #[.bool a', .bool b', .bool c', .bool d', .bool e'] 103)).alloc (.cells #[.bool false, .bool false, .bool false, .bool false, .bool false] 103)).alloc (.cells #[.bool false, .bool false, .bool false, .bool false, .bool false] 103)).alloc (.map #[entI 1 142, entI 2 143, entI 3 144, entI 4 145, entI 5 146, entI 6 147] 6)) (bxP a b c d e a' b' c' d' e')
  replace hx0 := halloc hx0 (bxP a b c d e a' b' c' d' e')
  replace hx1 := halloc hx1 (bxP a b c d e a' b' c' d' e')
  replace hx2 := halloc hx2 (bxP a b c d e a' b' c' d' e')
  replace hx3 := halloc hx3 (bxP a b c d e a' b' c' d' e')
  replace hx4 := halloc hx4 (bxP a b c d e a' b' c' d' e')
  simp only [size_alloc] at hx0 hx1 hx2 hx3 hx4 hx5
  have DD : Below w.heap.size w ((((((w.alloc (.cells #[.bool a, .bool b, .bool c, .bool d, .bool e] 103)).alloc (.cells #[.bool a', .bool b', .bool c', .bool d', .bool e'] 103)).alloc (.cells #[.bool false, .bool false, .bool false, .bool false, .bool false] 103)).alloc (.cells #[.bool false, .bool false, .bool false, .bool false, .bool false] 103)).alloc (.map #[entI 1 142, entI 2 143, entI 3 144, entI 4 145, entI 5 146, entI 6 147] 6)).alloc (bxP a b c d e a' b' c' d' e')) := below_alloc0 (below_alloc0 (below_alloc0 (below_alloc0 (below_alloc0 (below_box _) _) _) _) _) _
  obtain ⟨r, hr⟩ : ∃ r, actI ⟨a, b, c, d, e⟩ ⟨a', b', c', d', e'⟩ 2 = r := ⟨_, rfl⟩
  rw [hr]
  cases hf : fitI ⟨a, b, c, d, e⟩ ⟨a', b', c', d', e'⟩ with
  | false =>
    have HF : Hid (r = (⟨a, b, c, d, e⟩, ⟨a', b', c', d', e'⟩, 1)) := by
      show _ = _
      rw [← hr]
      unfold actI
      rw [if_pos hf]
    have HFT := Lib.hid hf
    clear hf hr
    go_enter Tryz.func96, Tryz.ntmps96
    go_wp2_with fail
    with_reducible refine (re_ (fits_calls a b c d e a' b' c' d' e' _) (ret_bool HFT.out)).mono ?_
    rintro x w1 ⟨rfl, b1⟩
    have hy0 := hcall hx0 b1
    have hy1 := hcall hx1 b1
    have hy2 := hcall hx2 b1
    have hy3 := hcall hx3 b1
    have D := below_call DD b1
    obtain ⟨⟨q0, q1, q2, q3, q4⟩, ⟨g0, g1, g2, g3, g4⟩, gz⟩ := iopen5 hy2
    obtain ⟨⟨r0, r1, r2, r3, r4⟩, ⟨l0, l1, l2, l3, l4⟩, lz⟩ := iopen5 hy3
    obtain ⟨⟨p0, p1, p2, p3, p4⟩, -, pz⟩ := iopen5 hy0
    obtain ⟨⟨s0, s1, s2, s3, s4⟩, -, sz⟩ := iopen5 hy1
    have hz0 := D.size
    clear b1
    go_wp2_with fail
    go_region
    all_goals (try go_wp2)
    all_goals (try simp only [Exit.inBlock, Exit.then])
    (refine bodyPost_cct rfl (w.heap.size + 1 + 1) (w.heap.size + 1 + 1 + 1) 103 103 #[.bool a, .bool b, .bool c, .bool d, .bool e] #[.bool a', .bool b', .bool c', .bool d', .bool e'] (0, 0) (0, 0) _ rfl rfl ?_ ?_ Tryz.underlying103 rfl info_it5 rfl rfl ⟨?_, ?_⟩)
    · refine heap_drew' ?_
      exact (put5_ne (w := put5 w1 (w.heap.size + 1 + 1) a b c d e) (g := w.heap.size + 1 + 1 + 1) (k := w.heap.size + 1 + 1) a' b' c' d' e' (by omega)).trans (put5_at a b c d e hy2)
    · refine heap_drew' ?_
      exact put5_at (w := put5 w1 (w.heap.size + 1 + 1) a b c d e) (g := w.heap.size + 1 + 1 + 1) a' b' c' d' e' ((put5_ne (w := w1) (g := w.heap.size + 1 + 1) (k := w.heap.size + 1 + 1 + 1) a b c d e (by omega)).trans hy3)
    · rw [HF.out]; rfl
    · exact (put5_below (put5_below D (w.heap.size + 1 + 1) (by omega) a b c d e) (w.heap.size + 1 + 1 + 1) (by omega) a' b' c' d' e').drew
  | true =>
  obtain ⟨⟨⟨m1, m2, m3, m4, m5⟩, ⟨o1, o2, o3, o4, o5⟩, er⟩, hd⟩ : ∃ r, doI 2 ⟨a, b, c, d, e⟩ ⟨a', b', c', d', e'⟩ = r := ⟨_, rfl⟩
  have HS' := fun (W : World) (g : Nat) (h : W.heap[g]? = some (bxP a b c d e a' b' c' d' e')) => sub2_calls a b c d e a' b' c' d' e' g W h
  have hda := doI_fit hf 2 (by decide) (by decide)
  rw [hd] at HS' hda
  have HS := Lib.hid HS'
  have HFT := Lib.hid hf
  have hde : er ≠ 0 → (⟨m1, m2, m3, m4, m5⟩ : It) = ⟨a, b, c, d, e⟩ ∧ (⟨o1, o2, o3, o4, o5⟩ : It) = ⟨a', b', c', d', e'⟩ := fun h => by
    have := doI_err ⟨a, b, c, d, e⟩ ⟨a', b', c', d', e'⟩ 2
    rw [hd] at this
    exact this h
  have HR2 : Hid (r = (⟨m1, m2, m3, m4, m5⟩, ⟨o1, o2, o3, o4, o5⟩, er)) := by
    show _ = _
    rw [← hr]
    exact hda
  clear HS' hda hd hf hr
  by_cases he : er = 0
  · subst he
    clear hde
    go_enter Tryz.func96, Tryz.ntmps96
    go_wp2_with fail
    with_reducible refine (re_ (fits_calls a b c d e a' b' c' d' e' _) (ret_bool HFT.out)).mono ?_
    rintro x w1 ⟨rfl, b1⟩
    have hp := hcall hx5 b1
    have D := below_call DD b1
    go_wp2_with fail
    with_reducible refine (HS.out _ _ hp).mono ?_
    rintro x w2 ⟨rfl, hp2, b2⟩
    have hz0 := D.size
    have hsz1 := b1.size
    have hy2 := (b2.block (w.heap.size + 1 + 1) (by omega)).trans (hcall hx2 b1)
    have hy3 := (b2.block (w.heap.size + 1 + 1 + 1) (by omega)).trans (hcall hx3 b1)
    replace D : Below w.heap.size w w2 := D.trans (b2.mono (by omega))
    obtain ⟨⟨q0, q1, q2, q3, q4⟩, ⟨g0, g1, g2, g3, g4⟩, gz⟩ := iopen5 hy2
    obtain ⟨⟨r0, r1, r2, r3, r4⟩, ⟨l0, l1, l2, l3, l4⟩, lz⟩ := iopen5 hy3
    obtain ⟨⟨p0, p1, p2, p3, p4, p5, p6, p7, p8, p9⟩, -, pz⟩ := popen hp2
    clear b1 b2 hp hp2 HS
    go_wp2_with fail
    go_region
    all_goals (try go_wp2)
    all_goals (try simp only [Exit.inBlock, Exit.then])
    (refine bodyPost_cct rfl (w.heap.size + 1 + 1) (w.heap.size + 1 + 1 + 1) 103 103 #[.bool m1, .bool m2, .bool m3, .bool m4, .bool m5] #[.bool o1, .bool o2, .bool o3, .bool o4, .bool o5] (0, 0) (0, 0) _ rfl rfl ?_ ?_ Tryz.underlying103 rfl info_it5 rfl rfl ⟨?_, ?_⟩)
    · refine heap_drew' ?_
      exact (put5_ne (w := put5 w2 (w.heap.size + 1 + 1) m1 m2 m3 m4 m5) (g := w.heap.size + 1 + 1 + 1) (k := w.heap.size + 1 + 1) o1 o2 o3 o4 o5 (by omega)).trans (put5_at m1 m2 m3 m4 m5 hy2)
    · refine heap_drew' ?_
      exact put5_at (w := put5 w2 (w.heap.size + 1 + 1) m1 m2 m3 m4 m5) (g := w.heap.size + 1 + 1 + 1) o1 o2 o3 o4 o5 ((put5_ne (w := w2) (g := w.heap.size + 1 + 1) (k := w.heap.size + 1 + 1 + 1) m1 m2 m3 m4 m5 (by omega)).trans hy3)
    · rw [HR2.out]; rfl
    · exact (put5_below (put5_below D (w.heap.size + 1 + 1) (by omega) m1 m2 m3 m4 m5) (w.heap.size + 1 + 1 + 1) (by omega) o1 o2 o3 o4 o5).drew
  · obtain ⟨h1, h2⟩ := hde he
    have HF : Hid (r = (⟨a, b, c, d, e⟩, ⟨a', b', c', d', e'⟩, er)) := by
      show _ = _
      rw [HR2.out, h1, h2]
    have he2 : (er == 0) = false := by simpa using he
    clear hde h1 h2 HR2
    go_enter Tryz.func96, Tryz.ntmps96
    go_wp2_with fail
    with_reducible refine (re_ (fits_calls a b c d e a' b' c' d' e' _) (ret_bool HFT.out)).mono ?_
    rintro x w1 ⟨rfl, b1⟩
    have hp := hcall hx5 b1
    have D := below_call DD b1
    go_wp2_with fail
    with_reducible refine (HS.out _ _ hp).mono ?_
    rintro x w2 ⟨rfl, hp2, b2⟩
    have hz0 := D.size
    have hsz1 := b1.size
    have hy0 := (b2.block w.heap.size (by omega)).trans (hcall hx0 b1)
    have hy1 := (b2.block (w.heap.size + 1) (by omega)).trans (hcall hx1 b1)
    have hy2 := (b2.block (w.heap.size + 1 + 1) (by omega)).trans (hcall hx2 b1)
    have hy3 := (b2.block (w.heap.size + 1 + 1 + 1) (by omega)).trans (hcall hx3 b1)
    replace D : Below w.heap.size w w2 := D.trans (b2.mono (by omega))
    obtain ⟨⟨q0, q1, q2, q3, q4⟩, ⟨g0, g1, g2, g3, g4⟩, gz⟩ := iopen5 hy2
    obtain ⟨⟨r0, r1, r2, r3, r4⟩, ⟨l0, l1, l2, l3, l4⟩, lz⟩ := iopen5 hy3
    obtain ⟨⟨p0, p1, p2, p3, p4⟩, -, pz⟩ := iopen5 hy0
    obtain ⟨⟨s0, s1, s2, s3, s4⟩, -, sz⟩ := iopen5 hy1
    clear b1 b2 hp hp2 HS
    go_wp2_with fail
    go_region
    all_goals (try go_wp2)
    all_goals (try simp only [Exit.inBlock, Exit.then])
    (refine bodyPost_cct rfl (w.heap.size + 1 + 1) (w.heap.size + 1 + 1 + 1) 103 103 #[.bool a, .bool b, .bool c, .bool d, .bool e] #[.bool a', .bool b', .bool c', .bool d', .bool e'] (0, 0) (0, 0) _ rfl rfl ?_ ?_ Tryz.underlying103 rfl info_it5 rfl rfl ⟨?_, ?_⟩)
    · refine heap_drew' ?_
      exact (put5_ne (w := put5 w2 (w.heap.size + 1 + 1) a b c d e) (g := w.heap.size + 1 + 1 + 1) (k := w.heap.size + 1 + 1) a' b' c' d' e' (by omega)).trans (put5_at a b c d e hy2)
    · refine heap_drew' ?_
      exact put5_at (w := put5 w2 (w.heap.size + 1 + 1) a b c d e) (g := w.heap.size + 1 + 1 + 1) a' b' c' d' e' ((put5_ne (w := w2) (g := w.heap.size + 1 + 1) (k := w.heap.size + 1 + 1 + 1) a b c d e (by omega)).trans hy3)
    · rw [HF.out]; rfl
    · exact (put5_below (put5_below D (w.heap.size + 1 + 1) (by omega) a b c d e) (w.heap.size + 1 + 1 + 1) (by omega) a' b' c' d' e').drew
set_option maxHeartbeats 16000000 in
set_option maxRecDepth 100000 in
theorem act3_calls (a b c d e a' b' c' d' e' : Bool) (w : World) :
    Calls Tryz.prog 96 #[agI a b c d e, agI a' b' c' d' e', .int .i64 3] w fun x w' => x = .returned (.tuple #[vaIt (actI ⟨a, b, c, d, e⟩ ⟨a', b', c', d', e'⟩ 3).1, vaIt (actI ⟨a, b, c, d, e⟩ ⟨a', b', c', d', e'⟩ 3).2.1, .int .i64 (actI ⟨a, b, c, d, e⟩ ⟨a', b', c', d', e'⟩ 3).2.2]) ∧ Below w.heap.size w w' := by
  have hmm := @run_makeMap Tryz.prog
  have hu1 := upd_1
  have hu2 := upd_2
  have hu3 := upd_3
  have hu4 := upd_4
  have hu5 := upd_5
  have hu6 := upd_6
  have hl := lok_3
  have hx0 := heap_alloc_new w (.cells #[.bool a, .bool b, .bool c, .bool d, .bool e] 103)
  have hx1 := heap_alloc_new (w.alloc (.cells #[.bool a, .bool b, .bool c, .bool d, .bool e] 103)) (.cells #[.bool a', .bool b', .bool c', .bool d', .bool e'] 103)
  replace hx0 := halloc hx0 (.cells #[.bool a', .bool b', .bool c', .bool d', .bool e'] 103)
  have hx2 := heap_alloc_new ((w.alloc (.cells #[.bool a, .bool b, .bool c, .bool d, .bool e] 103)).alloc (.cells #[.bool a', .bool b', .bool c', .bool d', .bool e'] 103)) (.cells #[.bool false, .bool false, .bool false, .bool false, .bool false] 103)
  replace hx0 := halloc hx0 (.cells #[.bool false, .bool false, .bool false, .bool false, .bool false] 103)
  replace hx1 := halloc hx1 (.cells #[.bool false, .bool false, .bool false, .bool false, .bool false] 103)
  have hx3 := heap_alloc_new (((w.alloc (.cells #[.bool a, .bool b, .bool c, .bool d, .bool e] 103)).alloc (.cells #[.bool a', .bool b', .bool c', .bool d', .bool e'] 103)).alloc (.cells #[.bool false, .bool false, .bool false, .bool false, .bool false] 103)) (.cells #[.bool false, .bool false, .bool false, .bool false, .bool false] 103)
  replace hx0 := halloc hx0 (.cells #[.bool false, .bool false, .bool false, .bool false, .bool false] 103)
  replace hx1 := halloc hx1 (.cells #[.bool false, .bool false, .bool false, .bool false, .bool false] 103)
  replace hx2 := halloc hx2 (.cells #[.bool false, .bool false, .bool false, .bool false, .bool false] 103)
  have hx4 := heap_alloc_new ((((w.alloc (.cells #[.bool a, .bool b, .bool c, .bool d, .bool e] 103)).alloc (.cells #[.bool a', .bool b', .bool c', .bool d', .bool e'] 103)).alloc (.cells #[.bool false, .bool false, .bool false, .bool false, .bool false] 103)).alloc (.cells #[.bool false, .bool false, .bool false, .bool false, .bool false] 103)) (.map #[entI 1 142, entI 2 143, entI 3 144, entI 4 145, entI 5 146, entI 6 147] 6)
  replace hx0 := halloc hx0 (.map #[entI 1 142, entI 2 143, entI 3 144, entI 4 145, entI 5 146, entI 6 147] 6)
  replace hx1 := halloc hx1 (.map #[entI 1 142, entI 2 143, entI 3 144, entI 4 145, entI 5 146, entI 6 147] 6)
  replace hx2 := halloc hx2 (.map #[entI 1 142, entI 2 143, entI 3 144, entI 4 145, entI 5 146, entI 6 147] 6)
  replace hx3 := halloc hx3 (.map #[entI 1 142, entI 2 143, entI 3 144, entI 4 145, entI 5 146, entI 6 147] 6)
  have hx5 := heap_alloc_new (((((w.alloc (.cells #[.bool a, .bool b, .bool c, .bool d, .bool e] 103)).alloc (.cells #[.bool a', .bool b', .bool c', .bool d', .bool e'] 103)).alloc (.cells #[.bool false, .bool false, .bool false, .bool false, .bool false] 103)).alloc (.cells #[.bool false, .bool false, .bool false, .bool false, .bool false] 103)).alloc (.map #[entI 1 142, entI 2 143, entI 3 144, entI 4 145, entI 5 146, entI 6 147] 6)) (bxP a b c d e a' b' c' d' e')
  replace hx0 := halloc hx0 (bxP a b c d e a' b' c' d' e')
  replace hx1 := halloc hx1 (bxP a b c d e a' b' c' d' e')
  replace hx2 := halloc hx2 (bxP a b c d e a' b' c' d' e')
  replace hx3 := halloc hx3 (bxP a b c d e a' b' c' d' e')
  replace hx4 := halloc hx4 (bxP a b c d e a' b' c' d' e')
  simp only [size_alloc] at hx0 hx1 hx2 hx3 hx4 hx5
  have DD : Below w.heap.size w ((((((w.alloc (.cells #[.bool a, .bool b, .bool c, .bool d, .bool e] 103)).alloc (.cells #[.bool a', .bool b', .bool c', .bool d', .bool e'] 103)).alloc (.cells #[.bool false, .bool false, .bool false, .bool false, .bool false] 103)).alloc (.cells #[.bool false, .bool false, .bool false, .bool false, .bool false] 103)).alloc (.map #[entI 1 142, entI 2 143, entI 3 144, entI 4 145, entI 5 146, entI 6 147] 6)).alloc (bxP a b c d e a' b' c' d' e')) := below_alloc0 (below_alloc0 (below_alloc0 (below_alloc0 (below_alloc0 (below_box _) _) _) _) _) _
  obtain ⟨r, hr⟩ : ∃ r, actI ⟨a, b, c, d, e⟩ ⟨a', b', c', d', e'⟩ 3 = r := ⟨_, rfl⟩
  rw [hr]
  cases hf : fitI ⟨a, b, c, d, e⟩ ⟨a', b', c', d', e'⟩ with
  | false =>
    have HF : Hid (r = (⟨a, b, c, d, e⟩, ⟨a', b', c', d', e'⟩, 1)) := by
      show _ = _
      rw [← hr]
      unfold actI
      rw [if_pos hf]
    have HFT := Lib.hid hf
    clear hf hr
    go_enter Tryz.func96, Tryz.ntmps96
    go_wp2_with fail
    with_reducible refine (re_ (fits_calls a b c d e a' b' c' d' e' _) (ret_bool HFT.out)).mono ?_
    rintro x w1 ⟨rfl, b1⟩
    have hy0 := hcall hx0 b1
    have hy1 := hcall hx1 b1
    have hy2 := hcall hx2 b1
    have hy3 := hcall hx3 b1
    have D := below_call DD b1
    obtain ⟨⟨q0, q1, q2, q3, q4⟩, ⟨g0, g1, g2, g3, g4⟩, gz⟩ := iopen5 hy2
    obtain ⟨⟨r0, r1, r2, r3, r4⟩, ⟨l0, l1, l2, l3, l4⟩, lz⟩ := iopen5 hy3
    obtain ⟨⟨p0, p1, p2, p3, p4⟩, -, pz⟩ := iopen5 hy0
    obtain ⟨⟨s0, s1, s2, s3, s4⟩, -, sz⟩ := iopen5 hy1
    have hz0 := D.size
    clear b1
    go_wp2_with fail
    go_region
    all_goals (try go_wp2)
    all_goals (try simp only [Exit.inBlock, Exit.then])
    (refine bodyPost_cct rfl (w.heap.size + 1 + 1) (w.heap.size + 1 + 1 + 1) 103 103 #[.bool a, .bool b, .bool c, .bool d, .bool e] #[.bool a', .bool b', .bool c', .bool d', .bool e'] (0, 0) (0, 0) _ rfl rfl ?_ ?_ Tryz.underlying103 rfl info_it5 rfl rfl ⟨?_, ?_⟩)
    · refine heap_drew' ?_
      exact (put5_ne (w := put5 w1 (w.heap.size + 1 + 1) a b c d e) (g := w.heap.size + 1 + 1 + 1) (k := w.heap.size + 1 + 1) a' b' c' d' e' (by omega)).trans (put5_at a b c d e hy2)
    · refine heap_drew' ?_
      exact put5_at (w := put5 w1 (w.heap.size + 1 + 1) a b c d e) (g := w.heap.size + 1 + 1 + 1) a' b' c' d' e' ((put5_ne (w := w1) (g := w.heap.size + 1 + 1) (k := w.heap.size + 1 + 1 + 1) a b c d e (by omega)).trans hy3)
    · rw [HF.out]; rfl
    · exact (put5_below (put5_below D (w.heap.size + 1 + 1) (by omega) a b c d e) (w.heap.size + 1 + 1 + 1) (by omega) a' b' c' d' e').drew
  | true =>
  obtain ⟨⟨⟨m1, m2, m3, m4, m5⟩, ⟨o1, o2, o3, o4, o5⟩, er⟩, hd⟩ : ∃ r, doI 3 ⟨a, b, c, d, e⟩ ⟨a', b', c', d', e'⟩ = r := ⟨_, rfl⟩
  have HS' := fun (W : World) (g : Nat) (h : W.heap[g]? = some (bxP a b c d e a' b' c' d' e')) => sub3_calls a b c d e a' b' c' d' e' g W h
  have hda := doI_fit hf 3 (by decide) (by decide)
  rw [hd] at HS' hda
  have HS := Lib.hid HS'
  have HFT := Lib.hid hf
  have hde : er ≠ 0 → (⟨m1, m2, m3, m4, m5⟩ : It) = ⟨a, b, c, d, e⟩ ∧ (⟨o1, o2, o3, o4, o5⟩ : It) = ⟨a', b', c', d', e'⟩ := fun h => by
    have := doI_err ⟨a, b, c, d, e⟩ ⟨a', b', c', d', e'⟩ 3
    rw [hd] at this
    exact this h
  have HR2 : Hid (r = (⟨m1, m2, m3, m4, m5⟩, ⟨o1, o2, o3, o4, o5⟩, er)) := by
    show _ = _
    rw [← hr]
    exact hda
  clear HS' hda hd hf hr
  by_cases he : er = 0
  · subst he
    clear hde
    go_enter Tryz.func96, Tryz.ntmps96
    go_wp2_with fail
    with_reducible refine (re_ (fits_calls a b c d e a' b' c' d' e' _) (ret_bool HFT.out)).mono ?_
    rintro x w1 ⟨rfl, b1⟩
    have hp := hcall hx5 b1
    have D := below_call DD b1
    go_wp2_with fail
    with_reducible refine (HS.out _ _ hp).mono ?_
    rintro x w2 ⟨rfl, hp2, b2⟩
    have hz0 := D.size
    have hsz1 := b1.size
    have hy2 := (b2.block (w.heap.size + 1 + 1) (by omega)).trans (hcall hx2 b1)
    have hy3 := (b2.block (w.heap.size + 1 + 1 + 1) (by omega)).trans (hcall hx3 b1)
    replace D : Below w.heap.size w w2 := D.trans (b2.mono (by omega))
    obtain ⟨⟨q0, q1, q2, q3, q4⟩, ⟨g0, g1, g2, g3, g4⟩, gz⟩ := iopen5 hy2
    obtain ⟨⟨r0, r1, r2, r3, r4⟩, ⟨l0, l1, l2, l3, l4⟩, lz⟩ := iopen5 hy3
    obtain ⟨⟨p0, p1, p2, p3, p4, p5, p6, p7, p8, p9⟩, -, pz⟩ := popen hp2
    clear b1 b2 hp hp2 HS
    go_wp2_with fail
    go_region
    all_goals (try go_wp2)
    all_goals (try simp only [Exit.inBlock, Exit.then])
    (refine bodyPost_cct rfl (w.heap.size + 1 + 1) (w.heap.size + 1 + 1 + 1) 103 103 #[.bool m1, .bool m2, .bool m3, .bool m4, .bool m5] #[.bool o1, .bool o2, .bool o3, .bool o4, .bool o5] (0, 0) (0, 0) _ rfl rfl ?_ ?_ Tryz.underlying103 rfl info_it5 rfl rfl ⟨?_, ?_⟩)
    · refine heap_drew' ?_
      exact (put5_ne (w := put5 w2 (w.heap.size + 1 + 1) m1 m2 m3 m4 m5) (g := w.heap.size + 1 + 1 + 1) (k := w.heap.size + 1 + 1) o1 o2 o3 o4 o5 (by omega)).trans (put5_at m1 m2 m3 m4 m5 hy2)
    · refine heap_drew' ?_
      exact put5_at (w := put5 w2 (w.heap.size + 1 + 1) m1 m2 m3 m4 m5) (g := w.heap.size + 1 + 1 + 1) o1 o2 o3 o4 o5 ((put5_ne (w := w2) (g := w.heap.size + 1 + 1) (k := w.heap.size + 1 + 1 + 1) m1 m2 m3 m4 m5 (by omega)).trans hy3)
    · rw [HR2.out]; rfl
    · exact (put5_below (put5_below D (w.heap.size + 1 + 1) (by omega) m1 m2 m3 m4 m5) (w.heap.size + 1 + 1 + 1) (by omega) o1 o2 o3 o4 o5).drew
  · obtain ⟨h1, h2⟩ := hde he
    have HF : Hid (r = (⟨a, b, c, d, e⟩, ⟨a', b', c', d', e'⟩, er)) := by
      show _ = _
      rw [HR2.out, h1, h2]
    have he2 : (er == 0) = false := by simpa using he
    clear hde h1 h2 HR2
    go_enter Tryz.func96, Tryz.ntmps96
    go_wp2_with fail
    with_reducible refine (re_ (fits_calls a b c d e a' b' c' d' e' _) (ret_bool HFT.out)).mono ?_
    rintro x w1 ⟨rfl, b1⟩
    have hp := hcall hx5 b1
    have D := below_call DD b1
    go_wp2_with fail
    with_reducible refine (HS.out _ _ hp).mono ?_
    rintro x w2 ⟨rfl, hp2, b2⟩
    have hz0 := D.size
    have hsz1 := b1.size
    have hy0 := (b2.block w.heap.size (by omega)).trans (hcall hx0 b1)
    have hy1 := (b2.block (w.heap.size + 1) (by omega)).trans (hcall hx1 b1)
    have hy2 := (b2.block (w.heap.size + 1 + 1) (by omega)).trans (hcall hx2 b1)
    have hy3 := (b2.block (w.heap.size + 1 + 1 + 1) (by omega)).trans (hcall hx3 b1)
    replace D : Below w.heap.size w w2 := D.trans (b2.mono (by omega))
    obtain ⟨⟨q0, q1, q2, q3, q4⟩, ⟨g0, g1, g2, g3, g4⟩, gz⟩ := iopen5 hy2
    obtain ⟨⟨r0, r1, r2, r3, r4⟩, ⟨l0, l1, l2, l3, l4⟩, lz⟩ := iopen5 hy3
    obtain ⟨⟨p0, p1, p2, p3, p4⟩, -, pz⟩ := iopen5 hy0
    obtain ⟨⟨s0, s1, s2, s3, s4⟩, -, sz⟩ := iopen5 hy1
    clear b1 b2 hp hp2 HS
    go_wp2_with fail
    go_region
    all_goals (try go_wp2)
    all_goals (try simp only [Exit.inBlock, Exit.then])
    (refine bodyPost_cct rfl (w.heap.size + 1 + 1) (w.heap.size + 1 + 1 + 1) 103 103 #[.bool a, .bool b, .bool c, .bool d, .bool e] #[.bool a', .bool b', .bool c', .bool d', .bool e'] (0, 0) (0, 0) _ rfl rfl ?_ ?_ Tryz.underlying103 rfl info_it5 rfl rfl ⟨?_, ?_⟩)
    · refine heap_drew' ?_
      exact (put5_ne (w := put5 w2 (w.heap.size + 1 + 1) a b c d e) (g := w.heap.size + 1 + 1 + 1) (k := w.heap.size + 1 + 1) a' b' c' d' e' (by omega)).trans (put5_at a b c d e hy2)
    · refine heap_drew' ?_
      exact put5_at (w := put5 w2 (w.heap.size + 1 + 1) a b c d e) (g := w.heap.size + 1 + 1 + 1) a' b' c' d' e' ((put5_ne (w := w2) (g := w.heap.size + 1 + 1) (k := w.heap.size + 1 + 1 + 1) a b c d e (by omega)).trans hy3)
    · rw [HF.out]; rfl
    · exact (put5_below (put5_below D (w.heap.size + 1 + 1) (by omega) a b c d e) (w.heap.size + 1 + 1 + 1) (by omega) a' b' c' d' e').drew
set_option maxHeartbeats 16000000 in
set_option maxRecDepth 100000 in
theorem act4_calls (a b c d e a' b' c' d' e' : Bool) (w : World) :
    Calls Tryz.prog 96 #[agI a b c d e, agI a' b' c' d' e', .int .i64 4] w fun x w' => x = .returned (.tuple #[vaIt (actI ⟨a, b, c, d, e⟩ ⟨a', b', c', d', e'⟩ 4).1, vaIt (actI ⟨a, b, c, d, e⟩ ⟨a', b', c', d', e'⟩ 4).2.1, .int .i64 (actI ⟨a, b, c, d, e⟩ ⟨a', b', c', d', e'⟩ 4).2.2]) ∧ Below w.heap.size w w' := by
  have hmm := @run_makeMap Tryz.prog
  have hu1 := upd_1
  have hu2 := upd_2
  have hu3 := upd_3
  have hu4 := upd_4
  have hu5 := upd_5
  have hu6 := upd_6
  have hl := lok_4
  have hx0 := heap_alloc_new w (.cells #[.bool a, .bool b, .bool c, .bool d, .bool e] 103)
  have hx1 := heap_alloc_new (w.alloc (.cells #[.bool a, .bool b, .bool c, .bool d, .bool e] 103)) (.cells #[.bool a', .bool b', .bool c', .bool d', .bool e'] 103)
  replace hx0 := halloc hx0 (.cells #[.bool a', .bool b', .bool c', .bool d', .bool e'] 103)
  have hx2 := heap_alloc_new ((w.alloc (.cells #[.bool a, .bool b, .bool c, .bool d, .bool e] 103)).alloc (.cells #[.bool a', .bool b', .bool c', .bool d', .bool e'] 103)) (.cells #[.bool false, .bool false, .bool false, .bool false, .bool false] 103)
  replace hx0 := halloc hx0 (.cells #[.bool false, .bool false, .bool false, .bool false, .bool false] 103)
  replace hx1 := halloc hx1 (.cells #[.bool false, .bool false, .bool false, .bool false, .bool false] 103)
  have hx3 := heap_alloc_new (((w.alloc (.cells #[.bool a, .bool b, .bool c, .bool d, .bool e] 103)).alloc (.cells #[.bool a', .bool b', .bool c', .bool d', .bool e'] 103)).alloc (.cells #[.bool false, .bool false, .bool false, .bool false, .bool false] 103)) (.cells #[.bool false, .bool false, .bool false, .bool false, .bool false] 103)
  replace hx0 := halloc hx0 (.cells #[.bool false, .bool false, .bool false, .bool false, .bool false] 103)
  replace hx1 := halloc hx1 (.cells #[.bool false, .bool false, .bool false, .bool false, .bool false] 103)
  replace hx2 := halloc hx2 (.cells #[.bool false, .bool false, .bool false, .bool false, .bool false] 103)
  have hx4 := heap_alloc_new ((((w.alloc (.cells #[.bool a, .bool b, .bool c, .bool d, .bool e] 103)).alloc (.cells #[.bool a', .bool b', .bool c', .bool d', .bool e'] 103)).alloc (.cells #[.bool false, .bool false, .bool false, .bool false, .bool false] 103)).alloc (.cells #[.bool false, .bool false, .bool false, .bool false, .bool false] 103)) (.map #[entI 1 142, entI 2 143, entI 3 144, entI 4 145, entI 5 146, entI 6 147] 6)
  replace hx0 := halloc hx0 (.map #[entI 1 142, entI 2 143, entI 3 144, entI 4 145, entI 5 146, entI 6 147] 6)
  replace hx1 := halloc hx1 (.map #[entI 1 142, entI 2 143, entI 3 144, entI 4 145, entI 5 146, entI 6 147] 6)
  replace hx2 := halloc hx2 (.map #[entI 1 142, entI 2 143, entI 3 144, entI 4 145, entI 5 146, entI 6 147] 6)
  replace hx3 := halloc hx3 (.map #[entI 1 142, entI 2 143, entI 3 144, entI 4 145, entI 5 146, entI 6 147] 6)
  have hx5 := heap_alloc_new (((((w.alloc (.cells #[.bool a, .bool b, .bool c, .bool d, .bool e] 103)).alloc (.cells #[.bool a', .bool b', .bool c', .bool d', .bool e'] 103)).alloc (.cells #[.bool false, .bool false, .bool false, .bool false, .bool false] 103)).alloc (.cells #[.bool false, .bool false, .bool false, .bool false, .bool false] 103)).alloc (.map #[entI 1 142, entI 2 143, entI 3 144, entI 4 145, entI 5 146, entI 6 147] 6)) (bxP a b c d e a' b' c' d' e')
  replace hx0 := halloc hx0 (bxP a b c d e a' b' c' d' e')
  replace hx1 := halloc hx1 (bxP a b c d e a' b' c' d' e')
  replace hx2 := halloc hx2 (bxP a b c d e a' b' c' d' e')
  replace hx3 := halloc hx3 (bxP a b c d e a' b' c' d' e')
  replace hx4 := halloc hx4 (bxP a b c d e a' b' c' d' e')
  simp only [size_alloc] at hx0 hx1 hx2 hx3 hx4 hx5
  have DD : Below w.heap.size w ((((((w.alloc (.cells #[.bool a, .bool b, .bool c, .bool d, .bool e] 103)).alloc (.cells #[.bool a', .bool b', .bool c', .bool d', .bool e'] 103)).alloc (.cells #[.bool false, .bool false, .bool false, .bool false, .bool false] 103)).alloc (.cells #[.bool false, .bool false, .bool false, .bool false, .bool false] 103)).alloc (.map #[entI 1 142, entI 2 143, entI 3 144, entI 4 145, entI 5 146, entI 6 147] 6)).alloc (bxP a b c d e a' b' c' d' e')) := below_alloc0 (below_alloc0 (below_alloc0 (below_alloc0 (below_alloc0 (below_box _) _) _) _) _) _
  obtain ⟨r, hr⟩ : ∃ r, actI ⟨a, b, c, d, e⟩ ⟨a', b', c', d', e'⟩ 4 = r := ⟨_, rfl⟩
  rw [hr]
  cases hf : fitI ⟨a, b, c, d, e⟩ ⟨a', b', c', d', e'⟩ with
  | false =>
    have HF : Hid (r = (⟨a, b, c, d, e⟩, ⟨a', b', c', d', e'⟩, 1)) := by
      show _ = _
      rw [← hr]
      unfold actI
      rw [if_pos hf]
    have HFT := Lib.hid hf
    clear hf hr
    go_enter Tryz.func96, Tryz.ntmps96
    go_wp2_with fail
    with_reducible refine (re_ (fits_calls a b c d e a' b' c' d' e' _) (ret_bool HFT.out)).mono ?_
    rintro x w1 ⟨rfl, b1⟩
    have hy0 := hcall hx0 b1
    have hy1 := hcall hx1 b1
    have hy2 := hcall hx2 b1
    have hy3 := hcall hx3 b1
    have D := below_call DD b1
    obtain ⟨⟨q0, q1, q2, q3, q4⟩, ⟨g0, g1, g2, g3, g4⟩, gz⟩ := iopen5 hy2
    obtain ⟨⟨r0, r1, r2, r3, r4⟩, ⟨l0, l1, l2, l3, l4⟩, lz⟩ := iopen5 hy3
    obtain ⟨⟨p0, p1, p2, p3, p4⟩, -, pz⟩ := iopen5 hy0
    obtain ⟨⟨s0, s1, s2, s3, s4⟩, -, sz⟩ := iopen5 hy1
    have hz0 := D.size
    clear b1
    go_wp2_with fail
    go_region
    all_goals (try go_wp2)
    all_goals (try simp only [Exit.inBlock, Exit.then])
    (refine bodyPost_cct rfl (w.heap.size + 1 + 1) (w.heap.size + 1 + 1 + 1) 103 103 #[.bool a, .bool b, .bool c, .bool d, .bool e] #[.bool a', .bool b', .bool c', .bool d', .bool e'] (0, 0) (0, 0) _ rfl rfl ?_ ?_ Tryz.underlying103 rfl info_it5 rfl rfl ⟨?_, ?_⟩)
    · refine heap_drew' ?_
      exact (put5_ne (w := put5 w1 (w.heap.size + 1 + 1) a b c d e) (g := w.heap.size + 1 + 1 + 1) (k := w.heap.size + 1 + 1) a' b' c' d' e' (by omega)).trans (put5_at a b c d e hy2)
    · refine heap_drew' ?_
      exact put5_at (w := put5 w1 (w.heap.size + 1 + 1) a b c d e) (g := w.heap.size + 1 + 1 + 1) a' b' c' d' e' ((put5_ne (w := w1) (g := w.heap.size + 1 + 1) (k := w.heap.size + 1 + 1 + 1) a b c d e (by omega)).trans hy3)
    · rw [HF.out]; rfl
    · exact (put5_below (put5_below D (w.heap.size + 1 + 1) (by omega) a b c d e) (w.heap.size + 1 + 1 + 1) (by omega) a' b' c' d' e').drew
  | true =>
  obtain ⟨⟨⟨m1, m2, m3, m4, m5⟩, ⟨o1, o2, o3, o4, o5⟩, er⟩, hd⟩ : ∃ r, doI 4 ⟨a, b, c, d, e⟩ ⟨a', b', c', d', e'⟩ = r := ⟨_, rfl⟩
  have HS' := fun (W : World) (g : Nat) (h : W.heap[g]? = some (bxP a b c d e a' b' c' d' e')) => sub4_calls a b c d e a' b' c' d' e' g W h
  have hda := doI_fit hf 4 (by decide) (by decide)
  rw [hd] at HS' hda
  have HS := Lib.hid HS'
  have HFT := Lib.hid hf
  have hde : er ≠ 0 → (⟨m1, m2, m3, m4, m5⟩ : It) = ⟨a, b, c, d, e⟩ ∧ (⟨o1, o2, o3, o4, o5⟩ : It) = ⟨a', b', c', d', e'⟩ := fun h => by
    have := doI_err ⟨a, b, c, d, e⟩ ⟨a', b', c', d', e'⟩ 4
    rw [hd] at this
    exact this h
  have HR2 : Hid (r = (⟨m1, m2, m3, m4, m5⟩, ⟨o1, o2, o3, o4, o5⟩, er)) := by
    show _ = _
    rw [← hr]
    exact hda
  clear HS' hda hd hf hr
  by_cases he : er = 0
  · subst he
    clear hde
    go_enter Tryz.func96, Tryz.ntmps96
    go_wp2_with fail
    with_reducible refine (re_ (fits_calls a b c d e a' b' c' d' e' _) (ret_bool HFT.out)).mono ?_
    rintro x w1 ⟨rfl, b1⟩
    have hp := hcall hx5 b1
    have D := below_call DD b1
    go_wp2_with fail
    with_reducible refine (HS.out _ _ hp).mono ?_
    rintro x w2 ⟨rfl, hp2, b2⟩
    have hz0 := D.size
    have hsz1 := b1.size
    have hy2 := (b2.block (w.heap.size + 1 + 1) (by omega)).trans (hcall hx2 b1)
    have hy3 := (b2.block (w.heap.size + 1 + 1 + 1) (by omega)).trans (hcall hx3 b1)
    replace D : Below w.heap.size w w2 := D.trans (b2.mono (by omega))
    obtain ⟨⟨q0, q1, q2, q3, q4⟩, ⟨g0, g1, g2, g3, g4⟩, gz⟩ := iopen5 hy2
    obtain ⟨⟨r0, r1, r2, r3, r4⟩, ⟨l0, l1, l2, l3, l4⟩, lz⟩ := iopen5 hy3
    obtain ⟨⟨p0, p1, p2, p3, p4, p5, p6, p7, p8, p9⟩, -, pz⟩ := popen hp2
    clear b1 b2 hp hp2 HS
    go_wp2_with fail
    go_region
    all_goals (try go_wp2)
    all_goals (try simp only [Exit.inBlock, Exit.then])
    (refine bodyPost_cct rfl (w.heap.size + 1 + 1) (w.heap.size + 1 + 1 + 1) 103 103 #[.bool m1, .bool m2, .bool m3, .bool m4, .bool m5] #[.bool o1, .bool o2, .bool o3, .bool o4, .bool o5] (0, 0) (0, 0) _ rfl rfl ?_ ?_ Tryz.underlying103 rfl info_it5 rfl rfl ⟨?_, ?_⟩)
    · refine heap_drew' ?_
      exact (put5_ne (w := put5 w2 (w.heap.size + 1 + 1) m1 m2 m3 m4 m5) (g := w.heap.size + 1 + 1 + 1) (k := w.heap.size + 1 + 1) o1 o2 o3 o4 o5 (by omega)).trans (put5_at m1 m2 m3 m4 m5 hy2)
    · refine heap_drew' ?_
      exact put5_at (w := put5 w2 (w.heap.size + 1 + 1) m1 m2 m3 m4 m5) (g := w.heap.size + 1 + 1 + 1) o1 o2 o3 o4 o5 ((put5_ne (w := w2) (g := w.heap.size + 1 + 1) (k := w.heap.size + 1 + 1 + 1) m1 m2 m3 m4 m5 (by omega)).trans hy3)
    · rw [HR2.out]; rfl
    · exact (put5_below (put5_below D (w.heap.size + 1 + 1) (by omega) m1 m2 m3 m4 m5) (w.heap.size + 1 + 1 + 1) (by omega) o1 o2 o3 o4 o5).drew
  · obtain ⟨h1, h2⟩ := hde he
    have HF : Hid (r = (⟨a, b, c, d, e⟩, ⟨a', b', c', d', e'⟩, er)) := by
      show _ = _
      rw [HR2.out, h1, h2]
    have he2 : (er == 0) = false := by simpa using he
    clear hde h1 h2 HR2
    go_enter Tryz.func96, Tryz.ntmps96
    go_wp2_with fail
    with_reducible refine (re_ (fits_calls a b c d e a' b' c' d' e' _) (ret_bool HFT.out)).mono ?_
    rintro x w1 ⟨rfl, b1⟩
    have hp := hcall hx5 b1
    have D := below_call DD b1
    go_wp2_with fail
    with_reducible refine (HS.out _ _ hp).mono ?_
    rintro x w2 ⟨rfl, hp2, b2⟩
    have hz0 := D.size
    have hsz1 := b1.size
    have hy0 := (b2.block w.heap.size (by omega)).trans (hcall hx0 b1)
    have hy1 := (b2.block (w.heap.size + 1) (by omega)).trans (hcall hx1 b1)
    have hy2 := (b2.block (w.heap.size + 1 + 1) (by omega)).trans (hcall hx2 b1)
    have hy3 := (b2.block (w.heap.size + 1 + 1 + 1) (by omega)).trans (hcall hx3 b1)
    replace D : Below w.heap.size w w2 := D.trans (b2.mono (by omega))
    obtain ⟨⟨q0, q1, q2, q3, q4⟩, ⟨g0, g1, g2, g3, g4⟩, gz⟩ := iopen5 hy2
    obtain ⟨⟨r0, r1, r2, r3, r4⟩, ⟨l0, l1, l2, l3, l4⟩, lz⟩ := iopen5 hy3
    obtain ⟨⟨p0, p1, p2, p3, p4⟩, -, pz⟩ := iopen5 hy0
    obtain ⟨⟨s0, s1, s2, s3, s4⟩, -, sz⟩ := iopen5 hy1
    clear b1 b2 hp hp2 HS
    go_wp2_with fail
    go_region
    all_goals (try go_wp2)
    all_goals (try simp only [Exit.inBlock, Exit.then])
    (refine bodyPost_cct rfl (w.heap.size + 1 + 1) (w.heap.size + 1 + 1 + 1) 103 103 #[.bool a, .bool b, .bool c, .bool d, .bool e] #[.bool a', .bool b', .bool c', .bool d', .bool e'] (0, 0) (0, 0) _ rfl rfl ?_ ?_ Tryz.underlying103 rfl info_it5 rfl rfl ⟨?_, ?_⟩)
    · refine heap_drew' ?_
      exact (put5_ne (w := put5 w2 (w.heap.size + 1 + 1) a b c d e) (g := w.heap.size + 1 + 1 + 1) (k := w.heap.size + 1 + 1) a' b' c' d' e' (by omega)).trans (put5_at a b c d e hy2)
    · refine heap_drew' ?_
      exact put5_at (w := put5 w2 (w.heap.size + 1 + 1) a b c d e) (g := w.heap.size + 1 + 1 + 1) a' b' c' d' e' ((put5_ne (w := w2) (g := w.heap.size + 1 + 1) (k := w.heap.size + 1 + 1 + 1) a b c d e (by omega)).trans hy3)
    · rw [HF.out]; rfl
    · exact (put5_below (put5_below D (w.heap.size + 1 + 1) (by omega) a b c d e) (w.heap.size + 1 + 1 + 1) (by omega) a' b' c' d' e').drew
set_option maxHeartbeats 16000000 in
set_option maxRecDepth 100000 in
theorem act5_calls (a b c d e a' b' c' d' e' : Bool) (w : World) :
    Calls Tryz.prog 96 #[agI a b c d e, agI a' b' c' d' e', .int .i64 5] w fun x w' => x = .returned (.tuple #[vaIt (actI ⟨a, b, c, d, e⟩ ⟨a', b', c', d', e'⟩ 5).1, vaIt (actI ⟨a, b, c, d, e⟩ ⟨a', b', c', d', e'⟩ 5).2.1, .int .i64 (actI ⟨a, b, c, d, e⟩ ⟨a', b', c', d', e'⟩ 5).2.2]) ∧ Below w.heap.size w w' := by
  have hmm := @run_makeMap Tryz.prog
  have hu1 := upd_1
  have hu2 := upd_2
  have hu3 := upd_3
  have hu4 := upd_4
  have hu5 := upd_5
  have hu6 := upd_6
  have hl := lok_5
  have hx0 := heap_alloc_new w (.cells #[.bool a, .bool b, .bool c, .bool d, .bool e] 103)
  have hx1 := heap_alloc_new (w.alloc (.cells #[.bool a, .bool b, .bool c, .bool d, .bool e] 103)) (.cells #[.bool a', .bool b', .bool c', .bool d', .bool e'] 103)
  replace hx0 := halloc hx0 (.cells #[.bool a', .bool b', .bool c', .bool d', .bool e'] 103)
  have hx2 := heap_alloc_new ((w.alloc (.cells #[.bool a, .bool b, .bool c, .bool d, .bool e] 103)).alloc (.cells #[.bool a', .bool b', .bool c', .bool d', .bool e'] 103)) (.cells #[.bool false, .bool false, .bool false, .bool false, .bool false] 103)
  replace hx0 := halloc hx0 (.cells #[.bool false, .bool false, .bool false, .bool false, .bool false] 103)
  replace hx1 := halloc hx1 (.cells #[.bool false, .bool false, .bool false, .bool false, .bool false] 103)
  have hx3 := heap_alloc_new (((w.alloc (.cells #[.bool a, .bool b, .bool c, .bool d, .bool e] 103)).alloc (.cells #[.bool a', .bool b', .bool c', .bool d', .bool e'] 103)).alloc (.cells #[.bool false, .bool false, .bool false, .bool false, .bool false] 103)) (.cells #[.bool false, .bool false, .bool false, .bool false, .bool false] 103)
  replace hx0 := halloc hx0 (.cells #[.bool false, .bool false, .bool false, .bool false, .bool false] 103)
  replace hx1 := halloc hx1 (.cells #[.bool false, .bool false, .bool false, .bool false, .bool false] 103)
  replace hx2 := halloc hx2 (.cells #[.bool false, .bool false, .bool false, .bool false, .bool false] 103)
  have hx4 := heap_alloc_new ((((w.alloc (.cells #[.bool a, .bool b, .bool c, .bool d, .bool e] 103)).alloc (.cells #[.bool a', .bool b', .bool c', .bool d', .bool e'] 103)).alloc (.cells #[.bool false, .bool false, .bool false, .bool false, .bool false] 103)).alloc (.cells #[.bool false, .bool false, .bool false, .bool false, .bool false] 103)) (.map #[entI 1 142, entI 2 143, entI 3 144, entI 4 145, entI 5 146, entI 6 147] 6)
  replace hx0 := halloc hx0 (.map #[entI 1 142, entI 2 143, entI 3 144, entI 4 145, entI 5 146, entI 6 147] 6)
  replace hx1 := halloc hx1 (.map #[entI 1 142, entI 2 143, entI 3 144, entI 4 145, entI 5 146, entI 6 147] 6)
  replace hx2 := halloc hx2 (.map #[entI 1 142, entI 2 143, entI 3 144, entI 4 145, entI 5 146, entI 6 147] 6)
  replace hx3 := halloc hx3 (.map #[entI 1 142, entI 2 143, entI 3 144, entI 4 145, entI 5 146, entI 6 147] 6)
  have hx5 := heap_alloc_new (((((w.alloc (.cells #[.bool a, .bool b, .bool c, .bool d, .bool e] 103)).alloc (.cells #[.bool a', .bool b', .bool c', .bool d', .bool e'] 103)).alloc (.cells #[.bool false, .bool false, .bool false, .bool false, .bool false] 103)).alloc (.cells #[.bool false, .bool false, .bool false, .bool false, .bool false] 103)).alloc (.map #[entI 1 142, entI 2 143, entI 3 144, entI 4 145, entI 5 146, entI 6 147] 6)) (bxP a b c d e a' b' c' d' e')
  replace hx0 := halloc hx0 (bxP a b c d e a' b' c' d' e')
  replace hx1 := halloc hx1 (bxP a b c d e a' b' c' d' e')
  replace hx2 := halloc hx2 (bxP a b c d e a' b' c' d' e')
  replace hx3 := halloc hx3 (bxP a b c d e a' b' c' d' e')
  replace hx4 := halloc hx4 (bxP a b c d e a' b' c' d' e')
  simp only [size_alloc] at hx0 hx1 hx2 hx3 hx4 hx5
  have DD : Below w.heap.size w ((((((w.alloc (.cells #[.bool a, .bool b, .bool c, .bool d, .bool e] 103)).alloc (.cells #[.bool a', .bool b', .bool c', .bool d', .bool e'] 103)).alloc (.cells #[.bool false, .bool false, .bool false, .bool false, .bool false] 103)).alloc (.cells #[.bool false, .bool false, .bool false, .bool false, .bool false] 103)).alloc (.map #[entI 1 142, entI 2 143, entI 3 144, entI 4 145, entI 5 146, entI 6 147] 6)).alloc (bxP a b c d e a' b' c' d' e')) := below_alloc0 (below_alloc0 (below_alloc0 (below_alloc0 (below_alloc0 (below_box _) _) _) _) _) _
  obtain ⟨r, hr⟩ : ∃ r, actI ⟨a, b, c, d, e⟩ ⟨a', b', c', d', e'⟩ 5 = r := ⟨_, rfl⟩
  rw [hr]
  cases hf : fitI ⟨a, b, c, d, e⟩ ⟨a', b', c', d', e'⟩ with
  | false =>
    have HF : Hid (r = (⟨a, b, c, d, e⟩, ⟨a', b', c', d', e'⟩, 1)) := by
      show _ = _
      rw [← hr]
      unfold actI
      rw [if_pos hf]
    have HFT := Lib.hid hf
    clear hf hr
    go_enter Tryz.func96, Tryz.ntmps96
    go_wp2_with fail
    with_reducible refine (re_ (fits_calls a b c d e a' b' c' d' e' _) (ret_bool HFT.out)).mono ?_
    rintro x w1 ⟨rfl, b1⟩
    have hy0 := hcall hx0 b1
    have hy1 := hcall hx1 b1
    have hy2 := hcall hx2 b1
    have hy3 := hcall hx3 b1
    have D := below_call DD b1
    obtain ⟨⟨q0, q1, q2, q3, q4⟩, ⟨g0, g1, g2, g3, g4⟩, gz⟩ := iopen5 hy2
    obtain ⟨⟨r0, r1, r2, r3, r4⟩, ⟨l0, l1, l2, l3, l4⟩, lz⟩ := iopen5 hy3
    obtain ⟨⟨p0, p1, p2, p3, p4⟩, -, pz⟩ := iopen5 hy0
    obtain ⟨⟨s0, s1, s2, s3, s4⟩, -, sz⟩ := iopen5 hy1
    have hz0 := D.size
    clear b1
    go_wp2_with fail
    go_region
    all_goals (try go_wp2)
    all_goals (try simp only [Exit.inBlock, Exit.then])
    (refine bodyPost_cct rfl (w.heap.size + 1 + 1) (w.heap.size + 1 + 1 + 1) 103 103 #[.bool a, .bool b, .bool c, .bool d, .bool e] #[.bool a', .bool b', .bool c', .bool d', .bool e'] (0, 0) (0, 0) _ rfl rfl ?_ ?_ Tryz.underlying103 rfl info_it5 rfl rfl ⟨?_, ?_⟩)
    · refine heap_drew' ?_
      exact (put5_ne (w := put5 w1 (w.heap.size + 1 + 1) a b c d e) (g := w.heap.size + 1 + 1 + 1) (k := w.heap.size + 1 + 1) a' b' c' d' e' (by omega)).trans (put5_at a b c d e hy2)
    · refine heap_drew' ?_
      exact put5_at (w := put5 w1 (w.heap.size + 1 + 1) a b c d e) (g := w.heap.size + 1 + 1 + 1) a' b' c' d' e' ((put5_ne (w := w1) (g := w.heap.size + 1 + 1) (k := w.heap.size + 1 + 1 + 1) a b c d e (by omega)).trans hy3)
    · rw [HF.out]; rfl
    · exact (put5_below (put5_below D (w.heap.size + 1 + 1) (by omega) a b c d e) (w.heap.size + 1 + 1 + 1) (by omega) a' b' c' d' e').drew
  | true =>
  obtain ⟨⟨⟨m1, m2, m3, m4, m5⟩, ⟨o1, o2, o3, o4, o5⟩, er⟩, hd⟩ : ∃ r, doI 5 ⟨a, b, c, d, e⟩ ⟨a', b', c', d', e'⟩ = r := ⟨_, rfl⟩
  have HS' := fun (W : World) (g : Nat) (h : W.heap[g]? = some (bxP a b c d e a' b' c' d' e')) => sub5_calls a b c d e a' b' c' d' e' g W h
  have hda := doI_fit hf 5 (by decide) (by decide)
  rw [hd] at HS' hda
  have HS := Lib.hid HS'
  have HFT := Lib.hid hf
  have hde : er ≠ 0 → (⟨m1, m2, m3, m4, m5⟩ : It) = ⟨a, b, c, d, e⟩ ∧ (⟨o1, o2, o3, o4, o5⟩ : It) = ⟨a', b', c', d', e'⟩ := fun h => by
    have := doI_err ⟨a, b, c, d, e⟩ ⟨a', b', c', d', e'⟩ 5
    rw [hd] at this
    exact this h
  have HR2 : Hid (r = (⟨m1, m2, m3, m4, m5⟩, ⟨o1, o2, o3, o4, o5⟩, er)) := by
    show _ = _
    rw [← hr]
    exact hda
  clear HS' hda hd hf hr
  by_cases he : er = 0
  · subst he
    clear hde
    go_enter Tryz.func96, Tryz.ntmps96
    go_wp2_with fail
    with_reducible refine (re_ (fits_calls a b c d e a' b' c' d' e' _) (ret_bool HFT.out)).mono ?_
    rintro x w1 ⟨rfl, b1⟩
    have hp := hcall hx5 b1
    have D := below_call DD b1
    go_wp2_with fail
    with_reducible refine (HS.out _ _ hp).mono ?_
    rintro x w2 ⟨rfl, hp2, b2⟩
    have hz0 := D.size
    have hsz1 := b1.size
    have hy2 := (b2.block (w.heap.size + 1 + 1) (by omega)).trans (hcall hx2 b1)
    have hy3 := (b2.block (w.heap.size + 1 + 1 + 1) (by omega)).trans (hcall hx3 b1)
    replace D : Below w.heap.size w w2 := D.trans (b2.mono (by omega))
    obtain ⟨⟨q0, q1, q2, q3, q4⟩, ⟨g0, g1, g2, g3, g4⟩, gz⟩ := iopen5 hy2
    obtain ⟨⟨r0, r1, r2, r3, r4⟩, ⟨l0, l1, l2, l3, l4⟩, lz⟩ := iopen5 hy3
    obtain ⟨⟨p0, p1, p2, p3, p4, p5, p6, p7, p8, p9⟩, -, pz⟩ := popen hp2
    clear b1 b2 hp hp2 HS
    go_wp2_with fail
    go_region
    all_goals (try go_wp2)
    all_goals (try simp only [Exit.inBlock, Exit.then])
    (refine bodyPost_cct rfl (w.heap.size + 1 + 1) (w.heap.size + 1 + 1 + 1) 103 103 #[.bool m1, .bool m2, .bool m3, .bool m4, .bool m5] #[.bool o1, .bool o2, .bool o3, .bool o4, .bool o5] (0, 0) (0, 0) _ rfl rfl ?_ ?_ Tryz.underlying103 rfl info_it5 rfl rfl ⟨?_, ?_⟩)
    · refine heap_drew' ?_
      exact (put5_ne (w := put5 w2 (w.heap.size + 1 + 1) m1 m2 m3 m4 m5) (g := w.heap.size + 1 + 1 + 1) (k := w.heap.size + 1 + 1) o1 o2 o3 o4 o5 (by omega)).trans (put5_at m1 m2 m3 m4 m5 hy2)
    · refine heap_drew' ?_
      exact put5_at (w := put5 w2 (w.heap.size + 1 + 1) m1 m2 m3 m4 m5) (g := w.heap.size + 1 + 1 + 1) o1 o2 o3 o4 o5 ((put5_ne (w := w2) (g := w.heap.size + 1 + 1) (k := w.heap.size + 1 + 1 + 1) m1 m2 m3 m4 m5 (by omega)).trans hy3)
    · rw [HR2.out]; rfl
    · exact (put5_below (put5_below D (w.heap.size + 1 + 1) (by omega) m1 m2 m3 m4 m5) (w.heap.size + 1 + 1 + 1) (by omega) o1 o2 o3 o4 o5).drew
  · obtain ⟨h1, h2⟩ := hde he
    have HF : Hid (r = (⟨a, b, c, d, e⟩, ⟨a', b', c', d', e'⟩, er)) := by
      show _ = _
      rw [HR2.out, h1, h2]
    have he2 : (er == 0) = false := by simpa using he
    clear hde h1 h2 HR2
    go_enter Tryz.func96, Tryz.ntmps96
    go_wp2_with fail
    with_reducible refine (re_ (fits_calls a b c d e a' b' c' d' e' _) (ret_bool HFT.out)).mono ?_
    rintro x w1 ⟨rfl, b1⟩
    have hp := hcall hx5 b1
    have D := below_call DD b1
    go_wp2_with fail
    with_reducible refine (HS.out _ _ hp).mono ?_
    rintro x w2 ⟨rfl, hp2, b2⟩
    have hz0 := D.size
    have hsz1 := b1.size
    have hy0 := (b2.block w.heap.size (by omega)).trans (hcall hx0 b1)
    have hy1 := (b2.block (w.heap.size + 1) (by omega)).trans (hcall hx1 b1)
    have hy2 := (b2.block (w.heap.size + 1 + 1) (by omega)).trans (hcall hx2 b1)
    have hy3 := (b2.block (w.heap.size + 1 + 1 + 1) (by omega)).trans (hcall hx3 b1)
    replace D : Below w.heap.size w w2 := D.trans (b2.mono (by omega))
    obtain ⟨⟨q0, q1, q2, q3, q4⟩, ⟨g0, g1, g2, g3, g4⟩, gz⟩ := iopen5 hy2
    obtain ⟨⟨r0, r1, r2, r3, r4⟩, ⟨l0, l1, l2, l3, l4⟩, lz⟩ := iopen5 hy3
    obtain ⟨⟨p0, p1, p2, p3, p4⟩, -, pz⟩ := iopen5 hy0
    obtain ⟨⟨s0, s1, s2, s3, s4⟩, -, sz⟩ := iopen5 hy1
    clear b1 b2 hp hp2 HS
    go_wp2_with fail
    go_region
    all_goals (try go_wp2)
    all_goals (try simp only [Exit.inBlock, Exit.then])
    (refine bodyPost_cct rfl (w.heap.size + 1 + 1) (w.heap.size + 1 + 1 + 1) 103 103 #[.bool a, .bool b, .bool c, .bool d, .bool e] #[.bool a', .bool b', .bool c', .bool d', .bool e'] (0, 0) (0, 0) _ rfl rfl ?_ ?_ Tryz.underlying103 rfl info_it5 rfl rfl ⟨?_, ?_⟩)
    · refine heap_drew' ?_
      exact (put5_ne (w := put5 w2 (w.heap.size + 1 + 1) a b c d e) (g := w.heap.size + 1 + 1 + 1) (k := w.heap.size + 1 + 1) a' b' c' d' e' (by omega)).trans (put5_at a b c d e hy2)
    · refine heap_drew' ?_
      exact put5_at (w := put5 w2 (w.heap.size + 1 + 1) a b c d e) (g := w.heap.size + 1 + 1 + 1) a' b' c' d' e' ((put5_ne (w := w2) (g := w.heap.size + 1 + 1) (k := w.heap.size + 1 + 1 + 1) a b c d e (by omega)).trans hy3)
    · rw [HF.out]; rfl
    · exact (put5_below (put5_below D (w.heap.size + 1 + 1) (by omega) a b c d e) (w.heap.size + 1 + 1 + 1) (by omega) a' b' c' d' e').drew
set_option maxHeartbeats 16000000 in
set_option maxRecDepth 100000 in
theorem act6_calls (a b c d e a' b' c' d' e' : Bool) (w : World) :
    Calls Tryz.prog 96 #[agI a b c d e, agI a' b' c' d' e', .int .i64 6] w fun x w' => x = .returned (.tuple #[vaIt (actI ⟨a, b, c, d, e⟩ ⟨a', b', c', d', e'⟩ 6).1, vaIt (actI ⟨a, b, c, d, e⟩ ⟨a', b', c', d', e'⟩ 6).2.1, .int .i64 (actI ⟨a, b, c, d, e⟩ ⟨a', b', c', d', e'⟩ 6).2.2]) ∧ Below w.heap.size w w' := by
  have hmm := @run_makeMap Tryz.prog
  have hu1 := upd_1
  have hu2 := upd_2
  have hu3 := upd_3
  have hu4 := upd_4
  have hu5 := upd_5
  have hu6 := upd_6
  have hl := lok_6
  have hx0 := heap_alloc_new w (.cells #[.bool a, .bool b, .bool c, .bool d, .bool e] 103)
  have hx1 := heap_alloc_new (w.alloc (.cells #[.bool a, .bool b, .bool c, .bool d, .bool e] 103)) (.cells #[.bool a', .bool b', .bool c', .bool d', .bool e'] 103)
  replace hx0 := halloc hx0 (.cells #[.bool a', .bool b', .bool c', .bool d', .bool e'] 103)
  have hx2 := heap_alloc_new ((w.alloc (.cells #[.bool a, .bool b, .bool c, .bool d, .bool e] 103)).alloc (.cells #[.bool a', .bool b', .bool c', .bool d', .bool e'] 103)) (.cells #[.bool false, .bool false, .bool false, .bool false, .bool false] 103)
  replace hx0 := halloc hx0 (.cells #[.bool false, .bool false, .bool false, .bool false, .bool false] 103)
  replace hx1 := halloc hx1 (.cells #[.bool false, .bool false, .bool false, .bool false, .bool false] 103)
  have hx3 := heap_alloc_new (((w.alloc (.cells #[.bool a, .bool b, .bool c, .bool d, .bool e] 103)).alloc (.cells #[.bool a', .bool b', .bool c', .bool d', .bool e'] 103)).alloc (.cells #[.bool false, .bool false, .bool false, .bool false, .bool false] 103)) (.cells #[.bool false, .bool false, .bool false, .bool false, .bool false] 103)
  replace hx0 := halloc hx0 (.cells #[.bool false, .bool false, .bool false, .bool false, .bool false] 103)
  replace hx1 := halloc hx1 (.cells #[.bool false, .bool false, .bool false, .bool false, .bool false] 103)
  replace hx2 := halloc hx2 (.cells #[.bool false, .bool false, .bool false, .bool false, .bool false] 103)
  have hx4 := heap_alloc_new ((((w.alloc (.cells #[.bool a, .bool b, .bool c, .bool d, .bool e] 103)).alloc (.cells #[.bool a', .bool b', .bool c', .bool d', .bool e'] 103)).alloc (.cells #[.bool false, .bool false, .bool false, .bool false, .bool false] 103)).alloc (.cells #[.bool false, .bool false, .bool false, .bool false, .bool false] 103)) (.map #[entI 1 142, entI 2 143, entI 3 144, entI 4 145, entI 5 146, entI 6 147] 6)
  replace hx0 := halloc hx0 (.map #[entI 1 142, entI 2 143, entI 3 144, entI 4 145, entI 5 146, entI 6 147] 6)
  replace hx1 := halloc hx1 (.map #[entI 1 142, entI 2 143, entI 3 144, entI 4 145, entI 5 146, entI 6 147] 6)
  replace hx2 := halloc hx2 (.map #[entI 1 142, entI 2 143, entI 3 144, entI 4 145, entI 5 146, entI 6 147] 6)
  replace hx3 := halloc hx3 (.map #[entI 1 142, entI 2 143, entI 3 144, entI 4 145, entI 5 146, entI 6 147] 6)
  have hx5 := heap_alloc_new (((((w.alloc (.cells #[.bool a, .bool b, .bool c, .bool d, .bool e] 103)).alloc (.cells #[.bool a', .bool b', .bool c', .bool d', .bool e'] 103)).alloc (.cells #[.bool false, .bool false, .bool false, .bool false, .bool false] 103)).alloc (.cells #[.bool false, .bool false, .bool false, .bool false, .bool false] 103)).alloc (.map #[entI 1 142, entI 2 143, entI 3 144, entI 4 145, entI 5 146, entI 6 147] 6)) (bxP a b c d e a' b' c' d' e')
  replace hx0 := halloc hx0 (bxP a b c d e a' b' c' d' e')
  replace hx1 := halloc hx1 (bxP a b c d e a' b' c' d' e')
  replace hx2 := halloc hx2 (bxP a b c d e a' b' c' d' e')
  replace hx3 := halloc hx3 (bxP a b c d e a' b' c' d' e')
  replace hx4 := halloc hx4 (bxP a b c d e a' b' c' d' e')
  simp only [size_alloc] at hx0 hx1 hx2 hx3 hx4 hx5
  have DD : Below w.heap.size w ((((((w.alloc (.cells #[.bool a, .bool b, .bool c, .bool d, .bool e] 103)).alloc (.cells #[.bool a', .bool b', .bool c', .bool d', .bool e'] 103)).alloc (.cells #[.bool false, .bool false, .bool false, .bool false, .bool false] 103)).alloc (.cells #[.bool false, .bool false, .bool false, .bool false, .bool false] 103)).alloc (.map #[entI 1 142, entI 2 143, entI 3 144, entI 4 145, entI 5 146, entI 6 147] 6)).alloc (bxP a b c d e a' b' c' d' e')) := below_alloc0 (below_alloc0 (below_alloc0 (below_alloc0 (below_alloc0 (below_box _) _) _) _) _) _
  obtain ⟨r, hr⟩ : ∃ r, actI ⟨a, b, c, d, e⟩ ⟨a', b', c', d', e'⟩ 6 = r := ⟨_, rfl⟩
  rw [hr]
  cases hf : fitI ⟨a, b, c, d, e⟩ ⟨a', b', c', d', e'⟩ with
  | false =>
    have HF : Hid (r = (⟨a, b, c, d, e⟩, ⟨a', b', c', d', e'⟩, 1)) := by
      show _ = _
      rw [← hr]
      unfold actI
      rw [if_pos hf]
    have HFT := Lib.hid hf
    clear hf hr
    go_enter Tryz.func96, Tryz.ntmps96
    go_wp2_with fail
    with_reducible refine (re_ (fits_calls a b c d e a' b' c' d' e' _) (ret_bool HFT.out)).mono ?_
    rintro x w1 ⟨rfl, b1⟩
    have hy0 := hcall hx0 b1
    have hy1 := hcall hx1 b1
    have hy2 := hcall hx2 b1
    have hy3 := hcall hx3 b1
    have D := below_call DD b1
    obtain ⟨⟨q0, q1, q2, q3, q4⟩, ⟨g0, g1, g2, g3, g4⟩, gz⟩ := iopen5 hy2
    obtain ⟨⟨r0, r1, r2, r3, r4⟩, ⟨l0, l1, l2, l3, l4⟩, lz⟩ := iopen5 hy3
    obtain ⟨⟨p0, p1, p2, p3, p4⟩, -, pz⟩ := iopen5 hy0
    obtain ⟨⟨s0, s1, s2, s3, s4⟩, -, sz⟩ := iopen5 hy1
    have hz0 := D.size
    clear b1
    go_wp2_with fail
    go_region
    all_goals (try go_wp2)
    all_goals (try simp only [Exit.inBlock, Exit.then])
    (refine bodyPost_cct rfl (w.heap.size + 1 + 1) (w.heap.size + 1 + 1 + 1) 103 103 #[.bool a, .bool b, .bool c, .bool d, .bool e] #[.bool a', .bool b', .bool c', .bool d', .bool e'] (0, 0) (0, 0) _ rfl rfl ?_ ?_ Tryz.underlying103 rfl info_it5 rfl rfl ⟨?_, ?_⟩)
    · refine heap_drew' ?_
      exact (put5_ne (w := put5 w1 (w.heap.size + 1 + 1) a b c d e) (g := w.heap.size + 1 + 1 + 1) (k := w.heap.size + 1 + 1) a' b' c' d' e' (by omega)).trans (put5_at a b c d e hy2)
    · refine heap_drew' ?_
      exact put5_at (w := put5 w1 (w.heap.size + 1 + 1) a b c d e) (g := w.heap.size + 1 + 1 + 1) a' b' c' d' e' ((put5_ne (w := w1) (g := w.heap.size + 1 + 1) (k := w.heap.size + 1 + 1 + 1) a b c d e (by omega)).trans hy3)
    · rw [HF.out]; rfl
    · exact (put5_below (put5_below D (w.heap.size + 1 + 1) (by omega) a b c d e) (w.heap.size + 1 + 1 + 1) (by omega) a' b' c' d' e').drew
  | true =>
  obtain ⟨⟨⟨m1, m2, m3, m4, m5⟩, ⟨o1, o2, o3, o4, o5⟩, er⟩, hd⟩ : ∃ r, doI 6 ⟨a, b, c, d, e⟩ ⟨a', b', c', d', e'⟩ = r := ⟨_, rfl⟩
  have HS' := fun (W : World) (g : Nat) (h : W.heap[g]? = some (bxP a b c d e a' b' c' d' e')) => sub6_calls a b c d e a' b' c' d' e' g W h
  have hda := doI_fit hf 6 (by decide) (by decide)
  rw [hd] at HS' hda
  have HS := Lib.hid HS'
  have HFT := Lib.hid hf
  have hde : er ≠ 0 → (⟨m1, m2, m3, m4, m5⟩ : It) = ⟨a, b, c, d, e⟩ ∧ (⟨o1, o2, o3, o4, o5⟩ : It) = ⟨a', b', c', d', e'⟩ := fun h => by
    have := doI_err ⟨a, b, c, d, e⟩ ⟨a', b', c', d', e'⟩ 6
    rw [hd] at this
    exact this h
  have HR2 : Hid (r = (⟨m1, m2, m3, m4, m5⟩, ⟨o1, o2, o3, o4, o5⟩, er)) := by
    show _ = _
    rw [← hr]
    exact hda
  clear HS' hda hd hf hr
  by_cases he : er = 0
  · subst he
    clear hde
    go_enter Tryz.func96, Tryz.ntmps96
    go_wp2_with fail
    with_reducible refine (re_ (fits_calls a b c d e a' b' c' d' e' _) (ret_bool HFT.out)).mono ?_
    rintro x w1 ⟨rfl, b1⟩
    have hp := hcall hx5 b1
    have D := below_call DD b1
    go_wp2_with fail
    with_reducible refine (HS.out _ _ hp).mono ?_
    rintro x w2 ⟨rfl, hp2, b2⟩
    have hz0 := D.size
    have hsz1 := b1.size
    have hy2 := (b2.block (w.heap.size + 1 + 1) (by omega)).trans (hcall hx2 b1)
    have hy3 := (b2.block (w.heap.size + 1 + 1 + 1) (by omega)).trans (hcall hx3 b1)
    replace D : Below w.heap.size w w2 := D.trans (b2.mono (by omega))
    obtain ⟨⟨q0, q1, q2, q3, q4⟩, ⟨g0, g1, g2, g3, g4⟩, gz⟩ := iopen5 hy2
    obtain ⟨⟨r0, r1, r2, r3, r4⟩, ⟨l0, l1, l2, l3, l4⟩, lz⟩ := iopen5 hy3
    obtain ⟨⟨p0, p1, p2, p3, p4, p5, p6, p7, p8, p9⟩, -, pz⟩ := popen hp2
    clear b1 b2 hp hp2 HS
    go_wp2_with fail
    go_region
    all_goals (try go_wp2)
    all_goals (try simp only [Exit.inBlock, Exit.then])
    (refine bodyPost_cct rfl (w.heap.size + 1 + 1) (w.heap.size + 1 + 1 + 1) 103 103 #[.bool m1, .bool m2, .bool m3, .bool m4, .bool m5] #[.bool o1, .bool o2, .bool o3, .bool o4, .bool o5] (0, 0) (0, 0) _ rfl rfl ?_ ?_ Tryz.underlying103 rfl info_it5 rfl rfl ⟨?_, ?_⟩)
    · refine heap_drew' ?_
      exact (put5_ne (w := put5 w2 (w.heap.size + 1 + 1) m1 m2 m3 m4 m5) (g := w.heap.size + 1 + 1 + 1) (k := w.heap.size + 1 + 1) o1 o2 o3 o4 o5 (by omega)).trans (put5_at m1 m2 m3 m4 m5 hy2)
    · refine heap_drew' ?_
      exact put5_at (w := put5 w2 (w.heap.size + 1 + 1) m1 m2 m3 m4 m5) (g := w.heap.size + 1 + 1 + 1) o1 o2 o3 o4 o5 ((put5_ne (w := w2) (g := w.heap.size + 1 + 1) (k := w.heap.size + 1 + 1 + 1) m1 m2 m3 m4 m5 (by omega)).trans hy3)
    · rw [HR2.out]; rfl
    · exact (put5_below (put5_below D (w.heap.size + 1 + 1) (by omega) m1 m2 m3 m4 m5) (w.heap.size + 1 + 1 + 1) (by omega) o1 o2 o3 o4 o5).drew
  · obtain ⟨h1, h2⟩ := hde he
    have HF : Hid (r = (⟨a, b, c, d, e⟩, ⟨a', b', c', d', e'⟩, er)) := by
      show _ = _
      rw [HR2.out, h1, h2]
    have he2 : (er == 0) = false := by simpa using he
    clear hde h1 h2 HR2
    go_enter Tryz.func96, Tryz.ntmps96
    go_wp2_with fail
    with_reducible refine (re_ (fits_calls a b c d e a' b' c' d' e' _) (ret_bool HFT.out)).mono ?_
    rintro x w1 ⟨rfl, b1⟩
    have hp := hcall hx5 b1
    have D := below_call DD b1
    go_wp2_with fail
    with_reducible refine (HS.out _ _ hp).mono ?_
    rintro x w2 ⟨rfl, hp2, b2⟩
    have hz0 := D.size
    have hsz1 := b1.size
    have hy0 := (b2.block w.heap.size (by omega)).trans (hcall hx0 b1)
    have hy1 := (b2.block (w.heap.size + 1) (by omega)).trans (hcall hx1 b1)
    have hy2 := (b2.block (w.heap.size + 1 + 1) (by omega)).trans (hcall hx2 b1)
    have hy3 := (b2.block (w.heap.size + 1 + 1 + 1) (by omega)).trans (hcall hx3 b1)
    replace D : Below w.heap.size w w2 := D.trans (b2.mono (by omega))
    obtain ⟨⟨q0, q1, q2, q3, q4⟩, ⟨g0, g1, g2, g3, g4⟩, gz⟩ := iopen5 hy2
    obtain ⟨⟨r0, r1, r2, r3, r4⟩, ⟨l0, l1, l2, l3, l4⟩, lz⟩ := iopen5 hy3
    obtain ⟨⟨p0, p1, p2, p3, p4⟩, -, pz⟩ := iopen5 hy0
    obtain ⟨⟨s0, s1, s2, s3, s4⟩, -, sz⟩ := iopen5 hy1
    clear b1 b2 hp hp2 HS
    go_wp2_with fail
    go_region
    all_goals (try go_wp2)
    all_goals (try simp only [Exit.inBlock, Exit.then])
    (refine bodyPost_cct rfl (w.heap.size + 1 + 1) (w.heap.size + 1 + 1 + 1) 103 103 #[.bool a, .bool b, .bool c, .bool d, .bool e] #[.bool a', .bool b', .bool c', .bool d', .bool e'] (0, 0) (0, 0) _ rfl rfl ?_ ?_ Tryz.underlying103 rfl info_it5 rfl rfl ⟨?_, ?_⟩)
    · refine heap_drew' ?_
      exact (put5_ne (w := put5 w2 (w.heap.size + 1 + 1) a b c d e) (g := w.heap.size + 1 + 1 + 1) (k := w.heap.size + 1 + 1) a' b' c' d' e' (by omega)).trans (put5_at a b c d e hy2)
    · refine heap_drew' ?_
      exact put5_at (w := put5 w2 (w.heap.size + 1 + 1) a b c d e) (g := w.heap.size + 1 + 1 + 1) a' b' c' d' e' ((put5_ne (w := w2) (g := w.heap.size + 1 + 1) (k := w.heap.size + 1 + 1 + 1) a b c d e (by omega)).trans hy3)
    · rw [HF.out]; rfl
    · exact (put5_below (put5_below D (w.heap.size + 1 + 1) (by omega) a b c d e) (w.heap.size + 1 + 1 + 1) (by omega) a' b' c' d' e').drew
theorem ActI_calls (a b c d e a' b' c' d' e' : Bool) (k : Int) (h1 : 1 ≤ k) (h6 : k ≤ 6) (w : World) :
    Calls Tryz.prog 96 #[agI a b c d e, agI a' b' c' d' e', .int .i64 k] w fun x w' => x = .returned (.tuple #[vaIt (actI ⟨a, b, c, d, e⟩ ⟨a', b', c', d', e'⟩ k).1, vaIt (actI ⟨a, b, c, d, e⟩ ⟨a', b', c', d', e'⟩ k).2.1, .int .i64 (actI ⟨a, b, c, d, e⟩ ⟨a', b', c', d', e'⟩ k).2.2]) ∧ Below w.heap.size w w' := by
  obtain rfl | rfl | rfl | rfl | rfl | rfl : k = 1 ∨ k = 2 ∨ k = 3 ∨ k = 4 ∨ k = 5 ∨ k = 6 := by omega
  · exact act1_calls a b c d e a' b' c' d' e' w
  · exact act2_calls a b c d e a' b' c' d' e' w
  · exact act3_calls a b c d e a' b' c' d' e' w
  · exact act4_calls a b c d e a' b' c' d' e' w
  · exact act5_calls a b c d e a' b' c' d' e' w
  · exact act6_calls a b c d e a' b' c' d' e' w
end Go.Proofs.YtbpfcjdjhponaaaGreat
