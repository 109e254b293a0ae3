/-
Contract: a state behind an event, by the program.
-/
import Derived.Test.YtpmafghknafhaaaGreatStC
set_option linter.unusedVariables false
set_option linter.unusedSimpArgs false
namespace Go.Proofs.YtpmafghknafhaaaGreat
open Go.RowKit
open Sp
theorem bodyPost_ct {P : Program} {fn : Func} {R : Ending → World → Prop} {a : Act} {w : World} {p u : Tmp} {ty : TypeId} (h : fn.results = #[.cell p ty, .tmp u]) (g : Nat) (t : TypeId) (cs : Array Value) (fr : Nat × Nat) (d : TypeDesc)
    (hp : a.tmps.getD p undef = .pointer (some ⟨g, 0, none⟩)) (hg : w.heap[g]? = some (.cells cs t fr))
    (hu : P.underlying ty = some d) (hd : (match d with | .struct _ | .array _ _ => true | _ => false) = true) (hi : (P.info? ty).map (·.size) = some cs.size)
    (hde : a.defers = []) (hR : R (.returned (.tuple #[.agg cs, a.tmps.getD u undef])) w) : bodyPost P fn R .ret a w := by
  refine bodyPost_ret ?_ hde hR
  have hp' : a.tmps[p]?.getD undef = .pointer (some ⟨g, 0, none⟩) := by simpa using hp
  simp [results, h, hp', asAddr, run_loadVar_row w g t ty cs fr d hg hu hd hi]
theorem info_st : (Tryz.prog.info? 25).map (·.size) = some 2 := by kernel_rfl
theorem openT {W : World} {g : Nat} {A : Option Addr} {n c : Nat} {B : Option Addr} {m d : Nat} (h : W.heap[g]? = some (bxT A n c B m d)) : (W.cell? ⟨g, 0, none⟩ = some (.slice A n c) ∧ W.cell? ⟨g, 1, none⟩ = some (.slice B m d)) ∧ (W.frozen? ⟨g, 0, none⟩ = false ∧ W.frozen? ⟨g, 1, none⟩ = false) ∧ g < W.heap.size :=
  ⟨⟨by simp [World.cell?, h], by simp [World.cell?, h]⟩, ⟨by simp [World.frozen?, h], by simp [World.frozen?, h]⟩, (Array.getElem?_eq_some_iff.1 h).1⟩
theorem hset_neT {w : World} {g k i : Nat} {v : Value} {o : Option Obj} (hk : k ≠ g) (h : w.heap[k]? = o) : (w.setCell ⟨g, i, none⟩ v).heap[k]? = o := by
  simp [World.setCell, Array.getElem?_modify, Ne.symm hk, h]
theorem hset0 {w : World} {g : Nat} {A : Option Addr} {n c : Nat} {B : Option Addr} {m d : Nat} (h : w.heap[g]? = some (bxT A n c B m d)) (A' : Option Addr) (n' c' : Nat) : (w.setCell ⟨g, 0, none⟩ (.slice A' n' c')).heap[g]? = some (bxT A' n' c' B m d) := by
  simp [World.setCell, Array.getElem?_modify, h]
theorem hset1 {w : World} {g : Nat} {A : Option Addr} {n c : Nat} {B : Option Addr} {m d : Nat} (h : w.heap[g]? = some (bxT A n c B m d)) (A' : Option Addr) (n' c' : Nat) : (w.setCell ⟨g, 1, none⟩ (.slice A' n' c')).heap[g]? = some (bxT A n c A' n' c') := by
  simp [World.setCell, Array.getElem?_modify, h]
/-- A row whose cells are no slices lies not where a state lies. -/
theorem Row.setT {α : Type} {enc : α → List Value} {k : Nat} {w : World} {v : Value} {xs : List α} {g : Nat} {A : Option Addr} {n c : Nat} {B : Option Addr} {m d : Nat} (h : Row enc k w v xs) (hns : ∀ y u, u ∈ enc y → ∀ A n c, u ≠ .slice A n c) (hg : w.heap[g]? = some (bxT A n c B m d)) (i : Nat) (x : Value) : Row enc k (w.setCell ⟨g, i, none⟩ x) v xs := by
  obtain ⟨A', c', rfl, h1, h2, h3, h4⟩ := h
  refine ⟨A', c', rfl, h1, h2, h3, fun hp => ?_⟩
  obtain ⟨ad, e, hc⟩ := h4 hp
  refine ⟨ad, e, fun j u hu => ?_⟩
  have h5 := hc j u hu
  have hm : u ∈ xs.flatMap enc := List.mem_of_getElem? hu
  obtain ⟨y, _, hy⟩ := List.mem_flatMap.1 hm
  have hb : g ≠ (ad.add j).block := by
    intro e
    unfold World.cell? at h5
    rw [← e, hg] at h5
    simp only at h5
    split at h5
    · cases h5
    · rcases Array.getElem?_eq_some_iff.1 h5 with ⟨ho, h6⟩
      have : (ad.add j).off = 0 ∨ (ad.add j).off = 1 := by simp at ho; omega
      rcases this with h7 | h7
      · simp only [h7] at h6; exact hns y u hy _ _ _ h6.symm
      · simp only [h7] at h6; exact hns y u hy _ _ _ h6.symm
  rw [World.cell?_setCell_far _ _ _ _ hb]
  exact h5
/-- A row that is what it was, or new. -/
def Fresh (w : World) (v v' : Value) : Prop := v' = v ∨ ∀ g, v'.ownBlock = some g → w.heap.size ≤ g
theorem Fresh.self {w : World} {v : Value} : Fresh w v v := .inl rfl
theorem Fresh.up {w w1 : World} {v v' : Value} (h : v' = v ∨ ∀ g, v'.ownBlock = some g → w1.heap.size ≤ g) (hs : w.heap.size ≤ w1.heap.size) : Fresh w v v' := h.imp id fun h g hg => Nat.le_trans hs (h g hg)
theorem nsEn : ∀ (y : En) (u : Value), u ∈ enEn y → ∀ A n c, u ≠ .slice A n c := by
  intro y u hu A n c e
  subst e
  simp [enEn] at hu
theorem nsSe : ∀ (y : Se) (u : Value), u ∈ enSe y → ∀ A n c, u ≠ .slice A n c := by
  intro y u hu A n c e
  subst e
  simp [enSe] at hu
section
variable (n c : Nat) (A : Option Addr) (l : List En) (m d : Nat) (B : Option Addr) (s : List Se) (w : World) (hl : Row enEn 7 w (.slice A n c) l) (hs : Row enSe 6 w (.slice B m d) s) (hz : SzRo l) (hy : SzSe s) (hn : n ≤ 900)
include hl hs hz hy hn
set_option maxHeartbeats 16000000 in
set_option maxRecDepth 100000 in
theorem apply_no (k : Int) (u o : ByteArray) (i a p q : Int) (t : ByteArray) (er : Int) (r : Sta) (HM : Hid (mayT (l, s) = false)) (h : Hid (r = (l, s) ∧ er = 1)) :
    Calls Tryz.prog 10 #[agT A n c B m d, .agg #[.int .i64 k, .string u, .string o, .int .i64 i, .int .i64 a, .int .i64 p, .int .i64 q, .string t]] w fun x w' => ∃ A' n' c' B' m' d', x = .returned (.tuple #[agT A' n' c' B' m' d', .int .i64 er]) ∧ Row enEn 7 w' (.slice A' n' c') r.1 ∧ Row enSe 6 w' (.slice B' m' d') r.2 ∧ Below w.heap.size w w' ∧ Fresh w (.slice A n c) (.slice A' n' c') ∧ Fresh w (.slice B m d) (.slice B' m' d') := by
  have D : Below w.heap.size w (((w.alloc (bxT A n c B m d)).alloc (bxEv k u o i a p q t)).alloc (bxT none 0 0 none 0 0)) := below_alloc0 (below_alloc0 (below_box _) _) _
  have S0 := halloc (halloc (heap_alloc_new w (bxT A n c B m d)) (bxEv k u o i a p q t)) (bxT none 0 0 none 0 0)
  have E0 := halloc (heap_alloc_new (w.alloc (bxT A n c B m d)) (bxEv k u o i a p q t)) (bxT none 0 0 none 0 0)
  have Z0 := heap_alloc_new ((w.alloc (bxT A n c B m d)).alloc (bxEv k u o i a p q t)) (bxT none 0 0 none 0 0)
  simp only [size_alloc] at E0 Z0
  replace hl := hl.below D
  replace hs := hs.below D
  obtain ⟨⟨s0, s1⟩, ⟨sf0, sf1⟩, sz⟩ := openT S0
  go_enter Tryz.func10, Tryz.ntmps10
  go_wp2_with fail
  with_reducible refine (MayT_is n c A l m d B s _ hl hs hz hy (by omega) false HM).mono ?_
  rintro e w1 ⟨rfl, b1⟩
  replace hl := hl.below b1
  replace hs := hs.below b1
  replace S0 := hcall S0 b1
  replace E0 := hcall E0 b1
  replace Z0 := hcall Z0 b1
  replace D := below_call D b1
  clear b1 s0 s1 sf0 sf1 sz
  have hz6 : w.heap.size + 1 + 1 < w1.heap.size := (Array.getElem?_eq_some_iff.1 Z0).1
  obtain ⟨⟨s0, s1⟩, ⟨sf0, sf1⟩, sz⟩ := openT S0
  obtain ⟨⟨z0, z1⟩, ⟨zf0, zf1⟩, zz⟩ := openT Z0
  have Z6 : (w1.setCell ⟨w.heap.size + 1 + 1, 0, none⟩ (.slice A n c)).heap[w.heap.size + 1 + 1]? = some (bxT A n c none 0 0) := hset0 Z0 A n c
  have Z7 : ((w1.setCell ⟨w.heap.size + 1 + 1, 0, none⟩ (.slice A n c)).setCell ⟨w.heap.size + 1 + 1, 1, none⟩ (.slice B m d)).heap[w.heap.size + 1 + 1]? = some (bxT A n c B m d) := hset1 Z6 B m d
  have D7 := bset (bset D (w.heap.size + 1 + 1) 0 (.slice A n c) (by omega)) (w.heap.size + 1 + 1) 1 (.slice B m d) (by omega)
  have hl7 := Row.setT (Row.setT hl nsEn Z0 0 (.slice A n c)) nsEn Z6 1 (.slice B m d)
  have hs7 := Row.setT (Row.setT hs nsSe Z0 0 (.slice A n c)) nsSe Z6 1 (.slice B m d)
  obtain ⟨⟨y0, y1⟩, ⟨yf0, yf1⟩, yz⟩ := openT Z6
  go_wp2
  (try simp only [Exit.inBlock, Exit.then])
  (refine bodyPost_ct rfl (w.heap.size + 1 + 1) 25 #[.slice A n c, .slice B m d] (0, 0) _ rfl ?_ Tryz.underlying25 rfl info_st rfl ?_)
  · exact Z7
  · rw [h.out.1, h.out.2]
    exact ⟨A, n, c, B, m, d, rfl, hl7, hs7, D7, .self, .self⟩
set_option maxHeartbeats 16000000 in
set_option maxRecDepth 100000 in
theorem apply_ros_er (k : Int) (u o : ByteArray) (i a p q : Int) (t : ByteArray) (er : Int) (r9l : List En) (r : Sta) (HM : Hid (mayT (l, s) = true)) (HK : Hid (decide (1 ≤ k ∧ k ≤ 6) = true)) (hu : u.size ≤ 140737488351232) (ho : o.size ≤ 140737488351232) (HR : Hid (doRo l k u o = (r9l, er))) (hne : Hid ((er == 0) = false)) (h : Hid (r = (l, s) ∧ er = er)) :
    Calls Tryz.prog 10 #[agT A n c B m d, .agg #[.int .i64 k, .string u, .string o, .int .i64 i, .int .i64 a, .int .i64 p, .int .i64 q, .string t]] w fun x w' => ∃ A' n' c' B' m' d', x = .returned (.tuple #[agT A' n' c' B' m' d', .int .i64 er]) ∧ Row enEn 7 w' (.slice A' n' c') r.1 ∧ Row enSe 6 w' (.slice B' m' d') r.2 ∧ Below w.heap.size w w' ∧ Fresh w (.slice A n c) (.slice A' n' c') ∧ Fresh w (.slice B m d) (.slice B' m' d') := by
  have D : Below w.heap.size w (((w.alloc (bxT A n c B m d)).alloc (bxEv k u o i a p q t)).alloc (bxT none 0 0 none 0 0)) := below_alloc0 (below_alloc0 (below_box _) _) _
  have S0 := halloc (halloc (heap_alloc_new w (bxT A n c B m d)) (bxEv k u o i a p q t)) (bxT none 0 0 none 0 0)
  have E0 := halloc (heap_alloc_new (w.alloc (bxT A n c B m d)) (bxEv k u o i a p q t)) (bxT none 0 0 none 0 0)
  have Z0 := heap_alloc_new ((w.alloc (bxT A n c B m d)).alloc (bxEv k u o i a p q t)) (bxT none 0 0 none 0 0)
  simp only [size_alloc] at E0 Z0
  replace hl := hl.below D
  replace hs := hs.below D
  obtain ⟨⟨s0, s1⟩, ⟨sf0, sf1⟩, sz⟩ := openT S0
  go_enter Tryz.func10, Tryz.ntmps10
  go_wp2_with fail
  with_reducible refine (MayT_is n c A l m d B s _ hl hs hz hy (by omega) true HM).mono ?_
  rintro e w1 ⟨rfl, b1⟩
  replace hl := hl.below b1
  replace hs := hs.below b1
  replace S0 := hcall S0 b1
  replace E0 := hcall E0 b1
  replace Z0 := hcall Z0 b1
  replace D := below_call D b1
  clear b1 s0 s1 sf0 sf1 sz
  have hz6 : w.heap.size + 1 + 1 < w1.heap.size := (Array.getElem?_eq_some_iff.1 Z0).1
  have X0 : (w1.alloc (bxT A n c B m d)).heap[w1.heap.size]? = some (bxT A n c B m d) := heap_alloc_new _ _
  obtain ⟨⟨s0, s1⟩, ⟨sf0, sf1⟩, sz⟩ := openT S0
  obtain ⟨e0, e1, e2, e3, e4, e5, e6, e7, ez⟩ := cellsEv k u o i a p q t E0
  replace hl := hl.below (below_box (bxT A n c B m d))
  replace hs := hs.below (below_box (bxT A n c B m d))
  replace S0 := halloc S0 (bxT A n c B m d)
  replace E0 := halloc E0 (bxT A n c B m d)
  replace Z0 := halloc Z0 (bxT A n c B m d)
  replace D := below_alloc0 D (bxT A n c B m d)
  obtain ⟨e0', e1', e2', e3', e4', e5', e6', e7', ez'⟩ := cellsEv k u o i a p q t E0
  go_wp2_with fail
  with_reducible refine (between_is k true _ HK).mono ?_
  rintro e w2 ⟨rfl, b2⟩
  replace hl := hl.below b2
  replace hs := hs.below b2
  replace S0 := hcall S0 b2
  replace E0 := hcall E0 b2
  replace Z0 := hcall Z0 b2
  replace X0 := hcall X0 b2
  replace D := below_call D b2
  clear b2 s0 s1 sf0 sf1 sz e0 e1 e2 e3 e4 e5 e6 e7 ez e0' e1' e2' e3' e4' e5' e6' e7' ez'
  obtain ⟨⟨s0, s1⟩, ⟨sf0, sf1⟩, sz⟩ := openT S0
  obtain ⟨e0, e1, e2, e3, e4, e5, e6, e7, ez⟩ := cellsEv k u o i a p q t E0
  have hfz := D.size
  go_wp2_with fail
  with_reducible refine (Do8F_is n c A l _ hl k u o r9l er hz hn hu ho HR).mono ?_
  rintro e w3 ⟨v9, rfl, r9, b3, hf9⟩
  replace hl := hl.below b3
  replace hs := hs.below b3
  replace S0 := hcall S0 b3
  replace E0 := hcall E0 b3
  replace Z0 := hcall Z0 b3
  replace X0 := hcall X0 b3
  replace D := below_call D b3
  clear b3 s0 s1 sf0 sf1 sz e0 e1 e2 e3 e4 e5 e6 e7 ez
  obtain ⟨n9, hn9⟩ : ∃ n9, r9l.length = n9 := ⟨_, rfl⟩
  obtain ⟨A9, c9, rfl⟩ := Row.form8 r9 n9 hn9
  clear hn9
  have he2 := hne.out
  obtain ⟨⟨x0, x1⟩, ⟨xf0, xf1⟩, xz⟩ := openT X0
  have X5 : (w3.setCell ⟨w1.heap.size, 0, none⟩ (.slice A9 n9 c9)).heap[w1.heap.size]? = some (bxT A9 n9 c9 B m d) := hset0 X0 A9 n9 c9
  have S5 : (w3.setCell ⟨w1.heap.size, 0, none⟩ (.slice A9 n9 c9)).heap[w.heap.size]? = some (bxT A n c B m d) := hset_neT (by omega) S0
  have Z5 : (w3.setCell ⟨w1.heap.size, 0, none⟩ (.slice A9 n9 c9)).heap[w.heap.size + 1 + 1]? = some (bxT none 0 0 none 0 0) := hset_neT (by omega) Z0
  have D5 := bset D w1.heap.size 0 (.slice A9 n9 c9) (by omega)
  have hl5 := Row.setT hl nsEn X0 0 (.slice A9 n9 c9)
  have hs5 := Row.setT hs nsSe X0 0 (.slice A9 n9 c9)
  have r5 := Row.setT r9 nsEn X0 0 (.slice A9 n9 c9)
  obtain ⟨⟨x50, x51⟩, ⟨xf50, xf51⟩, x5z⟩ := openT X5
  obtain ⟨⟨s50, s51⟩, ⟨sf50, sf51⟩, s5z⟩ := openT S5
  obtain ⟨⟨z50, z51⟩, ⟨zf50, zf51⟩, z5z⟩ := openT Z5
  have Z6 : ((w3.setCell ⟨w1.heap.size, 0, none⟩ (.slice A9 n9 c9)).setCell ⟨w.heap.size + 1 + 1, 0, none⟩ (.slice A n c)).heap[w.heap.size + 1 + 1]? = some (bxT A n c none 0 0) := hset0 Z5 A n c
  have Z7 : (((w3.setCell ⟨w1.heap.size, 0, none⟩ (.slice A9 n9 c9)).setCell ⟨w.heap.size + 1 + 1, 0, none⟩ (.slice A n c)).setCell ⟨w.heap.size + 1 + 1, 1, none⟩ (.slice B m d)).heap[w.heap.size + 1 + 1]? = some (bxT A n c B m d) := hset1 Z6 B m d
  have D7 := bset (bset D5 (w.heap.size + 1 + 1) 0 (.slice A n c) (by omega)) (w.heap.size + 1 + 1) 1 (.slice B m d) (by omega)
  have hl7 := Row.setT (Row.setT hl5 nsEn Z5 0 (.slice A n c)) nsEn Z6 1 (.slice B m d)
  have hs7 := Row.setT (Row.setT hs5 nsSe Z5 0 (.slice A n c)) nsSe Z6 1 (.slice B m d)
  obtain ⟨⟨y0, y1⟩, ⟨yf0, yf1⟩, yz⟩ := openT Z6
  go_wp2
  (try simp only [Exit.inBlock, Exit.then])
  (refine bodyPost_ct rfl (w.heap.size + 1 + 1) 25 #[.slice A n c, .slice B m d] (0, 0) _ rfl ?_ Tryz.underlying25 rfl info_st rfl ?_)
  · exact Z7
  · rw [h.out.1]
    exact ⟨A, n, c, B, m, d, rfl, hl7, hs7, D7, .self, .self⟩
set_option maxHeartbeats 16000000 in
set_option maxRecDepth 100000 in
theorem apply_ros_ok (k : Int) (u o : ByteArray) (i a p q : Int) (t : ByteArray) (r9l : List En) (r : Sta) (HM : Hid (mayT (l, s) = true)) (HK : Hid (decide (1 ≤ k ∧ k ≤ 6) = true)) (hu : u.size ≤ 140737488351232) (ho : o.size ≤ 140737488351232) (HR : Hid (doRo l k u o = (r9l, 0))) (h : Hid (r = (r9l, s) ∧ (0 : Int) = 0)) :
    Calls Tryz.prog 10 #[agT A n c B m d, .agg #[.int .i64 k, .string u, .string o, .int .i64 i, .int .i64 a, .int .i64 p, .int .i64 q, .string t]] w fun x w' => ∃ A' n' c' B' m' d', x = .returned (.tuple #[agT A' n' c' B' m' d', .int .i64 0]) ∧ Row enEn 7 w' (.slice A' n' c') r.1 ∧ Row enSe 6 w' (.slice B' m' d') r.2 ∧ Below w.heap.size w w' ∧ Fresh w (.slice A n c) (.slice A' n' c') ∧ Fresh w (.slice B m d) (.slice B' m' d') := by
  have D : Below w.heap.size w (((w.alloc (bxT A n c B m d)).alloc (bxEv k u o i a p q t)).alloc (bxT none 0 0 none 0 0)) := below_alloc0 (below_alloc0 (below_box _) _) _
  have S0 := halloc (halloc (heap_alloc_new w (bxT A n c B m d)) (bxEv k u o i a p q t)) (bxT none 0 0 none 0 0)
  have E0 := halloc (heap_alloc_new (w.alloc (bxT A n c B m d)) (bxEv k u o i a p q t)) (bxT none 0 0 none 0 0)
  have Z0 := heap_alloc_new ((w.alloc (bxT A n c B m d)).alloc (bxEv k u o i a p q t)) (bxT none 0 0 none 0 0)
  simp only [size_alloc] at E0 Z0
  replace hl := hl.below D
  replace hs := hs.below D
  obtain ⟨⟨s0, s1⟩, ⟨sf0, sf1⟩, sz⟩ := openT S0
  go_enter Tryz.func10, Tryz.ntmps10
  go_wp2_with fail
  with_reducible refine (MayT_is n c A l m d B s _ hl hs hz hy (by omega) true HM).mono ?_
  rintro e w1 ⟨rfl, b1⟩
  replace hl := hl.below b1
  replace hs := hs.below b1
  replace S0 := hcall S0 b1
  replace E0 := hcall E0 b1
  replace Z0 := hcall Z0 b1
  replace D := below_call D b1
  clear b1 s0 s1 sf0 sf1 sz
  have hz6 : w.heap.size + 1 + 1 < w1.heap.size := (Array.getElem?_eq_some_iff.1 Z0).1
  have X0 : (w1.alloc (bxT A n c B m d)).heap[w1.heap.size]? = some (bxT A n c B m d) := heap_alloc_new _ _
  obtain ⟨⟨s0, s1⟩, ⟨sf0, sf1⟩, sz⟩ := openT S0
  obtain ⟨e0, e1, e2, e3, e4, e5, e6, e7, ez⟩ := cellsEv k u o i a p q t E0
  replace hl := hl.below (below_box (bxT A n c B m d))
  replace hs := hs.below (below_box (bxT A n c B m d))
  replace S0 := halloc S0 (bxT A n c B m d)
  replace E0 := halloc E0 (bxT A n c B m d)
  replace Z0 := halloc Z0 (bxT A n c B m d)
  replace D := below_alloc0 D (bxT A n c B m d)
  obtain ⟨e0', e1', e2', e3', e4', e5', e6', e7', ez'⟩ := cellsEv k u o i a p q t E0
  go_wp2_with fail
  with_reducible refine (between_is k true _ HK).mono ?_
  rintro e w2 ⟨rfl, b2⟩
  replace hl := hl.below b2
  replace hs := hs.below b2
  replace S0 := hcall S0 b2
  replace E0 := hcall E0 b2
  replace Z0 := hcall Z0 b2
  replace X0 := hcall X0 b2
  replace D := below_call D b2
  clear b2 s0 s1 sf0 sf1 sz e0 e1 e2 e3 e4 e5 e6 e7 ez e0' e1' e2' e3' e4' e5' e6' e7' ez'
  obtain ⟨⟨s0, s1⟩, ⟨sf0, sf1⟩, sz⟩ := openT S0
  obtain ⟨e0, e1, e2, e3, e4, e5, e6, e7, ez⟩ := cellsEv k u o i a p q t E0
  have hfz := D.size
  go_wp2_with fail
  with_reducible refine (Do8F_is n c A l _ hl k u o r9l 0 hz hn hu ho HR).mono ?_
  rintro e w3 ⟨v9, rfl, r9, b3, hf9⟩
  replace hl := hl.below b3
  replace hs := hs.below b3
  replace S0 := hcall S0 b3
  replace E0 := hcall E0 b3
  replace Z0 := hcall Z0 b3
  replace X0 := hcall X0 b3
  replace D := below_call D b3
  clear b3 s0 s1 sf0 sf1 sz e0 e1 e2 e3 e4 e5 e6 e7 ez
  obtain ⟨n9, hn9⟩ : ∃ n9, r9l.length = n9 := ⟨_, rfl⟩
  obtain ⟨A9, c9, rfl⟩ := Row.form8 r9 n9 hn9
  clear hn9
  obtain ⟨⟨x0, x1⟩, ⟨xf0, xf1⟩, xz⟩ := openT X0
  have X5 : (w3.setCell ⟨w1.heap.size, 0, none⟩ (.slice A9 n9 c9)).heap[w1.heap.size]? = some (bxT A9 n9 c9 B m d) := hset0 X0 A9 n9 c9
  have S5 : (w3.setCell ⟨w1.heap.size, 0, none⟩ (.slice A9 n9 c9)).heap[w.heap.size]? = some (bxT A n c B m d) := hset_neT (by omega) S0
  have Z5 : (w3.setCell ⟨w1.heap.size, 0, none⟩ (.slice A9 n9 c9)).heap[w.heap.size + 1 + 1]? = some (bxT none 0 0 none 0 0) := hset_neT (by omega) Z0
  have D5 := bset D w1.heap.size 0 (.slice A9 n9 c9) (by omega)
  have hl5 := Row.setT hl nsEn X0 0 (.slice A9 n9 c9)
  have hs5 := Row.setT hs nsSe X0 0 (.slice A9 n9 c9)
  have r5 := Row.setT r9 nsEn X0 0 (.slice A9 n9 c9)
  obtain ⟨⟨x50, x51⟩, ⟨xf50, xf51⟩, x5z⟩ := openT X5
  obtain ⟨⟨s50, s51⟩, ⟨sf50, sf51⟩, s5z⟩ := openT S5
  obtain ⟨⟨z50, z51⟩, ⟨zf50, zf51⟩, z5z⟩ := openT Z5
  have Z6 : ((w3.setCell ⟨w1.heap.size, 0, none⟩ (.slice A9 n9 c9)).setCell ⟨w.heap.size + 1 + 1, 0, none⟩ (.slice A9 n9 c9)).heap[w.heap.size + 1 + 1]? = some (bxT A9 n9 c9 none 0 0) := hset0 Z5 A9 n9 c9
  have Z7 : (((w3.setCell ⟨w1.heap.size, 0, none⟩ (.slice A9 n9 c9)).setCell ⟨w.heap.size + 1 + 1, 0, none⟩ (.slice A9 n9 c9)).setCell ⟨w.heap.size + 1 + 1, 1, none⟩ (.slice B m d)).heap[w.heap.size + 1 + 1]? = some (bxT A9 n9 c9 B m d) := hset1 Z6 B m d
  have D7 := bset (bset D5 (w.heap.size + 1 + 1) 0 (.slice A9 n9 c9) (by omega)) (w.heap.size + 1 + 1) 1 (.slice B m d) (by omega)
  have hl7 := Row.setT (Row.setT r5 nsEn Z5 0 (.slice A9 n9 c9)) nsEn Z6 1 (.slice B m d)
  have hs7 := Row.setT (Row.setT hs5 nsSe Z5 0 (.slice A9 n9 c9)) nsSe Z6 1 (.slice B m d)
  obtain ⟨⟨y0, y1⟩, ⟨yf0, yf1⟩, yz⟩ := openT Z6
  go_wp2
  (try simp only [Exit.inBlock, Exit.then])
  (refine bodyPost_ct rfl (w.heap.size + 1 + 1) 25 #[.slice A9 n9 c9, .slice B m d] (0, 0) _ rfl ?_ Tryz.underlying25 rfl info_st rfl ?_)
  · exact Z7
  · rw [h.out.1]
    exact ⟨A9, n9, c9, B, m, d, rfl, hl7, hs7, D7, .up hf9 hfz, .self⟩
set_option maxHeartbeats 16000000 in
set_option maxRecDepth 100000 in
theorem apply_put_er (k : Int) (u o : ByteArray) (i a p q : Int) (t : ByteArray) (er : Int) (r9l : List Se) (r : Sta) (HM : Hid (mayT (l, s) = true)) (HK : Hid (decide (1 ≤ k ∧ k ≤ 6) = false)) (H7 : Hid (decide (k = 7) = true)) (hu : u.size ≤ 140737488351232) (ht : t.size ≤ 140737488351232) (HR : Hid (putSe s ⟨u, i, a, p, q, t⟩ = (r9l, er))) (hne : Hid ((er == 0) = false)) (h : Hid (r = (l, s) ∧ er = er)) :
    Calls Tryz.prog 10 #[agT A n c B m d, .agg #[.int .i64 k, .string u, .string o, .int .i64 i, .int .i64 a, .int .i64 p, .int .i64 q, .string t]] w fun x w' => ∃ A' n' c' B' m' d', x = .returned (.tuple #[agT A' n' c' B' m' d', .int .i64 er]) ∧ Row enEn 7 w' (.slice A' n' c') r.1 ∧ Row enSe 6 w' (.slice B' m' d') r.2 ∧ Below w.heap.size w w' ∧ Fresh w (.slice A n c) (.slice A' n' c') ∧ Fresh w (.slice B m d) (.slice B' m' d') := by
  have D : Below w.heap.size w (((w.alloc (bxT A n c B m d)).alloc (bxEv k u o i a p q t)).alloc (bxT none 0 0 none 0 0)) := below_alloc0 (below_alloc0 (below_box _) _) _
  have S0 := halloc (halloc (heap_alloc_new w (bxT A n c B m d)) (bxEv k u o i a p q t)) (bxT none 0 0 none 0 0)
  have E0 := halloc (heap_alloc_new (w.alloc (bxT A n c B m d)) (bxEv k u o i a p q t)) (bxT none 0 0 none 0 0)
  have Z0 := heap_alloc_new ((w.alloc (bxT A n c B m d)).alloc (bxEv k u o i a p q t)) (bxT none 0 0 none 0 0)
  simp only [size_alloc] at E0 Z0
  replace hl := hl.below D
  replace hs := hs.below D
  obtain ⟨⟨s0, s1⟩, ⟨sf0, sf1⟩, sz⟩ := openT S0
  go_enter Tryz.func10, Tryz.ntmps10
  go_wp2_with fail
  with_reducible refine (MayT_is n c A l m d B s _ hl hs hz hy (by omega) true HM).mono ?_
  rintro e w1 ⟨rfl, b1⟩
  replace hl := hl.below b1
  replace hs := hs.below b1
  replace S0 := hcall S0 b1
  replace E0 := hcall E0 b1
  replace Z0 := hcall Z0 b1
  replace D := below_call D b1
  clear b1 s0 s1 sf0 sf1 sz
  have hz6 : w.heap.size + 1 + 1 < w1.heap.size := (Array.getElem?_eq_some_iff.1 Z0).1
  have X0 : (w1.alloc (bxT A n c B m d)).heap[w1.heap.size]? = some (bxT A n c B m d) := heap_alloc_new _ _
  obtain ⟨⟨s0, s1⟩, ⟨sf0, sf1⟩, sz⟩ := openT S0
  obtain ⟨e0, e1, e2, e3, e4, e5, e6, e7, ez⟩ := cellsEv k u o i a p q t E0
  replace hl := hl.below (below_box (bxT A n c B m d))
  replace hs := hs.below (below_box (bxT A n c B m d))
  replace S0 := halloc S0 (bxT A n c B m d)
  replace E0 := halloc E0 (bxT A n c B m d)
  replace Z0 := halloc Z0 (bxT A n c B m d)
  replace D := below_alloc0 D (bxT A n c B m d)
  obtain ⟨e0', e1', e2', e3', e4', e5', e6', e7', ez'⟩ := cellsEv k u o i a p q t E0
  go_wp2_with fail
  with_reducible refine (between_is k false _ HK).mono ?_
  rintro e w2 ⟨rfl, b2⟩
  replace hl := hl.below b2
  replace hs := hs.below b2
  replace S0 := hcall S0 b2
  replace E0 := hcall E0 b2
  replace Z0 := hcall Z0 b2
  replace X0 := hcall X0 b2
  replace D := below_call D b2
  clear b2 s0 s1 sf0 sf1 sz e0 e1 e2 e3 e4 e5 e6 e7 ez e0' e1' e2' e3' e4' e5' e6' e7' ez'
  obtain ⟨⟨s0, s1⟩, ⟨sf0, sf1⟩, sz⟩ := openT S0
  obtain ⟨e0, e1, e2, e3, e4, e5, e6, e7, ez⟩ := cellsEv k u o i a p q t E0
  have k7 : (k == 7) = true := by have := H7.out; simpa using this
  have hfz := D.size
  go_wp2_with fail
  with_reducible refine (Put9F_is m d B s _ hs u i a p q t r9l er hy hu ht HR).mono ?_
  rintro e w3 ⟨v9, rfl, r9, b3, hf9⟩
  replace hl := hl.below b3
  replace hs := hs.below b3
  replace S0 := hcall S0 b3
  replace E0 := hcall E0 b3
  replace Z0 := hcall Z0 b3
  replace X0 := hcall X0 b3
  replace D := below_call D b3
  clear b3 s0 s1 sf0 sf1 sz e0 e1 e2 e3 e4 e5 e6 e7 ez
  obtain ⟨n9, hn9⟩ : ∃ n9, r9l.length = n9 := ⟨_, rfl⟩
  obtain ⟨A9, c9, rfl⟩ := Row.form8 r9 n9 hn9
  clear hn9
  have he2 := hne.out
  obtain ⟨⟨x0, x1⟩, ⟨xf0, xf1⟩, xz⟩ := openT X0
  have X5 : (w3.setCell ⟨w1.heap.size, 1, none⟩ (.slice A9 n9 c9)).heap[w1.heap.size]? = some (bxT A n c A9 n9 c9) := hset1 X0 A9 n9 c9
  have S5 : (w3.setCell ⟨w1.heap.size, 1, none⟩ (.slice A9 n9 c9)).heap[w.heap.size]? = some (bxT A n c B m d) := hset_neT (by omega) S0
  have Z5 : (w3.setCell ⟨w1.heap.size, 1, none⟩ (.slice A9 n9 c9)).heap[w.heap.size + 1 + 1]? = some (bxT none 0 0 none 0 0) := hset_neT (by omega) Z0
  have D5 := bset D w1.heap.size 1 (.slice A9 n9 c9) (by omega)
  have hl5 := Row.setT hl nsEn X0 1 (.slice A9 n9 c9)
  have hs5 := Row.setT hs nsSe X0 1 (.slice A9 n9 c9)
  have r5 := Row.setT r9 nsSe X0 1 (.slice A9 n9 c9)
  obtain ⟨⟨x50, x51⟩, ⟨xf50, xf51⟩, x5z⟩ := openT X5
  obtain ⟨⟨s50, s51⟩, ⟨sf50, sf51⟩, s5z⟩ := openT S5
  obtain ⟨⟨z50, z51⟩, ⟨zf50, zf51⟩, z5z⟩ := openT Z5
  have Z6 : ((w3.setCell ⟨w1.heap.size, 1, none⟩ (.slice A9 n9 c9)).setCell ⟨w.heap.size + 1 + 1, 0, none⟩ (.slice A n c)).heap[w.heap.size + 1 + 1]? = some (bxT A n c none 0 0) := hset0 Z5 A n c
  have Z7 : (((w3.setCell ⟨w1.heap.size, 1, none⟩ (.slice A9 n9 c9)).setCell ⟨w.heap.size + 1 + 1, 0, none⟩ (.slice A n c)).setCell ⟨w.heap.size + 1 + 1, 1, none⟩ (.slice B m d)).heap[w.heap.size + 1 + 1]? = some (bxT A n c B m d) := hset1 Z6 B m d
  have D7 := bset (bset D5 (w.heap.size + 1 + 1) 0 (.slice A n c) (by omega)) (w.heap.size + 1 + 1) 1 (.slice B m d) (by omega)
  have hl7 := Row.setT (Row.setT hl5 nsEn Z5 0 (.slice A n c)) nsEn Z6 1 (.slice B m d)
  have hs7 := Row.setT (Row.setT hs5 nsSe Z5 0 (.slice A n c)) nsSe Z6 1 (.slice B m d)
  obtain ⟨⟨y0, y1⟩, ⟨yf0, yf1⟩, yz⟩ := openT Z6
  go_wp2
  (try simp only [Exit.inBlock, Exit.then])
  (refine bodyPost_ct rfl (w.heap.size + 1 + 1) 25 #[.slice A n c, .slice B m d] (0, 0) _ rfl ?_ Tryz.underlying25 rfl info_st rfl ?_)
  · exact Z7
  · rw [h.out.1]
    exact ⟨A, n, c, B, m, d, rfl, hl7, hs7, D7, .self, .self⟩
set_option maxHeartbeats 16000000 in
set_option maxRecDepth 100000 in
theorem apply_put_ok (k : Int) (u o : ByteArray) (i a p q : Int) (t : ByteArray) (r9l : List Se) (r : Sta) (HM : Hid (mayT (l, s) = true)) (HK : Hid (decide (1 ≤ k ∧ k ≤ 6) = false)) (H7 : Hid (decide (k = 7) = true)) (hu : u.size ≤ 140737488351232) (ht : t.size ≤ 140737488351232) (HR : Hid (putSe s ⟨u, i, a, p, q, t⟩ = (r9l, 0))) (h : Hid (r = (l, r9l) ∧ (0 : Int) = 0)) :
    Calls Tryz.prog 10 #[agT A n c B m d, .agg #[.int .i64 k, .string u, .string o, .int .i64 i, .int .i64 a, .int .i64 p, .int .i64 q, .string t]] w fun x w' => ∃ A' n' c' B' m' d', x = .returned (.tuple #[agT A' n' c' B' m' d', .int .i64 0]) ∧ Row enEn 7 w' (.slice A' n' c') r.1 ∧ Row enSe 6 w' (.slice B' m' d') r.2 ∧ Below w.heap.size w w' ∧ Fresh w (.slice A n c) (.slice A' n' c') ∧ Fresh w (.slice B m d) (.slice B' m' d') := by
  have D : Below w.heap.size w (((w.alloc (bxT A n c B m d)).alloc (bxEv k u o i a p q t)).alloc (bxT none 0 0 none 0 0)) := below_alloc0 (below_alloc0 (below_box _) _) _
  have S0 := halloc (halloc (heap_alloc_new w (bxT A n c B m d)) (bxEv k u o i a p q t)) (bxT none 0 0 none 0 0)
  have E0 := halloc (heap_alloc_new (w.alloc (bxT A n c B m d)) (bxEv k u o i a p q t)) (bxT none 0 0 none 0 0)
  have Z0 := heap_alloc_new ((w.alloc (bxT A n c B m d)).alloc (bxEv k u o i a p q t)) (bxT none 0 0 none 0 0)
  simp only [size_alloc] at E0 Z0
  replace hl := hl.below D
  replace hs := hs.below D
  obtain ⟨⟨s0, s1⟩, ⟨sf0, sf1⟩, sz⟩ := openT S0
  go_enter Tryz.func10, Tryz.ntmps10
  go_wp2_with fail
  with_reducible refine (MayT_is n c A l m d B s _ hl hs hz hy (by omega) true HM).mono ?_
  rintro e w1 ⟨rfl, b1⟩
  replace hl := hl.below b1
  replace hs := hs.below b1
  replace S0 := hcall S0 b1
  replace E0 := hcall E0 b1
  replace Z0 := hcall Z0 b1
  replace D := below_call D b1
  clear b1 s0 s1 sf0 sf1 sz
  have hz6 : w.heap.size + 1 + 1 < w1.heap.size := (Array.getElem?_eq_some_iff.1 Z0).1
  have X0 : (w1.alloc (bxT A n c B m d)).heap[w1.heap.size]? = some (bxT A n c B m d) := heap_alloc_new _ _
  obtain ⟨⟨s0, s1⟩, ⟨sf0, sf1⟩, sz⟩ := openT S0
  obtain ⟨e0, e1, e2, e3, e4, e5, e6, e7, ez⟩ := cellsEv k u o i a p q t E0
  replace hl := hl.below (below_box (bxT A n c B m d))
  replace hs := hs.below (below_box (bxT A n c B m d))
  replace S0 := halloc S0 (bxT A n c B m d)
  replace E0 := halloc E0 (bxT A n c B m d)
  replace Z0 := halloc Z0 (bxT A n c B m d)
  replace D := below_alloc0 D (bxT A n c B m d)
  obtain ⟨e0', e1', e2', e3', e4', e5', e6', e7', ez'⟩ := cellsEv k u o i a p q t E0
  go_wp2_with fail
  with_reducible refine (between_is k false _ HK).mono ?_
  rintro e w2 ⟨rfl, b2⟩
  replace hl := hl.below b2
  replace hs := hs.below b2
  replace S0 := hcall S0 b2
  replace E0 := hcall E0 b2
  replace Z0 := hcall Z0 b2
  replace X0 := hcall X0 b2
  replace D := below_call D b2
  clear b2 s0 s1 sf0 sf1 sz e0 e1 e2 e3 e4 e5 e6 e7 ez e0' e1' e2' e3' e4' e5' e6' e7' ez'
  obtain ⟨⟨s0, s1⟩, ⟨sf0, sf1⟩, sz⟩ := openT S0
  obtain ⟨e0, e1, e2, e3, e4, e5, e6, e7, ez⟩ := cellsEv k u o i a p q t E0
  have k7 : (k == 7) = true := by have := H7.out; simpa using this
  have hfz := D.size
  go_wp2_with fail
  with_reducible refine (Put9F_is m d B s _ hs u i a p q t r9l 0 hy hu ht HR).mono ?_
  rintro e w3 ⟨v9, rfl, r9, b3, hf9⟩
  replace hl := hl.below b3
  replace hs := hs.below b3
  replace S0 := hcall S0 b3
  replace E0 := hcall E0 b3
  replace Z0 := hcall Z0 b3
  replace X0 := hcall X0 b3
  replace D := below_call D b3
  clear b3 s0 s1 sf0 sf1 sz e0 e1 e2 e3 e4 e5 e6 e7 ez
  obtain ⟨n9, hn9⟩ : ∃ n9, r9l.length = n9 := ⟨_, rfl⟩
  obtain ⟨A9, c9, rfl⟩ := Row.form8 r9 n9 hn9
  clear hn9
  obtain ⟨⟨x0, x1⟩, ⟨xf0, xf1⟩, xz⟩ := openT X0
  have X5 : (w3.setCell ⟨w1.heap.size, 1, none⟩ (.slice A9 n9 c9)).heap[w1.heap.size]? = some (bxT A n c A9 n9 c9) := hset1 X0 A9 n9 c9
  have S5 : (w3.setCell ⟨w1.heap.size, 1, none⟩ (.slice A9 n9 c9)).heap[w.heap.size]? = some (bxT A n c B m d) := hset_neT (by omega) S0
  have Z5 : (w3.setCell ⟨w1.heap.size, 1, none⟩ (.slice A9 n9 c9)).heap[w.heap.size + 1 + 1]? = some (bxT none 0 0 none 0 0) := hset_neT (by omega) Z0
  have D5 := bset D w1.heap.size 1 (.slice A9 n9 c9) (by omega)
  have hl5 := Row.setT hl nsEn X0 1 (.slice A9 n9 c9)
  have hs5 := Row.setT hs nsSe X0 1 (.slice A9 n9 c9)
  have r5 := Row.setT r9 nsSe X0 1 (.slice A9 n9 c9)
  obtain ⟨⟨x50, x51⟩, ⟨xf50, xf51⟩, x5z⟩ := openT X5
  obtain ⟨⟨s50, s51⟩, ⟨sf50, sf51⟩, s5z⟩ := openT S5
  obtain ⟨⟨z50, z51⟩, ⟨zf50, zf51⟩, z5z⟩ := openT Z5
  have Z6 : ((w3.setCell ⟨w1.heap.size, 1, none⟩ (.slice A9 n9 c9)).setCell ⟨w.heap.size + 1 + 1, 0, none⟩ (.slice A n c)).heap[w.heap.size + 1 + 1]? = some (bxT A n c none 0 0) := hset0 Z5 A n c
  have Z7 : (((w3.setCell ⟨w1.heap.size, 1, none⟩ (.slice A9 n9 c9)).setCell ⟨w.heap.size + 1 + 1, 0, none⟩ (.slice A n c)).setCell ⟨w.heap.size + 1 + 1, 1, none⟩ (.slice A9 n9 c9)).heap[w.heap.size + 1 + 1]? = some (bxT A n c A9 n9 c9) := hset1 Z6 A9 n9 c9
  have D7 := bset (bset D5 (w.heap.size + 1 + 1) 0 (.slice A n c) (by omega)) (w.heap.size + 1 + 1) 1 (.slice A9 n9 c9) (by omega)
  have hl7 := Row.setT (Row.setT hl5 nsEn Z5 0 (.slice A n c)) nsEn Z6 1 (.slice A9 n9 c9)
  have hs7 := Row.setT (Row.setT r5 nsSe Z5 0 (.slice A n c)) nsSe Z6 1 (.slice A9 n9 c9)
  obtain ⟨⟨y0, y1⟩, ⟨yf0, yf1⟩, yz⟩ := openT Z6
  go_wp2
  (try simp only [Exit.inBlock, Exit.then])
  (refine bodyPost_ct rfl (w.heap.size + 1 + 1) 25 #[.slice A n c, .slice A9 n9 c9] (0, 0) _ rfl ?_ Tryz.underlying25 rfl info_st rfl ?_)
  · exact Z7
  · rw [h.out.1]
    exact ⟨A, n, c, A9, n9, c9, rfl, hl7, hs7, D7, .self, .up hf9 hfz⟩
set_option maxHeartbeats 16000000 in
set_option maxRecDepth 100000 in
theorem apply_drop_er (k : Int) (u o : ByteArray) (i a p q : Int) (t : ByteArray) (er : Int) (r9l : List Se) (r : Sta) (HM : Hid (mayT (l, s) = true)) (HK : Hid (decide (1 ≤ k ∧ k ≤ 6) = false)) (H7 : Hid (decide (k = 7) = false)) (H8 : Hid (decide (k = 8) = true)) (HR : Hid (dropSe s (u, i) = (r9l, er))) (hne : Hid ((er == 0) = false)) (h : Hid (r = (l, s) ∧ er = er)) :
    Calls Tryz.prog 10 #[agT A n c B m d, .agg #[.int .i64 k, .string u, .string o, .int .i64 i, .int .i64 a, .int .i64 p, .int .i64 q, .string t]] w fun x w' => ∃ A' n' c' B' m' d', x = .returned (.tuple #[agT A' n' c' B' m' d', .int .i64 er]) ∧ Row enEn 7 w' (.slice A' n' c') r.1 ∧ Row enSe 6 w' (.slice B' m' d') r.2 ∧ Below w.heap.size w w' ∧ Fresh w (.slice A n c) (.slice A' n' c') ∧ Fresh w (.slice B m d) (.slice B' m' d') := by
  have D : Below w.heap.size w (((w.alloc (bxT A n c B m d)).alloc (bxEv k u o i a p q t)).alloc (bxT none 0 0 none 0 0)) := below_alloc0 (below_alloc0 (below_box _) _) _
  have S0 := halloc (halloc (heap_alloc_new w (bxT A n c B m d)) (bxEv k u o i a p q t)) (bxT none 0 0 none 0 0)
  have E0 := halloc (heap_alloc_new (w.alloc (bxT A n c B m d)) (bxEv k u o i a p q t)) (bxT none 0 0 none 0 0)
  have Z0 := heap_alloc_new ((w.alloc (bxT A n c B m d)).alloc (bxEv k u o i a p q t)) (bxT none 0 0 none 0 0)
  simp only [size_alloc] at E0 Z0
  replace hl := hl.below D
  replace hs := hs.below D
  obtain ⟨⟨s0, s1⟩, ⟨sf0, sf1⟩, sz⟩ := openT S0
  go_enter Tryz.func10, Tryz.ntmps10
  go_wp2_with fail
  with_reducible refine (MayT_is n c A l m d B s _ hl hs hz hy (by omega) true HM).mono ?_
  rintro e w1 ⟨rfl, b1⟩
  replace hl := hl.below b1
  replace hs := hs.below b1
  replace S0 := hcall S0 b1
  replace E0 := hcall E0 b1
  replace Z0 := hcall Z0 b1
  replace D := below_call D b1
  clear b1 s0 s1 sf0 sf1 sz
  have hz6 : w.heap.size + 1 + 1 < w1.heap.size := (Array.getElem?_eq_some_iff.1 Z0).1
  have X0 : (w1.alloc (bxT A n c B m d)).heap[w1.heap.size]? = some (bxT A n c B m d) := heap_alloc_new _ _
  obtain ⟨⟨s0, s1⟩, ⟨sf0, sf1⟩, sz⟩ := openT S0
  obtain ⟨e0, e1, e2, e3, e4, e5, e6, e7, ez⟩ := cellsEv k u o i a p q t E0
  replace hl := hl.below (below_box (bxT A n c B m d))
  replace hs := hs.below (below_box (bxT A n c B m d))
  replace S0 := halloc S0 (bxT A n c B m d)
  replace E0 := halloc E0 (bxT A n c B m d)
  replace Z0 := halloc Z0 (bxT A n c B m d)
  replace D := below_alloc0 D (bxT A n c B m d)
  obtain ⟨e0', e1', e2', e3', e4', e5', e6', e7', ez'⟩ := cellsEv k u o i a p q t E0
  go_wp2_with fail
  with_reducible refine (between_is k false _ HK).mono ?_
  rintro e w2 ⟨rfl, b2⟩
  replace hl := hl.below b2
  replace hs := hs.below b2
  replace S0 := hcall S0 b2
  replace E0 := hcall E0 b2
  replace Z0 := hcall Z0 b2
  replace X0 := hcall X0 b2
  replace D := below_call D b2
  clear b2 s0 s1 sf0 sf1 sz e0 e1 e2 e3 e4 e5 e6 e7 ez e0' e1' e2' e3' e4' e5' e6' e7' ez'
  obtain ⟨⟨s0, s1⟩, ⟨sf0, sf1⟩, sz⟩ := openT S0
  obtain ⟨e0, e1, e2, e3, e4, e5, e6, e7, ez⟩ := cellsEv k u o i a p q t E0
  have k7 : (k == 7) = false := by have := H7.out; simpa using this
  have k8 : (k == 8) = true := by have := H8.out; simpa using this
  have hfz := D.size
  go_wp2_with fail
  with_reducible refine (Drop9F_is m d B s _ hs u i r9l er hy HR).mono ?_
  rintro e w3 ⟨v9, rfl, r9, b3, hf9⟩
  replace hl := hl.below b3
  replace hs := hs.below b3
  replace S0 := hcall S0 b3
  replace E0 := hcall E0 b3
  replace Z0 := hcall Z0 b3
  replace X0 := hcall X0 b3
  replace D := below_call D b3
  clear b3 s0 s1 sf0 sf1 sz e0 e1 e2 e3 e4 e5 e6 e7 ez
  obtain ⟨n9, hn9⟩ : ∃ n9, r9l.length = n9 := ⟨_, rfl⟩
  obtain ⟨A9, c9, rfl⟩ := Row.form8 r9 n9 hn9
  clear hn9
  have he2 := hne.out
  obtain ⟨⟨x0, x1⟩, ⟨xf0, xf1⟩, xz⟩ := openT X0
  have X5 : (w3.setCell ⟨w1.heap.size, 1, none⟩ (.slice A9 n9 c9)).heap[w1.heap.size]? = some (bxT A n c A9 n9 c9) := hset1 X0 A9 n9 c9
  have S5 : (w3.setCell ⟨w1.heap.size, 1, none⟩ (.slice A9 n9 c9)).heap[w.heap.size]? = some (bxT A n c B m d) := hset_neT (by omega) S0
  have Z5 : (w3.setCell ⟨w1.heap.size, 1, none⟩ (.slice A9 n9 c9)).heap[w.heap.size + 1 + 1]? = some (bxT none 0 0 none 0 0) := hset_neT (by omega) Z0
  have D5 := bset D w1.heap.size 1 (.slice A9 n9 c9) (by omega)
  have hl5 := Row.setT hl nsEn X0 1 (.slice A9 n9 c9)
  have hs5 := Row.setT hs nsSe X0 1 (.slice A9 n9 c9)
  have r5 := Row.setT r9 nsSe X0 1 (.slice A9 n9 c9)
  obtain ⟨⟨x50, x51⟩, ⟨xf50, xf51⟩, x5z⟩ := openT X5
  obtain ⟨⟨s50, s51⟩, ⟨sf50, sf51⟩, s5z⟩ := openT S5
  obtain ⟨⟨z50, z51⟩, ⟨zf50, zf51⟩, z5z⟩ := openT Z5
  have Z6 : ((w3.setCell ⟨w1.heap.size, 1, none⟩ (.slice A9 n9 c9)).setCell ⟨w.heap.size + 1 + 1, 0, none⟩ (.slice A n c)).heap[w.heap.size + 1 + 1]? = some (bxT A n c none 0 0) := hset0 Z5 A n c
  have Z7 : (((w3.setCell ⟨w1.heap.size, 1, none⟩ (.slice A9 n9 c9)).setCell ⟨w.heap.size + 1 + 1, 0, none⟩ (.slice A n c)).setCell ⟨w.heap.size + 1 + 1, 1, none⟩ (.slice B m d)).heap[w.heap.size + 1 + 1]? = some (bxT A n c B m d) := hset1 Z6 B m d
  have D7 := bset (bset D5 (w.heap.size + 1 + 1) 0 (.slice A n c) (by omega)) (w.heap.size + 1 + 1) 1 (.slice B m d) (by omega)
  have hl7 := Row.setT (Row.setT hl5 nsEn Z5 0 (.slice A n c)) nsEn Z6 1 (.slice B m d)
  have hs7 := Row.setT (Row.setT hs5 nsSe Z5 0 (.slice A n c)) nsSe Z6 1 (.slice B m d)
  obtain ⟨⟨y0, y1⟩, ⟨yf0, yf1⟩, yz⟩ := openT Z6
  go_wp2
  (try simp only [Exit.inBlock, Exit.then])
  (refine bodyPost_ct rfl (w.heap.size + 1 + 1) 25 #[.slice A n c, .slice B m d] (0, 0) _ rfl ?_ Tryz.underlying25 rfl info_st rfl ?_)
  · exact Z7
  · rw [h.out.1]
    exact ⟨A, n, c, B, m, d, rfl, hl7, hs7, D7, .self, .self⟩
set_option maxHeartbeats 16000000 in
set_option maxRecDepth 100000 in
theorem apply_drop_ok (k : Int) (u o : ByteArray) (i a p q : Int) (t : ByteArray) (r9l : List Se) (r : Sta) (HM : Hid (mayT (l, s) = true)) (HK : Hid (decide (1 ≤ k ∧ k ≤ 6) = false)) (H7 : Hid (decide (k = 7) = false)) (H8 : Hid (decide (k = 8) = true)) (HR : Hid (dropSe s (u, i) = (r9l, 0))) (h : Hid (r = (l, r9l) ∧ (0 : Int) = 0)) :
    Calls Tryz.prog 10 #[agT A n c B m d, .agg #[.int .i64 k, .string u, .string o, .int .i64 i, .int .i64 a, .int .i64 p, .int .i64 q, .string t]] w fun x w' => ∃ A' n' c' B' m' d', x = .returned (.tuple #[agT A' n' c' B' m' d', .int .i64 0]) ∧ Row enEn 7 w' (.slice A' n' c') r.1 ∧ Row enSe 6 w' (.slice B' m' d') r.2 ∧ Below w.heap.size w w' ∧ Fresh w (.slice A n c) (.slice A' n' c') ∧ Fresh w (.slice B m d) (.slice B' m' d') := by
  have D : Below w.heap.size w (((w.alloc (bxT A n c B m d)).alloc (bxEv k u o i a p q t)).alloc (bxT none 0 0 none 0 0)) := below_alloc0 (below_alloc0 (below_box _) _) _
  have S0 := halloc (halloc (heap_alloc_new w (bxT A n c B m d)) (bxEv k u o i a p q t)) (bxT none 0 0 none 0 0)
  have E0 := halloc (heap_alloc_new (w.alloc (bxT A n c B m d)) (bxEv k u o i a p q t)) (bxT none 0 0 none 0 0)
  have Z0 := heap_alloc_new ((w.alloc (bxT A n c B m d)).alloc (bxEv k u o i a p q t)) (bxT none 0 0 none 0 0)
  simp only [size_alloc] at E0 Z0
  replace hl := hl.below D
  replace hs := hs.below D
  obtain ⟨⟨s0, s1⟩, ⟨sf0, sf1⟩, sz⟩ := openT S0
  go_enter Tryz.func10, Tryz.ntmps10
  go_wp2_with fail
  with_reducible refine (MayT_is n c A l m d B s _ hl hs hz hy (by omega) true HM).mono ?_
  rintro e w1 ⟨rfl, b1⟩
  replace hl := hl.below b1
  replace hs := hs.below b1
  replace S0 := hcall S0 b1
  replace E0 := hcall E0 b1
  replace Z0 := hcall Z0 b1
  replace D := below_call D b1
  clear b1 s0 s1 sf0 sf1 sz
  have hz6 : w.heap.size + 1 + 1 < w1.heap.size := (Array.getElem?_eq_some_iff.1 Z0).1
  have X0 : (w1.alloc (bxT A n c B m d)).heap[w1.heap.size]? = some (bxT A n c B m d) := heap_alloc_new _ _
  obtain ⟨⟨s0, s1⟩, ⟨sf0, sf1⟩, sz⟩ := openT S0
  obtain ⟨e0, e1, e2, e3, e4, e5, e6, e7, ez⟩ := cellsEv k u o i a p q t E0
  replace hl := hl.below (below_box (bxT A n c B m d))
  replace hs := hs.below (below_box (bxT A n c B m d))
  replace S0 := halloc S0 (bxT A n c B m d)
  replace E0 := halloc E0 (bxT A n c B m d)
  replace Z0 := halloc Z0 (bxT A n c B m d)
  replace D := below_alloc0 D (bxT A n c B m d)
  obtain ⟨e0', e1', e2', e3', e4', e5', e6', e7', ez'⟩ := cellsEv k u o i a p q t E0
  go_wp2_with fail
  with_reducible refine (between_is k false _ HK).mono ?_
  rintro e w2 ⟨rfl, b2⟩
  replace hl := hl.below b2
  replace hs := hs.below b2
  replace S0 := hcall S0 b2
  replace E0 := hcall E0 b2
  replace Z0 := hcall Z0 b2
  replace X0 := hcall X0 b2
  replace D := below_call D b2
  clear b2 s0 s1 sf0 sf1 sz e0 e1 e2 e3 e4 e5 e6 e7 ez e0' e1' e2' e3' e4' e5' e6' e7' ez'
  obtain ⟨⟨s0, s1⟩, ⟨sf0, sf1⟩, sz⟩ := openT S0
  obtain ⟨e0, e1, e2, e3, e4, e5, e6, e7, ez⟩ := cellsEv k u o i a p q t E0
  have k7 : (k == 7) = false := by have := H7.out; simpa using this
  have k8 : (k == 8) = true := by have := H8.out; simpa using this
  have hfz := D.size
  go_wp2_with fail
  with_reducible refine (Drop9F_is m d B s _ hs u i r9l 0 hy HR).mono ?_
  rintro e w3 ⟨v9, rfl, r9, b3, hf9⟩
  replace hl := hl.below b3
  replace hs := hs.below b3
  replace S0 := hcall S0 b3
  replace E0 := hcall E0 b3
  replace Z0 := hcall Z0 b3
  replace X0 := hcall X0 b3
  replace D := below_call D b3
  clear b3 s0 s1 sf0 sf1 sz e0 e1 e2 e3 e4 e5 e6 e7 ez
  obtain ⟨n9, hn9⟩ : ∃ n9, r9l.length = n9 := ⟨_, rfl⟩
  obtain ⟨A9, c9, rfl⟩ := Row.form8 r9 n9 hn9
  clear hn9
  obtain ⟨⟨x0, x1⟩, ⟨xf0, xf1⟩, xz⟩ := openT X0
  have X5 : (w3.setCell ⟨w1.heap.size, 1, none⟩ (.slice A9 n9 c9)).heap[w1.heap.size]? = some (bxT A n c A9 n9 c9) := hset1 X0 A9 n9 c9
  have S5 : (w3.setCell ⟨w1.heap.size, 1, none⟩ (.slice A9 n9 c9)).heap[w.heap.size]? = some (bxT A n c B m d) := hset_neT (by omega) S0
  have Z5 : (w3.setCell ⟨w1.heap.size, 1, none⟩ (.slice A9 n9 c9)).heap[w.heap.size + 1 + 1]? = some (bxT none 0 0 none 0 0) := hset_neT (by omega) Z0
  have D5 := bset D w1.heap.size 1 (.slice A9 n9 c9) (by omega)
  have hl5 := Row.setT hl nsEn X0 1 (.slice A9 n9 c9)
  have hs5 := Row.setT hs nsSe X0 1 (.slice A9 n9 c9)
  have r5 := Row.setT r9 nsSe X0 1 (.slice A9 n9 c9)
  obtain ⟨⟨x50, x51⟩, ⟨xf50, xf51⟩, x5z⟩ := openT X5
  obtain ⟨⟨s50, s51⟩, ⟨sf50, sf51⟩, s5z⟩ := openT S5
  obtain ⟨⟨z50, z51⟩, ⟨zf50, zf51⟩, z5z⟩ := openT Z5
  have Z6 : ((w3.setCell ⟨w1.heap.size, 1, none⟩ (.slice A9 n9 c9)).setCell ⟨w.heap.size + 1 + 1, 0, none⟩ (.slice A n c)).heap[w.heap.size + 1 + 1]? = some (bxT A n c none 0 0) := hset0 Z5 A n c
  have Z7 : (((w3.setCell ⟨w1.heap.size, 1, none⟩ (.slice A9 n9 c9)).setCell ⟨w.heap.size + 1 + 1, 0, none⟩ (.slice A n c)).setCell ⟨w.heap.size + 1 + 1, 1, none⟩ (.slice A9 n9 c9)).heap[w.heap.size + 1 + 1]? = some (bxT A n c A9 n9 c9) := hset1 Z6 A9 n9 c9
  have D7 := bset (bset D5 (w.heap.size + 1 + 1) 0 (.slice A n c) (by omega)) (w.heap.size + 1 + 1) 1 (.slice A9 n9 c9) (by omega)
  have hl7 := Row.setT (Row.setT hl5 nsEn Z5 0 (.slice A n c)) nsEn Z6 1 (.slice A9 n9 c9)
  have hs7 := Row.setT (Row.setT r5 nsSe Z5 0 (.slice A n c)) nsSe Z6 1 (.slice A9 n9 c9)
  obtain ⟨⟨y0, y1⟩, ⟨yf0, yf1⟩, yz⟩ := openT Z6
  go_wp2
  (try simp only [Exit.inBlock, Exit.then])
  (refine bodyPost_ct rfl (w.heap.size + 1 + 1) 25 #[.slice A n c, .slice A9 n9 c9] (0, 0) _ rfl ?_ Tryz.underlying25 rfl info_st rfl ?_)
  · exact Z7
  · rw [h.out.1]
    exact ⟨A, n, c, A9, n9, c9, rfl, hl7, hs7, D7, .self, .up hf9 hfz⟩
set_option maxHeartbeats 16000000 in
set_option maxRecDepth 100000 in
theorem apply_none (k : Int) (u o : ByteArray) (i a p q : Int) (t : ByteArray) (er : Int) (r : Sta) (HM : Hid (mayT (l, s) = true)) (HK : Hid (decide (1 ≤ k ∧ k ≤ 6) = false)) (H7 : Hid (decide (k = 7) = false)) (H8 : Hid (decide (k = 8) = false)) (h : Hid (r = (l, s) ∧ er = 1)) :
    Calls Tryz.prog 10 #[agT A n c B m d, .agg #[.int .i64 k, .string u, .string o, .int .i64 i, .int .i64 a, .int .i64 p, .int .i64 q, .string t]] w fun x w' => ∃ A' n' c' B' m' d', x = .returned (.tuple #[agT A' n' c' B' m' d', .int .i64 er]) ∧ Row enEn 7 w' (.slice A' n' c') r.1 ∧ Row enSe 6 w' (.slice B' m' d') r.2 ∧ Below w.heap.size w w' ∧ Fresh w (.slice A n c) (.slice A' n' c') ∧ Fresh w (.slice B m d) (.slice B' m' d') := by
  have D : Below w.heap.size w (((w.alloc (bxT A n c B m d)).alloc (bxEv k u o i a p q t)).alloc (bxT none 0 0 none 0 0)) := below_alloc0 (below_alloc0 (below_box _) _) _
  have S0 := halloc (halloc (heap_alloc_new w (bxT A n c B m d)) (bxEv k u o i a p q t)) (bxT none 0 0 none 0 0)
  have E0 := halloc (heap_alloc_new (w.alloc (bxT A n c B m d)) (bxEv k u o i a p q t)) (bxT none 0 0 none 0 0)
  have Z0 := heap_alloc_new ((w.alloc (bxT A n c B m d)).alloc (bxEv k u o i a p q t)) (bxT none 0 0 none 0 0)
  simp only [size_alloc] at E0 Z0
  replace hl := hl.below D
  replace hs := hs.below D
  obtain ⟨⟨s0, s1⟩, ⟨sf0, sf1⟩, sz⟩ := openT S0
  go_enter Tryz.func10, Tryz.ntmps10
  go_wp2_with fail
  with_reducible refine (MayT_is n c A l m d B s _ hl hs hz hy (by omega) true HM).mono ?_
  rintro e w1 ⟨rfl, b1⟩
  replace hl := hl.below b1
  replace hs := hs.below b1
  replace S0 := hcall S0 b1
  replace E0 := hcall E0 b1
  replace Z0 := hcall Z0 b1
  replace D := below_call D b1
  clear b1 s0 s1 sf0 sf1 sz
  have hz6 : w.heap.size + 1 + 1 < w1.heap.size := (Array.getElem?_eq_some_iff.1 Z0).1
  have X0 : (w1.alloc (bxT A n c B m d)).heap[w1.heap.size]? = some (bxT A n c B m d) := heap_alloc_new _ _
  obtain ⟨⟨s0, s1⟩, ⟨sf0, sf1⟩, sz⟩ := openT S0
  obtain ⟨e0, e1, e2, e3, e4, e5, e6, e7, ez⟩ := cellsEv k u o i a p q t E0
  replace hl := hl.below (below_box (bxT A n c B m d))
  replace hs := hs.below (below_box (bxT A n c B m d))
  replace S0 := halloc S0 (bxT A n c B m d)
  replace E0 := halloc E0 (bxT A n c B m d)
  replace Z0 := halloc Z0 (bxT A n c B m d)
  replace D := below_alloc0 D (bxT A n c B m d)
  obtain ⟨e0', e1', e2', e3', e4', e5', e6', e7', ez'⟩ := cellsEv k u o i a p q t E0
  go_wp2_with fail
  with_reducible refine (between_is k false _ HK).mono ?_
  rintro e w2 ⟨rfl, b2⟩
  replace hl := hl.below b2
  replace hs := hs.below b2
  replace S0 := hcall S0 b2
  replace E0 := hcall E0 b2
  replace Z0 := hcall Z0 b2
  replace X0 := hcall X0 b2
  replace D := below_call D b2
  clear b2 s0 s1 sf0 sf1 sz e0 e1 e2 e3 e4 e5 e6 e7 ez e0' e1' e2' e3' e4' e5' e6' e7' ez'
  obtain ⟨⟨s0, s1⟩, ⟨sf0, sf1⟩, sz⟩ := openT S0
  obtain ⟨e0, e1, e2, e3, e4, e5, e6, e7, ez⟩ := cellsEv k u o i a p q t E0
  obtain ⟨⟨z0, z1⟩, ⟨zf0, zf1⟩, zz⟩ := openT Z0
  have k7 : (k == 7) = false := by have := H7.out; simpa using this
  have k8 : (k == 8) = false := by have := H8.out; simpa using this
  have Z6 : (w2.setCell ⟨w.heap.size + 1 + 1, 0, none⟩ (.slice A n c)).heap[w.heap.size + 1 + 1]? = some (bxT A n c none 0 0) := hset0 Z0 A n c
  have Z7 : ((w2.setCell ⟨w.heap.size + 1 + 1, 0, none⟩ (.slice A n c)).setCell ⟨w.heap.size + 1 + 1, 1, none⟩ (.slice B m d)).heap[w.heap.size + 1 + 1]? = some (bxT A n c B m d) := hset1 Z6 B m d
  have D7 := bset (bset D (w.heap.size + 1 + 1) 0 (.slice A n c) (by omega)) (w.heap.size + 1 + 1) 1 (.slice B m d) (by omega)
  have hl7 := Row.setT (Row.setT hl nsEn Z0 0 (.slice A n c)) nsEn Z6 1 (.slice B m d)
  have hs7 := Row.setT (Row.setT hs nsSe Z0 0 (.slice A n c)) nsSe Z6 1 (.slice B m d)
  obtain ⟨⟨y0, y1⟩, ⟨yf0, yf1⟩, yz⟩ := openT Z6
  go_wp2
  (try simp only [Exit.inBlock, Exit.then])
  (refine bodyPost_ct rfl (w.heap.size + 1 + 1) 25 #[.slice A n c, .slice B m d] (0, 0) _ rfl ?_ Tryz.underlying25 rfl info_st rfl ?_)
  · exact Z7
  · rw [h.out.1, h.out.2]
    exact ⟨A, n, c, B, m, d, rfl, hl7, hs7, D7, .self, .self⟩
theorem ApplyT_is (k : Int) (u o : ByteArray) (i a p q : Int) (t : ByteArray) (hu : u.size ≤ 140737488351232) (ho : o.size ≤ 140737488351232) (ht : t.size ≤ 140737488351232) (er : Int) (r : Sta) (h : Hid (applyT (l, s) ⟨k, u, o, i, (a, p, q, t)⟩ = (r, er))) :
    Calls Tryz.prog 10 #[agT A n c B m d, .agg #[.int .i64 k, .string u, .string o, .int .i64 i, .int .i64 a, .int .i64 p, .int .i64 q, .string t]] w fun x w' => ∃ A' n' c' B' m' d', x = .returned (.tuple #[agT A' n' c' B' m' d', .int .i64 er]) ∧ Row enEn 7 w' (.slice A' n' c') r.1 ∧ Row enSe 6 w' (.slice B' m' d') r.2 ∧ Below w.heap.size w w' ∧ Fresh w (.slice A n c) (.slice A' n' c') ∧ Fresh w (.slice B m d) (.slice B' m' d') := by
  have h0 := h.out
  unfold applyT at h0
  simp only at h0
  cases hb : mayT (l, s) with
  | false =>
    rw [if_pos hb] at h0
    injection h0 with h1 h2
    exact apply_no n c A l m d B s w hl hs hz hy hn k u o i a p q t er r hb ⟨h1.symm, h2.symm⟩
  | true =>
    rw [if_neg (by rw [hb]; decide)] at h0
    by_cases h16 : 1 ≤ k ∧ k ≤ 6
    · rw [if_pos h16] at h0
      obtain ⟨r9, e9, h9⟩ : ∃ r e, doRo l k u o = (r, e) := ⟨_, _, rfl⟩
      rw [h9] at h0
      simp only at h0
      injection h0 with h1 h2
      by_cases he : e9 = 0
      · subst he
        subst h2
        exact apply_ros_ok n c A l m d B s w hl hs hz hy hn k u o i a p q t r9 r hb (decide_eq_true h16) hu ho h9 ⟨h1.symm, rfl⟩
      · have h3 := doRo_err h9 he
        subst h3
        subst h2
        exact apply_ros_er n c A r9 m d B s w hl hs hz hy hn k u o i a p q t e9 r9 r hb (decide_eq_true h16) hu ho h9 (by show _ = _; simpa using he) ⟨h1.symm, rfl⟩
    · rw [if_neg h16] at h0
      by_cases h7 : k = 7
      · rw [if_pos h7] at h0
        obtain ⟨r9, e9, h9⟩ : ∃ r e, putSe s ⟨u, i, (a, p, q, t)⟩ = (r, e) := ⟨_, _, rfl⟩
        rw [h9] at h0
        simp only at h0
        injection h0 with h1 h2
        by_cases he : e9 = 0
        · subst he
          subst h2
          exact apply_put_ok n c A l m d B s w hl hs hz hy hn k u o i a p q t r9 r hb (decide_eq_false h16) (decide_eq_true h7) hu ht h9 ⟨h1.symm, rfl⟩
        · have h3 := putSe_err h9 he
          subst h3
          subst h2
          exact apply_put_er n c A l m d B r9 w hl hs hz hy hn k u o i a p q t e9 r9 r hb (decide_eq_false h16) (decide_eq_true h7) hu ht h9 (by show _ = _; simpa using he) ⟨h1.symm, rfl⟩
      · rw [if_neg h7] at h0
        by_cases h8 : k = 8
        · rw [if_pos h8] at h0
          obtain ⟨r9, e9, h9⟩ : ∃ r e, dropSe s (u, i) = (r, e) := ⟨_, _, rfl⟩
          rw [h9] at h0
          simp only at h0
          injection h0 with h1 h2
          by_cases he : e9 = 0
          · subst he
            subst h2
            exact apply_drop_ok n c A l m d B s w hl hs hz hy hn k u o i a p q t r9 r hb (decide_eq_false h16) (decide_eq_false h7) (decide_eq_true h8) h9 ⟨h1.symm, rfl⟩
          · have h3 := dropSe_err h9 he
            subst h3
            subst h2
            exact apply_drop_er n c A l m d B r9 w hl hs hz hy hn k u o i a p q t e9 r9 r hb (decide_eq_false h16) (decide_eq_false h7) (decide_eq_true h8) h9 (by show _ = _; simpa using he) ⟨h1.symm, rfl⟩
        · rw [if_neg h8] at h0
          injection h0 with h1 h2
          exact apply_none n c A l m d B s w hl hs hz hy hn k u o i a p q t er r hb (decide_eq_false h16) (decide_eq_false h7) (decide_eq_false h8) ⟨h1.symm, h2.symm⟩
end
end Go.Proofs.YtpmafghknafhaaaGreat
