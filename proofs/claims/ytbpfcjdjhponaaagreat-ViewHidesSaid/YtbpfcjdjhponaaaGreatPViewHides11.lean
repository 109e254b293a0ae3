import Derived.Deep.QuietTactic
import Derived.BigQuiet
import Derived.Test.YtbpfcjdjhponaaaGreatProg
import Derived.Test.YtbpfcjdjhponaaaGreatPViewHides10
set_option linter.unusedVariables false
set_option linter.unusedSimpArgs false
set_option linter.unusedSectionVars false
namespace Go.Proofs.YtbpfcjdjhponaaaGreat
open Go.RowKit
open Sp
theorem bodyPost_ct {P : Program} {fn : Func} {R : Ending → World → Prop} {a : Act} {w : World} {p u : Tmp} {ty : TypeId} (h : fn.results = #[.cell p ty, .tmp u]) (g : Nat) (t : TypeId) (cs : Array Value) (fr : Nat × Nat) (d : TypeDesc)
    (hp : a.tmps.getD p undef = .pointer (some ⟨g, 0, none⟩)) (hg : w.heap[g]? = some (.cells cs t fr))
    (hu : P.underlying ty = some d) (hd : (match d with | .struct _ | .array _ _ => true | _ => false) = true) (hi : (P.info? ty).map (·.size) = some cs.size)
    (hde : a.defers = []) (hR : R (.returned (.tuple #[.agg cs, a.tmps.getD u undef])) w) : bodyPost P fn R .ret a w := by
  refine bodyPost_ret ?_ hde hR
  have hp' : a.tmps[p]?.getD undef = .pointer (some ⟨g, 0, none⟩) := by simpa using hp
  simp [results, h, hp', asAddr, run_loadVar_row w g t ty cs fr d hg hu hd hi]
theorem info_st : (Tryz.prog.info? 25).map (·.size) = some 2 := by kernel_rfl
theorem openT {W : World} {g : Nat} {A : Option Addr} {n c : Nat} {B : Option Addr} {m d : Nat} (h : W.heap[g]? = some (bxT A n c B m d)) : (W.cell? ⟨g, 0, none⟩ = some (.slice A n c) ∧ W.cell? ⟨g, 1, none⟩ = some (.slice B m d)) ∧ (W.frozen? ⟨g, 0, none⟩ = false ∧ W.frozen? ⟨g, 1, none⟩ = false) ∧ g < W.heap.size :=
  ⟨⟨by simp [World.cell?, h], by simp [World.cell?, h]⟩, ⟨by simp [World.frozen?, h], by simp [World.frozen?, h]⟩, (Array.getElem?_eq_some_iff.1 h).1⟩
theorem hset_neT {w : World} {g k i : Nat} {v : Value} {o : Option Obj} (hk : k ≠ g) (h : w.heap[k]? = o) : (w.setCell ⟨g, i, none⟩ v).heap[k]? = o := by
  simp [World.setCell, Array.getElem?_modify, Ne.symm hk, h]
theorem hset0 {w : World} {g : Nat} {A : Option Addr} {n c : Nat} {B : Option Addr} {m d : Nat} (h : w.heap[g]? = some (bxT A n c B m d)) (A' : Option Addr) (n' c' : Nat) : (w.setCell ⟨g, 0, none⟩ (.slice A' n' c')).heap[g]? = some (bxT A' n' c' B m d) := by
  simp [World.setCell, Array.getElem?_modify, h]
theorem hset1 {w : World} {g : Nat} {A : Option Addr} {n c : Nat} {B : Option Addr} {m d : Nat} (h : w.heap[g]? = some (bxT A n c B m d)) (A' : Option Addr) (n' c' : Nat) : (w.setCell ⟨g, 1, none⟩ (.slice A' n' c')).heap[g]? = some (bxT A n c A' n' c') := by
  simp [World.setCell, Array.getElem?_modify, h]
theorem Row.setT {α : Type} {enc : α → List Value} {k : Nat} {w : World} {v : Value} {xs : List α} {g : Nat} {A : Option Addr} {n c : Nat} {B : Option Addr} {m d : Nat} (h : Row enc k w v xs) (hns : ∀ y u, u ∈ enc y → ∀ A n c, u ≠ .slice A n c) (hg : w.heap[g]? = some (bxT A n c B m d)) (i : Nat) (x : Value) : Row enc k (w.setCell ⟨g, i, none⟩ x) v xs := by
  obtain ⟨A', c', rfl, h1, h2, h3, h4⟩ := h
  refine ⟨A', c', rfl, h1, h2, h3, fun hp => ?_⟩
  obtain ⟨ad, e, hc⟩ := h4 hp
  refine ⟨ad, e, fun j u hu => ?_⟩
  have h5 := hc j u hu
  have hm : u ∈ xs.flatMap enc := List.mem_of_getElem? hu
  obtain ⟨y, _, hy⟩ := List.mem_flatMap.1 hm
  have hb : g ≠ (ad.add j).block := by
    intro e
    unfold World.cell? at h5
    rw [← e, hg] at h5
    simp only at h5
    split at h5
    · cases h5
    · rcases Array.getElem?_eq_some_iff.1 h5 with ⟨ho, h6⟩
      have : (ad.add j).off = 0 ∨ (ad.add j).off = 1 := by simp at ho; omega
      rcases this with h7 | h7
      · simp only [h7] at h6; exact hns y u hy _ _ _ h6.symm
      · simp only [h7] at h6; exact hns y u hy _ _ _ h6.symm
  rw [World.cell?_setCell_far _ _ _ _ hb]
  exact h5
def Fresh (w : World) (v v' : Value) : Prop := v' = v ∨ ∀ g, v'.ownBlock = some g → w.heap.size ≤ g
theorem Fresh.self {w : World} {v : Value} : Fresh w v v := .inl rfl
theorem Fresh.up {w w1 : World} {v v' : Value} (h : v' = v ∨ ∀ g, v'.ownBlock = some g → w1.heap.size ≤ g) (hs : w.heap.size ≤ w1.heap.size) : Fresh w v v' := h.imp id fun h g hg => Nat.le_trans hs (h g hg)
theorem nsEn : ∀ (y : En) (u : Value), u ∈ enEn y → ∀ A n c, u ≠ .slice A n c := by
  intro y u hu A n c e
  subst e
  simp [enEn] at hu
theorem nsSe : ∀ (y : Se) (u : Value), u ∈ enSe y → ∀ A n c, u ≠ .slice A n c := by
  intro y u hu A n c e
  subst e
  simp [enSe] at hu
section
variable (n c : Nat) (A : Option Addr) (l : List En) (m d : Nat) (B : Option Addr) (s : List Se) (w : World) (hl : Row enEn 7 w (.slice A n c) l) (hs : Row enSe 6 w (.slice B m d) s) (hz : SzRo l) (hy : SzSe s) (hn : n ≤ 900)
include hl hs hz hy hn
set_option maxHeartbeats 16000000 in
set_option maxRecDepth 100000 in
theorem apply_no (k : Int) (u o : ByteArray) (i a p q : Int) (t : ByteArray) (er : Int) (r : Sta) (HM : Hid (mayT (l, s) = false)) (h : Hid (r = (l, s) ∧ er = 1)) :
    Calls Tryz.prog 16 #[agT A n c B m d, .agg #[.int .i64 k, .string u, .string o, .int .i64 i, .int .i64 a, .int .i64 p, .int .i64 q, .string t]] w fun x w' => ∃ A' n' c' B' m' d', x = .returned (.tuple #[agT A' n' c' B' m' d', .int .i64 er]) ∧ Row enEn 7 w' (.slice A' n' c') r.1 ∧ Row enSe 6 w' (.slice B' m' d') r.2 ∧ Below w.heap.size w w' ∧ Fresh w (.slice A n c) (.slice A' n' c') ∧ Fresh w (.slice B m d) (.slice B' m' d') := by
  have D : Below w.heap.size w (((w.alloc (bxT A n c B m d)).alloc (bxEv k u o i a p q t)).alloc (bxT none 0 0 none 0 0)) := below_alloc0 (below_alloc0 (below_box _) _) _
  have S0 := halloc (halloc (heap_alloc_new w (bxT A n c B m d)) (bxEv k u o i a p q t)) (bxT none 0 0 none 0 0)
  have E0 := halloc (heap_alloc_new (w.alloc (bxT A n c B m d)) (bxEv k u o i a p q t)) (bxT none 0 0 none 0 0)
  have Z0 := heap_alloc_new ((w.alloc (bxT A n c B m d)).alloc (bxEv k u o i a p q t)) (bxT none 0 0 none 0 0)
  simp only [size_alloc] at E0 Z0
  replace hl := hl.below D
  replace hs := hs.below D
  obtain ⟨⟨s0, s1⟩, ⟨sf0, sf1⟩, sz⟩ := openT S0
  go_enter Tryz.func16, Tryz.ntmps16
  go_wp2_with fail
  with_reducible refine (MayT_is n c A l m d B s _ hl hs hz hy (by omega) false HM).mono ?_
  rintro e w1 ⟨rfl, b1⟩
  replace hl := hl.below b1
  replace hs := hs.below b1
  replace S0 := hcall S0 b1
  replace E0 := hcall E0 b1
  replace Z0 := hcall Z0 b1
  replace D := below_call D b1
  clear b1 s0 s1 sf0 sf1 sz
  have hz6 : w.heap.size + 1 + 1 < w1.heap.size := (Array.getElem?_eq_some_iff.1 Z0).1
  obtain ⟨⟨s0, s1⟩, ⟨sf0, sf1⟩, sz⟩ := openT S0
  obtain ⟨⟨z0, z1⟩, ⟨zf0, zf1⟩, zz⟩ := openT Z0
  have Z6 : (w1.setCell ⟨w.heap.size + 1 + 1, 0, none⟩ (.slice A n c)).heap[w.heap.size + 1 + 1]? = some (bxT A n c none 0 0) := hset0 Z0 A n c
  have Z7 : ((w1.setCell ⟨w.heap.size + 1 + 1, 0, none⟩ (.slice A n c)).setCell ⟨w.heap.size + 1 + 1, 1, none⟩ (.slice B m d)).heap[w.heap.size + 1 + 1]? = some (bxT A n c B m d) := hset1 Z6 B m d
  have D7 := bset (bset D (w.heap.size + 1 + 1) 0 (.slice A n c) (by omega)) (w.heap.size + 1 + 1) 1 (.slice B m d) (by omega)
  have hl7 := Row.setT (Row.setT hl nsEn Z0 0 (.slice A n c)) nsEn Z6 1 (.slice B m d)
  have hs7 := Row.setT (Row.setT hs nsSe Z0 0 (.slice A n c)) nsSe Z6 1 (.slice B m d)
  obtain ⟨⟨y0, y1⟩, ⟨yf0, yf1⟩, yz⟩ := openT Z6
  go_wp2
  (try simp only [Exit.inBlock, Exit.then])
  (refine bodyPost_ct rfl (w.heap.size + 1 + 1) 25 #[.slice A n c, .slice B m d] (0, 0) _ rfl ?_ Tryz.underlying25 rfl info_st rfl ?_)
  · exact Z7
  · rw [h.out.1, h.out.2]
    exact ⟨A, n, c, B, m, d, rfl, hl7, hs7, D7, .self, .self⟩
set_option maxHeartbeats 16000000 in
set_option maxRecDepth 100000 in
theorem apply_ros_er (k : Int) (u o : ByteArray) (i a p q : Int) (t : ByteArray) (er : Int) (r9l : List En) (r : Sta) (HM : Hid (mayT (l, s) = true)) (HK : Hid (decide (1 ≤ k ∧ k ≤ 6) = true)) (hu : u.size ≤ 140737488351232) (ho : o.size ≤ 140737488351232) (HR : Hid (doRo l k u o = (r9l, er))) (hne : Hid ((er == 0) = false)) (h : Hid (r = (l, s) ∧ er = er)) :
    Calls Tryz.prog 16 #[agT A n c B m d, .agg #[.int .i64 k, .string u, .string o, .int .i64 i, .int .i64 a, .int .i64 p, .int .i64 q, .string t]] w fun x w' => ∃ A' n' c' B' m' d', x = .returned (.tuple #[agT A' n' c' B' m' d', .int .i64 er]) ∧ Row enEn 7 w' (.slice A' n' c') r.1 ∧ Row enSe 6 w' (.slice B' m' d') r.2 ∧ Below w.heap.size w w' ∧ Fresh w (.slice A n c) (.slice A' n' c') ∧ Fresh w (.slice B m d) (.slice B' m' d') := by
  have D : Below w.heap.size w (((w.alloc (bxT A n c B m d)).alloc (bxEv k u o i a p q t)).alloc (bxT none 0 0 none 0 0)) := below_alloc0 (below_alloc0 (below_box _) _) _
  have S0 := halloc (halloc (heap_alloc_new w (bxT A n c B m d)) (bxEv k u o i a p q t)) (bxT none 0 0 none 0 0)
  have E0 := halloc (heap_alloc_new (w.alloc (bxT A n c B m d)) (bxEv k u o i a p q t)) (bxT none 0 0 none 0 0)
  have Z0 := heap_alloc_new ((w.alloc (bxT A n c B m d)).alloc (bxEv k u o i a p q t)) (bxT none 0 0 none 0 0)
  simp only [size_alloc] at E0 Z0
  replace hl := hl.below D
  replace hs := hs.below D
  obtain ⟨⟨s0, s1⟩, ⟨sf0, sf1⟩, sz⟩ := openT S0
  go_enter Tryz.func16, Tryz.ntmps16
  go_wp2_with fail
  with_reducible refine (MayT_is n c A l m d B s _ hl hs hz hy (by omega) true HM).mono ?_
  rintro e w1 ⟨rfl, b1⟩
  replace hl := hl.below b1
  replace hs := hs.below b1
  replace S0 := hcall S0 b1
  replace E0 := hcall E0 b1
  replace Z0 := hcall Z0 b1
  replace D := below_call D b1
  clear b1 s0 s1 sf0 sf1 sz
  have hz6 : w.heap.size + 1 + 1 < w1.heap.size := (Array.getElem?_eq_some_iff.1 Z0).1
  have X0 : (w1.alloc (bxT A n c B m d)).heap[w1.heap.size]? = some (bxT A n c B m d) := heap_alloc_new _ _
  obtain ⟨⟨s0, s1⟩, ⟨sf0, sf1⟩, sz⟩ := openT S0
  obtain ⟨e0, e1, e2, e3, e4, e5, e6, e7, ez⟩ := cellsEv k u o i a p q t E0
  replace hl := hl.below (below_box (bxT A n c B m d))
  replace hs := hs.below (below_box (bxT A n c B m d))
  replace S0 := halloc S0 (bxT A n c B m d)
  replace E0 := halloc E0 (bxT A n c B m d)
  replace Z0 := halloc Z0 (bxT A n c B m d)
  replace D := below_alloc0 D (bxT A n c B m d)
  obtain ⟨e0', e1', e2', e3', e4', e5', e6', e7', ez'⟩ := cellsEv k u o i a p q t E0
  go_wp2_with fail
  with_reducible refine (between_is k true _ HK).mono ?_
  rintro e w2 ⟨rfl, b2⟩
  replace hl := hl.below b2
  replace hs := hs.below b2
  replace S0 := hcall S0 b2
  replace E0 := hcall E0 b2
  replace Z0 := hcall Z0 b2
  replace X0 := hcall X0 b2
  replace D := below_call D b2
  clear b2 s0 s1 sf0 sf1 sz e0 e1 e2 e3 e4 e5 e6 e7 ez e0' e1' e2' e3' e4' e5' e6' e7' ez'
  obtain ⟨⟨s0, s1⟩, ⟨sf0, sf1⟩, sz⟩ := openT S0
  obtain ⟨e0, e1, e2, e3, e4, e5, e6, e7, ez⟩ := cellsEv k u o i a p q t E0
  have hfz := D.size
  go_wp2_with fail
  with_reducible refine (Do8F_is n c A l _ hl k u o r9l er hz hn hu ho HR).mono ?_
  rintro e w3 ⟨v9, rfl, r9, b3, hf9⟩
  replace hl := hl.below b3
  replace hs := hs.below b3
  replace S0 := hcall S0 b3
  replace E0 := hcall E0 b3
  replace Z0 := hcall Z0 b3
  replace X0 := hcall X0 b3
  replace D := below_call D b3
  clear b3 s0 s1 sf0 sf1 sz e0 e1 e2 e3 e4 e5 e6 e7 ez
  obtain ⟨n9, hn9⟩ : ∃ n9, r9l.length = n9 := ⟨_, rfl⟩
  obtain ⟨A9, c9, rfl⟩ := Row.form8 r9 n9 hn9
  clear hn9
  have he2 := hne.out
  obtain ⟨⟨x0, x1⟩, ⟨xf0, xf1⟩, xz⟩ := openT X0
  have X5 : (w3.setCell ⟨w1.heap.size, 0, none⟩ (.slice A9 n9 c9)).heap[w1.heap.size]? = some (bxT A9 n9 c9 B m d) := hset0 X0 A9 n9 c9
  have S5 : (w3.setCell ⟨w1.heap.size, 0, none⟩ (.slice A9 n9 c9)).heap[w.heap.size]? = some (bxT A n c B m d) := hset_neT (by omega) S0
  have Z5 : (w3.setCell ⟨w1.heap.size, 0, none⟩ (.slice A9 n9 c9)).heap[w.heap.size + 1 + 1]? = some (bxT none 0 0 none 0 0) := hset_neT (by omega) Z0
  have D5 := bset D w1.heap.size 0 (.slice A9 n9 c9) (by omega)
  have hl5 := Row.setT hl nsEn X0 0 (.slice A9 n9 c9)
  have hs5 := Row.setT hs nsSe X0 0 (.slice A9 n9 c9)
  have r5 := Row.setT r9 nsEn X0 0 (.slice A9 n9 c9)
  obtain ⟨⟨x50, x51⟩, ⟨xf50, xf51⟩, x5z⟩ := openT X5
  obtain ⟨⟨s50, s51⟩, ⟨sf50, sf51⟩, s5z⟩ := openT S5
  obtain ⟨⟨z50, z51⟩, ⟨zf50, zf51⟩, z5z⟩ := openT Z5
  have Z6 : ((w3.setCell ⟨w1.heap.size, 0, none⟩ (.slice A9 n9 c9)).setCell ⟨w.heap.size + 1 + 1, 0, none⟩ (.slice A n c)).heap[w.heap.size + 1 + 1]? = some (bxT A n c none 0 0) := hset0 Z5 A n c
  have Z7 : (((w3.setCell ⟨w1.heap.size, 0, none⟩ (.slice A9 n9 c9)).setCell ⟨w.heap.size + 1 + 1, 0, none⟩ (.slice A n c)).setCell ⟨w.heap.size + 1 + 1, 1, none⟩ (.slice B m d)).heap[w.heap.size + 1 + 1]? = some (bxT A n c B m d) := hset1 Z6 B m d
  have D7 := bset (bset D5 (w.heap.size + 1 + 1) 0 (.slice A n c) (by omega)) (w.heap.size + 1 + 1) 1 (.slice B m d) (by omega)
  have hl7 := Row.setT (Row.setT hl5 nsEn Z5 0 (.slice A n c)) nsEn Z6 1 (.slice B m d)
  have hs7 := Row.setT (Row.setT hs5 nsSe Z5 0 (.slice A n c)) nsSe Z6 1 (.slice B m d)
  obtain ⟨⟨y0, y1⟩, ⟨yf0, yf1⟩, yz⟩ := openT Z6
  go_wp2
  (try simp only [Exit.inBlock, Exit.then])
  (refine bodyPost_ct rfl (w.heap.size + 1 + 1) 25 #[.slice A n c, .slice B m d] (0, 0) _ rfl ?_ Tryz.underlying25 rfl info_st rfl ?_)
  · exact Z7
  · rw [h.out.1]
    exact ⟨A, n, c, B, m, d, rfl, hl7, hs7, D7, .self, .self⟩
set_option maxHeartbeats 16000000 in
set_option maxRecDepth 100000 in
theorem apply_ros_ok (k : Int) (u o : ByteArray) (i a p q : Int) (t : ByteArray) (r9l : List En) (r : Sta) (HM : Hid (mayT (l, s) = true)) (HK : Hid (decide (1 ≤ k ∧ k ≤ 6) = true)) (hu : u.size ≤ 140737488351232) (ho : o.size ≤ 140737488351232) (HR : Hid (doRo l k u o = (r9l, 0))) (h : Hid (r = (r9l, s) ∧ (0 : Int) = 0)) :
    Calls Tryz.prog 16 #[agT A n c B m d, .agg #[.int .i64 k, .string u, .string o, .int .i64 i, .int .i64 a, .int .i64 p, .int .i64 q, .string t]] w fun x w' => ∃ A' n' c' B' m' d', x = .returned (.tuple #[agT A' n' c' B' m' d', .int .i64 0]) ∧ Row enEn 7 w' (.slice A' n' c') r.1 ∧ Row enSe 6 w' (.slice B' m' d') r.2 ∧ Below w.heap.size w w' ∧ Fresh w (.slice A n c) (.slice A' n' c') ∧ Fresh w (.slice B m d) (.slice B' m' d') := by
  have D : Below w.heap.size w (((w.alloc (bxT A n c B m d)).alloc (bxEv k u o i a p q t)).alloc (bxT none 0 0 none 0 0)) := below_alloc0 (below_alloc0 (below_box _) _) _
  have S0 := halloc (halloc (heap_alloc_new w (bxT A n c B m d)) (bxEv k u o i a p q t)) (bxT none 0 0 none 0 0)
  have E0 := halloc (heap_alloc_new (w.alloc (bxT A n c B m d)) (bxEv k u o i a p q t)) (bxT none 0 0 none 0 0)
  have Z0 := heap_alloc_new ((w.alloc (bxT A n c B m d)).alloc (bxEv k u o i a p q t)) (bxT none 0 0 none 0 0)
  simp only [size_alloc] at E0 Z0
  replace hl := hl.below D
  replace hs := hs.below D
  obtain ⟨⟨s0, s1⟩, ⟨sf0, sf1⟩, sz⟩ := openT S0
  go_enter Tryz.func16, Tryz.ntmps16
  go_wp2_with fail
  with_reducible refine (MayT_is n c A l m d B s _ hl hs hz hy (by omega) true HM).mono ?_
  rintro e w1 ⟨rfl, b1⟩
  replace hl := hl.below b1
  replace hs := hs.below b1
  replace S0 := hcall S0 b1
  replace E0 := hcall E0 b1
  replace Z0 := hcall Z0 b1
  replace D := below_call D b1
  clear b1 s0 s1 sf0 sf1 sz
  have hz6 : w.heap.size + 1 + 1 < w1.heap.size := (Array.getElem?_eq_some_iff.1 Z0).1
  have X0 : (w1.alloc (bxT A n c B m d)).heap[w1.heap.size]? = some (bxT A n c B m d) := heap_alloc_new _ _
  obtain ⟨⟨s0, s1⟩, ⟨sf0, sf1⟩, sz⟩ := openT S0
  obtain ⟨e0, e1, e2, e3, e4, e5, e6, e7, ez⟩ := cellsEv k u o i a p q t E0
  replace hl := hl.below (below_box (bxT A n c B m d))
  replace hs := hs.below (below_box (bxT A n c B m d))
  replace S0 := halloc S0 (bxT A n c B m d)
  replace E0 := halloc E0 (bxT A n c B m d)
  replace Z0 := halloc Z0 (bxT A n c B m d)
  replace D := below_alloc0 D (bxT A n c B m d)
  obtain ⟨e0', e1', e2', e3', e4', e5', e6', e7', ez'⟩ := cellsEv k u o i a p q t E0
  go_wp2_with fail
  with_reducible refine (between_is k true _ HK).mono ?_
  rintro e w2 ⟨rfl, b2⟩
  replace hl := hl.below b2
  replace hs := hs.below b2
  replace S0 := hcall S0 b2
  replace E0 := hcall E0 b2
  replace Z0 := hcall Z0 b2
  replace X0 := hcall X0 b2
  replace D := below_call D b2
  clear b2 s0 s1 sf0 sf1 sz e0 e1 e2 e3 e4 e5 e6 e7 ez e0' e1' e2' e3' e4' e5' e6' e7' ez'
  obtain ⟨⟨s0, s1⟩, ⟨sf0, sf1⟩, sz⟩ := openT S0
  obtain ⟨e0, e1, e2, e3, e4, e5, e6, e7, ez⟩ := cellsEv k u o i a p q t E0
  have hfz := D.size
  go_wp2_with fail
  with_reducible refine (Do8F_is n c A l _ hl k u o r9l 0 hz hn hu ho HR).mono ?_
  rintro e w3 ⟨v9, rfl, r9, b3, hf9⟩
  replace hl := hl.below b3
  replace hs := hs.below b3
  replace S0 := hcall S0 b3
  replace E0 := hcall E0 b3
  replace Z0 := hcall Z0 b3
  replace X0 := hcall X0 b3
  replace D := below_call D b3
  clear b3 s0 s1 sf0 sf1 sz e0 e1 e2 e3 e4 e5 e6 e7 ez
  obtain ⟨n9, hn9⟩ : ∃ n9, r9l.length = n9 := ⟨_, rfl⟩
  obtain ⟨A9, c9, rfl⟩ := Row.form8 r9 n9 hn9
  clear hn9
  obtain ⟨⟨x0, x1⟩, ⟨xf0, xf1⟩, xz⟩ := openT X0
  have X5 : (w3.setCell ⟨w1.heap.size, 0, none⟩ (.slice A9 n9 c9)).heap[w1.heap.size]? = some (bxT A9 n9 c9 B m d) := hset0 X0 A9 n9 c9
  have S5 : (w3.setCell ⟨w1.heap.size, 0, none⟩ (.slice A9 n9 c9)).heap[w.heap.size]? = some (bxT A n c B m d) := hset_neT (by omega) S0
  have Z5 : (w3.setCell ⟨w1.heap.size, 0, none⟩ (.slice A9 n9 c9)).heap[w.heap.size + 1 + 1]? = some (bxT none 0 0 none 0 0) := hset_neT (by omega) Z0
  have D5 := bset D w1.heap.size 0 (.slice A9 n9 c9) (by omega)
  have hl5 := Row.setT hl nsEn X0 0 (.slice A9 n9 c9)
  have hs5 := Row.setT hs nsSe X0 0 (.slice A9 n9 c9)
  have r5 := Row.setT r9 nsEn X0 0 (.slice A9 n9 c9)
  obtain ⟨⟨x50, x51⟩, ⟨xf50, xf51⟩, x5z⟩ := openT X5
  obtain ⟨⟨s50, s51⟩, ⟨sf50, sf51⟩, s5z⟩ := openT S5
  obtain ⟨⟨z50, z51⟩, ⟨zf50, zf51⟩, z5z⟩ := openT Z5
  have Z6 : ((w3.setCell ⟨w1.heap.size, 0, none⟩ (.slice A9 n9 c9)).setCell ⟨w.heap.size + 1 + 1, 0, none⟩ (.slice A9 n9 c9)).heap[w.heap.size + 1 + 1]? = some (bxT A9 n9 c9 none 0 0) := hset0 Z5 A9 n9 c9
  have Z7 : (((w3.setCell ⟨w1.heap.size, 0, none⟩ (.slice A9 n9 c9)).setCell ⟨w.heap.size + 1 + 1, 0, none⟩ (.slice A9 n9 c9)).setCell ⟨w.heap.size + 1 + 1, 1, none⟩ (.slice B m d)).heap[w.heap.size + 1 + 1]? = some (bxT A9 n9 c9 B m d) := hset1 Z6 B m d
  have D7 := bset (bset D5 (w.heap.size + 1 + 1) 0 (.slice A9 n9 c9) (by omega)) (w.heap.size + 1 + 1) 1 (.slice B m d) (by omega)
  have hl7 := Row.setT (Row.setT r5 nsEn Z5 0 (.slice A9 n9 c9)) nsEn Z6 1 (.slice B m d)
  have hs7 := Row.setT (Row.setT hs5 nsSe Z5 0 (.slice A9 n9 c9)) nsSe Z6 1 (.slice B m d)
  obtain ⟨⟨y0, y1⟩, ⟨yf0, yf1⟩, yz⟩ := openT Z6
  go_wp2
  (try simp only [Exit.inBlock, Exit.then])
  (refine bodyPost_ct rfl (w.heap.size + 1 + 1) 25 #[.slice A9 n9 c9, .slice B m d] (0, 0) _ rfl ?_ Tryz.underlying25 rfl info_st rfl ?_)
  · exact Z7
  · rw [h.out.1]
    exact ⟨A9, n9, c9, B, m, d, rfl, hl7, hs7, D7, .up hf9 hfz, .self⟩
set_option maxHeartbeats 16000000 in
set_option maxRecDepth 100000 in
theorem apply_put_er (k : Int) (u o : ByteArray) (i a p q : Int) (t : ByteArray) (er : Int) (r9l : List Se) (r : Sta) (HM : Hid (mayT (l, s) = true)) (HK : Hid (decide (1 ≤ k ∧ k ≤ 6) = false)) (H7 : Hid (decide (k = 7) = true)) (hu : u.size ≤ 140737488351232) (ht : t.size ≤ 140737488351232) (HR : Hid (putSe s ⟨u, i, a, p, q, t⟩ = (r9l, er))) (hne : Hid ((er == 0) = false)) (h : Hid (r = (l, s) ∧ er = er)) :
    Calls Tryz.prog 16 #[agT A n c B m d, .agg #[.int .i64 k, .string u, .string o, .int .i64 i, .int .i64 a, .int .i64 p, .int .i64 q, .string t]] w fun x w' => ∃ A' n' c' B' m' d', x = .returned (.tuple #[agT A' n' c' B' m' d', .int .i64 er]) ∧ Row enEn 7 w' (.slice A' n' c') r.1 ∧ Row enSe 6 w' (.slice B' m' d') r.2 ∧ Below w.heap.size w w' ∧ Fresh w (.slice A n c) (.slice A' n' c') ∧ Fresh w (.slice B m d) (.slice B' m' d') := by
  have D : Below w.heap.size w (((w.alloc (bxT A n c B m d)).alloc (bxEv k u o i a p q t)).alloc (bxT none 0 0 none 0 0)) := below_alloc0 (below_alloc0 (below_box _) _) _
  have S0 := halloc (halloc (heap_alloc_new w (bxT A n c B m d)) (bxEv k u o i a p q t)) (bxT none 0 0 none 0 0)
  have E0 := halloc (heap_alloc_new (w.alloc (bxT A n c B m d)) (bxEv k u o i a p q t)) (bxT none 0 0 none 0 0)
  have Z0 := heap_alloc_new ((w.alloc (bxT A n c B m d)).alloc (bxEv k u o i a p q t)) (bxT none 0 0 none 0 0)
  simp only [size_alloc] at E0 Z0
  replace hl := hl.below D
  replace hs := hs.below D
  obtain ⟨⟨s0, s1⟩, ⟨sf0, sf1⟩, sz⟩ := openT S0
  go_enter Tryz.func16, Tryz.ntmps16
  go_wp2_with fail
  with_reducible refine (MayT_is n c A l m d B s _ hl hs hz hy (by omega) true HM).mono ?_
  rintro e w1 ⟨rfl, b1⟩
  replace hl := hl.below b1
  replace hs := hs.below b1
  replace S0 := hcall S0 b1
  replace E0 := hcall E0 b1
  replace Z0 := hcall Z0 b1
  replace D := below_call D b1
  clear b1 s0 s1 sf0 sf1 sz
  have hz6 : w.heap.size + 1 + 1 < w1.heap.size := (Array.getElem?_eq_some_iff.1 Z0).1
  have X0 : (w1.alloc (bxT A n c B m d)).heap[w1.heap.size]? = some (bxT A n c B m d) := heap_alloc_new _ _
  obtain ⟨⟨s0, s1⟩, ⟨sf0, sf1⟩, sz⟩ := openT S0
  obtain ⟨e0, e1, e2, e3, e4, e5, e6, e7, ez⟩ := cellsEv k u o i a p q t E0
  replace hl := hl.below (below_box (bxT A n c B m d))
  replace hs := hs.below (below_box (bxT A n c B m d))
  replace S0 := halloc S0 (bxT A n c B m d)
  replace E0 := halloc E0 (bxT A n c B m d)
  replace Z0 := halloc Z0 (bxT A n c B m d)
  replace D := below_alloc0 D (bxT A n c B m d)
  obtain ⟨e0', e1', e2', e3', e4', e5', e6', e7', ez'⟩ := cellsEv k u o i a p q t E0
  go_wp2_with fail
  with_reducible refine (between_is k false _ HK).mono ?_
  rintro e w2 ⟨rfl, b2⟩
  replace hl := hl.below b2
  replace hs := hs.below b2
  replace S0 := hcall S0 b2
  replace E0 := hcall E0 b2
  replace Z0 := hcall Z0 b2
  replace X0 := hcall X0 b2
  replace D := below_call D b2
  clear b2 s0 s1 sf0 sf1 sz e0 e1 e2 e3 e4 e5 e6 e7 ez e0' e1' e2' e3' e4' e5' e6' e7' ez'
  obtain ⟨⟨s0, s1⟩, ⟨sf0, sf1⟩, sz⟩ := openT S0
  obtain ⟨e0, e1, e2, e3, e4, e5, e6, e7, ez⟩ := cellsEv k u o i a p q t E0
  have k7 : (k == 7) = true := by have := H7.out; simpa using this
  have hfz := D.size
  go_wp2_with fail
  with_reducible refine (Put9F_is m d B s _ hs u i a p q t r9l er hy hu ht HR).mono ?_
  rintro e w3 ⟨v9, rfl, r9, b3, hf9⟩
  replace hl := hl.below b3
  replace hs := hs.below b3
  replace S0 := hcall S0 b3
  replace E0 := hcall E0 b3
  replace Z0 := hcall Z0 b3
  replace X0 := hcall X0 b3
  replace D := below_call D b3
  clear b3 s0 s1 sf0 sf1 sz e0 e1 e2 e3 e4 e5 e6 e7 ez
  obtain ⟨n9, hn9⟩ : ∃ n9, r9l.length = n9 := ⟨_, rfl⟩
  obtain ⟨A9, c9, rfl⟩ := Row.form8 r9 n9 hn9
  clear hn9
  have he2 := hne.out
  obtain ⟨⟨x0, x1⟩, ⟨xf0, xf1⟩, xz⟩ := openT X0
  have X5 : (w3.setCell ⟨w1.heap.size, 1, none⟩ (.slice A9 n9 c9)).heap[w1.heap.size]? = some (bxT A n c A9 n9 c9) := hset1 X0 A9 n9 c9
  have S5 : (w3.setCell ⟨w1.heap.size, 1, none⟩ (.slice A9 n9 c9)).heap[w.heap.size]? = some (bxT A n c B m d) := hset_neT (by omega) S0
  have Z5 : (w3.setCell ⟨w1.heap.size, 1, none⟩ (.slice A9 n9 c9)).heap[w.heap.size + 1 + 1]? = some (bxT none 0 0 none 0 0) := hset_neT (by omega) Z0
  have D5 := bset D w1.heap.size 1 (.slice A9 n9 c9) (by omega)
  have hl5 := Row.setT hl nsEn X0 1 (.slice A9 n9 c9)
  have hs5 := Row.setT hs nsSe X0 1 (.slice A9 n9 c9)
  have r5 := Row.setT r9 nsSe X0 1 (.slice A9 n9 c9)
  obtain ⟨⟨x50, x51⟩, ⟨xf50, xf51⟩, x5z⟩ := openT X5
  obtain ⟨⟨s50, s51⟩, ⟨sf50, sf51⟩, s5z⟩ := openT S5
  obtain ⟨⟨z50, z51⟩, ⟨zf50, zf51⟩, z5z⟩ := openT Z5
  have Z6 : ((w3.setCell ⟨w1.heap.size, 1, none⟩ (.slice A9 n9 c9)).setCell ⟨w.heap.size + 1 + 1, 0, none⟩ (.slice A n c)).heap[w.heap.size + 1 + 1]? = some (bxT A n c none 0 0) := hset0 Z5 A n c
  have Z7 : (((w3.setCell ⟨w1.heap.size, 1, none⟩ (.slice A9 n9 c9)).setCell ⟨w.heap.size + 1 + 1, 0, none⟩ (.slice A n c)).setCell ⟨w.heap.size + 1 + 1, 1, none⟩ (.slice B m d)).heap[w.heap.size + 1 + 1]? = some (bxT A n c B m d) := hset1 Z6 B m d
  have D7 := bset (bset D5 (w.heap.size + 1 + 1) 0 (.slice A n c) (by omega)) (w.heap.size + 1 + 1) 1 (.slice B m d) (by omega)
  have hl7 := Row.setT (Row.setT hl5 nsEn Z5 0 (.slice A n c)) nsEn Z6 1 (.slice B m d)
  have hs7 := Row.setT (Row.setT hs5 nsSe Z5 0 (.slice A n c)) nsSe Z6 1 (.slice B m d)
  obtain ⟨⟨y0, y1⟩, ⟨yf0, yf1⟩, yz⟩ := openT Z6
  go_wp2
  (try simp only [Exit.inBlock, Exit.then])
  (refine bodyPost_ct rfl (w.heap.size + 1 + 1) 25 #[.slice A n c, .slice B m d] (0, 0) _ rfl ?_ Tryz.underlying25 rfl info_st rfl ?_)
  · exact Z7
  · rw [h.out.1]
    exact ⟨A, n, c, B, m, d, rfl, hl7, hs7, D7, .self, .self⟩
set_option maxHeartbeats 16000000 in
set_option maxRecDepth 100000 in
theorem apply_put_ok (k : Int) (u o : ByteArray) (i a p q : Int) (t : ByteArray) (r9l : List Se) (r : Sta) (HM : Hid (mayT (l, s) = true)) (HK : Hid (decide (1 ≤ k ∧ k ≤ 6) = false)) (H7 : Hid (decide (k = 7) = true)) (hu : u.size ≤ 140737488351232) (ht : t.size ≤ 140737488351232) (HR : Hid (putSe s ⟨u, i, a, p, q, t⟩ = (r9l, 0))) (h : Hid (r = (l, r9l) ∧ (0 : Int) = 0)) :
    Calls Tryz.prog 16 #[agT A n c B m d, .agg #[.int .i64 k, .string u, .string o, .int .i64 i, .int .i64 a, .int .i64 p, .int .i64 q, .string t]] w fun x w' => ∃ A' n' c' B' m' d', x = .returned (.tuple #[agT A' n' c' B' m' d', .int .i64 0]) ∧ Row enEn 7 w' (.slice A' n' c') r.1 ∧ Row enSe 6 w' (.slice B' m' d') r.2 ∧ Below w.heap.size w w' ∧ Fresh w (.slice A n c) (.slice A' n' c') ∧ Fresh w (.slice B m d) (.slice B' m' d') := by
  have D : Below w.heap.size w (((w.alloc (bxT A n c B m d)).alloc (bxEv k u o i a p q t)).alloc (bxT none 0 0 none 0 0)) := below_alloc0 (below_alloc0 (below_box _) _) _
  have S0 := halloc (halloc (heap_alloc_new w (bxT A n c B m d)) (bxEv k u o i a p q t)) (bxT none 0 0 none 0 0)
  have E0 := halloc (heap_alloc_new (w.alloc (bxT A n c B m d)) (bxEv k u o i a p q t)) (bxT none 0 0 none 0 0)
  have Z0 := heap_alloc_new ((w.alloc (bxT A n c B m d)).alloc (bxEv k u o i a p q t)) (bxT none 0 0 none 0 0)
  simp only [size_alloc] at E0 Z0
  replace hl := hl.below D
  replace hs := hs.below D
  obtain ⟨⟨s0, s1⟩, ⟨sf0, sf1⟩, sz⟩ := openT S0
  go_enter Tryz.func16, Tryz.ntmps16
  go_wp2_with fail
  with_reducible refine (MayT_is n c A l m d B s _ hl hs hz hy (by omega) true HM).mono ?_
  rintro e w1 ⟨rfl, b1⟩
  replace hl := hl.below b1
  replace hs := hs.below b1
  replace S0 := hcall S0 b1
  replace E0 := hcall E0 b1
  replace Z0 := hcall Z0 b1
  replace D := below_call D b1
  clear b1 s0 s1 sf0 sf1 sz
  have hz6 : w.heap.size + 1 + 1 < w1.heap.size := (Array.getElem?_eq_some_iff.1 Z0).1
  have X0 : (w1.alloc (bxT A n c B m d)).heap[w1.heap.size]? = some (bxT A n c B m d) := heap_alloc_new _ _
  obtain ⟨⟨s0, s1⟩, ⟨sf0, sf1⟩, sz⟩ := openT S0
  obtain ⟨e0, e1, e2, e3, e4, e5, e6, e7, ez⟩ := cellsEv k u o i a p q t E0
  replace hl := hl.below (below_box (bxT A n c B m d))
  replace hs := hs.below (below_box (bxT A n c B m d))
  replace S0 := halloc S0 (bxT A n c B m d)
  replace E0 := halloc E0 (bxT A n c B m d)
  replace Z0 := halloc Z0 (bxT A n c B m d)
  replace D := below_alloc0 D (bxT A n c B m d)
  obtain ⟨e0', e1', e2', e3', e4', e5', e6', e7', ez'⟩ := cellsEv k u o i a p q t E0
  go_wp2_with fail
  with_reducible refine (between_is k false _ HK).mono ?_
  rintro e w2 ⟨rfl, b2⟩
  replace hl := hl.below b2
  replace hs := hs.below b2
  replace S0 := hcall S0 b2
  replace E0 := hcall E0 b2
  replace Z0 := hcall Z0 b2
  replace X0 := hcall X0 b2
  replace D := below_call D b2
  clear b2 s0 s1 sf0 sf1 sz e0 e1 e2 e3 e4 e5 e6 e7 ez e0' e1' e2' e3' e4' e5' e6' e7' ez'
  obtain ⟨⟨s0, s1⟩, ⟨sf0, sf1⟩, sz⟩ := openT S0
  obtain ⟨e0, e1, e2, e3, e4, e5, e6, e7, ez⟩ := cellsEv k u o i a p q t E0
  have k7 : (k == 7) = true := by have := H7.out; simpa using this
  have hfz := D.size
  go_wp2_with fail
  with_reducible refine (Put9F_is m d B s _ hs u i a p q t r9l 0 hy hu ht HR).mono ?_
  rintro e w3 ⟨v9, rfl, r9, b3, hf9⟩
  replace hl := hl.below b3
  replace hs := hs.below b3
  replace S0 := hcall S0 b3
  replace E0 := hcall E0 b3
  replace Z0 := hcall Z0 b3
  replace X0 := hcall X0 b3
  replace D := below_call D b3
  clear b3 s0 s1 sf0 sf1 sz e0 e1 e2 e3 e4 e5 e6 e7 ez
  obtain ⟨n9, hn9⟩ : ∃ n9, r9l.length = n9 := ⟨_, rfl⟩
  obtain ⟨A9, c9, rfl⟩ := Row.form8 r9 n9 hn9
  clear hn9
  obtain ⟨⟨x0, x1⟩, ⟨xf0, xf1⟩, xz⟩ := openT X0
  have X5 : (w3.setCell ⟨w1.heap.size, 1, none⟩ (.slice A9 n9 c9)).heap[w1.heap.size]? = some (bxT A n c A9 n9 c9) := hset1 X0 A9 n9 c9
  have S5 : (w3.setCell ⟨w1.heap.size, 1, none⟩ (.slice A9 n9 c9)).heap[w.heap.size]? = some (bxT A n c B m d) := hset_neT (by omega) S0
  have Z5 : (w3.setCell ⟨w1.heap.size, 1, none⟩ (.slice A9 n9 c9)).heap[w.heap.size + 1 + 1]? = some (bxT none 0 0 none 0 0) := hset_neT (by omega) Z0
  have D5 := bset D w1.heap.size 1 (.slice A9 n9 c9) (by omega)
  have hl5 := Row.setT hl nsEn X0 1 (.slice A9 n9 c9)
  have hs5 := Row.setT hs nsSe X0 1 (.slice A9 n9 c9)
  have r5 := Row.setT r9 nsSe X0 1 (.slice A9 n9 c9)
  obtain ⟨⟨x50, x51⟩, ⟨xf50, xf51⟩, x5z⟩ := openT X5
  obtain ⟨⟨s50, s51⟩, ⟨sf50, sf51⟩, s5z⟩ := openT S5
  obtain ⟨⟨z50, z51⟩, ⟨zf50, zf51⟩, z5z⟩ := openT Z5
  have Z6 : ((w3.setCell ⟨w1.heap.size, 1, none⟩ (.slice A9 n9 c9)).setCell ⟨w.heap.size + 1 + 1, 0, none⟩ (.slice A n c)).heap[w.heap.size + 1 + 1]? = some (bxT A n c none 0 0) := hset0 Z5 A n c
  have Z7 : (((w3.setCell ⟨w1.heap.size, 1, none⟩ (.slice A9 n9 c9)).setCell ⟨w.heap.size + 1 + 1, 0, none⟩ (.slice A n c)).setCell ⟨w.heap.size + 1 + 1, 1, none⟩ (.slice A9 n9 c9)).heap[w.heap.size + 1 + 1]? = some (bxT A n c A9 n9 c9) := hset1 Z6 A9 n9 c9
  have D7 := bset (bset D5 (w.heap.size + 1 + 1) 0 (.slice A n c) (by omega)) (w.heap.size + 1 + 1) 1 (.slice A9 n9 c9) (by omega)
  have hl7 := Row.setT (Row.setT hl5 nsEn Z5 0 (.slice A n c)) nsEn Z6 1 (.slice A9 n9 c9)
  have hs7 := Row.setT (Row.setT r5 nsSe Z5 0 (.slice A n c)) nsSe Z6 1 (.slice A9 n9 c9)
  obtain ⟨⟨y0, y1⟩, ⟨yf0, yf1⟩, yz⟩ := openT Z6
  go_wp2
  (try simp only [Exit.inBlock, Exit.then])
  (refine bodyPost_ct rfl (w.heap.size + 1 + 1) 25 #[.slice A n c, .slice A9 n9 c9] (0, 0) _ rfl ?_ Tryz.underlying25 rfl info_st rfl ?_)
  · exact Z7
  · rw [h.out.1]
    exact ⟨A, n, c, A9, n9, c9, rfl, hl7, hs7, D7, .self, .up hf9 hfz⟩
set_option maxHeartbeats 16000000 in
set_option maxRecDepth 100000 in
theorem apply_drop_er (k : Int) (u o : ByteArray) (i a p q : Int) (t : ByteArray) (er : Int) (r9l : List Se) (r : Sta) (HM : Hid (mayT (l, s) = true)) (HK : Hid (decide (1 ≤ k ∧ k ≤ 6) = false)) (H7 : Hid (decide (k = 7) = false)) (H8 : Hid (decide (k = 8) = true)) (HR : Hid (dropSe s (u, i) = (r9l, er))) (hne : Hid ((er == 0) = false)) (h : Hid (r = (l, s) ∧ er = er)) :
    Calls Tryz.prog 16 #[agT A n c B m d, .agg #[.int .i64 k, .string u, .string o, .int .i64 i, .int .i64 a, .int .i64 p, .int .i64 q, .string t]] w fun x w' => ∃ A' n' c' B' m' d', x = .returned (.tuple #[agT A' n' c' B' m' d', .int .i64 er]) ∧ Row enEn 7 w' (.slice A' n' c') r.1 ∧ Row enSe 6 w' (.slice B' m' d') r.2 ∧ Below w.heap.size w w' ∧ Fresh w (.slice A n c) (.slice A' n' c') ∧ Fresh w (.slice B m d) (.slice B' m' d') := by
  have D : Below w.heap.size w (((w.alloc (bxT A n c B m d)).alloc (bxEv k u o i a p q t)).alloc (bxT none 0 0 none 0 0)) := below_alloc0 (below_alloc0 (below_box _) _) _
  have S0 := halloc (halloc (heap_alloc_new w (bxT A n c B m d)) (bxEv k u o i a p q t)) (bxT none 0 0 none 0 0)
  have E0 := halloc (heap_alloc_new (w.alloc (bxT A n c B m d)) (bxEv k u o i a p q t)) (bxT none 0 0 none 0 0)
  have Z0 := heap_alloc_new ((w.alloc (bxT A n c B m d)).alloc (bxEv k u o i a p q t)) (bxT none 0 0 none 0 0)
  simp only [size_alloc] at E0 Z0
  replace hl := hl.below D
  replace hs := hs.below D
  obtain ⟨⟨s0, s1⟩, ⟨sf0, sf1⟩, sz⟩ := openT S0
  go_enter Tryz.func16, Tryz.ntmps16
  go_wp2_with fail
  with_reducible refine (MayT_is n c A l m d B s _ hl hs hz hy (by omega) true HM).mono ?_
  rintro e w1 ⟨rfl, b1⟩
  replace hl := hl.below b1
  replace hs := hs.below b1
  replace S0 := hcall S0 b1
  replace E0 := hcall E0 b1
  replace Z0 := hcall Z0 b1
  replace D := below_call D b1
  clear b1 s0 s1 sf0 sf1 sz
  have hz6 : w.heap.size + 1 + 1 < w1.heap.size := (Array.getElem?_eq_some_iff.1 Z0).1
  have X0 : (w1.alloc (bxT A n c B m d)).heap[w1.heap.size]? = some (bxT A n c B m d) := heap_alloc_new _ _
  obtain ⟨⟨s0, s1⟩, ⟨sf0, sf1⟩, sz⟩ := openT S0
  obtain ⟨e0, e1, e2, e3, e4, e5, e6, e7, ez⟩ := cellsEv k u o i a p q t E0
  replace hl := hl.below (below_box (bxT A n c B m d))
  replace hs := hs.below (below_box (bxT A n c B m d))
  replace S0 := halloc S0 (bxT A n c B m d)
  replace E0 := halloc E0 (bxT A n c B m d)
  replace Z0 := halloc Z0 (bxT A n c B m d)
  replace D := below_alloc0 D (bxT A n c B m d)
  obtain ⟨e0', e1', e2', e3', e4', e5', e6', e7', ez'⟩ := cellsEv k u o i a p q t E0
  go_wp2_with fail
  with_reducible refine (between_is k false _ HK).mono ?_
  rintro e w2 ⟨rfl, b2⟩
  replace hl := hl.below b2
  replace hs := hs.below b2
  replace S0 := hcall S0 b2
  replace E0 := hcall E0 b2
  replace Z0 := hcall Z0 b2
  replace X0 := hcall X0 b2
  replace D := below_call D b2
  clear b2 s0 s1 sf0 sf1 sz e0 e1 e2 e3 e4 e5 e6 e7 ez e0' e1' e2' e3' e4' e5' e6' e7' ez'
  obtain ⟨⟨s0, s1⟩, ⟨sf0, sf1⟩, sz⟩ := openT S0
  obtain ⟨e0, e1, e2, e3, e4, e5, e6, e7, ez⟩ := cellsEv k u o i a p q t E0
  have k7 : (k == 7) = false := by have := H7.out; simpa using this
  have k8 : (k == 8) = true := by have := H8.out; simpa using this
  have hfz := D.size
  go_wp2_with fail
  with_reducible refine (Drop9F_is m d B s _ hs u i r9l er hy HR).mono ?_
  rintro e w3 ⟨v9, rfl, r9, b3, hf9⟩
  replace hl := hl.below b3
  replace hs := hs.below b3
  replace S0 := hcall S0 b3
  replace E0 := hcall E0 b3
  replace Z0 := hcall Z0 b3
  replace X0 := hcall X0 b3
  replace D := below_call D b3
  clear b3 s0 s1 sf0 sf1 sz e0 e1 e2 e3 e4 e5 e6 e7 ez
  obtain ⟨n9, hn9⟩ : ∃ n9, r9l.length = n9 := ⟨_, rfl⟩
  obtain ⟨A9, c9, rfl⟩ := Row.form8 r9 n9 hn9
  clear hn9
  have he2 := hne.out
  obtain ⟨⟨x0, x1⟩, ⟨xf0, xf1⟩, xz⟩ := openT X0
  have X5 : (w3.setCell ⟨w1.heap.size, 1, none⟩ (.slice A9 n9 c9)).heap[w1.heap.size]? = some (bxT A n c A9 n9 c9) := hset1 X0 A9 n9 c9
  have S5 : (w3.setCell ⟨w1.heap.size, 1, none⟩ (.slice A9 n9 c9)).heap[w.heap.size]? = some (bxT A n c B m d) := hset_neT (by omega) S0
  have Z5 : (w3.setCell ⟨w1.heap.size, 1, none⟩ (.slice A9 n9 c9)).heap[w.heap.size + 1 + 1]? = some (bxT none 0 0 none 0 0) := hset_neT (by omega) Z0
  have D5 := bset D w1.heap.size 1 (.slice A9 n9 c9) (by omega)
  have hl5 := Row.setT hl nsEn X0 1 (.slice A9 n9 c9)
  have hs5 := Row.setT hs nsSe X0 1 (.slice A9 n9 c9)
  have r5 := Row.setT r9 nsSe X0 1 (.slice A9 n9 c9)
  obtain ⟨⟨x50, x51⟩, ⟨xf50, xf51⟩, x5z⟩ := openT X5
  obtain ⟨⟨s50, s51⟩, ⟨sf50, sf51⟩, s5z⟩ := openT S5
  obtain ⟨⟨z50, z51⟩, ⟨zf50, zf51⟩, z5z⟩ := openT Z5
  have Z6 : ((w3.setCell ⟨w1.heap.size, 1, none⟩ (.slice A9 n9 c9)).setCell ⟨w.heap.size + 1 + 1, 0, none⟩ (.slice A n c)).heap[w.heap.size + 1 + 1]? = some (bxT A n c none 0 0) := hset0 Z5 A n c
  have Z7 : (((w3.setCell ⟨w1.heap.size, 1, none⟩ (.slice A9 n9 c9)).setCell ⟨w.heap.size + 1 + 1, 0, none⟩ (.slice A n c)).setCell ⟨w.heap.size + 1 + 1, 1, none⟩ (.slice B m d)).heap[w.heap.size + 1 + 1]? = some (bxT A n c B m d) := hset1 Z6 B m d
  have D7 := bset (bset D5 (w.heap.size + 1 + 1) 0 (.slice A n c) (by omega)) (w.heap.size + 1 + 1) 1 (.slice B m d) (by omega)
  have hl7 := Row.setT (Row.setT hl5 nsEn Z5 0 (.slice A n c)) nsEn Z6 1 (.slice B m d)
  have hs7 := Row.setT (Row.setT hs5 nsSe Z5 0 (.slice A n c)) nsSe Z6 1 (.slice B m d)
  obtain ⟨⟨y0, y1⟩, ⟨yf0, yf1⟩, yz⟩ := openT Z6
  go_wp2
  (try simp only [Exit.inBlock, Exit.then])
  (refine bodyPost_ct rfl (w.heap.size + 1 + 1) 25 #[.slice A n c, .slice B m d] (0, 0) _ rfl ?_ Tryz.underlying25 rfl info_st rfl ?_)
  · exact Z7
  · rw [h.out.1]
    exact ⟨A, n, c, B, m, d, rfl, hl7, hs7, D7, .self, .self⟩
set_option maxHeartbeats 16000000 in
set_option maxRecDepth 100000 in
theorem apply_drop_ok (k : Int) (u o : ByteArray) (i a p q : Int) (t : ByteArray) (r9l : List Se) (r : Sta) (HM : Hid (mayT (l, s) = true)) (HK : Hid (decide (1 ≤ k ∧ k ≤ 6) = false)) (H7 : Hid (decide (k = 7) = false)) (H8 : Hid (decide (k = 8) = true)) (HR : Hid (dropSe s (u, i) = (r9l, 0))) (h : Hid (r = (l, r9l) ∧ (0 : Int) = 0)) :
    Calls Tryz.prog 16 #[agT A n c B m d, .agg #[.int .i64 k, .string u, .string o, .int .i64 i, .int .i64 a, .int .i64 p, .int .i64 q, .string t]] w fun x w' => ∃ A' n' c' B' m' d', x = .returned (.tuple #[agT A' n' c' B' m' d', .int .i64 0]) ∧ Row enEn 7 w' (.slice A' n' c') r.1 ∧ Row enSe 6 w' (.slice B' m' d') r.2 ∧ Below w.heap.size w w' ∧ Fresh w (.slice A n c) (.slice A' n' c') ∧ Fresh w (.slice B m d) (.slice B' m' d') := by
  have D : Below w.heap.size w (((w.alloc (bxT A n c B m d)).alloc (bxEv k u o i a p q t)).alloc (bxT none 0 0 none 0 0)) := below_alloc0 (below_alloc0 (below_box _) _) _
  have S0 := halloc (halloc (heap_alloc_new w (bxT A n c B m d)) (bxEv k u o i a p q t)) (bxT none 0 0 none 0 0)
  have E0 := halloc (heap_alloc_new (w.alloc (bxT A n c B m d)) (bxEv k u o i a p q t)) (bxT none 0 0 none 0 0)
  have Z0 := heap_alloc_new ((w.alloc (bxT A n c B m d)).alloc (bxEv k u o i a p q t)) (bxT none 0 0 none 0 0)
  simp only [size_alloc] at E0 Z0
  replace hl := hl.below D
  replace hs := hs.below D
  obtain ⟨⟨s0, s1⟩, ⟨sf0, sf1⟩, sz⟩ := openT S0
  go_enter Tryz.func16, Tryz.ntmps16
  go_wp2_with fail
  with_reducible refine (MayT_is n c A l m d B s _ hl hs hz hy (by omega) true HM).mono ?_
  rintro e w1 ⟨rfl, b1⟩
  replace hl := hl.below b1
  replace hs := hs.below b1
  replace S0 := hcall S0 b1
  replace E0 := hcall E0 b1
  replace Z0 := hcall Z0 b1
  replace D := below_call D b1
  clear b1 s0 s1 sf0 sf1 sz
  have hz6 : w.heap.size + 1 + 1 < w1.heap.size := (Array.getElem?_eq_some_iff.1 Z0).1
  have X0 : (w1.alloc (bxT A n c B m d)).heap[w1.heap.size]? = some (bxT A n c B m d) := heap_alloc_new _ _
  obtain ⟨⟨s0, s1⟩, ⟨sf0, sf1⟩, sz⟩ := openT S0
  obtain ⟨e0, e1, e2, e3, e4, e5, e6, e7, ez⟩ := cellsEv k u o i a p q t E0
  replace hl := hl.below (below_box (bxT A n c B m d))
  replace hs := hs.below (below_box (bxT A n c B m d))
  replace S0 := halloc S0 (bxT A n c B m d)
  replace E0 := halloc E0 (bxT A n c B m d)
  replace Z0 := halloc Z0 (bxT A n c B m d)
  replace D := below_alloc0 D (bxT A n c B m d)
  obtain ⟨e0', e1', e2', e3', e4', e5', e6', e7', ez'⟩ := cellsEv k u o i a p q t E0
  go_wp2_with fail
  with_reducible refine (between_is k false _ HK).mono ?_
  rintro e w2 ⟨rfl, b2⟩
  replace hl := hl.below b2
  replace hs := hs.below b2
  replace S0 := hcall S0 b2
  replace E0 := hcall E0 b2
  replace Z0 := hcall Z0 b2
  replace X0 := hcall X0 b2
  replace D := below_call D b2
  clear b2 s0 s1 sf0 sf1 sz e0 e1 e2 e3 e4 e5 e6 e7 ez e0' e1' e2' e3' e4' e5' e6' e7' ez'
  obtain ⟨⟨s0, s1⟩, ⟨sf0, sf1⟩, sz⟩ := openT S0
  obtain ⟨e0, e1, e2, e3, e4, e5, e6, e7, ez⟩ := cellsEv k u o i a p q t E0
  have k7 : (k == 7) = false := by have := H7.out; simpa using this
  have k8 : (k == 8) = true := by have := H8.out; simpa using this
  have hfz := D.size
  go_wp2_with fail
  with_reducible refine (Drop9F_is m d B s _ hs u i r9l 0 hy HR).mono ?_
  rintro e w3 ⟨v9, rfl, r9, b3, hf9⟩
  replace hl := hl.below b3
  replace hs := hs.below b3
  replace S0 := hcall S0 b3
  replace E0 := hcall E0 b3
  replace Z0 := hcall Z0 b3
  replace X0 := hcall X0 b3
  replace D := below_call D b3
  clear b3 s0 s1 sf0 sf1 sz e0 e1 e2 e3 e4 e5 e6 e7 ez
  obtain ⟨n9, hn9⟩ : ∃ n9, r9l.length = n9 := ⟨_, rfl⟩
  obtain ⟨A9, c9, rfl⟩ := Row.form8 r9 n9 hn9
  clear hn9
  obtain ⟨⟨x0, x1⟩, ⟨xf0, xf1⟩, xz⟩ := openT X0
  have X5 : (w3.setCell ⟨w1.heap.size, 1, none⟩ (.slice A9 n9 c9)).heap[w1.heap.size]? = some (bxT A n c A9 n9 c9) := hset1 X0 A9 n9 c9
  have S5 : (w3.setCell ⟨w1.heap.size, 1, none⟩ (.slice A9 n9 c9)).heap[w.heap.size]? = some (bxT A n c B m d) := hset_neT (by omega) S0
  have Z5 : (w3.setCell ⟨w1.heap.size, 1, none⟩ (.slice A9 n9 c9)).heap[w.heap.size + 1 + 1]? = some (bxT none 0 0 none 0 0) := hset_neT (by omega) Z0
  have D5 := bset D w1.heap.size 1 (.slice A9 n9 c9) (by omega)
  have hl5 := Row.setT hl nsEn X0 1 (.slice A9 n9 c9)
  have hs5 := Row.setT hs nsSe X0 1 (.slice A9 n9 c9)
  have r5 := Row.setT r9 nsSe X0 1 (.slice A9 n9 c9)
  obtain ⟨⟨x50, x51⟩, ⟨xf50, xf51⟩, x5z⟩ := openT X5
  obtain ⟨⟨s50, s51⟩, ⟨sf50, sf51⟩, s5z⟩ := openT S5
  obtain ⟨⟨z50, z51⟩, ⟨zf50, zf51⟩, z5z⟩ := openT Z5
  have Z6 : ((w3.setCell ⟨w1.heap.size, 1, none⟩ (.slice A9 n9 c9)).setCell ⟨w.heap.size + 1 + 1, 0, none⟩ (.slice A n c)).heap[w.heap.size + 1 + 1]? = some (bxT A n c none 0 0) := hset0 Z5 A n c
  have Z7 : (((w3.setCell ⟨w1.heap.size, 1, none⟩ (.slice A9 n9 c9)).setCell ⟨w.heap.size + 1 + 1, 0, none⟩ (.slice A n c)).setCell ⟨w.heap.size + 1 + 1, 1, none⟩ (.slice A9 n9 c9)).heap[w.heap.size + 1 + 1]? = some (bxT A n c A9 n9 c9) := hset1 Z6 A9 n9 c9
  have D7 := bset (bset D5 (w.heap.size + 1 + 1) 0 (.slice A n c) (by omega)) (w.heap.size + 1 + 1) 1 (.slice A9 n9 c9) (by omega)
  have hl7 := Row.setT (Row.setT hl5 nsEn Z5 0 (.slice A n c)) nsEn Z6 1 (.slice A9 n9 c9)
  have hs7 := Row.setT (Row.setT r5 nsSe Z5 0 (.slice A n c)) nsSe Z6 1 (.slice A9 n9 c9)
  obtain ⟨⟨y0, y1⟩, ⟨yf0, yf1⟩, yz⟩ := openT Z6
  go_wp2
  (try simp only [Exit.inBlock, Exit.then])
  (refine bodyPost_ct rfl (w.heap.size + 1 + 1) 25 #[.slice A n c, .slice A9 n9 c9] (0, 0) _ rfl ?_ Tryz.underlying25 rfl info_st rfl ?_)
  · exact Z7
  · rw [h.out.1]
    exact ⟨A, n, c, A9, n9, c9, rfl, hl7, hs7, D7, .self, .up hf9 hfz⟩
set_option maxHeartbeats 16000000 in
set_option maxRecDepth 100000 in
theorem apply_none (k : Int) (u o : ByteArray) (i a p q : Int) (t : ByteArray) (er : Int) (r : Sta) (HM : Hid (mayT (l, s) = true)) (HK : Hid (decide (1 ≤ k ∧ k ≤ 6) = false)) (H7 : Hid (decide (k = 7) = false)) (H8 : Hid (decide (k = 8) = false)) (h : Hid (r = (l, s) ∧ er = 1)) :
    Calls Tryz.prog 16 #[agT A n c B m d, .agg #[.int .i64 k, .string u, .string o, .int .i64 i, .int .i64 a, .int .i64 p, .int .i64 q, .string t]] w fun x w' => ∃ A' n' c' B' m' d', x = .returned (.tuple #[agT A' n' c' B' m' d', .int .i64 er]) ∧ Row enEn 7 w' (.slice A' n' c') r.1 ∧ Row enSe 6 w' (.slice B' m' d') r.2 ∧ Below w.heap.size w w' ∧ Fresh w (.slice A n c) (.slice A' n' c') ∧ Fresh w (.slice B m d) (.slice B' m' d') := by
  have D : Below w.heap.size w (((w.alloc (bxT A n c B m d)).alloc (bxEv k u o i a p q t)).alloc (bxT none 0 0 none 0 0)) := below_alloc0 (below_alloc0 (below_box _) _) _
  have S0 := halloc (halloc (heap_alloc_new w (bxT A n c B m d)) (bxEv k u o i a p q t)) (bxT none 0 0 none 0 0)
  have E0 := halloc (heap_alloc_new (w.alloc (bxT A n c B m d)) (bxEv k u o i a p q t)) (bxT none 0 0 none 0 0)
  have Z0 := heap_alloc_new ((w.alloc (bxT A n c B m d)).alloc (bxEv k u o i a p q t)) (bxT none 0 0 none 0 0)
  simp only [size_alloc] at E0 Z0
  replace hl := hl.below D
  replace hs := hs.below D
  obtain ⟨⟨s0, s1⟩, ⟨sf0, sf1⟩, sz⟩ := openT S0
  go_enter Tryz.func16, Tryz.ntmps16
  go_wp2_with fail
  with_reducible refine (MayT_is n c A l m d B s _ hl hs hz hy (by omega) true HM).mono ?_
  rintro e w1 ⟨rfl, b1⟩
  replace hl := hl.below b1
  replace hs := hs.below b1
  replace S0 := hcall S0 b1
  replace E0 := hcall E0 b1
  replace Z0 := hcall Z0 b1
  replace D := below_call D b1
  clear b1 s0 s1 sf0 sf1 sz
  have hz6 : w.heap.size + 1 + 1 < w1.heap.size := (Array.getElem?_eq_some_iff.1 Z0).1
  have X0 : (w1.alloc (bxT A n c B m d)).heap[w1.heap.size]? = some (bxT A n c B m d) := heap_alloc_new _ _
  obtain ⟨⟨s0, s1⟩, ⟨sf0, sf1⟩, sz⟩ := openT S0
  obtain ⟨e0, e1, e2, e3, e4, e5, e6, e7, ez⟩ := cellsEv k u o i a p q t E0
  replace hl := hl.below (below_box (bxT A n c B m d))
  replace hs := hs.below (below_box (bxT A n c B m d))
  replace S0 := halloc S0 (bxT A n c B m d)
  replace E0 := halloc E0 (bxT A n c B m d)
  replace Z0 := halloc Z0 (bxT A n c B m d)
  replace D := below_alloc0 D (bxT A n c B m d)
  obtain ⟨e0', e1', e2', e3', e4', e5', e6', e7', ez'⟩ := cellsEv k u o i a p q t E0
  go_wp2_with fail
  with_reducible refine (between_is k false _ HK).mono ?_
  rintro e w2 ⟨rfl, b2⟩
  replace hl := hl.below b2
  replace hs := hs.below b2
  replace S0 := hcall S0 b2
  replace E0 := hcall E0 b2
  replace Z0 := hcall Z0 b2
  replace X0 := hcall X0 b2
  replace D := below_call D b2
  clear b2 s0 s1 sf0 sf1 sz e0 e1 e2 e3 e4 e5 e6 e7 ez e0' e1' e2' e3' e4' e5' e6' e7' ez'
  obtain ⟨⟨s0, s1⟩, ⟨sf0, sf1⟩, sz⟩ := openT S0
  obtain ⟨e0, e1, e2, e3, e4, e5, e6, e7, ez⟩ := cellsEv k u o i a p q t E0
  obtain ⟨⟨z0, z1⟩, ⟨zf0, zf1⟩, zz⟩ := openT Z0
  have k7 : (k == 7) = false := by have := H7.out; simpa using this
  have k8 : (k == 8) = false := by have := H8.out; simpa using this
  have Z6 : (w2.setCell ⟨w.heap.size + 1 + 1, 0, none⟩ (.slice A n c)).heap[w.heap.size + 1 + 1]? = some (bxT A n c none 0 0) := hset0 Z0 A n c
  have Z7 : ((w2.setCell ⟨w.heap.size + 1 + 1, 0, none⟩ (.slice A n c)).setCell ⟨w.heap.size + 1 + 1, 1, none⟩ (.slice B m d)).heap[w.heap.size + 1 + 1]? = some (bxT A n c B m d) := hset1 Z6 B m d
  have D7 := bset (bset D (w.heap.size + 1 + 1) 0 (.slice A n c) (by omega)) (w.heap.size + 1 + 1) 1 (.slice B m d) (by omega)
  have hl7 := Row.setT (Row.setT hl nsEn Z0 0 (.slice A n c)) nsEn Z6 1 (.slice B m d)
  have hs7 := Row.setT (Row.setT hs nsSe Z0 0 (.slice A n c)) nsSe Z6 1 (.slice B m d)
  obtain ⟨⟨y0, y1⟩, ⟨yf0, yf1⟩, yz⟩ := openT Z6
  go_wp2
  (try simp only [Exit.inBlock, Exit.then])
  (refine bodyPost_ct rfl (w.heap.size + 1 + 1) 25 #[.slice A n c, .slice B m d] (0, 0) _ rfl ?_ Tryz.underlying25 rfl info_st rfl ?_)
  · exact Z7
  · rw [h.out.1, h.out.2]
    exact ⟨A, n, c, B, m, d, rfl, hl7, hs7, D7, .self, .self⟩
theorem ApplyT_is (k : Int) (u o : ByteArray) (i a p q : Int) (t : ByteArray) (hu : u.size ≤ 140737488351232) (ho : o.size ≤ 140737488351232) (ht : t.size ≤ 140737488351232) (er : Int) (r : Sta) (h : Hid (applyT (l, s) ⟨k, u, o, i, (a, p, q, t)⟩ = (r, er))) :
    Calls Tryz.prog 16 #[agT A n c B m d, .agg #[.int .i64 k, .string u, .string o, .int .i64 i, .int .i64 a, .int .i64 p, .int .i64 q, .string t]] w fun x w' => ∃ A' n' c' B' m' d', x = .returned (.tuple #[agT A' n' c' B' m' d', .int .i64 er]) ∧ Row enEn 7 w' (.slice A' n' c') r.1 ∧ Row enSe 6 w' (.slice B' m' d') r.2 ∧ Below w.heap.size w w' ∧ Fresh w (.slice A n c) (.slice A' n' c') ∧ Fresh w (.slice B m d) (.slice B' m' d') := by
  have h0 := h.out
  unfold applyT at h0
  simp only at h0
  cases hb : mayT (l, s) with
  | false =>
    rw [if_pos hb] at h0
    injection h0 with h1 h2
    exact apply_no n c A l m d B s w hl hs hz hy hn k u o i a p q t er r hb ⟨h1.symm, h2.symm⟩
  | true =>
    rw [if_neg (by rw [hb]; decide)] at h0
    by_cases h16 : 1 ≤ k ∧ k ≤ 6
    · rw [if_pos h16] at h0
      obtain ⟨r9, e9, h9⟩ : ∃ r e, doRo l k u o = (r, e) := ⟨_, _, rfl⟩
      rw [h9] at h0
      simp only at h0
      injection h0 with h1 h2
      by_cases he : e9 = 0
      · subst he
        subst h2
        exact apply_ros_ok n c A l m d B s w hl hs hz hy hn k u o i a p q t r9 r hb (decide_eq_true h16) hu ho h9 ⟨h1.symm, rfl⟩
      · have h3 := doRo_err h9 he
        subst h3
        subst h2
        exact apply_ros_er n c A r9 m d B s w hl hs hz hy hn k u o i a p q t e9 r9 r hb (decide_eq_true h16) hu ho h9 (by show _ = _; simpa using he) ⟨h1.symm, rfl⟩
    · rw [if_neg h16] at h0
      by_cases h7 : k = 7
      · rw [if_pos h7] at h0
        obtain ⟨r9, e9, h9⟩ : ∃ r e, putSe s ⟨u, i, (a, p, q, t)⟩ = (r, e) := ⟨_, _, rfl⟩
        rw [h9] at h0
        simp only at h0
        injection h0 with h1 h2
        by_cases he : e9 = 0
        · subst he
          subst h2
          exact apply_put_ok n c A l m d B s w hl hs hz hy hn k u o i a p q t r9 r hb (decide_eq_false h16) (decide_eq_true h7) hu ht h9 ⟨h1.symm, rfl⟩
        · have h3 := putSe_err h9 he
          subst h3
          subst h2
          exact apply_put_er n c A l m d B r9 w hl hs hz hy hn k u o i a p q t e9 r9 r hb (decide_eq_false h16) (decide_eq_true h7) hu ht h9 (by show _ = _; simpa using he) ⟨h1.symm, rfl⟩
      · rw [if_neg h7] at h0
        by_cases h8 : k = 8
        · rw [if_pos h8] at h0
          obtain ⟨r9, e9, h9⟩ : ∃ r e, dropSe s (u, i) = (r, e) := ⟨_, _, rfl⟩
          rw [h9] at h0
          simp only at h0
          injection h0 with h1 h2
          by_cases he : e9 = 0
          · subst he
            subst h2
            exact apply_drop_ok n c A l m d B s w hl hs hz hy hn k u o i a p q t r9 r hb (decide_eq_false h16) (decide_eq_false h7) (decide_eq_true h8) h9 ⟨h1.symm, rfl⟩
          · have h3 := dropSe_err h9 he
            subst h3
            subst h2
            exact apply_drop_er n c A l m d B r9 w hl hs hz hy hn k u o i a p q t e9 r9 r hb (decide_eq_false h16) (decide_eq_false h7) (decide_eq_true h8) h9 (by show _ = _; simpa using he) ⟨h1.symm, rfl⟩
        · rw [if_neg h8] at h0
          injection h0 with h1 h2
          exact apply_none n c A l m d B s w hl hs hz hy hn k u o i a p q t er r hb (decide_eq_false h16) (decide_eq_false h7) (decide_eq_false h8) ⟨h1.symm, h2.symm⟩
end
end Go.Proofs.YtbpfcjdjhponaaaGreat
namespace Go.Proofs.YtbpfcjdjhponaaaGreat
open Go.RowKit
open Sp
namespace Sp
theorem setRo_mem {l : List En} {x y : En} {keep : Bool} (h : y ∈ setRo l x keep) : y = x ∨ y ∈ l := by
  unfold setRo at h
  have hd : ∀ z, z ∈ delK keyRo l (keyRo x) → z ∈ l := fun z hz => (delK_mem.1 hz).1
  split at h
  · rcases List.mem_append.1 h with h | h
    · exact .inr (hd _ (List.takeWhile_subset _ h))
    · rcases List.mem_cons.1 h with h | h
      · exact .inl h
      · exact .inr (hd _ (List.dropWhile_subset _ h))
  · exact .inr (hd _ h)
theorem setRo_len' (l : List En) (x : En) (keep : Bool) : (setRo l x keep).length ≤ l.length + 1 := by
  have h1 : (delK keyRo l (keyRo x)).length ≤ l.length := List.length_filter_le _ _
  unfold setRo
  split
  · have h2 := congrArg List.length (tw_dw (delK keyRo l (keyRo x)) (fun y => !ltRo (keyRo x) (keyRo y)))
    rw [List.length_append] at h2
    rw [List.length_append, List.length_cons]
    omega
  · omega
theorem doRo_sz {l : List En} {k : Int} {u o : ByteArray} {r : List En} {e : Int} (h : doRo l k u o = (r, e)) : r.length ≤ l.length + 2 ∧ ∀ x ∈ r, (x ∈ l ∨ (x.o = u ∧ x.c = o) ∨ (x.o = o ∧ x.c = u)) := by
  by_cases he : e = 0
  · subst he
    obtain ⟨_, a, b, _, rfl⟩ := doRo_ok h
    have h1 := setRo_len' l ⟨u, o, a⟩ (!(emptyI a && emptyI b))
    have h2 := setRo_len' (setRo l ⟨u, o, a⟩ (!(emptyI a && emptyI b))) ⟨o, u, b⟩ (!(emptyI a && emptyI b))
    refine ⟨by omega, fun x hx => ?_⟩
    rcases setRo_mem hx with rfl | hx
    · exact .inr (.inr ⟨rfl, rfl⟩)
    · rcases setRo_mem hx with rfl | hx
      · exact .inr (.inl ⟨rfl, rfl⟩)
      · exact .inl hx
  · rw [doRo_err h he]
    exact ⟨by omega, fun x hx => .inl hx⟩
theorem putSe_mem {l : List Se} {s : Se} {r : List Se} {e : Int} (h : putSe l s = (r, e)) : ∀ x ∈ r, x = s ∨ x ∈ l := by
  by_cases he : e = 0
  · subst he
    obtain ⟨_, _, rfl, _⟩ := putSe_ok h
    intro x hx
    rcases putK_mem.1 hx with rfl | hx
    · exact .inl rfl
    · exact .inr hx.1
  · rw [putSe_err h he]
    exact fun x hx => .inr hx
theorem dropSe_mem {l : List Se} {k : SeK} {r : List Se} {e : Int} (h : dropSe l k = (r, e)) : ∀ x ∈ r, x ∈ l := by
  unfold dropSe at h
  split at h
  · injection h with h1 h2; subst h1; exact fun x hx => hx
  · split at h
    · injection h with h1 h2
      subst h1
      intro x hx
      rcases List.mem_append.1 hx with hx | hx
      · exact List.mem_of_mem_take hx
      · exact List.mem_of_mem_drop hx
    · injection h with h1 h2; subst h1; exact fun x hx => hx
end Sp
def SzEv (l : List Evt) : Prop := ∀ e ∈ l, e.u.size ≤ 140737488351232 ∧ e.o.size ≤ 140737488351232 ∧ e.v.2.2.2.size ≤ 140737488351232
theorem applyT_sz {s r : Sta} {e : Evt} {er : Int} (h : applyT s e = (r, er)) (hz : SzRo s.1) (hy : SzSe s.2) (hu : e.u.size ≤ 140737488351232) (ho : e.o.size ≤ 140737488351232) (ht : e.v.2.2.2.size ≤ 140737488351232) : SzRo r.1 ∧ SzSe r.2 ∧ r.1.length ≤ s.1.length + 2 := by
  obtain ⟨l, m⟩ := s
  unfold applyT at h
  simp only at hz hy
  split at h
  · injection h with h1 h2; subst h1; exact ⟨hz, hy, by simp⟩
  · split at h
    · injection h with h1 h2
      subst h1
      obtain ⟨h3, h4⟩ := doRo_sz (l := l) (k := e.k) (u := e.u) (o := e.o) (r := (doRo l e.k e.u e.o).1) (e := (doRo l e.k e.u e.o).2) rfl
      refine ⟨fun x hx => ?_, hy, h3⟩
      rcases h4 x hx with h5 | ⟨h5, h6⟩ | ⟨h5, h6⟩
      · exact hz x h5
      · rw [h5, h6]; exact ⟨hu, ho⟩
      · rw [h5, h6]; exact ⟨ho, hu⟩
    · split at h
      · injection h with h1 h2
        subst h1
        refine ⟨hz, fun x hx => ?_, by simp⟩
        rcases putSe_mem (l := m) (s := ⟨e.u, e.i, e.v⟩) (r := (putSe m ⟨e.u, e.i, e.v⟩).1) (e := (putSe m ⟨e.u, e.i, e.v⟩).2) rfl x hx with rfl | h5
        · exact ⟨hu, ht⟩
        · exact hy x h5
      · split at h
        · injection h with h1 h2
          subst h1
          exact ⟨hz, fun x hx => hy x (dropSe_mem (l := m) (k := (e.u, e.i)) (r := (dropSe m (e.u, e.i)).1) (e := (dropSe m (e.u, e.i)).2) rfl x hx), by simp⟩
        · injection h with h1 h2; subst h1; exact ⟨hz, hy, by simp⟩
def Apart (v : Value) (A : Option Addr) (n : Nat) : Prop := 0 < n → ∀ ad, A = some ad → v.ownBlock ≠ some ad.block
theorem Row.lt {α : Type} {enc : α → List Value} {k : Nat} {w : World} {A : Option Addr} {n c : Nat} {xs : List α} (h : Row enc k w (.slice A n c) xs) (hk : 0 < k) (hn : 0 < n) (ad : Addr) (e : A = some ad) : ad.block < w.heap.size := by
  obtain ⟨A', c', e1, h1, h2, h3, h4⟩ := h
  injection e1 with e2 e3 e4
  subst e2 e3
  obtain ⟨ad', e5, hc⟩ := h4 hn
  rw [e] at e5
  injection e5 with e5
  subst e5
  have hp : 0 < (xs.flatMap enc).length := by rw [h3]; exact Nat.mul_pos hn hk
  have h5 := hc 0 _ (List.getElem?_eq_getElem hp)
  have h6 := World.block_lt_of_cell? w _ h5
  rwa [add_block] at h6
theorem Row.grownP {α : Type} {enc : α → List Value} {k : Nat} {w w1 : World} {A : Option Addr} {n c : Nat} {xs : List α} {row : Option Nat} (h : Row enc k w (.slice A n c) xs) (hg : w.grownBy w1 row) (hr : 0 < n → ∀ ad, A = some ad → row ≠ some ad.block) : Row enc k w1 (.slice A n c) xs := by
  obtain ⟨A', c', e1, h1, h2, h3, h4⟩ := h
  injection e1 with e2 e3 e4
  subst e2 e3 e4
  refine ⟨A, c, rfl, h1, h2, h3, fun hp => ?_⟩
  obtain ⟨ad, e, hc⟩ := h4 hp
  exact ⟨ad, e, fun j u hu => hg.cell (hc j u hu) (fun he => hr hp ad e (by rw [← he, add_block]))⟩
theorem infoEr : (Tryz.prog.info? 35).map (fun i => (i.zero, i.size, i.bytes)) = some (some (.int .i64 0), 1, 8) := by kernel_rfl
theorem enI_one (x : Int) : ∀ u ∈ enI x, u.oneCell' = true := fun u hu => by rw [enI, List.mem_singleton] at hu; rw [hu]; rfl
theorem nsI : ∀ (y : Int) (u : Value), u ∈ enI y → ∀ A n c, u ≠ .slice A n c := by
  intro y u hu A n c e
  subst e
  simp [enI] at hu
theorem apart_fresh {vo : Value} {W : World} {A A' : Option Addr} {n c n' c' : Nat} (hv : ∀ g, vo.ownBlock = some g → g < W.heap.size) (h : Apart vo A n) (hf : Fresh W (.slice A n c) (.slice A' n' c')) : Apart vo A' n' := by
  intro hp ad e ho
  rcases hf with hf | hf
  · injection hf with e1 e2 e3
    subst e1 e2
    exact h hp ad e ho
  · have h1 := hf ad.block (by rw [e]; rfl)
    have h2 := hv _ ho
    omega
theorem Own.setLow {α : Type} {enc : α → List Value} {k : Nat} {e : TypeId} {w : World} {base g : Nat} {v : Value} {xs : List α} (h : Own enc k e w base v xs) (hg : g < base) (i : Nat) (x : Value) : Own enc k e (w.setCell ⟨g, i, none⟩ x) base v xs := by
  obtain ⟨h1, h2⟩ := h
  refine ⟨h1, h2.imp id ?_⟩
  rintro ⟨b, cap, cur, e1, hb, hh, h3, h4, h5, h6⟩
  exact ⟨b, cap, cur, e1, hb, hset_neT (by omega) hh, h3, h4, h5, h6⟩
end Go.Proofs.YtbpfcjdjhponaaaGreat
namespace Go.Proofs.YtbpfcjdjhponaaaGreat
open Go.RowKit
open Sp
set_option maxHeartbeats 16000000 in
set_option maxRecDepth 100000 in
theorem Short_calls (k : Int) (u o : ByteArray) (i a p q : Int) (t : ByteArray) (w : World) (hu : u.size ≤ 9223372036854775807) (ho : o.size ≤ 9223372036854775807) (ht : t.size ≤ 9223372036854775807) :
    Calls Tryz.prog 11 #[.agg #[.int .i64 k, .string u, .string o, .int .i64 i, .int .i64 a, .int .i64 p, .int .i64 q, .string t]] w fun x w' => x = .returned (.bool (shortE ⟨k, u, o, i, (a, p, q, t)⟩)) ∧ Below w.heap.size w w' := by
  have D := below_box (w := w) (bxEv k u o i a p q t)
  obtain ⟨e0, e1, e2, e3, e4, e5, e6, e7, ez⟩ := cellsEv k u o i a p q t (heap_alloc_new w (bxEv k u o i a p q t))
  by_cases h1 : ((u.size : Nat) : Int) ≤ 40
  · by_cases h2 : ((o.size : Nat) : Int) ≤ 40
    · by_cases h3 : ((t.size : Nat) : Int) ≤ 60
      · have HF : Hid (shortE ⟨k, u, o, i, (a, p, q, t)⟩ = true) := by show _ = _; unfold shortE; simp only; rw [decide_eq_true (by omega : u.size ≤ 40), decide_eq_true (by omega : o.size ≤ 40), decide_eq_true (by omega : t.size ≤ 60)]; rfl
        go_enter Tryz.func11, Tryz.ntmps11
        go_wp2
        go_ret
        rw [HF.out]
        exact ⟨by first | rfl | (simp; done) | (simp; omega), D⟩
      · have h4 : 60 < ((t.size : Nat) : Int) := by omega
        have HF : Hid (shortE ⟨k, u, o, i, (a, p, q, t)⟩ = false) := by show _ = _; unfold shortE; simp only; rw [decide_eq_false (by omega : ¬ t.size ≤ 60), Bool.and_false, Bool.and_false]
        go_enter Tryz.func11, Tryz.ntmps11
        go_wp2
        go_ret
        rw [HF.out]
        exact ⟨by first | rfl | (simp; done) | (simp; omega), D⟩
    · have h4 : 40 < ((o.size : Nat) : Int) := by omega
      have HF : Hid (shortE ⟨k, u, o, i, (a, p, q, t)⟩ = false) := by show _ = _; unfold shortE; simp only; rw [decide_eq_false (by omega : ¬ o.size ≤ 40), Bool.false_and, Bool.and_false]
      go_enter Tryz.func11, Tryz.ntmps11
      go_wp2
      go_ret
      rw [HF.out]
      exact ⟨by first | rfl | (simp; done) | (simp; omega), D⟩
  · have h4 : 40 < ((u.size : Nat) : Int) := by omega
    have HF : Hid (shortE ⟨k, u, o, i, (a, p, q, t)⟩ = false) := by show _ = _; unfold shortE; simp only; rw [decide_eq_false (by omega : ¬ u.size ≤ 40), Bool.false_and]
    go_enter Tryz.func11, Tryz.ntmps11
    go_wp2
    go_ret
    rw [HF.out]
    exact ⟨by first | rfl | (simp; done) | (simp; omega), D⟩
theorem Short_is (k : Int) (u o : ByteArray) (i a p q : Int) (t : ByteArray) (b : Bool) (w : World) (hu : u.size ≤ 9223372036854775807) (ho : o.size ≤ 9223372036854775807) (ht : t.size ≤ 9223372036854775807) (h : Hid (shortE ⟨k, u, o, i, (a, p, q, t)⟩ = b)) :
    Calls Tryz.prog 11 #[.agg #[.int .i64 k, .string u, .string o, .int .i64 i, .int .i64 a, .int .i64 p, .int .i64 q, .string t]] w fun x w' => x = .returned (.bool b) ∧ Below w.heap.size w w' := re_ (Short_calls k u o i a p q t w hu ho ht) (ret_bool h.out)
abbrev SzEvM (l : List Evt) : Prop := ∀ e ∈ l, e.u.size ≤ 9223372036854775807 ∧ e.o.size ≤ 9223372036854775807 ∧ e.v.2.2.2.size ≤ 9223372036854775807
set_option maxHeartbeats 16000000 in
set_option maxRecDepth 100000 in
theorem Events_calls (n c : Nat) (A : Option Addr) (l : List Evt) (z : Int) (w : World) (hl : Row enEv 8 w (.slice A n c) l) (hz : SzEvM l) :
    Calls Tryz.prog 34 #[.slice A n c, .int .i64 z] w fun e w' => e = .returned (.bool (eventsT l z)) ∧ Below w.heap.size w w' := by
  have EA := Lib.hid hl.len_eq
  have hnl : n ≤ 9223372036854775807 := by rw [EA.out]; exact hl.len
  obtain ⟨r, hr⟩ : ∃ r, eventsT l z = r := ⟨_, rfl⟩
  rw [hr]
  unfold eventsT at hr
  have HR := Lib.hid hr
  have HZ := Lib.hid hz
  clear hr hz
  by_cases hm : z < (n : Int)
  · have HF : Hid (r = false) := by
      show _ = _
      rw [← HR.out, decide_eq_false (by rw [← EA.out]; omega)]; rfl
    go_enter Tryz.func34, Tryz.ntmps34
    go_wp2
    go_ret
    rw [HF.out]
    exact ⟨rfl, Below.refl _ _⟩
  · have hm' : (n : Int) ≤ z := by omega
    have HLE : Hid (decide ((l.length : Int) ≤ z) = true) := by show _ = _; rw [decide_eq_true (by rw [← EA.out]; exact hm')]
    clear hm
    go_enter Tryz.func34, Tryz.ntmps34
    go_wp2
    go_loopw [5] (fun v3 wr => ∃ i : Nat, v3 = .int .i64 i ∧ i ≤ n ∧ Below w.heap.size w wr ∧ Hid (∀ j (h : j < l.length), j < i → shortE l[j] = true)) (fun v3 _ => (n - intOf v3).toNat)
    case atStart => exact ⟨0, rfl, Nat.zero_le _, Below.refl _ _, fun j _ h => absurd h (by omega)⟩
    case round =>
      obtain ⟨i, rfl, hi, hB, HT⟩ := hrel
      by_cases hlt : i < n
      · have hil : i < l.length := by have := EA.out; omega
        obtain ⟨z1, z2, z3⟩ := HZ.out l[i] (List.getElem_mem _)
        obtain ⟨⟨k, u, o, j, a, p, q, t⟩, he⟩ : ∃ e, l[i] = e := ⟨_, rfl⟩
        rw [he] at z1 z2 z3
        simp only at z1 z2 z3
        obtain ⟨ad, rfl, c0, c1, c2, c3, c4, c5, c6, c7⟩ := rowEv (hl.below hB) i hil k u o j a p q t he
        have HE := Lib.hid he
        clear he
        have x1 : (0 : Int) ≤ (i : Int) := by omega
        have x2 : (i : Int) < (n : Int) := by omega
        obtain ⟨b, hb⟩ : ∃ b, shortE ⟨k, u, o, j, (a, p, q, t)⟩ = b := ⟨_, rfl⟩
        have HS := Lib.hid hb
        clear hb
        cases b with
        | true =>
          have HN : Hid (∀ j (h : j < l.length), j < i + 1 → shortE l[j] = true) := fun j' h hj => by
            rcases Nat.lt_or_ge j' i with h' | h'
            · exact HT.out j' h h'
            · obtain rfl : j' = i := by omega
              rw [HE.out]; exact HS.out
          go_wp2_with fail
          with_reducible refine (Short_is k u o j a p q t true _ z1 z2 z3 HS).mono ?_
          rintro e w1 ⟨rfl, b1⟩
          have hB1 := below_call hB b1
          clear c0 c1 c2 c3 c4 c5 c6 c7 hB
          go_wp2
          exact ⟨⟨i + 1, by go_num, by omega, hB1, HN⟩, by simp [intOf]; omega⟩
        | false =>
          have HF : Hid (r = false) := by
            show _ = _
            rw [← HR.out, Bool.and_eq_false_iff]
            right
            rw [List.all_eq_false]
            refine ⟨l[i], List.getElem_mem _, ?_⟩
            rw [HE.out, HS.out]
            decide
          go_wp2_with fail
          with_reducible refine (Short_is k u o j a p q t false _ z1 z2 z3 HS).mono ?_
          rintro e w1 ⟨rfl, b1⟩
          have hB1 := below_call hB b1
          clear c0 c1 c2 c3 c4 c5 c6 c7 hB
          go_wp2
          go_ret
          rw [HF.out]
          exact ⟨rfl, hB1⟩
      · have hin : i = n := by omega
        have HF : Hid (r = true) := by
          show _ = _
          rw [← HR.out, HLE.out, Bool.true_and, List.all_eq_true]
          intro e he
          obtain ⟨j, hj, rfl⟩ := List.getElem_of_mem he
          exact HT.out j hj (by have := EA.out; omega)
        go_wp2
        go_ret
        rw [HF.out]
        exact ⟨rfl, hB⟩
theorem Events_is (n c : Nat) (A : Option Addr) (l : List Evt) (z : Int) (b : Bool) (w : World) (hl : Row enEv 8 w (.slice A n c) l) (hz : SzEvM l) (h : Hid (eventsT l z = b)) :
    Calls Tryz.prog 34 #[.slice A n c, .int .i64 z] w fun e w' => e = .returned (.bool b) ∧ Below w.heap.size w w' := re_ (Events_calls n c A l z w hl hz) (ret_bool h.out)
namespace Sp
theorem mergeS_two (u o : ByteArray) : mergeS [o, u] [] = mergeS [u] [o] :=
  mergeS_eq _ _ _ (mergeS_sorted _ _) fun x => by rw [mergeS_mem]; simp only [List.mem_cons, List.not_mem_nil, or_false]; exact Or.comm
theorem mergeS_one (u : ByteArray) : mergeS [u] [] = [u] := mergeS_eq _ _ _ (List.pairwise_singleton _ _) fun x => by simp
end Sp
set_option maxHeartbeats 16000000 in
set_option maxRecDepth 100000 in
theorem Touch_is (k : Int) (u o : ByteArray) (i a p q : Int) (t : ByteArray) (r : List ByteArray) (w : World) (h : Hid (touchT ⟨k, u, o, i, (a, p, q, t)⟩ = r)) :
    Calls Tryz.prog 33 #[.agg #[.int .i64 k, .string u, .string o, .int .i64 i, .int .i64 a, .int .i64 p, .int .i64 q, .string t]] w fun x w' => ∃ v, x = .returned v ∧ Row enS 1 w' v r ∧ Below w.heap.size w w' := by
  have D := below_box (w := w) (bxEv k u o i a p q t)
  have hE0 := heap_alloc_new w (bxEv k u o i a p q t)
  have h0 := h.out
  unfold touchT at h0
  simp only at h0
  clear h
  obtain ⟨b, hb⟩ : ∃ b, decide (1 ≤ k ∧ k ≤ 6) = b := ⟨_, rfl⟩
  have HK := Lib.hid hb
  obtain ⟨e0, e1, e2, e3, e4, e5, e6, e7, ez⟩ := cellsEv k u o i a p q t hE0
  have hN : Own enS 1 9 (w.alloc (bxEv k u o i a p q t)) (w.alloc (bxEv k u o i a p q t)).heap.size (.slice none 0 0) [] := Own.nil _ _ _ _ _
  cases b with
  | true =>
    rw [if_pos (of_decide_eq_true hb)] at h0
    have HF : Hid (mergeS [o, u] [] = r) := by show _ = _; rw [mergeS_two]; exact h0
    clear h0 hb
    go_enter Tryz.func33, Tryz.ntmps33
    go_wp2_with fail
    with_reducible refine (between_is k true _ HK).mono ?_
    rintro x w1 ⟨rfl, b1⟩
    have hO1 := hN.below b1
    have hB1 := b1
    clear e0 e1 e2 e3 e4 e5 e6 e7 ez
    obtain ⟨e0, e1, e2, e3, e4, e5, e6, e7, ez⟩ := cellsEv k u o i a p q t (hcall hE0 b1)
    go_wp2_with (first | (at_builtin; refine Own.append (w0 := (w.alloc (bxEv k u o i a p q t))) (w.alloc (bxEv k u o i a p q t)).heap.size rfl (.tmp 15) (.tmp 18) 51 9 (.string ⟨#[]⟩) 1 16 rfl Tryz.underlying51 info_str rfl (by decide) _ [] o [.string o] rfl rfl rfl rfl (enS_one _) hO1 hB1 hB1.size (by simp only [List.length_cons, List.length_nil]; omega) (by simp only [List.length_cons, List.length_nil]; omega) ?_; intro v2 w2 hO2 hB2 _ _; obtain ⟨d0, d1, d2, d3, d4, d5, d6, d7, dz⟩ := cellsEv k u o i a p q t (hcall hE0 hB2)) | (at_builtin; refine Own.append (w0 := (w.alloc (bxEv k u o i a p q t))) (w.alloc (bxEv k u o i a p q t)).heap.size rfl (.tmp 20) (.tmp 23) 51 9 (.string ⟨#[]⟩) 1 16 rfl Tryz.underlying51 info_str rfl (by decide) _ [o] u [.string u] rfl rfl rfl rfl (enS_one _) hO2 hB2 hB2.size (by simp only [List.length_cons, List.length_nil]; omega) (by simp only [List.length_cons, List.length_nil]; omega) ?_; intro v3 w3 hO3 hB3 _ _; obtain ⟨A3, c3, rfl, _⟩ := hO3.slice))
    refine (Merge_calls 2 c3 0 0 A3 none [o, u] [] _ hO3.row (Row.nil _ _ _) (by omega) (by omega)).mono ?_
    rintro e w4 ⟨v4, rfl, hv4, b4⟩
    go_wp2
    go_ret
    rw [← HF.out]
    exact ⟨_, rfl, hv4, below_call (below_call D hB3) b4⟩
  | false =>
    rw [if_neg (of_decide_eq_false hb)] at h0
    by_cases h7 : k = 7
    · rw [if_pos (.inl h7)] at h0
      have k7 : (k == 7) = true := by simpa using h7
      have HF : Hid (mergeS [u] [] = r) := by show _ = _; rw [mergeS_one]; exact h0
      clear h0 hb h7
      go_enter Tryz.func33, Tryz.ntmps33
      go_wp2_with fail
      with_reducible refine (between_is k false _ HK).mono ?_
      rintro x w1 ⟨rfl, b1⟩
      have hO1 := hN.below b1
      have hB1 := b1
      clear e0 e1 e2 e3 e4 e5 e6 e7 ez
      obtain ⟨e0, e1, e2, e3, e4, e5, e6, e7, ez⟩ := cellsEv k u o i a p q t (hcall hE0 b1)
      go_wp2_with ((at_builtin; refine Own.append (w0 := (w.alloc (bxEv k u o i a p q t))) (w.alloc (bxEv k u o i a p q t)).heap.size rfl (.tmp 20) (.tmp 23) 51 9 (.string ⟨#[]⟩) 1 16 rfl Tryz.underlying51 info_str rfl (by decide) _ [] u [.string u] rfl rfl rfl rfl (enS_one _) hO1 hB1 hB1.size (by simp only [List.length_cons, List.length_nil]; omega) (by simp only [List.length_cons, List.length_nil]; omega) ?_; intro v3 w3 hO3 hB3 _ _; obtain ⟨A3, c3, rfl, _⟩ := hO3.slice))
      refine (Merge_calls 1 c3 0 0 A3 none [u] [] _ hO3.row (Row.nil _ _ _) (by omega) (by omega)).mono ?_
      rintro e w4 ⟨v4, rfl, hv4, b4⟩
      go_wp2
      go_ret
      rw [← HF.out]
      exact ⟨_, rfl, hv4, below_call (below_call D hB3) b4⟩
    · have k7 : (k == 7) = false := by simpa using h7
      by_cases h8 : k = 8
      · rw [if_pos (.inr h8)] at h0
        have k8 : (k == 8) = true := by simpa using h8
        have HF : Hid (mergeS [u] [] = r) := by show _ = _; rw [mergeS_one]; exact h0
        clear h0 hb h7 h8
        go_enter Tryz.func33, Tryz.ntmps33
        go_wp2_with fail
        with_reducible refine (between_is k false _ HK).mono ?_
        rintro x w1 ⟨rfl, b1⟩
        have hO1 := hN.below b1
        have hB1 := b1
        clear e0 e1 e2 e3 e4 e5 e6 e7 ez
        obtain ⟨e0, e1, e2, e3, e4, e5, e6, e7, ez⟩ := cellsEv k u o i a p q t (hcall hE0 b1)
        go_wp2_with ((at_builtin; refine Own.append (w0 := (w.alloc (bxEv k u o i a p q t))) (w.alloc (bxEv k u o i a p q t)).heap.size rfl (.tmp 20) (.tmp 23) 51 9 (.string ⟨#[]⟩) 1 16 rfl Tryz.underlying51 info_str rfl (by decide) _ [] u [.string u] rfl rfl rfl rfl (enS_one _) hO1 hB1 hB1.size (by simp only [List.length_cons, List.length_nil]; omega) (by simp only [List.length_cons, List.length_nil]; omega) ?_; intro v3 w3 hO3 hB3 _ _; obtain ⟨A3, c3, rfl, _⟩ := hO3.slice))
        refine (Merge_calls 1 c3 0 0 A3 none [u] [] _ hO3.row (Row.nil _ _ _) (by omega) (by omega)).mono ?_
        rintro e w4 ⟨v4, rfl, hv4, b4⟩
        go_wp2
        go_ret
        rw [← HF.out]
        exact ⟨_, rfl, hv4, below_call (below_call D hB3) b4⟩
      · rw [if_neg (fun h => h.elim h7 h8)] at h0
        have k8 : (k == 8) = false := by simpa using h8
        have HF : Hid (mergeS [] [] = r) := by show _ = _; rw [← h0]; rfl
        clear h0 hb h7 h8
        go_enter Tryz.func33, Tryz.ntmps33
        go_wp2_with fail
        with_reducible refine (between_is k false _ HK).mono ?_
        rintro x w1 ⟨rfl, b1⟩
        have hB1 := b1
        clear e0 e1 e2 e3 e4 e5 e6 e7 ez
        obtain ⟨e0, e1, e2, e3, e4, e5, e6, e7, ez⟩ := cellsEv k u o i a p q t (hcall hE0 b1)
        go_wp2_with fail
        refine (Merge_calls 0 0 0 0 none none [] [] _ (Row.nil _ _ _) (Row.nil _ _ _) (by omega) (by omega)).mono ?_
        rintro e w4 ⟨v4, rfl, hv4, b4⟩
        go_wp2
        go_ret
        rw [← HF.out]
        exact ⟨_, rfl, hv4, below_call (below_call D hB1) b4⟩
end Go.Proofs.YtbpfcjdjhponaaaGreat
namespace Go.Proofs.YtbpfcjdjhponaaaGreat
open Go.RowKit
open Sp
def Sp.fewT (s : Sta) : Bool := fewRo s.1 && fewSe s.2
abbrev SzEs (l : List Se) : Prop := ∀ s ∈ l, s.u.size ≤ 9223372036854775807 ∧ s.v.2.2.2.size ≤ 9223372036854775807
set_option maxHeartbeats 16000000 in
set_option maxRecDepth 100000 in
theorem FewT_is (n c : Nat) (A : Option Addr) (l : List En) (m d : Nat) (B : Option Addr) (s : List Se) (w : World) (hl : Row enEn 7 w (.slice A n c) l) (hs : Row enSe 6 w (.slice B m d) s) (hz : SzE l) (hy : SzEs s) (b : Bool) (h : Hid (fewT (l, s) = b)) :
    Calls Tryz.prog 9 #[agT A n c B m d] w fun e w' => e = .returned (.bool b) ∧ Below w.heap.size w w' := by
  have D := below_box (w := w) (bxT A n c B m d)
  have hb := heap_alloc_new w (bxT A n c B m d)
  replace hl := hl.below D
  replace hs := hs.below D
  have h0 := h.out
  unfold fewT at h0
  simp only at h0
  clear h
  obtain ⟨r, hr⟩ : ∃ r, fewRo l = r := ⟨_, rfl⟩
  rw [hr] at h0
  have HR := Lib.hid hr
  clear hr
  cases r with
  | false =>
    have HF : Hid (b = false) := by show _ = _; rw [← h0]; rfl
    clear h0
    obtain ⟨z0, z1, zz⟩ := cellsT hb
    go_enter Tryz.func9, Tryz.ntmps9
    go_wp2_with fail
    with_reducible refine (few8_is n c A l _ hl false hz HR).mono ?_
    rintro e w1 ⟨rfl, b1⟩
    replace hl := hl.below b1
    replace hs := hs.below b1
    replace hb := hcall hb b1
    replace D := below_call D b1
    clear b1 z0 z1 zz
    go_wp2
    go_ret
    rw [HF.out]
    exact ⟨rfl, D⟩
  | true =>
    have HF : Hid (fewSe s = b) := by show _ = _; rw [← h0]; rfl
    clear h0
    obtain ⟨z0, z1, zz⟩ := cellsT hb
    go_enter Tryz.func9, Tryz.ntmps9
    go_wp2_with fail
    with_reducible refine (few8_is n c A l _ hl true hz HR).mono ?_
    rintro e w1 ⟨rfl, b1⟩
    replace hl := hl.below b1
    replace hs := hs.below b1
    replace hb := hcall hb b1
    replace D := below_call D b1
    clear b1 z0 z1 zz
    obtain ⟨z0, z1, zz⟩ := cellsT hb
    go_wp2_with fail
    with_reducible refine (few9_is m d B s _ hs b hy HF).mono ?_
    rintro e w2 ⟨rfl, b2⟩
    replace hl := hl.below b2
    replace hs := hs.below b2
    replace hb := hcall hb b2
    replace D := below_call D b2
    clear b2 z0 z1 zz
    go_wp2
    go_ret
    exact ⟨rfl, D⟩
theorem fewT_sz {l : List En} {s : List Se} (h : fewT (l, s) = true) : SzRo l ∧ SzSe s ∧ l.length ≤ 80 ∧ s.length ≤ 50 := by
  unfold fewT at h
  rw [Bool.and_eq_true] at h
  obtain ⟨h1, h2⟩ := fewRo_sz h.1
  obtain ⟨h3, h4⟩ := few_sz h.2
  exact ⟨h1, h3, h2, h4⟩
theorem shortE_sz {k : Int} {u o : ByteArray} {i a p q : Int} {t : ByteArray} (h : shortE ⟨k, u, o, i, (a, p, q, t)⟩ = true) : u.size ≤ 140737488351232 ∧ o.size ≤ 140737488351232 ∧ t.size ≤ 140737488351232 := by
  unfold shortE at h
  simp only [Bool.and_eq_true, decide_eq_true_eq] at h
  omega
end Go.Proofs.YtbpfcjdjhponaaaGreat
namespace Go.Proofs.YtbpfcjdjhponaaaGreat
open Go.RowKit
open Sp
namespace Sp
def seeT (s : Sta) (p q : ByteArray) : PV × Bool := if seesRo s.1 p q then viewL (ofSe s.2 q) else ((0, 0, 0, ⟨#[]⟩), false)
def valT (s : Sta) (p q : ByteArray) : PV × Bool := if mayT s then seeT s p q else ((0, 0, 0, ⟨#[]⟩), false)
def watT (s : Sta) (q : ByteArray) : List ByteArray := if mayT s then (if (ofSe s.2 q).length = 0 then [] else watchRo s.1 q) else []
end Sp
theorem form_Se {w : World} {v : Value} {l : List Se} (h : Row enSe 6 w v l) : ∃ A c, v = .slice A l.length c := by
  obtain ⟨A, c, rfl, -⟩ := h
  exact ⟨A, c, rfl⟩
section
variable (n c : Nat) (A : Option Addr) (l : List En) (m d : Nat) (B : Option Addr) (s : List Se) (w : World) (hl : Row enEn 7 w (.slice A n c) l) (hs : Row enSe 6 w (.slice B m d) s)
include hl hs
set_option maxHeartbeats 16000000 in
set_option maxRecDepth 100000 in
theorem vValue_is (hz : SzRo l) (hy : SzSe s) (hn : n ≤ 100000) (hm : m ≤ 100000) (p q : ByteArray) (a b_ e_ : Int) (t : ByteArray) (y : Bool) (h : Hid (valT (l, s) p q = ((a, b_, e_, t), y))) :
    Calls Tryz.prog 19 #[agT A n c B m d, .string p, .string q] w fun e w' => e = .returned (.tuple #[.agg #[.int .i64 a, .int .i64 b_, .int .i64 e_, .string t], .bool y]) ∧ Below w.heap.size w w' := by
  have D := below_alloc0 (below_box (w := w) (bxT A n c B m d)) (bxPv 0 0 0 ⟨#[]⟩)
  have hb := halloc (heap_alloc_new w (bxT A n c B m d)) (bxPv 0 0 0 ⟨#[]⟩)
  have hg := heap_alloc_new (w.alloc (bxT A n c B m d)) (bxPv 0 0 0 ⟨#[]⟩)
  rw [size_alloc] at hg
  replace hl := hl.below D
  replace hs := hs.below D
  obtain ⟨z0, z1, zz⟩ := cellsT hb
  obtain ⟨g, hgg⟩ : ∃ g, w.heap.size = g := ⟨_, rfl⟩
  have h0 := h.out
  unfold valT at h0
  try simp only at h0
  clear h
  obtain ⟨r, hr⟩ : ∃ r, mayT (l, s) = r := ⟨_, rfl⟩
  rw [hr] at h0
  have HR := Lib.hid hr
  clear hr
  cases r with
  | false =>
    simp only [Bool.false_eq_true, if_false] at h0
    have HF : Hid (a = 0 ∧ b_ = 0 ∧ e_ = 0 ∧ t = ⟨#[]⟩ ∧ y = false) := by
      simp only [Prod.mk.injEq] at h0
      obtain ⟨⟨h1, h2, h3, h4⟩, h5⟩ := h0
      exact ⟨h1.symm, h2.symm, h3.symm, h4.symm, h5.symm⟩
    clear h0
    go_enter Tryz.func19, Tryz.ntmps19
    go_wp2_with fail
    try rw [hgg]
    with_reducible refine (MayT_is n c A l m d B s _ hl hs hz hy hn false HR).mono ?_
    rintro e w1 ⟨rfl, b1⟩
    try rw [hgg] at hb hg
    replace hl := hl.below b1
    replace hs := hs.below b1
    replace hb := hcall hb b1
    replace hg := hcall hg b1
    replace D := below_call D b1
    clear b1
    try clear z0 z1 zz
    obtain ⟨z0, z1, zz⟩ := cellsT hb
    obtain ⟨g0, g1, g2, g3, gz⟩ := cellsPv hg
    have fr := frozenG hg
    go_wp2_with fail
    exact bodyPost_ret (v := .tuple #[.agg #[.int .i64 0, .int .i64 0, .int .i64 0, .string ⟨#[]⟩], .bool false]) (by simp [results, Tryz.results19, go_sem, World.cell?, World.setCell, Array.getElem?_modify, hg, g0, g1, g2, g3]) rfl ⟨by rw [HF.out.1, HF.out.2.1, HF.out.2.2.1, HF.out.2.2.2.1, HF.out.2.2.2.2], (by first | exact D | exact below4 D (by omega) _ _ _ _)⟩
  | true =>
    simp only [if_true] at h0
    unfold seeT at h0
    try simp only at h0
    obtain ⟨r2, hr2⟩ : ∃ r, seesRo l p q = r := ⟨_, rfl⟩
    rw [hr2] at h0
    have HR2 := Lib.hid hr2
    clear hr2
    cases r2 with
    | false =>
      simp only [Bool.false_eq_true, if_false] at h0
      have HF : Hid (a = 0 ∧ b_ = 0 ∧ e_ = 0 ∧ t = ⟨#[]⟩ ∧ y = false) := by
        simp only [Prod.mk.injEq] at h0
        obtain ⟨⟨h1, h2, h3, h4⟩, h5⟩ := h0
        exact ⟨h1.symm, h2.symm, h3.symm, h4.symm, h5.symm⟩
      clear h0
      go_enter Tryz.func19, Tryz.ntmps19
      go_wp2_with fail
      try rw [hgg]
      with_reducible refine (MayT_is n c A l m d B s _ hl hs hz hy hn true HR).mono ?_
      rintro e w1 ⟨rfl, b1⟩
      try rw [hgg] at hb hg
      replace hl := hl.below b1
      replace hs := hs.below b1
      replace hb := hcall hb b1
      replace hg := hcall hg b1
      replace D := below_call D b1
      clear b1
      try clear z0 z1 zz
      obtain ⟨z0, z1, zz⟩ := cellsT hb
      go_wp2_with fail
      with_reducible refine (Sees8_is n c A l _ hl p q false HR2).mono ?_
      rintro e w2 ⟨rfl, b2⟩
      replace hl := hl.below b2
      replace hs := hs.below b2
      replace hb := hcall hb b2
      replace hg := hcall hg b2
      replace D := below_call D b2
      clear b2
      try clear z0 z1 zz
      obtain ⟨z0, z1, zz⟩ := cellsT hb
      obtain ⟨g0, g1, g2, g3, gz⟩ := cellsPv hg
      have fr := frozenG hg
      go_wp2_with fail
      exact bodyPost_ret (v := .tuple #[.agg #[.int .i64 0, .int .i64 0, .int .i64 0, .string ⟨#[]⟩], .bool false]) (by simp [results, Tryz.results19, go_sem, World.cell?, World.setCell, Array.getElem?_modify, hg, g0, g1, g2, g3]) rfl ⟨by rw [HF.out.1, HF.out.2.1, HF.out.2.2.1, HF.out.2.2.2.1, HF.out.2.2.2.2], (by first | exact D | exact below4 D (by omega) _ _ _ _)⟩
    | true =>
      simp only [if_true] at h0
      have HV := Lib.hid h0
      clear h0
      go_enter Tryz.func19, Tryz.ntmps19
      go_wp2_with fail
      try rw [hgg]
      with_reducible refine (MayT_is n c A l m d B s _ hl hs hz hy hn true HR).mono ?_
      rintro e w1 ⟨rfl, b1⟩
      try rw [hgg] at hb hg
      replace hl := hl.below b1
      replace hs := hs.below b1
      replace hb := hcall hb b1
      replace hg := hcall hg b1
      replace D := below_call D b1
      clear b1
      try clear z0 z1 zz
      obtain ⟨z0, z1, zz⟩ := cellsT hb
      go_wp2_with fail
      with_reducible refine (Sees8_is n c A l _ hl p q true HR2).mono ?_
      rintro e w2 ⟨rfl, b2⟩
      replace hl := hl.below b2
      replace hs := hs.below b2
      replace hb := hcall hb b2
      replace hg := hcall hg b2
      replace D := below_call D b2
      clear b2
      try clear z0 z1 zz
      obtain ⟨z0, z1, zz⟩ := cellsT hb
      go_wp2_with fail
      with_reducible refine (Of9_is m d B s _ hs q _ hm (Lib.hid rfl)).mono ?_
      rintro e w3 ⟨v, rfl, hr, b3⟩
      obtain ⟨vA, vc, rfl⟩ := form_Se hr
      replace hl := hl.below b3
      replace hs := hs.below b3
      replace hb := hcall hb b3
      replace hg := hcall hg b3
      replace D := below_call D b3
      clear b3
      try clear z0 z1 zz
      obtain ⟨z0, z1, zz⟩ := cellsT hb
      go_wp2_with fail
      with_reducible refine (bValue_calls _ vc vA _ a b_ e_ t y _ hr HV).mono ?_
      rintro e w4 ⟨rfl, b4⟩
      clear hr
      replace hl := hl.below b4
      replace hs := hs.below b4
      replace hb := hcall hb b4
      replace hg := hcall hg b4
      replace D := below_call D b4
      clear b4
      try clear z0 z1 zz
      obtain ⟨z0, z1, zz⟩ := cellsT hb
      obtain ⟨g0, g1, g2, g3, gz⟩ := cellsPv hg
      have fr := frozenG hg
      go_wp2_with fail
      exact bodyPost_ret (v := .tuple #[.agg #[.int .i64 a, .int .i64 b_, .int .i64 e_, .string t], .bool y]) (by simp [results, Tryz.results19, go_sem, World.cell?, World.setCell, Array.getElem?_modify, hg]) rfl ⟨rfl, below4 D (by omega) _ _ _ _⟩
set_option maxHeartbeats 16000000 in
set_option maxRecDepth 100000 in
theorem vWatch_is (hz : SzRo l) (hy : SzSe s) (hn : n ≤ 100000) (hm : m ≤ 100000) (q : ByteArray) (r : List ByteArray) (h : Hid (watT (l, s) q = r)) :
    Calls Tryz.prog 25 #[agT A n c B m d, .string q] w fun e w' => ∃ v, e = .returned v ∧ Row enS 1 w' v r ∧ Below w.heap.size w w' := by
  have D := below_box (w := w) (bxT A n c B m d)
  have hb := heap_alloc_new w (bxT A n c B m d)
  replace hl := hl.below D
  replace hs := hs.below D
  obtain ⟨z0, z1, zz⟩ := cellsT hb
  obtain ⟨g, hgg⟩ : ∃ g, w.heap.size = g := ⟨_, rfl⟩
  have h0 := h.out
  unfold watT at h0
  try simp only at h0
  clear h
  obtain ⟨r1, hr⟩ : ∃ r, mayT (l, s) = r := ⟨_, rfl⟩
  rw [hr] at h0
  have HR := Lib.hid hr
  clear hr
  cases r1 with
  | false =>
    simp only [Bool.false_eq_true, if_false] at h0
    have HF := Lib.hid h0
    clear h0
    go_enter Tryz.func25, Tryz.ntmps25
    go_wp2_with fail
    try rw [hgg]
    with_reducible refine (MayT_is n c A l m d B s _ hl hs hz hy hn false HR).mono ?_
    rintro e w1 ⟨rfl, b1⟩
    try rw [hgg] at hb
    replace hl := hl.below b1
    replace hs := hs.below b1
    replace hb := hcall hb b1
    replace D := below_call D b1
    clear b1
    try clear z0 z1 zz
    obtain ⟨z0, z1, zz⟩ := cellsT hb
    go_wp2
    go_ret
    rw [← HF.out]
    exact ⟨_, rfl, Row.nil _ _ _, D⟩
  | true =>
    simp only [if_true] at h0
    obtain ⟨os, hos⟩ : ∃ os, ofSe s q = os := ⟨_, rfl⟩
    rw [hos] at h0
    have HO := Lib.hid hos
    clear hos
    by_cases h1 : os.length = 0
    · rw [if_pos h1] at h0
      have HF := Lib.hid h0
      clear h0
      go_enter Tryz.func25, Tryz.ntmps25
      go_wp2_with fail
      try rw [hgg]
      with_reducible refine (MayT_is n c A l m d B s _ hl hs hz hy hn true HR).mono ?_
      rintro e w1 ⟨rfl, b1⟩
      try rw [hgg] at hb
      replace hl := hl.below b1
      replace hs := hs.below b1
      replace hb := hcall hb b1
      replace D := below_call D b1
      clear b1
      try clear z0 z1 zz
      obtain ⟨z0, z1, zz⟩ := cellsT hb
      go_wp2_with fail
      with_reducible refine (Of9_is m d B s _ hs q os hm HO).mono ?_
      rintro e w2 ⟨v, rfl, hr, b2⟩
      obtain ⟨vA, vc, rfl⟩ := form_Se hr
      clear hr
      replace hl := hl.below b2
      replace hs := hs.below b2
      replace hb := hcall hb b2
      replace D := below_call D b2
      clear b2
      try clear z0 z1 zz
      obtain ⟨z0, z1, zz⟩ := cellsT hb
      rw [h1]
      clear h1
      go_wp2
      go_ret
      rw [← HF.out]
      exact ⟨_, rfl, Row.nil _ _ _, D⟩
    · rw [if_neg h1] at h0
      have HF := Lib.hid h0
      clear h0
      go_enter Tryz.func25, Tryz.ntmps25
      go_wp2_with fail
      try rw [hgg]
      with_reducible refine (MayT_is n c A l m d B s _ hl hs hz hy hn true HR).mono ?_
      rintro e w1 ⟨rfl, b1⟩
      try rw [hgg] at hb
      replace hl := hl.below b1
      replace hs := hs.below b1
      replace hb := hcall hb b1
      replace D := below_call D b1
      clear b1
      try clear z0 z1 zz
      obtain ⟨z0, z1, zz⟩ := cellsT hb
      go_wp2_with fail
      with_reducible refine (Of9_is m d B s _ hs q os hm HO).mono ?_
      rintro e w2 ⟨v, rfl, hr, b2⟩
      obtain ⟨vA, vc, rfl⟩ := form_Se hr
      clear hr
      replace hl := hl.below b2
      replace hs := hs.below b2
      replace hb := hcall hb b2
      replace D := below_call D b2
      clear b2
      try clear z0 z1 zz
      obtain ⟨z0, z1, zz⟩ := cellsT hb
      have h2 : ((os.length : Int) == 0) = false := by rw [beq_eq_false_iff_ne]; omega
      clear h1
      go_wp2_with fail
      with_reducible refine (Watch8_is n c A l _ hl q r hn HF).mono ?_
      rintro e w3 ⟨v, rfl, hr, b3⟩
      replace hl := hl.below b3
      replace hs := hs.below b3
      replace hb := hcall hb b3
      replace D := below_call D b3
      clear b3
      try clear z0 z1 zz
      obtain ⟨z0, z1, zz⟩ := cellsT hb
      go_wp2
      go_ret
      exact ⟨v, rfl, hr, D⟩
end
end Go.Proofs.YtbpfcjdjhponaaaGreat
namespace Go.Proofs.YtbpfcjdjhponaaaGreat
namespace Sp
structure Sn where
  c : ByteArray
  v : Int × Int × Int × ByteArray
instance : DecidableEq Sn := fun a b => decidable_of_iff (a.c = b.c ∧ a.v = b.v) ⟨fun h => by cases a; cases b; simp only at h; obtain ⟨h1, h2⟩ := h; subst h1 h2; rfl, fun h => by subst h; exact ⟨rfl, rfl⟩⟩
structure Ch where
  c : ByteArray
  on : Bool
  v : Int × Int × Int × ByteArray
instance : DecidableEq Ch := fun a b => decidable_of_iff (a.c = b.c ∧ a.on = b.on ∧ a.v = b.v) ⟨fun h => by cases a; cases b; simp only at h; obtain ⟨h1, h2, h3⟩ := h; subst h1 h2 h3; rfl, fun h => by subst h; exact ⟨rfl, rfl, rfl⟩⟩
def atT (l : List Sn) (c : ByteArray) : Nat := (l.reverse.dropWhile fun x => !less x.c c).length
def restT (l : List Sn) (c : ByteArray) : List Sn := delK Sn.c l c
def setT (l : List Sn) (x : Ch) : List Sn :=
  if x.on then (restT l x.c).take (atT (restT l x.c) x.c) ++ ⟨x.c, x.v⟩ :: (restT l x.c).drop (atT (restT l x.c) x.c) else restT l x.c
def getT (l : List Sn) (c : ByteArray) : (Int × Int × Int × ByteArray) × Bool := match getK Sn.c l c with | some x => (x.v, true) | none => ((0, 0, 0, ⟨#[]⟩), false)
def chT (a b : List Sn) (c : ByteArray) : Option Ch := if getT a c = getT b c then none else some ⟨c, (getT b c).2, (getT b c).1⟩
def namesT (a b : List Sn) : List ByteArray := mergeS (a.map Sn.c) (b.map Sn.c)
def changesT (a b : List Sn) : List Ch := (namesT a b).filterMap (chT a b)
end Sp
end Go.Proofs.YtbpfcjdjhponaaaGreat
namespace Go.Proofs.YtbpfcjdjhponaaaGreat
open Go.RowKit
open Sp
def enSn (x : Sn) : List Value := [.string x.c, .int .i64 x.v.1, .int .i64 x.v.2.1, .int .i64 x.v.2.2.1, .string x.v.2.2.2]
theorem enSn_len (x : Sn) : (enSn x).length = 5 := rfl
theorem enSn_one (x : Sn) : ∀ u ∈ enSn x, u.oneCell' = true := by intro u hu; simp only [enSn, List.mem_cons, List.mem_nil_iff, or_false] at hu; rcases hu with rfl | rfl | rfl | rfl | rfl <;> rfl
abbrev zvSn : Value := .agg #[.string ⟨#[]⟩, .int .i64 0, .int .i64 0, .int .i64 0, .string ⟨#[]⟩]
theorem infoSn : (Tryz.prog.info? 59).map (fun i => (i.zero, i.size, i.bytes)) = some (some zvSn, 5, 56) := by kernel_rfl
abbrev bxSn (a_ : ByteArray) (b_ : Int) (c_ : Int) (d_ : Int) (e_ : ByteArray) : Obj := .cells #[.string a_, .int .i64 b_, .int .i64 c_, .int .i64 d_, .string e_] 59
theorem rowSn {W : World} {A : Option Addr} {n c : Nat} {l : List Sn} (h : Row enSn 5 W (.slice A n c) l) (i : Nat) (hi : i < l.length) (a_ : ByteArray) (b_ : Int) (c_ : Int) (d_ : Int) (e_ : ByteArray) (he : l[i] = ⟨a_, b_, c_, d_, e_⟩) :
    ∃ ad, A = some ad ∧ W.cell? (ad.add (i * 5)) = some (.string a_) ∧ W.cell? ⟨(ad.add (i * 5)).block, (ad.add (i * 5)).off + 1, none⟩ = some (.int .i64 b_) ∧ W.cell? ⟨(ad.add (i * 5)).block, (ad.add (i * 5)).off + 2, none⟩ = some (.int .i64 c_) ∧ W.cell? ⟨(ad.add (i * 5)).block, (ad.add (i * 5)).off + 3, none⟩ = some (.int .i64 d_) ∧ W.cell? ⟨(ad.add (i * 5)).block, (ad.add (i * 5)).off + 4, none⟩ = some (.string e_) := by
  obtain ⟨ad, e, hc⟩ := h.get enSn_len i hi
  rw [he] at hc
  exact ⟨ad, e, hc 0 (by omega), hc 1 (by omega), hc 2 (by omega), hc 3 (by omega), hc 4 (by omega)⟩
set_option maxHeartbeats 8000000 in
set_option maxRecDepth 100000 in
theorem neqSn (a_ : ByteArray) (b_ : Int) (c_ : Int) (d_ : Int) (e_ : ByteArray) (a_' : ByteArray) (b_' : Int) (c_' : Int) (d_' : Int) (e_' : ByteArray) (W : World) :
    (binOp .neq 59 (.agg #[.string a_, .int .i64 b_, .int .i64 c_, .int .i64 d_, .string e_]) (.agg #[.string a_', .int .i64 b_', .int .i64 c_', .int .i64 d_', .string e_'])).run Tryz.prog W = .ok (.bool (!(a_.toList == a_'.toList && (b_ == b_' && (c_ == c_' && (d_ == d_' && (e_.toList == e_'.toList))))))) W := by
  cases h0 : a_.toList == a_'.toList
  · simp [go_sem, h0]
  cases h1 : b_ == b_'
  · simp [go_sem, h0, h1]
  cases h2 : c_ == c_'
  · simp [go_sem, h0, h1, h2]
  cases h3 : d_ == d_'
  · simp [go_sem, h0, h1, h2, h3]
  cases h4 : e_.toList == e_'.toList <;> simp [go_sem, h0, h1, h2, h3, h4]
theorem eqvSn (a_ : ByteArray) (b_ : Int) (c_ : Int) (d_ : Int) (e_ : ByteArray) (a_' : ByteArray) (b_' : Int) (c_' : Int) (d_' : Int) (e_' : ByteArray) : (a_.toList == a_'.toList && (b_ == b_' && (c_ == c_' && (d_ == d_' && (e_.toList == e_'.toList))))) = decide ((⟨a_, b_, c_, d_, e_⟩ : Sn) = ⟨a_', b_', c_', d_', e_'⟩) := by
  rw [Bool.eq_iff_iff, decide_eq_true_eq]
  simp only [Bool.and_eq_true, beq_iff_eq, toList_inj', Sn.mk.injEq, Prod.mk.injEq]
end Go.Proofs.YtbpfcjdjhponaaaGreat
namespace Go.Proofs.YtbpfcjdjhponaaaGreat
open Go.RowKit
open Sp
def enCh (x : Ch) : List Value := [.string x.c, .bool x.on, .int .i64 x.v.1, .int .i64 x.v.2.1, .int .i64 x.v.2.2.1, .string x.v.2.2.2]
theorem enCh_len (x : Ch) : (enCh x).length = 6 := rfl
theorem enCh_one (x : Ch) : ∀ u ∈ enCh x, u.oneCell' = true := by intro u hu; simp only [enCh, List.mem_cons, List.mem_nil_iff, or_false] at hu; rcases hu with rfl | rfl | rfl | rfl | rfl | rfl <;> rfl
abbrev zvCh : Value := .agg #[.string ⟨#[]⟩, .bool false, .int .i64 0, .int .i64 0, .int .i64 0, .string ⟨#[]⟩]
theorem infoCh : (Tryz.prog.info? 65).map (fun i => (i.zero, i.size, i.bytes)) = some (some zvCh, 6, 64) := by kernel_rfl
abbrev bxCh (a_ : ByteArray) (b_ : Bool) (c_ : Int) (d_ : Int) (e_ : Int) (f_ : ByteArray) : Obj := .cells #[.string a_, .bool b_, .int .i64 c_, .int .i64 d_, .int .i64 e_, .string f_] 65
theorem rowCh {W : World} {A : Option Addr} {n c : Nat} {l : List Ch} (h : Row enCh 6 W (.slice A n c) l) (i : Nat) (hi : i < l.length) (a_ : ByteArray) (b_ : Bool) (c_ : Int) (d_ : Int) (e_ : Int) (f_ : ByteArray) (he : l[i] = ⟨a_, b_, c_, d_, e_, f_⟩) :
    ∃ ad, A = some ad ∧ W.cell? (ad.add (i * 6)) = some (.string a_) ∧ W.cell? ⟨(ad.add (i * 6)).block, (ad.add (i * 6)).off + 1, none⟩ = some (.bool b_) ∧ W.cell? ⟨(ad.add (i * 6)).block, (ad.add (i * 6)).off + 2, none⟩ = some (.int .i64 c_) ∧ W.cell? ⟨(ad.add (i * 6)).block, (ad.add (i * 6)).off + 3, none⟩ = some (.int .i64 d_) ∧ W.cell? ⟨(ad.add (i * 6)).block, (ad.add (i * 6)).off + 4, none⟩ = some (.int .i64 e_) ∧ W.cell? ⟨(ad.add (i * 6)).block, (ad.add (i * 6)).off + 5, none⟩ = some (.string f_) := by
  obtain ⟨ad, e, hc⟩ := h.get enCh_len i hi
  rw [he] at hc
  exact ⟨ad, e, hc 0 (by omega), hc 1 (by omega), hc 2 (by omega), hc 3 (by omega), hc 4 (by omega), hc 5 (by omega)⟩
theorem cellsCh {W : World} {g : Nat} (a_ : ByteArray) (b_ : Bool) (c_ : Int) (d_ : Int) (e_ : Int) (f_ : ByteArray) (h : W.heap[g]? = some (bxCh a_ b_ c_ d_ e_ f_)) :
    W.cell? ⟨g, 0, none⟩ = some (.string a_) ∧ W.cell? ⟨g, 1, none⟩ = some (.bool b_) ∧ W.cell? ⟨g, 2, none⟩ = some (.int .i64 c_) ∧ W.cell? ⟨g, 3, none⟩ = some (.int .i64 d_) ∧ W.cell? ⟨g, 4, none⟩ = some (.int .i64 e_) ∧ W.cell? ⟨g, 5, none⟩ = some (.string f_) ∧ g < W.heap.size :=
  ⟨by simp [World.cell?, h], by simp [World.cell?, h], by simp [World.cell?, h], by simp [World.cell?, h], by simp [World.cell?, h], by simp [World.cell?, h], (Array.getElem?_eq_some_iff.1 h).1⟩
set_option maxHeartbeats 8000000 in
set_option maxRecDepth 100000 in
theorem neqCh (a_ : ByteArray) (b_ : Bool) (c_ : Int) (d_ : Int) (e_ : Int) (f_ : ByteArray) (a_' : ByteArray) (b_' : Bool) (c_' : Int) (d_' : Int) (e_' : Int) (f_' : ByteArray) (W : World) :
    (binOp .neq 65 (.agg #[.string a_, .bool b_, .int .i64 c_, .int .i64 d_, .int .i64 e_, .string f_]) (.agg #[.string a_', .bool b_', .int .i64 c_', .int .i64 d_', .int .i64 e_', .string f_'])).run Tryz.prog W = .ok (.bool (!(a_.toList == a_'.toList && (b_ == b_' && (c_ == c_' && (d_ == d_' && (e_ == e_' && (f_.toList == f_'.toList)))))))) W := by
  cases h0 : a_.toList == a_'.toList
  · simp [go_sem, h0]
  cases h1 : b_ == b_'
  · simp [go_sem, h0, h1]
  cases h2 : c_ == c_'
  · simp [go_sem, h0, h1, h2]
  cases h3 : d_ == d_'
  · simp [go_sem, h0, h1, h2, h3]
  cases h4 : e_ == e_'
  · simp [go_sem, h0, h1, h2, h3, h4]
  cases h5 : f_.toList == f_'.toList <;> simp [go_sem, h0, h1, h2, h3, h4, h5]
theorem eqvCh (a_ : ByteArray) (b_ : Bool) (c_ : Int) (d_ : Int) (e_ : Int) (f_ : ByteArray) (a_' : ByteArray) (b_' : Bool) (c_' : Int) (d_' : Int) (e_' : Int) (f_' : ByteArray) : (a_.toList == a_'.toList && (b_ == b_' && (c_ == c_' && (d_ == d_' && (e_ == e_' && (f_.toList == f_'.toList)))))) = decide ((⟨a_, b_, c_, d_, e_, f_⟩ : Ch) = ⟨a_', b_', c_', d_', e_', f_'⟩) := by
  rw [Bool.eq_iff_iff, decide_eq_true_eq]
  simp only [Bool.and_eq_true, beq_iff_eq, toList_inj', Ch.mk.injEq, Prod.mk.injEq]
end Go.Proofs.YtbpfcjdjhponaaaGreat
