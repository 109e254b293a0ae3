import Derived.Deep.QuietTactic
import Derived.BigQuiet
import Derived.Laws.Rows
import Derived.Test.YtbpfcjdjhponaaaGreatPScriptApplies10
set_option linter.unusedVariables false
set_option linter.unusedSimpArgs false
namespace Go.Proofs.YtbpfcjdjhponaaaGreat
open Go.RowKit
open Sp
theorem bodyPost_ct {P : Program} {fn : Func} {R : Ending → World → Prop} {a : Act} {w : World} {p u : Tmp} {ty : TypeId} (h : fn.results = #[.cell p ty, .tmp u]) (g : Nat) (t : TypeId) (cs : Array Value) (fr : Nat × Nat) (d : TypeDesc)
    (hp : a.tmps.getD p undef = .pointer (some ⟨g, 0, none⟩)) (hg : w.heap[g]? = some (.cells cs t fr))
    (hu : P.underlying ty = some d) (hd : (match d with | .struct _ | .array _ _ => true | _ => false) = true) (hi : (P.info? ty).map (·.size) = some cs.size)
    (hde : a.defers = []) (hR : R (.returned (.tuple #[.agg cs, a.tmps.getD u undef])) w) : bodyPost P fn R .ret a w := by
  refine bodyPost_ret ?_ hde hR
  have hp' : a.tmps[p]?.getD undef = .pointer (some ⟨g, 0, none⟩) := by simpa using hp
  simp [results, h, hp', asAddr, run_loadVar_row w g t ty cs fr d hg hu hd hi]
theorem info_st : (Tryz.prog.info? 25).map (·.size) = some 2 := by kernel_rfl
theorem openT {W : World} {g : Nat} {A : Option Addr} {n c : Nat} {B : Option Addr} {m d : Nat} (h : W.heap[g]? = some (bxT A n c B m d)) : (W.cell? ⟨g, 0, none⟩ = some (.slice A n c) ∧ W.cell? ⟨g, 1, none⟩ = some (.slice B m d)) ∧ (W.frozen? ⟨g, 0, none⟩ = false ∧ W.frozen? ⟨g, 1, none⟩ = false) ∧ g < W.heap.size :=
  ⟨⟨by simp [World.cell?, h], by simp [World.cell?, h]⟩, ⟨by simp [World.frozen?, h], by simp [World.frozen?, h]⟩, (Array.getElem?_eq_some_iff.1 h).1⟩
theorem hset_neT {w : World} {g k i : Nat} {v : Value} {o : Option Obj} (hk : k ≠ g) (h : w.heap[k]? = o) : (w.setCell ⟨g, i, none⟩ v).heap[k]? = o := by
  simp [World.setCell, Array.getElem?_modify, Ne.symm hk, h]
theorem hset0 {w : World} {g : Nat} {A : Option Addr} {n c : Nat} {B : Option Addr} {m d : Nat} (h : w.heap[g]? = some (bxT A n c B m d)) (A' : Option Addr) (n' c' : Nat) : (w.setCell ⟨g, 0, none⟩ (.slice A' n' c')).heap[g]? = some (bxT A' n' c' B m d) := by
  simp [World.setCell, Array.getElem?_modify, h]
theorem hset1 {w : World} {g : Nat} {A : Option Addr} {n c : Nat} {B : Option Addr} {m d : Nat} (h : w.heap[g]? = some (bxT A n c B m d)) (A' : Option Addr) (n' c' : Nat) : (w.setCell ⟨g, 1, none⟩ (.slice A' n' c')).heap[g]? = some (bxT A n c A' n' c') := by
  simp [World.setCell, Array.getElem?_modify, h]
theorem Row.setT {α : Type} {enc : α → List Value} {k : Nat} {w : World} {v : Value} {xs : List α} {g : Nat} {A : Option Addr} {n c : Nat} {B : Option Addr} {m d : Nat} (h : Row enc k w v xs) (hns : ∀ y u, u ∈ enc y → ∀ A n c, u ≠ .slice A n c) (hg : w.heap[g]? = some (bxT A n c B m d)) (i : Nat) (x : Value) : Row enc k (w.setCell ⟨g, i, none⟩ x) v xs := by
  obtain ⟨A', c', rfl, h1, h2, h3, h4⟩ := h
  refine ⟨A', c', rfl, h1, h2, h3, fun hp => ?_⟩
  obtain ⟨ad, e, hc⟩ := h4 hp
  refine ⟨ad, e, fun j u hu => ?_⟩
  have h5 := hc j u hu
  have hm : u ∈ xs.flatMap enc := List.mem_of_getElem? hu
  obtain ⟨y, _, hy⟩ := List.mem_flatMap.1 hm
  have hb : g ≠ (ad.add j).block := by
    intro e
    unfold World.cell? at h5
    rw [← e, hg] at h5
    simp only at h5
    split at h5
    · cases h5
    · rcases Array.getElem?_eq_some_iff.1 h5 with ⟨ho, h6⟩
      have : (ad.add j).off = 0 ∨ (ad.add j).off = 1 := by simp at ho; omega
      rcases this with h7 | h7
      · simp only [h7] at h6; exact hns y u hy _ _ _ h6.symm
      · simp only [h7] at h6; exact hns y u hy _ _ _ h6.symm
  rw [World.cell?_setCell_far _ _ _ _ hb]
  exact h5
def Fresh (w : World) (v v' : Value) : Prop := v' = v ∨ ∀ g, v'.ownBlock = some g → w.heap.size ≤ g
theorem Fresh.self {w : World} {v : Value} : Fresh w v v := .inl rfl
theorem Fresh.up {w w1 : World} {v v' : Value} (h : v' = v ∨ ∀ g, v'.ownBlock = some g → w1.heap.size ≤ g) (hs : w.heap.size ≤ w1.heap.size) : Fresh w v v' := h.imp id fun h g hg => Nat.le_trans hs (h g hg)
theorem nsEn : ∀ (y : En) (u : Value), u ∈ enEn y → ∀ A n c, u ≠ .slice A n c := by
  intro y u hu A n c e
  subst e
  simp [enEn] at hu
theorem nsSe : ∀ (y : Se) (u : Value), u ∈ enSe y → ∀ A n c, u ≠ .slice A n c := by
  intro y u hu A n c e
  subst e
  simp [enSe] at hu
section
variable (n c : Nat) (A : Option Addr) (l : List En) (m d : Nat) (B : Option Addr) (s : List Se) (w : World) (hl : Row enEn 7 w (.slice A n c) l) (hs : Row enSe 6 w (.slice B m d) s) (hz : SzRo l) (hy : SzSe s) (hn : n ≤ 900)
include hl hs hz hy hn
set_option maxHeartbeats 16000000 in
set_option maxRecDepth 100000 in
theorem apply_no (k : Int) (u o : ByteArray) (i a p q : Int) (t : ByteArray) (er : Int) (r : Sta) (HM : Hid (mayT (l, s) = false)) (h : Hid (r = (l, s) ∧ er = 1)) :
    Calls Tryz.prog 16 #[agT A n c B m d, .agg #[.int .i64 k, .string u, .string o, .int .i64 i, .int .i64 a, .int .i64 p, .int .i64 q, .string t]] w fun x w' => ∃ A' n' c' B' m' d', x = .returned (.tuple #[agT A' n' c' B' m' d', .int .i64 er]) ∧ Row enEn 7 w' (.slice A' n' c') r.1 ∧ Row enSe 6 w' (.slice B' m' d') r.2 ∧ Below w.heap.size w w' ∧ Fresh w (.slice A n c) (.slice A' n' c') ∧ Fresh w (.slice B m d) (.slice B' m' d') := by
  have D : Below w.heap.size w (((w.alloc (bxT A n c B m d)).alloc (bxEv k u o i a p q t)).alloc (bxT none 0 0 none 0 0)) := below_alloc0 (below_alloc0 (below_box _) _) _
  have S0 := halloc (halloc (heap_alloc_new w (bxT A n c B m d)) (bxEv k u o i a p q t)) (bxT none 0 0 none 0 0)
  have E0 := halloc (heap_alloc_new (w.alloc (bxT A n c B m d)) (bxEv k u o i a p q t)) (bxT none 0 0 none 0 0)
  have Z0 := heap_alloc_new ((w.alloc (bxT A n c B m d)).alloc (bxEv k u o i a p q t)) (bxT none 0 0 none 0 0)
  simp only [size_alloc] at E0 Z0
  replace hl := hl.below D
  replace hs := hs.below D
  obtain ⟨⟨s0, s1⟩, ⟨sf0, sf1⟩, sz⟩ := openT S0
  go_enter Tryz.func16, Tryz.ntmps16
  go_wp2_with fail
  with_reducible refine (MayT_is n c A l m d B s _ hl hs hz hy (by omega) false HM).mono ?_
  rintro e w1 ⟨rfl, b1⟩
  replace hl := hl.below b1
  replace hs := hs.below b1
  replace S0 := hcall S0 b1
  replace E0 := hcall E0 b1
  replace Z0 := hcall Z0 b1
  replace D := below_call D b1
  clear b1 s0 s1 sf0 sf1 sz
  have hz6 : w.heap.size + 1 + 1 < w1.heap.size := (Array.getElem?_eq_some_iff.1 Z0).1
  obtain ⟨⟨s0, s1⟩, ⟨sf0, sf1⟩, sz⟩ := openT S0
  obtain ⟨⟨z0, z1⟩, ⟨zf0, zf1⟩, zz⟩ := openT Z0
  have Z6 : (w1.setCell ⟨w.heap.size + 1 + 1, 0, none⟩ (.slice A n c)).heap[w.heap.size + 1 + 1]? = some (bxT A n c none 0 0) := hset0 Z0 A n c
  have Z7 : ((w1.setCell ⟨w.heap.size + 1 + 1, 0, none⟩ (.slice A n c)).setCell ⟨w.heap.size + 1 + 1, 1, none⟩ (.slice B m d)).heap[w.heap.size + 1 + 1]? = some (bxT A n c B m d) := hset1 Z6 B m d
  have D7 := bset (bset D (w.heap.size + 1 + 1) 0 (.slice A n c) (by omega)) (w.heap.size + 1 + 1) 1 (.slice B m d) (by omega)
  have hl7 := Row.setT (Row.setT hl nsEn Z0 0 (.slice A n c)) nsEn Z6 1 (.slice B m d)
  have hs7 := Row.setT (Row.setT hs nsSe Z0 0 (.slice A n c)) nsSe Z6 1 (.slice B m d)
  obtain ⟨⟨y0, y1⟩, ⟨yf0, yf1⟩, yz⟩ := openT Z6
  go_wp2
  (try simp only [Exit.inBlock, Exit.then])
  (refine bodyPost_ct rfl (w.heap.size + 1 + 1) 25 #[.slice A n c, .slice B m d] (0, 0) _ rfl ?_ Tryz.underlying25 rfl info_st rfl ?_)
  · exact Z7
  · rw [h.out.1, h.out.2]
    exact ⟨A, n, c, B, m, d, rfl, hl7, hs7, D7, .self, .self⟩
set_option maxHeartbeats 16000000 in
set_option maxRecDepth 100000 in
theorem apply_ros_er (k : Int) (u o : ByteArray) (i a p q : Int) (t : ByteArray) (er : Int) (r9l : List En) (r : Sta) (HM : Hid (mayT (l, s) = true)) (HK : Hid (decide (1 ≤ k ∧ k ≤ 6) = true)) (hu : u.size ≤ 140737488351232) (ho : o.size ≤ 140737488351232) (HR : Hid (doRo l k u o = (r9l, er))) (hne : Hid ((er == 0) = false)) (h : Hid (r = (l, s) ∧ er = er)) :
    Calls Tryz.prog 16 #[agT A n c B m d, .agg #[.int .i64 k, .string u, .string o, .int .i64 i, .int .i64 a, .int .i64 p, .int .i64 q, .string t]] w fun x w' => ∃ A' n' c' B' m' d', x = .returned (.tuple #[agT A' n' c' B' m' d', .int .i64 er]) ∧ Row enEn 7 w' (.slice A' n' c') r.1 ∧ Row enSe 6 w' (.slice B' m' d') r.2 ∧ Below w.heap.size w w' ∧ Fresh w (.slice A n c) (.slice A' n' c') ∧ Fresh w (.slice B m d) (.slice B' m' d') := by
  have D : Below w.heap.size w (((w.alloc (bxT A n c B m d)).alloc (bxEv k u o i a p q t)).alloc (bxT none 0 0 none 0 0)) := below_alloc0 (below_alloc0 (below_box _) _) _
  have S0 := halloc (halloc (heap_alloc_new w (bxT A n c B m d)) (bxEv k u o i a p q t)) (bxT none 0 0 none 0 0)
  have E0 := halloc (heap_alloc_new (w.alloc (bxT A n c B m d)) (bxEv k u o i a p q t)) (bxT none 0 0 none 0 0)
  have Z0 := heap_alloc_new ((w.alloc (bxT A n c B m d)).alloc (bxEv k u o i a p q t)) (bxT none 0 0 none 0 0)
  simp only [size_alloc] at E0 Z0
  replace hl := hl.below D
  replace hs := hs.below D
  obtain ⟨⟨s0, s1⟩, ⟨sf0, sf1⟩, sz⟩ := openT S0
  go_enter Tryz.func16, Tryz.ntmps16
  go_wp2_with fail
  with_reducible refine (MayT_is n c A l m d B s _ hl hs hz hy (by omega) true HM).mono ?_
  rintro e w1 ⟨rfl, b1⟩
  replace hl := hl.below b1
  replace hs := hs.below b1
  replace S0 := hcall S0 b1
  replace E0 := hcall E0 b1
  replace Z0 := hcall Z0 b1
  replace D := below_call D b1
  clear b1 s0 s1 sf0 sf1 sz
  have hz6 : w.heap.size + 1 + 1 < w1.heap.size := (Array.getElem?_eq_some_iff.1 Z0).1
  have X0 : (w1.alloc (bxT A n c B m d)).heap[w1.heap.size]? = some (bxT A n c B m d) := heap_alloc_new _ _
  obtain ⟨⟨s0, s1⟩, ⟨sf0, sf1⟩, sz⟩ := openT S0
  obtain ⟨e0, e1, e2, e3, e4, e5, e6, e7, ez⟩ := cellsEv k u o i a p q t E0
  replace hl := hl.below (below_box (bxT A n c B m d))
  replace hs := hs.below (below_box (bxT A n c B m d))
  replace S0 := halloc S0 (bxT A n c B m d)
  replace E0 := halloc E0 (bxT A n c B m d)
  replace Z0 := halloc Z0 (bxT A n c B m d)
  replace D := below_alloc0 D (bxT A n c B m d)
  obtain ⟨e0', e1', e2', e3', e4', e5', e6', e7', ez'⟩ := cellsEv k u o i a p q t E0
  go_wp2_with fail
  with_reducible refine (between_is k true _ HK).mono ?_
  rintro e w2 ⟨rfl, b2⟩
  replace hl := hl.below b2
  replace hs := hs.below b2
  replace S0 := hcall S0 b2
  replace E0 := hcall E0 b2
  replace Z0 := hcall Z0 b2
  replace X0 := hcall X0 b2
  replace D := below_call D b2
  clear b2 s0 s1 sf0 sf1 sz e0 e1 e2 e3 e4 e5 e6 e7 ez e0' e1' e2' e3' e4' e5' e6' e7' ez'
  obtain ⟨⟨s0, s1⟩, ⟨sf0, sf1⟩, sz⟩ := openT S0
  obtain ⟨e0, e1, e2, e3, e4, e5, e6, e7, ez⟩ := cellsEv k u o i a p q t E0
  have hfz := D.size
  go_wp2_with fail
  with_reducible refine (Do8F_is n c A l _ hl k u o r9l er hz hn hu ho HR).mono ?_
  rintro e w3 ⟨v9, rfl, r9, b3, hf9⟩
  replace hl := hl.below b3
  replace hs := hs.below b3
  replace S0 := hcall S0 b3
  replace E0 := hcall E0 b3
  replace Z0 := hcall Z0 b3
  replace X0 := hcall X0 b3
  replace D := below_call D b3
  clear b3 s0 s1 sf0 sf1 sz e0 e1 e2 e3 e4 e5 e6 e7 ez
  obtain ⟨n9, hn9⟩ : ∃ n9, r9l.length = n9 := ⟨_, rfl⟩
  obtain ⟨A9, c9, rfl⟩ := Row.form8 r9 n9 hn9
  clear hn9
  have he2 := hne.out
  obtain ⟨⟨x0, x1⟩, ⟨xf0, xf1⟩, xz⟩ := openT X0
  have X5 : (w3.setCell ⟨w1.heap.size, 0, none⟩ (.slice A9 n9 c9)).heap[w1.heap.size]? = some (bxT A9 n9 c9 B m d) := hset0 X0 A9 n9 c9
  have S5 : (w3.setCell ⟨w1.heap.size, 0, none⟩ (.slice A9 n9 c9)).heap[w.heap.size]? = some (bxT A n c B m d) := hset_neT (by omega) S0
  have Z5 : (w3.setCell ⟨w1.heap.size, 0, none⟩ (.slice A9 n9 c9)).heap[w.heap.size + 1 + 1]? = some (bxT none 0 0 none 0 0) := hset_neT (by omega) Z0
  have D5 := bset D w1.heap.size 0 (.slice A9 n9 c9) (by omega)
  have hl5 := Row.setT hl nsEn X0 0 (.slice A9 n9 c9)
  have hs5 := Row.setT hs nsSe X0 0 (.slice A9 n9 c9)
  have r5 := Row.setT r9 nsEn X0 0 (.slice A9 n9 c9)
  obtain ⟨⟨x50, x51⟩, ⟨xf50, xf51⟩, x5z⟩ := openT X5
  obtain ⟨⟨s50, s51⟩, ⟨sf50, sf51⟩, s5z⟩ := openT S5
  obtain ⟨⟨z50, z51⟩, ⟨zf50, zf51⟩, z5z⟩ := openT Z5
  have Z6 : ((w3.setCell ⟨w1.heap.size, 0, none⟩ (.slice A9 n9 c9)).setCell ⟨w.heap.size + 1 + 1, 0, none⟩ (.slice A n c)).heap[w.heap.size + 1 + 1]? = some (bxT A n c none 0 0) := hset0 Z5 A n c
  have Z7 : (((w3.setCell ⟨w1.heap.size, 0, none⟩ (.slice A9 n9 c9)).setCell ⟨w.heap.size + 1 + 1, 0, none⟩ (.slice A n c)).setCell ⟨w.heap.size + 1 + 1, 1, none⟩ (.slice B m d)).heap[w.heap.size + 1 + 1]? = some (bxT A n c B m d) := hset1 Z6 B m d
  have D7 := bset (bset D5 (w.heap.size + 1 + 1) 0 (.slice A n c) (by omega)) (w.heap.size + 1 + 1) 1 (.slice B m d) (by omega)
  have hl7 := Row.setT (Row.setT hl5 nsEn Z5 0 (.slice A n c)) nsEn Z6 1 (.slice B m d)
  have hs7 := Row.setT (Row.setT hs5 nsSe Z5 0 (.slice A n c)) nsSe Z6 1 (.slice B m d)
  obtain ⟨⟨y0, y1⟩, ⟨yf0, yf1⟩, yz⟩ := openT Z6
  go_wp2
  (try simp only [Exit.inBlock, Exit.then])
  (refine bodyPost_ct rfl (w.heap.size + 1 + 1) 25 #[.slice A n c, .slice B m d] (0, 0) _ rfl ?_ Tryz.underlying25 rfl info_st rfl ?_)
  · exact Z7
  · rw [h.out.1]
    exact ⟨A, n, c, B, m, d, rfl, hl7, hs7, D7, .self, .self⟩
set_option maxHeartbeats 16000000 in
set_option maxRecDepth 100000 in
theorem apply_ros_ok (k : Int) (u o : ByteArray) (i a p q : Int) (t : ByteArray) (r9l : List En) (r : Sta) (HM : Hid (mayT (l, s) = true)) (HK : Hid (decide (1 ≤ k ∧ k ≤ 6) = true)) (hu : u.size ≤ 140737488351232) (ho : o.size ≤ 140737488351232) (HR : Hid (doRo l k u o = (r9l, 0))) (h : Hid (r = (r9l, s) ∧ (0 : Int) = 0)) :
    Calls Tryz.prog 16 #[agT A n c B m d, .agg #[.int .i64 k, .string u, .string o, .int .i64 i, .int .i64 a, .int .i64 p, .int .i64 q, .string t]] w fun x w' => ∃ A' n' c' B' m' d', x = .returned (.tuple #[agT A' n' c' B' m' d', .int .i64 0]) ∧ Row enEn 7 w' (.slice A' n' c') r.1 ∧ Row enSe 6 w' (.slice B' m' d') r.2 ∧ Below w.heap.size w w' ∧ Fresh w (.slice A n c) (.slice A' n' c') ∧ Fresh w (.slice B m d) (.slice B' m' d') := by
  have D : Below w.heap.size w (((w.alloc (bxT A n c B m d)).alloc (bxEv k u o i a p q t)).alloc (bxT none 0 0 none 0 0)) := below_alloc0 (below_alloc0 (below_box _) _) _
  have S0 := halloc (halloc (heap_alloc_new w (bxT A n c B m d)) (bxEv k u o i a p q t)) (bxT none 0 0 none 0 0)
  have E0 := halloc (heap_alloc_new (w.alloc (bxT A n c B m d)) (bxEv k u o i a p q t)) (bxT none 0 0 none 0 0)
  have Z0 := heap_alloc_new ((w.alloc (bxT A n c B m d)).alloc (bxEv k u o i a p q t)) (bxT none 0 0 none 0 0)
  simp only [size_alloc] at E0 Z0
  replace hl := hl.below D
  replace hs := hs.below D
  obtain ⟨⟨s0, s1⟩, ⟨sf0, sf1⟩, sz⟩ := openT S0
  go_enter Tryz.func16, Tryz.ntmps16
  go_wp2_with fail
  with_reducible refine (MayT_is n c A l m d B s _ hl hs hz hy (by omega) true HM).mono ?_
  rintro e w1 ⟨rfl, b1⟩
  replace hl := hl.below b1
  replace hs := hs.below b1
  replace S0 := hcall S0 b1
  replace E0 := hcall E0 b1
  replace Z0 := hcall Z0 b1
  replace D := below_call D b1
  clear b1 s0 s1 sf0 sf1 sz
  have hz6 : w.heap.size + 1 + 1 < w1.heap.size := (Array.getElem?_eq_some_iff.1 Z0).1
  have X0 : (w1.alloc (bxT A n c B m d)).heap[w1.heap.size]? = some (bxT A n c B m d) := heap_alloc_new _ _
  obtain ⟨⟨s0, s1⟩, ⟨sf0, sf1⟩, sz⟩ := openT S0
  obtain ⟨e0, e1, e2, e3, e4, e5, e6, e7, ez⟩ := cellsEv k u o i a p q t E0
  replace hl := hl.below (below_box (bxT A n c B m d))
  replace hs := hs.below (below_box (bxT A n c B m d))
  replace S0 := halloc S0 (bxT A n c B m d)
  replace E0 := halloc E0 (bxT A n c B m d)
  replace Z0 := halloc Z0 (bxT A n c B m d)
  replace D := below_alloc0 D (bxT A n c B m d)
  obtain ⟨e0', e1', e2', e3', e4', e5', e6', e7', ez'⟩ := cellsEv k u o i a p q t E0
  go_wp2_with fail
  with_reducible refine (between_is k true _ HK).mono ?_
  rintro e w2 ⟨rfl, b2⟩
  replace hl := hl.below b2
  replace hs := hs.below b2
  replace S0 := hcall S0 b2
  replace E0 := hcall E0 b2
  replace Z0 := hcall Z0 b2
  replace X0 := hcall X0 b2
  replace D := below_call D b2
  clear b2 s0 s1 sf0 sf1 sz e0 e1 e2 e3 e4 e5 e6 e7 ez e0' e1' e2' e3' e4' e5' e6' e7' ez'
  obtain ⟨⟨s0, s1⟩, ⟨sf0, sf1⟩, sz⟩ := openT S0
  obtain ⟨e0, e1, e2, e3, e4, e5, e6, e7, ez⟩ := cellsEv k u o i a p q t E0
  have hfz := D.size
  go_wp2_with fail
  with_reducible refine (Do8F_is n c A l _ hl k u o r9l 0 hz hn hu ho HR).mono ?_
  rintro e w3 ⟨v9, rfl, r9, b3, hf9⟩
  replace hl := hl.below b3
  replace hs := hs.below b3
  replace S0 := hcall S0 b3
  replace E0 := hcall E0 b3
  replace Z0 := hcall Z0 b3
  replace X0 := hcall X0 b3
  replace D := below_call D b3
  clear b3 s0 s1 sf0 sf1 sz e0 e1 e2 e3 e4 e5 e6 e7 ez
  obtain ⟨n9, hn9⟩ : ∃ n9, r9l.length = n9 := ⟨_, rfl⟩
  obtain ⟨A9, c9, rfl⟩ := Row.form8 r9 n9 hn9
  clear hn9
  obtain ⟨⟨x0, x1⟩, ⟨xf0, xf1⟩, xz⟩ := openT X0
  have X5 : (w3.setCell ⟨w1.heap.size, 0, none⟩ (.slice A9 n9 c9)).heap[w1.heap.size]? = some (bxT A9 n9 c9 B m d) := hset0 X0 A9 n9 c9
  have S5 : (w3.setCell ⟨w1.heap.size, 0, none⟩ (.slice A9 n9 c9)).heap[w.heap.size]? = some (bxT A n c B m d) := hset_neT (by omega) S0
  have Z5 : (w3.setCell ⟨w1.heap.size, 0, none⟩ (.slice A9 n9 c9)).heap[w.heap.size + 1 + 1]? = some (bxT none 0 0 none 0 0) := hset_neT (by omega) Z0
  have D5 := bset D w1.heap.size 0 (.slice A9 n9 c9) (by omega)
  have hl5 := Row.setT hl nsEn X0 0 (.slice A9 n9 c9)
  have hs5 := Row.setT hs nsSe X0 0 (.slice A9 n9 c9)
  have r5 := Row.setT r9 nsEn X0 0 (.slice A9 n9 c9)
  obtain ⟨⟨x50, x51⟩, ⟨xf50, xf51⟩, x5z⟩ := openT X5
  obtain ⟨⟨s50, s51⟩, ⟨sf50, sf51⟩, s5z⟩ := openT S5
  obtain ⟨⟨z50, z51⟩, ⟨zf50, zf51⟩, z5z⟩ := openT Z5
  have Z6 : ((w3.setCell ⟨w1.heap.size, 0, none⟩ (.slice A9 n9 c9)).setCell ⟨w.heap.size + 1 + 1, 0, none⟩ (.slice A9 n9 c9)).heap[w.heap.size + 1 + 1]? = some (bxT A9 n9 c9 none 0 0) := hset0 Z5 A9 n9 c9
  have Z7 : (((w3.setCell ⟨w1.heap.size, 0, none⟩ (.slice A9 n9 c9)).setCell ⟨w.heap.size + 1 + 1, 0, none⟩ (.slice A9 n9 c9)).setCell ⟨w.heap.size + 1 + 1, 1, none⟩ (.slice B m d)).heap[w.heap.size + 1 + 1]? = some (bxT A9 n9 c9 B m d) := hset1 Z6 B m d
  have D7 := bset (bset D5 (w.heap.size + 1 + 1) 0 (.slice A9 n9 c9) (by omega)) (w.heap.size + 1 + 1) 1 (.slice B m d) (by omega)
  have hl7 := Row.setT (Row.setT r5 nsEn Z5 0 (.slice A9 n9 c9)) nsEn Z6 1 (.slice B m d)
  have hs7 := Row.setT (Row.setT hs5 nsSe Z5 0 (.slice A9 n9 c9)) nsSe Z6 1 (.slice B m d)
  obtain ⟨⟨y0, y1⟩, ⟨yf0, yf1⟩, yz⟩ := openT Z6
  go_wp2
  (try simp only [Exit.inBlock, Exit.then])
  (refine bodyPost_ct rfl (w.heap.size + 1 + 1) 25 #[.slice A9 n9 c9, .slice B m d] (0, 0) _ rfl ?_ Tryz.underlying25 rfl info_st rfl ?_)
  · exact Z7
  · rw [h.out.1]
    exact ⟨A9, n9, c9, B, m, d, rfl, hl7, hs7, D7, .up hf9 hfz, .self⟩
set_option maxHeartbeats 16000000 in
set_option maxRecDepth 100000 in
theorem apply_put_er (k : Int) (u o : ByteArray) (i a p q : Int) (t : ByteArray) (er : Int) (r9l : List Se) (r : Sta) (HM : Hid (mayT (l, s) = true)) (HK : Hid (decide (1 ≤ k ∧ k ≤ 6) = false)) (H7 : Hid (decide (k = 7) = true)) (hu : u.size ≤ 140737488351232) (ht : t.size ≤ 140737488351232) (HR : Hid (putSe s ⟨u, i, a, p, q, t⟩ = (r9l, er))) (hne : Hid ((er == 0) = false)) (h : Hid (r = (l, s) ∧ er = er)) :
    Calls Tryz.prog 16 #[agT A n c B m d, .agg #[.int .i64 k, .string u, .string o, .int .i64 i, .int .i64 a, .int .i64 p, .int .i64 q, .string t]] w fun x w' => ∃ A' n' c' B' m' d', x = .returned (.tuple #[agT A' n' c' B' m' d', .int .i64 er]) ∧ Row enEn 7 w' (.slice A' n' c') r.1 ∧ Row enSe 6 w' (.slice B' m' d') r.2 ∧ Below w.heap.size w w' ∧ Fresh w (.slice A n c) (.slice A' n' c') ∧ Fresh w (.slice B m d) (.slice B' m' d') := by
  have D : Below w.heap.size w (((w.alloc (bxT A n c B m d)).alloc (bxEv k u o i a p q t)).alloc (bxT none 0 0 none 0 0)) := below_alloc0 (below_alloc0 (below_box _) _) _
  have S0 := halloc (halloc (heap_alloc_new w (bxT A n c B m d)) (bxEv k u o i a p q t)) (bxT none 0 0 none 0 0)
  have E0 := halloc (heap_alloc_new (w.alloc (bxT A n c B m d)) (bxEv k u o i a p q t)) (bxT none 0 0 none 0 0)
  have Z0 := heap_alloc_new ((w.alloc (bxT A n c B m d)).alloc (bxEv k u o i a p q t)) (bxT none 0 0 none 0 0)
  simp only [size_alloc] at E0 Z0
  replace hl := hl.below D
  replace hs := hs.below D
  obtain ⟨⟨s0, s1⟩, ⟨sf0, sf1⟩, sz⟩ := openT S0
  go_enter Tryz.func16, Tryz.ntmps16
  go_wp2_with fail
  with_reducible refine (MayT_is n c A l m d B s _ hl hs hz hy (by omega) true HM).mono ?_
  rintro e w1 ⟨rfl, b1⟩
  replace hl := hl.below b1
  replace hs := hs.below b1
  replace S0 := hcall S0 b1
  replace E0 := hcall E0 b1
  replace Z0 := hcall Z0 b1
  replace D := below_call D b1
  clear b1 s0 s1 sf0 sf1 sz
  have hz6 : w.heap.size + 1 + 1 < w1.heap.size := (Array.getElem?_eq_some_iff.1 Z0).1
  have X0 : (w1.alloc (bxT A n c B m d)).heap[w1.heap.size]? = some (bxT A n c B m d) := heap_alloc_new _ _
  obtain ⟨⟨s0, s1⟩, ⟨sf0, sf1⟩, sz⟩ := openT S0
  obtain ⟨e0, e1, e2, e3, e4, e5, e6, e7, ez⟩ := cellsEv k u o i a p q t E0
  replace hl := hl.below (below_box (bxT A n c B m d))
  replace hs := hs.below (below_box (bxT A n c B m d))
  replace S0 := halloc S0 (bxT A n c B m d)
  replace E0 := halloc E0 (bxT A n c B m d)
  replace Z0 := halloc Z0 (bxT A n c B m d)
  replace D := below_alloc0 D (bxT A n c B m d)
  obtain ⟨e0', e1', e2', e3', e4', e5', e6', e7', ez'⟩ := cellsEv k u o i a p q t E0
  go_wp2_with fail
  with_reducible refine (between_is k false _ HK).mono ?_
  rintro e w2 ⟨rfl, b2⟩
  replace hl := hl.below b2
  replace hs := hs.below b2
  replace S0 := hcall S0 b2
  replace E0 := hcall E0 b2
  replace Z0 := hcall Z0 b2
  replace X0 := hcall X0 b2
  replace D := below_call D b2
  clear b2 s0 s1 sf0 sf1 sz e0 e1 e2 e3 e4 e5 e6 e7 ez e0' e1' e2' e3' e4' e5' e6' e7' ez'
  obtain ⟨⟨s0, s1⟩, ⟨sf0, sf1⟩, sz⟩ := openT S0
  obtain ⟨e0, e1, e2, e3, e4, e5, e6, e7, ez⟩ := cellsEv k u o i a p q t E0
  have k7 : (k == 7) = true := by have := H7.out; simpa using this
  have hfz := D.size
  go_wp2_with fail
  with_reducible refine (Put9F_is m d B s _ hs u i a p q t r9l er hy hu ht HR).mono ?_
  rintro e w3 ⟨v9, rfl, r9, b3, hf9⟩
  replace hl := hl.below b3
  replace hs := hs.below b3
  replace S0 := hcall S0 b3
  replace E0 := hcall E0 b3
  replace Z0 := hcall Z0 b3
  replace X0 := hcall X0 b3
  replace D := below_call D b3
  clear b3 s0 s1 sf0 sf1 sz e0 e1 e2 e3 e4 e5 e6 e7 ez
  obtain ⟨n9, hn9⟩ : ∃ n9, r9l.length = n9 := ⟨_, rfl⟩
  obtain ⟨A9, c9, rfl⟩ := Row.form8 r9 n9 hn9
  clear hn9
  have he2 := hne.out
  obtain ⟨⟨x0, x1⟩, ⟨xf0, xf1⟩, xz⟩ := openT X0
  have X5 : (w3.setCell ⟨w1.heap.size, 1, none⟩ (.slice A9 n9 c9)).heap[w1.heap.size]? = some (bxT A n c A9 n9 c9) := hset1 X0 A9 n9 c9
  have S5 : (w3.setCell ⟨w1.heap.size, 1, none⟩ (.slice A9 n9 c9)).heap[w.heap.size]? = some (bxT A n c B m d) := hset_neT (by omega) S0
  have Z5 : (w3.setCell ⟨w1.heap.size, 1, none⟩ (.slice A9 n9 c9)).heap[w.heap.size + 1 + 1]? = some (bxT none 0 0 none 0 0) := hset_neT (by omega) Z0
  have D5 := bset D w1.heap.size 1 (.slice A9 n9 c9) (by omega)
  have hl5 := Row.setT hl nsEn X0 1 (.slice A9 n9 c9)
  have hs5 := Row.setT hs nsSe X0 1 (.slice A9 n9 c9)
  have r5 := Row.setT r9 nsSe X0 1 (.slice A9 n9 c9)
  obtain ⟨⟨x50, x51⟩, ⟨xf50, xf51⟩, x5z⟩ := openT X5
  obtain ⟨⟨s50, s51⟩, ⟨sf50, sf51⟩, s5z⟩ := openT S5
  obtain ⟨⟨z50, z51⟩, ⟨zf50, zf51⟩, z5z⟩ := openT Z5
  have Z6 : ((w3.setCell ⟨w1.heap.size, 1, none⟩ (.slice A9 n9 c9)).setCell ⟨w.heap.size + 1 + 1, 0, none⟩ (.slice A n c)).heap[w.heap.size + 1 + 1]? = some (bxT A n c none 0 0) := hset0 Z5 A n c
  have Z7 : (((w3.setCell ⟨w1.heap.size, 1, none⟩ (.slice A9 n9 c9)).setCell ⟨w.heap.size + 1 + 1, 0, none⟩ (.slice A n c)).setCell ⟨w.heap.size + 1 + 1, 1, none⟩ (.slice B m d)).heap[w.heap.size + 1 + 1]? = some (bxT A n c B m d) := hset1 Z6 B m d
  have D7 := bset (bset D5 (w.heap.size + 1 + 1) 0 (.slice A n c) (by omega)) (w.heap.size + 1 + 1) 1 (.slice B m d) (by omega)
  have hl7 := Row.setT (Row.setT hl5 nsEn Z5 0 (.slice A n c)) nsEn Z6 1 (.slice B m d)
  have hs7 := Row.setT (Row.setT hs5 nsSe Z5 0 (.slice A n c)) nsSe Z6 1 (.slice B m d)
  obtain ⟨⟨y0, y1⟩, ⟨yf0, yf1⟩, yz⟩ := openT Z6
  go_wp2
  (try simp only [Exit.inBlock, Exit.then])
  (refine bodyPost_ct rfl (w.heap.size + 1 + 1) 25 #[.slice A n c, .slice B m d] (0, 0) _ rfl ?_ Tryz.underlying25 rfl info_st rfl ?_)
  · exact Z7
  · rw [h.out.1]
    exact ⟨A, n, c, B, m, d, rfl, hl7, hs7, D7, .self, .self⟩
set_option maxHeartbeats 16000000 in
set_option maxRecDepth 100000 in
theorem apply_put_ok (k : Int) (u o : ByteArray) (i a p q : Int) (t : ByteArray) (r9l : List Se) (r : Sta) (HM : Hid (mayT (l, s) = true)) (HK : Hid (decide (1 ≤ k ∧ k ≤ 6) = false)) (H7 : Hid (decide (k = 7) = true)) (hu : u.size ≤ 140737488351232) (ht : t.size ≤ 140737488351232) (HR : Hid (putSe s ⟨u, i, a, p, q, t⟩ = (r9l, 0))) (h : Hid (r = (l, r9l) ∧ (0 : Int) = 0)) :
    Calls Tryz.prog 16 #[agT A n c B m d, .agg #[.int .i64 k, .string u, .string o, .int .i64 i, .int .i64 a, .int .i64 p, .int .i64 q, .string t]] w fun x w' => ∃ A' n' c' B' m' d', x = .returned (.tuple #[agT A' n' c' B' m' d', .int .i64 0]) ∧ Row enEn 7 w' (.slice A' n' c') r.1 ∧ Row enSe 6 w' (.slice B' m' d') r.2 ∧ Below w.heap.size w w' ∧ Fresh w (.slice A n c) (.slice A' n' c') ∧ Fresh w (.slice B m d) (.slice B' m' d') := by
  have D : Below w.heap.size w (((w.alloc (bxT A n c B m d)).alloc (bxEv k u o i a p q t)).alloc (bxT none 0 0 none 0 0)) := below_alloc0 (below_alloc0 (below_box _) _) _
  have S0 := halloc (halloc (heap_alloc_new w (bxT A n c B m d)) (bxEv k u o i a p q t)) (bxT none 0 0 none 0 0)
  have E0 := halloc (heap_alloc_new (w.alloc (bxT A n c B m d)) (bxEv k u o i a p q t)) (bxT none 0 0 none 0 0)
  have Z0 := heap_alloc_new ((w.alloc (bxT A n c B m d)).alloc (bxEv k u o i a p q t)) (bxT none 0 0 none 0 0)
  simp only [size_alloc] at E0 Z0
  replace hl := hl.below D
  replace hs := hs.below D
  obtain ⟨⟨s0, s1⟩, ⟨sf0, sf1⟩, sz⟩ := openT S0
  go_enter Tryz.func16, Tryz.ntmps16
  go_wp2_with fail
  with_reducible refine (MayT_is n c A l m d B s _ hl hs hz hy (by omega) true HM).mono ?_
  rintro e w1 ⟨rfl, b1⟩
  replace hl := hl.below b1
  replace hs := hs.below b1
  replace S0 := hcall S0 b1
  replace E0 := hcall E0 b1
  replace Z0 := hcall Z0 b1
  replace D := below_call D b1
  clear b1 s0 s1 sf0 sf1 sz
  have hz6 : w.heap.size + 1 + 1 < w1.heap.size := (Array.getElem?_eq_some_iff.1 Z0).1
  have X0 : (w1.alloc (bxT A n c B m d)).heap[w1.heap.size]? = some (bxT A n c B m d) := heap_alloc_new _ _
  obtain ⟨⟨s0, s1⟩, ⟨sf0, sf1⟩, sz⟩ := openT S0
  obtain ⟨e0, e1, e2, e3, e4, e5, e6, e7, ez⟩ := cellsEv k u o i a p q t E0
  replace hl := hl.below (below_box (bxT A n c B m d))
  replace hs := hs.below (below_box (bxT A n c B m d))
  replace S0 := halloc S0 (bxT A n c B m d)
  replace E0 := halloc E0 (bxT A n c B m d)
  replace Z0 := halloc Z0 (bxT A n c B m d)
  replace D := below_alloc0 D (bxT A n c B m d)
  obtain ⟨e0', e1', e2', e3', e4', e5', e6', e7', ez'⟩ := cellsEv k u o i a p q t E0
  go_wp2_with fail
  with_reducible refine (between_is k false _ HK).mono ?_
  rintro e w2 ⟨rfl, b2⟩
  replace hl := hl.below b2
  replace hs := hs.below b2
  replace S0 := hcall S0 b2
  replace E0 := hcall E0 b2
  replace Z0 := hcall Z0 b2
  replace X0 := hcall X0 b2
  replace D := below_call D b2
  clear b2 s0 s1 sf0 sf1 sz e0 e1 e2 e3 e4 e5 e6 e7 ez e0' e1' e2' e3' e4' e5' e6' e7' ez'
  obtain ⟨⟨s0, s1⟩, ⟨sf0, sf1⟩, sz⟩ := openT S0
  obtain ⟨e0, e1, e2, e3, e4, e5, e6, e7, ez⟩ := cellsEv k u o i a p q t E0
  have k7 : (k == 7) = true := by have := H7.out; simpa using this
  have hfz := D.size
  go_wp2_with fail
  with_reducible refine (Put9F_is m d B s _ hs u i a p q t r9l 0 hy hu ht HR).mono ?_
  rintro e w3 ⟨v9, rfl, r9, b3, hf9⟩
  replace hl := hl.below b3
  replace hs := hs.below b3
  replace S0 := hcall S0 b3
  replace E0 := hcall E0 b3
  replace Z0 := hcall Z0 b3
  replace X0 := hcall X0 b3
  replace D := below_call D b3
  clear b3 s0 s1 sf0 sf1 sz e0 e1 e2 e3 e4 e5 e6 e7 ez
  obtain ⟨n9, hn9⟩ : ∃ n9, r9l.length = n9 := ⟨_, rfl⟩
  obtain ⟨A9, c9, rfl⟩ := Row.form8 r9 n9 hn9
  clear hn9
  obtain ⟨⟨x0, x1⟩, ⟨xf0, xf1⟩, xz⟩ := openT X0
  have X5 : (w3.setCell ⟨w1.heap.size, 1, none⟩ (.slice A9 n9 c9)).heap[w1.heap.size]? = some (bxT A n c A9 n9 c9) := hset1 X0 A9 n9 c9
  have S5 : (w3.setCell ⟨w1.heap.size, 1, none⟩ (.slice A9 n9 c9)).heap[w.heap.size]? = some (bxT A n c B m d) := hset_neT (by omega) S0
  have Z5 : (w3.setCell ⟨w1.heap.size, 1, none⟩ (.slice A9 n9 c9)).heap[w.heap.size + 1 + 1]? = some (bxT none 0 0 none 0 0) := hset_neT (by omega) Z0
  have D5 := bset D w1.heap.size 1 (.slice A9 n9 c9) (by omega)
  have hl5 := Row.setT hl nsEn X0 1 (.slice A9 n9 c9)
  have hs5 := Row.setT hs nsSe X0 1 (.slice A9 n9 c9)
  have r5 := Row.setT r9 nsSe X0 1 (.slice A9 n9 c9)
  obtain ⟨⟨x50, x51⟩, ⟨xf50, xf51⟩, x5z⟩ := openT X5
  obtain ⟨⟨s50, s51⟩, ⟨sf50, sf51⟩, s5z⟩ := openT S5
  obtain ⟨⟨z50, z51⟩, ⟨zf50, zf51⟩, z5z⟩ := openT Z5
  have Z6 : ((w3.setCell ⟨w1.heap.size, 1, none⟩ (.slice A9 n9 c9)).setCell ⟨w.heap.size + 1 + 1, 0, none⟩ (.slice A n c)).heap[w.heap.size + 1 + 1]? = some (bxT A n c none 0 0) := hset0 Z5 A n c
  have Z7 : (((w3.setCell ⟨w1.heap.size, 1, none⟩ (.slice A9 n9 c9)).setCell ⟨w.heap.size + 1 + 1, 0, none⟩ (.slice A n c)).setCell ⟨w.heap.size + 1 + 1, 1, none⟩ (.slice A9 n9 c9)).heap[w.heap.size + 1 + 1]? = some (bxT A n c A9 n9 c9) := hset1 Z6 A9 n9 c9
  have D7 := bset (bset D5 (w.heap.size + 1 + 1) 0 (.slice A n c) (by omega)) (w.heap.size + 1 + 1) 1 (.slice A9 n9 c9) (by omega)
  have hl7 := Row.setT (Row.setT hl5 nsEn Z5 0 (.slice A n c)) nsEn Z6 1 (.slice A9 n9 c9)
  have hs7 := Row.setT (Row.setT r5 nsSe Z5 0 (.slice A n c)) nsSe Z6 1 (.slice A9 n9 c9)
  obtain ⟨⟨y0, y1⟩, ⟨yf0, yf1⟩, yz⟩ := openT Z6
  go_wp2
  (try simp only [Exit.inBlock, Exit.then])
  (refine bodyPost_ct rfl (w.heap.size + 1 + 1) 25 #[.slice A n c, .slice A9 n9 c9] (0, 0) _ rfl ?_ Tryz.underlying25 rfl info_st rfl ?_)
  · exact Z7
  · rw [h.out.1]
    exact ⟨A, n, c, A9, n9, c9, rfl, hl7, hs7, D7, .self, .up hf9 hfz⟩
set_option maxHeartbeats 16000000 in
set_option maxRecDepth 100000 in
theorem apply_drop_er (k : Int) (u o : ByteArray) (i a p q : Int) (t : ByteArray) (er : Int) (r9l : List Se) (r : Sta) (HM : Hid (mayT (l, s) = true)) (HK : Hid (decide (1 ≤ k ∧ k ≤ 6) = false)) (H7 : Hid (decide (k = 7) = false)) (H8 : Hid (decide (k = 8) = true)) (HR : Hid (dropSe s (u, i) = (r9l, er))) (hne : Hid ((er == 0) = false)) (h : Hid (r = (l, s) ∧ er = er)) :
    Calls Tryz.prog 16 #[agT A n c B m d, .agg #[.int .i64 k, .string u, .string o, .int .i64 i, .int .i64 a, .int .i64 p, .int .i64 q, .string t]] w fun x w' => ∃ A' n' c' B' m' d', x = .returned (.tuple #[agT A' n' c' B' m' d', .int .i64 er]) ∧ Row enEn 7 w' (.slice A' n' c') r.1 ∧ Row enSe 6 w' (.slice B' m' d') r.2 ∧ Below w.heap.size w w' ∧ Fresh w (.slice A n c) (.slice A' n' c') ∧ Fresh w (.slice B m d) (.slice B' m' d') := by
  have D : Below w.heap.size w (((w.alloc (bxT A n c B m d)).alloc (bxEv k u o i a p q t)).alloc (bxT none 0 0 none 0 0)) := below_alloc0 (below_alloc0 (below_box _) _) _
  have S0 := halloc (halloc (heap_alloc_new w (bxT A n c B m d)) (bxEv k u o i a p q t)) (bxT none 0 0 none 0 0)
  have E0 := halloc (heap_alloc_new (w.alloc (bxT A n c B m d)) (bxEv k u o i a p q t)) (bxT none 0 0 none 0 0)
  have Z0 := heap_alloc_new ((w.alloc (bxT A n c B m d)).alloc (bxEv k u o i a p q t)) (bxT none 0 0 none 0 0)
  simp only [size_alloc] at E0 Z0
  replace hl := hl.below D
  replace hs := hs.below D
  obtain ⟨⟨s0, s1⟩, ⟨sf0, sf1⟩, sz⟩ := openT S0
  go_enter Tryz.func16, Tryz.ntmps16
  go_wp2_with fail
  with_reducible refine (MayT_is n c A l m d B s _ hl hs hz hy (by omega) true HM).mono ?_
  rintro e w1 ⟨rfl, b1⟩
  replace hl := hl.below b1
  replace hs := hs.below b1
  replace S0 := hcall S0 b1
  replace E0 := hcall E0 b1
  replace Z0 := hcall Z0 b1
  replace D := below_call D b1
  clear b1 s0 s1 sf0 sf1 sz
  have hz6 : w.heap.size + 1 + 1 < w1.heap.size := (Array.getElem?_eq_some_iff.1 Z0).1
  have X0 : (w1.alloc (bxT A n c B m d)).heap[w1.heap.size]? = some (bxT A n c B m d) := heap_alloc_new _ _
  obtain ⟨⟨s0, s1⟩, ⟨sf0, sf1⟩, sz⟩ := openT S0
  obtain ⟨e0, e1, e2, e3, e4, e5, e6, e7, ez⟩ := cellsEv k u o i a p q t E0
  replace hl := hl.below (below_box (bxT A n c B m d))
  replace hs := hs.below (below_box (bxT A n c B m d))
  replace S0 := halloc S0 (bxT A n c B m d)
  replace E0 := halloc E0 (bxT A n c B m d)
  replace Z0 := halloc Z0 (bxT A n c B m d)
  replace D := below_alloc0 D (bxT A n c B m d)
  obtain ⟨e0', e1', e2', e3', e4', e5', e6', e7', ez'⟩ := cellsEv k u o i a p q t E0
  go_wp2_with fail
  with_reducible refine (between_is k false _ HK).mono ?_
  rintro e w2 ⟨rfl, b2⟩
  replace hl := hl.below b2
  replace hs := hs.below b2
  replace S0 := hcall S0 b2
  replace E0 := hcall E0 b2
  replace Z0 := hcall Z0 b2
  replace X0 := hcall X0 b2
  replace D := below_call D b2
  clear b2 s0 s1 sf0 sf1 sz e0 e1 e2 e3 e4 e5 e6 e7 ez e0' e1' e2' e3' e4' e5' e6' e7' ez'
  obtain ⟨⟨s0, s1⟩, ⟨sf0, sf1⟩, sz⟩ := openT S0
  obtain ⟨e0, e1, e2, e3, e4, e5, e6, e7, ez⟩ := cellsEv k u o i a p q t E0
  have k7 : (k == 7) = false := by have := H7.out; simpa using this
  have k8 : (k == 8) = true := by have := H8.out; simpa using this
  have hfz := D.size
  go_wp2_with fail
  with_reducible refine (Drop9F_is m d B s _ hs u i r9l er hy HR).mono ?_
  rintro e w3 ⟨v9, rfl, r9, b3, hf9⟩
  replace hl := hl.below b3
  replace hs := hs.below b3
  replace S0 := hcall S0 b3
  replace E0 := hcall E0 b3
  replace Z0 := hcall Z0 b3
  replace X0 := hcall X0 b3
  replace D := below_call D b3
  clear b3 s0 s1 sf0 sf1 sz e0 e1 e2 e3 e4 e5 e6 e7 ez
  obtain ⟨n9, hn9⟩ : ∃ n9, r9l.length = n9 := ⟨_, rfl⟩
  obtain ⟨A9, c9, rfl⟩ := Row.form8 r9 n9 hn9
  clear hn9
  have he2 := hne.out
  obtain ⟨⟨x0, x1⟩, ⟨xf0, xf1⟩, xz⟩ := openT X0
  have X5 : (w3.setCell ⟨w1.heap.size, 1, none⟩ (.slice A9 n9 c9)).heap[w1.heap.size]? = some (bxT A n c A9 n9 c9) := hset1 X0 A9 n9 c9
  have S5 : (w3.setCell ⟨w1.heap.size, 1, none⟩ (.slice A9 n9 c9)).heap[w.heap.size]? = some (bxT A n c B m d) := hset_neT (by omega) S0
  have Z5 : (w3.setCell ⟨w1.heap.size, 1, none⟩ (.slice A9 n9 c9)).heap[w.heap.size + 1 + 1]? = some (bxT none 0 0 none 0 0) := hset_neT (by omega) Z0
  have D5 := bset D w1.heap.size 1 (.slice A9 n9 c9) (by omega)
  have hl5 := Row.setT hl nsEn X0 1 (.slice A9 n9 c9)
  have hs5 := Row.setT hs nsSe X0 1 (.slice A9 n9 c9)
  have r5 := Row.setT r9 nsSe X0 1 (.slice A9 n9 c9)
  obtain ⟨⟨x50, x51⟩, ⟨xf50, xf51⟩, x5z⟩ := openT X5
  obtain ⟨⟨s50, s51⟩, ⟨sf50, sf51⟩, s5z⟩ := openT S5
  obtain ⟨⟨z50, z51⟩, ⟨zf50, zf51⟩, z5z⟩ := openT Z5
  have Z6 : ((w3.setCell ⟨w1.heap.size, 1, none⟩ (.slice A9 n9 c9)).setCell ⟨w.heap.size + 1 + 1, 0, none⟩ (.slice A n c)).heap[w.heap.size + 1 + 1]? = some (bxT A n c none 0 0) := hset0 Z5 A n c
  have Z7 : (((w3.setCell ⟨w1.heap.size, 1, none⟩ (.slice A9 n9 c9)).setCell ⟨w.heap.size + 1 + 1, 0, none⟩ (.slice A n c)).setCell ⟨w.heap.size + 1 + 1, 1, none⟩ (.slice B m d)).heap[w.heap.size + 1 + 1]? = some (bxT A n c B m d) := hset1 Z6 B m d
  have D7 := bset (bset D5 (w.heap.size + 1 + 1) 0 (.slice A n c) (by omega)) (w.heap.size + 1 + 1) 1 (.slice B m d) (by omega)
  have hl7 := Row.setT (Row.setT hl5 nsEn Z5 0 (.slice A n c)) nsEn Z6 1 (.slice B m d)
  have hs7 := Row.setT (Row.setT hs5 nsSe Z5 0 (.slice A n c)) nsSe Z6 1 (.slice B m d)
  obtain ⟨⟨y0, y1⟩, ⟨yf0, yf1⟩, yz⟩ := openT Z6
  go_wp2
  (try simp only [Exit.inBlock, Exit.then])
  (refine bodyPost_ct rfl (w.heap.size + 1 + 1) 25 #[.slice A n c, .slice B m d] (0, 0) _ rfl ?_ Tryz.underlying25 rfl info_st rfl ?_)
  · exact Z7
  · rw [h.out.1]
    exact ⟨A, n, c, B, m, d, rfl, hl7, hs7, D7, .self, .self⟩
set_option maxHeartbeats 16000000 in
set_option maxRecDepth 100000 in
theorem apply_drop_ok (k : Int) (u o : ByteArray) (i a p q : Int) (t : ByteArray) (r9l : List Se) (r : Sta) (HM : Hid (mayT (l, s) = true)) (HK : Hid (decide (1 ≤ k ∧ k ≤ 6) = false)) (H7 : Hid (decide (k = 7) = false)) (H8 : Hid (decide (k = 8) = true)) (HR : Hid (dropSe s (u, i) = (r9l, 0))) (h : Hid (r = (l, r9l) ∧ (0 : Int) = 0)) :
    Calls Tryz.prog 16 #[agT A n c B m d, .agg #[.int .i64 k, .string u, .string o, .int .i64 i, .int .i64 a, .int .i64 p, .int .i64 q, .string t]] w fun x w' => ∃ A' n' c' B' m' d', x = .returned (.tuple #[agT A' n' c' B' m' d', .int .i64 0]) ∧ Row enEn 7 w' (.slice A' n' c') r.1 ∧ Row enSe 6 w' (.slice B' m' d') r.2 ∧ Below w.heap.size w w' ∧ Fresh w (.slice A n c) (.slice A' n' c') ∧ Fresh w (.slice B m d) (.slice B' m' d') := by
  have D : Below w.heap.size w (((w.alloc (bxT A n c B m d)).alloc (bxEv k u o i a p q t)).alloc (bxT none 0 0 none 0 0)) := below_alloc0 (below_alloc0 (below_box _) _) _
  have S0 := halloc (halloc (heap_alloc_new w (bxT A n c B m d)) (bxEv k u o i a p q t)) (bxT none 0 0 none 0 0)
  have E0 := halloc (heap_alloc_new (w.alloc (bxT A n c B m d)) (bxEv k u o i a p q t)) (bxT none 0 0 none 0 0)
  have Z0 := heap_alloc_new ((w.alloc (bxT A n c B m d)).alloc (bxEv k u o i a p q t)) (bxT none 0 0 none 0 0)
  simp only [size_alloc] at E0 Z0
  replace hl := hl.below D
  replace hs := hs.below D
  obtain ⟨⟨s0, s1⟩, ⟨sf0, sf1⟩, sz⟩ := openT S0
  go_enter Tryz.func16, Tryz.ntmps16
  go_wp2_with fail
  with_reducible refine (MayT_is n c A l m d B s _ hl hs hz hy (by omega) true HM).mono ?_
  rintro e w1 ⟨rfl, b1⟩
  replace hl := hl.below b1
  replace hs := hs.below b1
  replace S0 := hcall S0 b1
  replace E0 := hcall E0 b1
  replace Z0 := hcall Z0 b1
  replace D := below_call D b1
  clear b1 s0 s1 sf0 sf1 sz
  have hz6 : w.heap.size + 1 + 1 < w1.heap.size := (Array.getElem?_eq_some_iff.1 Z0).1
  have X0 : (w1.alloc (bxT A n c B m d)).heap[w1.heap.size]? = some (bxT A n c B m d) := heap_alloc_new _ _
  obtain ⟨⟨s0, s1⟩, ⟨sf0, sf1⟩, sz⟩ := openT S0
  obtain ⟨e0, e1, e2, e3, e4, e5, e6, e7, ez⟩ := cellsEv k u o i a p q t E0
  replace hl := hl.below (below_box (bxT A n c B m d))
  replace hs := hs.below (below_box (bxT A n c B m d))
  replace S0 := halloc S0 (bxT A n c B m d)
  replace E0 := halloc E0 (bxT A n c B m d)
  replace Z0 := halloc Z0 (bxT A n c B m d)
  replace D := below_alloc0 D (bxT A n c B m d)
  obtain ⟨e0', e1', e2', e3', e4', e5', e6', e7', ez'⟩ := cellsEv k u o i a p q t E0
  go_wp2_with fail
  with_reducible refine (between_is k false _ HK).mono ?_
  rintro e w2 ⟨rfl, b2⟩
  replace hl := hl.below b2
  replace hs := hs.below b2
  replace S0 := hcall S0 b2
  replace E0 := hcall E0 b2
  replace Z0 := hcall Z0 b2
  replace X0 := hcall X0 b2
  replace D := below_call D b2
  clear b2 s0 s1 sf0 sf1 sz e0 e1 e2 e3 e4 e5 e6 e7 ez e0' e1' e2' e3' e4' e5' e6' e7' ez'
  obtain ⟨⟨s0, s1⟩, ⟨sf0, sf1⟩, sz⟩ := openT S0
  obtain ⟨e0, e1, e2, e3, e4, e5, e6, e7, ez⟩ := cellsEv k u o i a p q t E0
  have k7 : (k == 7) = false := by have := H7.out; simpa using this
  have k8 : (k == 8) = true := by have := H8.out; simpa using this
  have hfz := D.size
  go_wp2_with fail
  with_reducible refine (Drop9F_is m d B s _ hs u i r9l 0 hy HR).mono ?_
  rintro e w3 ⟨v9, rfl, r9, b3, hf9⟩
  replace hl := hl.below b3
  replace hs := hs.below b3
  replace S0 := hcall S0 b3
  replace E0 := hcall E0 b3
  replace Z0 := hcall Z0 b3
  replace X0 := hcall X0 b3
  replace D := below_call D b3
  clear b3 s0 s1 sf0 sf1 sz e0 e1 e2 e3 e4 e5 e6 e7 ez
  obtain ⟨n9, hn9⟩ : ∃ n9, r9l.length = n9 := ⟨_, rfl⟩
  obtain ⟨A9, c9, rfl⟩ := Row.form8 r9 n9 hn9
  clear hn9
  obtain ⟨⟨x0, x1⟩, ⟨xf0, xf1⟩, xz⟩ := openT X0
  have X5 : (w3.setCell ⟨w1.heap.size, 1, none⟩ (.slice A9 n9 c9)).heap[w1.heap.size]? = some (bxT A n c A9 n9 c9) := hset1 X0 A9 n9 c9
  have S5 : (w3.setCell ⟨w1.heap.size, 1, none⟩ (.slice A9 n9 c9)).heap[w.heap.size]? = some (bxT A n c B m d) := hset_neT (by omega) S0
  have Z5 : (w3.setCell ⟨w1.heap.size, 1, none⟩ (.slice A9 n9 c9)).heap[w.heap.size + 1 + 1]? = some (bxT none 0 0 none 0 0) := hset_neT (by omega) Z0
  have D5 := bset D w1.heap.size 1 (.slice A9 n9 c9) (by omega)
  have hl5 := Row.setT hl nsEn X0 1 (.slice A9 n9 c9)
  have hs5 := Row.setT hs nsSe X0 1 (.slice A9 n9 c9)
  have r5 := Row.setT r9 nsSe X0 1 (.slice A9 n9 c9)
  obtain ⟨⟨x50, x51⟩, ⟨xf50, xf51⟩, x5z⟩ := openT X5
  obtain ⟨⟨s50, s51⟩, ⟨sf50, sf51⟩, s5z⟩ := openT S5
  obtain ⟨⟨z50, z51⟩, ⟨zf50, zf51⟩, z5z⟩ := openT Z5
  have Z6 : ((w3.setCell ⟨w1.heap.size, 1, none⟩ (.slice A9 n9 c9)).setCell ⟨w.heap.size + 1 + 1, 0, none⟩ (.slice A n c)).heap[w.heap.size + 1 + 1]? = some (bxT A n c none 0 0) := hset0 Z5 A n c
  have Z7 : (((w3.setCell ⟨w1.heap.size, 1, none⟩ (.slice A9 n9 c9)).setCell ⟨w.heap.size + 1 + 1, 0, none⟩ (.slice A n c)).setCell ⟨w.heap.size + 1 + 1, 1, none⟩ (.slice A9 n9 c9)).heap[w.heap.size + 1 + 1]? = some (bxT A n c A9 n9 c9) := hset1 Z6 A9 n9 c9
  have D7 := bset (bset D5 (w.heap.size + 1 + 1) 0 (.slice A n c) (by omega)) (w.heap.size + 1 + 1) 1 (.slice A9 n9 c9) (by omega)
  have hl7 := Row.setT (Row.setT hl5 nsEn Z5 0 (.slice A n c)) nsEn Z6 1 (.slice A9 n9 c9)
  have hs7 := Row.setT (Row.setT r5 nsSe Z5 0 (.slice A n c)) nsSe Z6 1 (.slice A9 n9 c9)
  obtain ⟨⟨y0, y1⟩, ⟨yf0, yf1⟩, yz⟩ := openT Z6
  go_wp2
  (try simp only [Exit.inBlock, Exit.then])
  (refine bodyPost_ct rfl (w.heap.size + 1 + 1) 25 #[.slice A n c, .slice A9 n9 c9] (0, 0) _ rfl ?_ Tryz.underlying25 rfl info_st rfl ?_)
  · exact Z7
  · rw [h.out.1]
    exact ⟨A, n, c, A9, n9, c9, rfl, hl7, hs7, D7, .self, .up hf9 hfz⟩
set_option maxHeartbeats 16000000 in
set_option maxRecDepth 100000 in
theorem apply_none (k : Int) (u o : ByteArray) (i a p q : Int) (t : ByteArray) (er : Int) (r : Sta) (HM : Hid (mayT (l, s) = true)) (HK : Hid (decide (1 ≤ k ∧ k ≤ 6) = false)) (H7 : Hid (decide (k = 7) = false)) (H8 : Hid (decide (k = 8) = false)) (h : Hid (r = (l, s) ∧ er = 1)) :
    Calls Tryz.prog 16 #[agT A n c B m d, .agg #[.int .i64 k, .string u, .string o, .int .i64 i, .int .i64 a, .int .i64 p, .int .i64 q, .string t]] w fun x w' => ∃ A' n' c' B' m' d', x = .returned (.tuple #[agT A' n' c' B' m' d', .int .i64 er]) ∧ Row enEn 7 w' (.slice A' n' c') r.1 ∧ Row enSe 6 w' (.slice B' m' d') r.2 ∧ Below w.heap.size w w' ∧ Fresh w (.slice A n c) (.slice A' n' c') ∧ Fresh w (.slice B m d) (.slice B' m' d') := by
  have D : Below w.heap.size w (((w.alloc (bxT A n c B m d)).alloc (bxEv k u o i a p q t)).alloc (bxT none 0 0 none 0 0)) := below_alloc0 (below_alloc0 (below_box _) _) _
  have S0 := halloc (halloc (heap_alloc_new w (bxT A n c B m d)) (bxEv k u o i a p q t)) (bxT none 0 0 none 0 0)
  have E0 := halloc (heap_alloc_new (w.alloc (bxT A n c B m d)) (bxEv k u o i a p q t)) (bxT none 0 0 none 0 0)
  have Z0 := heap_alloc_new ((w.alloc (bxT A n c B m d)).alloc (bxEv k u o i a p q t)) (bxT none 0 0 none 0 0)
  simp only [size_alloc] at E0 Z0
  replace hl := hl.below D
  replace hs := hs.below D
  obtain ⟨⟨s0, s1⟩, ⟨sf0, sf1⟩, sz⟩ := openT S0
  go_enter Tryz.func16, Tryz.ntmps16
  go_wp2_with fail
  with_reducible refine (MayT_is n c A l m d B s _ hl hs hz hy (by omega) true HM).mono ?_
  rintro e w1 ⟨rfl, b1⟩
  replace hl := hl.below b1
  replace hs := hs.below b1
  replace S0 := hcall S0 b1
  replace E0 := hcall E0 b1
  replace Z0 := hcall Z0 b1
  replace D := below_call D b1
  clear b1 s0 s1 sf0 sf1 sz
  have hz6 : w.heap.size + 1 + 1 < w1.heap.size := (Array.getElem?_eq_some_iff.1 Z0).1
  have X0 : (w1.alloc (bxT A n c B m d)).heap[w1.heap.size]? = some (bxT A n c B m d) := heap_alloc_new _ _
  obtain ⟨⟨s0, s1⟩, ⟨sf0, sf1⟩, sz⟩ := openT S0
  obtain ⟨e0, e1, e2, e3, e4, e5, e6, e7, ez⟩ := cellsEv k u o i a p q t E0
  replace hl := hl.below (below_box (bxT A n c B m d))
  replace hs := hs.below (below_box (bxT A n c B m d))
  replace S0 := halloc S0 (bxT A n c B m d)
  replace E0 := halloc E0 (bxT A n c B m d)
  replace Z0 := halloc Z0 (bxT A n c B m d)
  replace D := below_alloc0 D (bxT A n c B m d)
  obtain ⟨e0', e1', e2', e3', e4', e5', e6', e7', ez'⟩ := cellsEv k u o i a p q t E0
  go_wp2_with fail
  with_reducible refine (between_is k false _ HK).mono ?_
  rintro e w2 ⟨rfl, b2⟩
  replace hl := hl.below b2
  replace hs := hs.below b2
  replace S0 := hcall S0 b2
  replace E0 := hcall E0 b2
  replace Z0 := hcall Z0 b2
  replace X0 := hcall X0 b2
  replace D := below_call D b2
  clear b2 s0 s1 sf0 sf1 sz e0 e1 e2 e3 e4 e5 e6 e7 ez e0' e1' e2' e3' e4' e5' e6' e7' ez'
  obtain ⟨⟨s0, s1⟩, ⟨sf0, sf1⟩, sz⟩ := openT S0
  obtain ⟨e0, e1, e2, e3, e4, e5, e6, e7, ez⟩ := cellsEv k u o i a p q t E0
  obtain ⟨⟨z0, z1⟩, ⟨zf0, zf1⟩, zz⟩ := openT Z0
  have k7 : (k == 7) = false := by have := H7.out; simpa using this
  have k8 : (k == 8) = false := by have := H8.out; simpa using this
  have Z6 : (w2.setCell ⟨w.heap.size + 1 + 1, 0, none⟩ (.slice A n c)).heap[w.heap.size + 1 + 1]? = some (bxT A n c none 0 0) := hset0 Z0 A n c
  have Z7 : ((w2.setCell ⟨w.heap.size + 1 + 1, 0, none⟩ (.slice A n c)).setCell ⟨w.heap.size + 1 + 1, 1, none⟩ (.slice B m d)).heap[w.heap.size + 1 + 1]? = some (bxT A n c B m d) := hset1 Z6 B m d
  have D7 := bset (bset D (w.heap.size + 1 + 1) 0 (.slice A n c) (by omega)) (w.heap.size + 1 + 1) 1 (.slice B m d) (by omega)
  have hl7 := Row.setT (Row.setT hl nsEn Z0 0 (.slice A n c)) nsEn Z6 1 (.slice B m d)
  have hs7 := Row.setT (Row.setT hs nsSe Z0 0 (.slice A n c)) nsSe Z6 1 (.slice B m d)
  obtain ⟨⟨y0, y1⟩, ⟨yf0, yf1⟩, yz⟩ := openT Z6
  go_wp2
  (try simp only [Exit.inBlock, Exit.then])
  (refine bodyPost_ct rfl (w.heap.size + 1 + 1) 25 #[.slice A n c, .slice B m d] (0, 0) _ rfl ?_ Tryz.underlying25 rfl info_st rfl ?_)
  · exact Z7
  · rw [h.out.1, h.out.2]
    exact ⟨A, n, c, B, m, d, rfl, hl7, hs7, D7, .self, .self⟩
theorem ApplyT_is (k : Int) (u o : ByteArray) (i a p q : Int) (t : ByteArray) (hu : u.size ≤ 140737488351232) (ho : o.size ≤ 140737488351232) (ht : t.size ≤ 140737488351232) (er : Int) (r : Sta) (h : Hid (applyT (l, s) ⟨k, u, o, i, (a, p, q, t)⟩ = (r, er))) :
    Calls Tryz.prog 16 #[agT A n c B m d, .agg #[.int .i64 k, .string u, .string o, .int .i64 i, .int .i64 a, .int .i64 p, .int .i64 q, .string t]] w fun x w' => ∃ A' n' c' B' m' d', x = .returned (.tuple #[agT A' n' c' B' m' d', .int .i64 er]) ∧ Row enEn 7 w' (.slice A' n' c') r.1 ∧ Row enSe 6 w' (.slice B' m' d') r.2 ∧ Below w.heap.size w w' ∧ Fresh w (.slice A n c) (.slice A' n' c') ∧ Fresh w (.slice B m d) (.slice B' m' d') := by
  have h0 := h.out
  unfold applyT at h0
  simp only at h0
  cases hb : mayT (l, s) with
  | false =>
    rw [if_pos hb] at h0
    injection h0 with h1 h2
    exact apply_no n c A l m d B s w hl hs hz hy hn k u o i a p q t er r hb ⟨h1.symm, h2.symm⟩
  | true =>
    rw [if_neg (by rw [hb]; decide)] at h0
    by_cases h16 : 1 ≤ k ∧ k ≤ 6
    · rw [if_pos h16] at h0
      obtain ⟨r9, e9, h9⟩ : ∃ r e, doRo l k u o = (r, e) := ⟨_, _, rfl⟩
      rw [h9] at h0
      simp only at h0
      injection h0 with h1 h2
      by_cases he : e9 = 0
      · subst he
        subst h2
        exact apply_ros_ok n c A l m d B s w hl hs hz hy hn k u o i a p q t r9 r hb (decide_eq_true h16) hu ho h9 ⟨h1.symm, rfl⟩
      · have h3 := doRo_err h9 he
        subst h3
        subst h2
        exact apply_ros_er n c A r9 m d B s w hl hs hz hy hn k u o i a p q t e9 r9 r hb (decide_eq_true h16) hu ho h9 (by show _ = _; simpa using he) ⟨h1.symm, rfl⟩
    · rw [if_neg h16] at h0
      by_cases h7 : k = 7
      · rw [if_pos h7] at h0
        obtain ⟨r9, e9, h9⟩ : ∃ r e, putSe s ⟨u, i, (a, p, q, t)⟩ = (r, e) := ⟨_, _, rfl⟩
        rw [h9] at h0
        simp only at h0
        injection h0 with h1 h2
        by_cases he : e9 = 0
        · subst he
          subst h2
          exact apply_put_ok n c A l m d B s w hl hs hz hy hn k u o i a p q t r9 r hb (decide_eq_false h16) (decide_eq_true h7) hu ht h9 ⟨h1.symm, rfl⟩
        · have h3 := putSe_err h9 he
          subst h3
          subst h2
          exact apply_put_er n c A l m d B r9 w hl hs hz hy hn k u o i a p q t e9 r9 r hb (decide_eq_false h16) (decide_eq_true h7) hu ht h9 (by show _ = _; simpa using he) ⟨h1.symm, rfl⟩
      · rw [if_neg h7] at h0
        by_cases h8 : k = 8
        · rw [if_pos h8] at h0
          obtain ⟨r9, e9, h9⟩ : ∃ r e, dropSe s (u, i) = (r, e) := ⟨_, _, rfl⟩
          rw [h9] at h0
          simp only at h0
          injection h0 with h1 h2
          by_cases he : e9 = 0
          · subst he
            subst h2
            exact apply_drop_ok n c A l m d B s w hl hs hz hy hn k u o i a p q t r9 r hb (decide_eq_false h16) (decide_eq_false h7) (decide_eq_true h8) h9 ⟨h1.symm, rfl⟩
          · have h3 := dropSe_err h9 he
            subst h3
            subst h2
            exact apply_drop_er n c A l m d B r9 w hl hs hz hy hn k u o i a p q t e9 r9 r hb (decide_eq_false h16) (decide_eq_false h7) (decide_eq_true h8) h9 (by show _ = _; simpa using he) ⟨h1.symm, rfl⟩
        · rw [if_neg h8] at h0
          injection h0 with h1 h2
          exact apply_none n c A l m d B s w hl hs hz hy hn k u o i a p q t er r hb (decide_eq_false h16) (decide_eq_false h7) (decide_eq_false h8) ⟨h1.symm, h2.symm⟩
end
end Go.Proofs.YtbpfcjdjhponaaaGreat
namespace Go.Proofs.YtbpfcjdjhponaaaGreat
open Go.RowKit
open Sp
namespace Sp
end Sp
theorem Row.lt {α : Type} {enc : α → List Value} {k : Nat} {w : World} {A : Option Addr} {n c : Nat} {xs : List α} (h : Row enc k w (.slice A n c) xs) (hk : 0 < k) (hn : 0 < n) (ad : Addr) (e : A = some ad) : ad.block < w.heap.size := by
  obtain ⟨A', c', e1, h1, h2, h3, h4⟩ := h
  injection e1 with e2 e3 e4
  subst e2 e3
  obtain ⟨ad', e5, hc⟩ := h4 hn
  rw [e] at e5
  injection e5 with e5
  subst e5
  have hp : 0 < (xs.flatMap enc).length := by rw [h3]; exact Nat.mul_pos hn hk
  have h5 := hc 0 _ (List.getElem?_eq_getElem hp)
  have h6 := World.block_lt_of_cell? w _ h5
  rwa [add_block] at h6
end Go.Proofs.YtbpfcjdjhponaaaGreat
namespace Go.Proofs.YtbpfcjdjhponaaaGreat
open Go.RowKit
open Sp
set_option maxHeartbeats 16000000 in
set_option maxRecDepth 100000 in
theorem Short_calls (k : Int) (u o : ByteArray) (i a p q : Int) (t : ByteArray) (w : World) (hu : u.size ≤ 9223372036854775807) (ho : o.size ≤ 9223372036854775807) (ht : t.size ≤ 9223372036854775807) :
    Calls Tryz.prog 11 #[.agg #[.int .i64 k, .string u, .string o, .int .i64 i, .int .i64 a, .int .i64 p, .int .i64 q, .string t]] w fun x w' => x = .returned (.bool (shortE ⟨k, u, o, i, (a, p, q, t)⟩)) ∧ Below w.heap.size w w' := by
  have D := below_box (w := w) (bxEv k u o i a p q t)
  obtain ⟨e0, e1, e2, e3, e4, e5, e6, e7, ez⟩ := cellsEv k u o i a p q t (heap_alloc_new w (bxEv k u o i a p q t))
  by_cases h1 : ((u.size : Nat) : Int) ≤ 40
  · by_cases h2 : ((o.size : Nat) : Int) ≤ 40
    · by_cases h3 : ((t.size : Nat) : Int) ≤ 60
      · have HF : Hid (shortE ⟨k, u, o, i, (a, p, q, t)⟩ = true) := by show _ = _; unfold shortE; simp only; rw [decide_eq_true (by omega : u.size ≤ 40), decide_eq_true (by omega : o.size ≤ 40), decide_eq_true (by omega : t.size ≤ 60)]; rfl
        go_enter Tryz.func11, Tryz.ntmps11
        go_wp2
        go_ret
        rw [HF.out]
        exact ⟨by first | rfl | (simp; done) | (simp; omega), D⟩
      · have h4 : 60 < ((t.size : Nat) : Int) := by omega
        have HF : Hid (shortE ⟨k, u, o, i, (a, p, q, t)⟩ = false) := by show _ = _; unfold shortE; simp only; rw [decide_eq_false (by omega : ¬ t.size ≤ 60), Bool.and_false, Bool.and_false]
        go_enter Tryz.func11, Tryz.ntmps11
        go_wp2
        go_ret
        rw [HF.out]
        exact ⟨by first | rfl | (simp; done) | (simp; omega), D⟩
    · have h4 : 40 < ((o.size : Nat) : Int) := by omega
      have HF : Hid (shortE ⟨k, u, o, i, (a, p, q, t)⟩ = false) := by show _ = _; unfold shortE; simp only; rw [decide_eq_false (by omega : ¬ o.size ≤ 40), Bool.false_and, Bool.and_false]
      go_enter Tryz.func11, Tryz.ntmps11
      go_wp2
      go_ret
      rw [HF.out]
      exact ⟨by first | rfl | (simp; done) | (simp; omega), D⟩
  · have h4 : 40 < ((u.size : Nat) : Int) := by omega
    have HF : Hid (shortE ⟨k, u, o, i, (a, p, q, t)⟩ = false) := by show _ = _; unfold shortE; simp only; rw [decide_eq_false (by omega : ¬ u.size ≤ 40), Bool.false_and]
    go_enter Tryz.func11, Tryz.ntmps11
    go_wp2
    go_ret
    rw [HF.out]
    exact ⟨by first | rfl | (simp; done) | (simp; omega), D⟩
theorem Short_is (k : Int) (u o : ByteArray) (i a p q : Int) (t : ByteArray) (b : Bool) (w : World) (hu : u.size ≤ 9223372036854775807) (ho : o.size ≤ 9223372036854775807) (ht : t.size ≤ 9223372036854775807) (h : Hid (shortE ⟨k, u, o, i, (a, p, q, t)⟩ = b)) :
    Calls Tryz.prog 11 #[.agg #[.int .i64 k, .string u, .string o, .int .i64 i, .int .i64 a, .int .i64 p, .int .i64 q, .string t]] w fun x w' => x = .returned (.bool b) ∧ Below w.heap.size w w' := re_ (Short_calls k u o i a p q t w hu ho ht) (ret_bool h.out)
namespace Sp
end Sp
end Go.Proofs.YtbpfcjdjhponaaaGreat
namespace Go.Proofs.YtbpfcjdjhponaaaGreat
open Go.RowKit
open Sp
def Sp.fewT (s : Sta) : Bool := fewRo s.1 && fewSe s.2
abbrev SzEs (l : List Se) : Prop := ∀ s ∈ l, s.u.size ≤ 9223372036854775807 ∧ s.v.2.2.2.size ≤ 9223372036854775807
set_option maxHeartbeats 16000000 in
set_option maxRecDepth 100000 in
theorem FewT_is (n c : Nat) (A : Option Addr) (l : List En) (m d : Nat) (B : Option Addr) (s : List Se) (w : World) (hl : Row enEn 7 w (.slice A n c) l) (hs : Row enSe 6 w (.slice B m d) s) (hz : SzE l) (hy : SzEs s) (b : Bool) (h : Hid (fewT (l, s) = b)) :
    Calls Tryz.prog 9 #[agT A n c B m d] w fun e w' => e = .returned (.bool b) ∧ Below w.heap.size w w' := by
  have D := below_box (w := w) (bxT A n c B m d)
  have hb := heap_alloc_new w (bxT A n c B m d)
  replace hl := hl.below D
  replace hs := hs.below D
  have h0 := h.out
  unfold fewT at h0
  simp only at h0
  clear h
  obtain ⟨r, hr⟩ : ∃ r, fewRo l = r := ⟨_, rfl⟩
  rw [hr] at h0
  have HR := Lib.hid hr
  clear hr
  cases r with
  | false =>
    have HF : Hid (b = false) := by show _ = _; rw [← h0]; rfl
    clear h0
    obtain ⟨z0, z1, zz⟩ := cellsT hb
    go_enter Tryz.func9, Tryz.ntmps9
    go_wp2_with fail
    with_reducible refine (few8_is n c A l _ hl false hz HR).mono ?_
    rintro e w1 ⟨rfl, b1⟩
    replace hl := hl.below b1
    replace hs := hs.below b1
    replace hb := hcall hb b1
    replace D := below_call D b1
    clear b1 z0 z1 zz
    go_wp2
    go_ret
    rw [HF.out]
    exact ⟨rfl, D⟩
  | true =>
    have HF : Hid (fewSe s = b) := by show _ = _; rw [← h0]; rfl
    clear h0
    obtain ⟨z0, z1, zz⟩ := cellsT hb
    go_enter Tryz.func9, Tryz.ntmps9
    go_wp2_with fail
    with_reducible refine (few8_is n c A l _ hl true hz HR).mono ?_
    rintro e w1 ⟨rfl, b1⟩
    replace hl := hl.below b1
    replace hs := hs.below b1
    replace hb := hcall hb b1
    replace D := below_call D b1
    clear b1 z0 z1 zz
    obtain ⟨z0, z1, zz⟩ := cellsT hb
    go_wp2_with fail
    with_reducible refine (few9_is m d B s _ hs b hy HF).mono ?_
    rintro e w2 ⟨rfl, b2⟩
    replace hl := hl.below b2
    replace hs := hs.below b2
    replace hb := hcall hb b2
    replace D := below_call D b2
    clear b2 z0 z1 zz
    go_wp2
    go_ret
    exact ⟨rfl, D⟩
theorem fewT_sz {l : List En} {s : List Se} (h : fewT (l, s) = true) : SzRo l ∧ SzSe s ∧ l.length ≤ 80 ∧ s.length ≤ 50 := by
  unfold fewT at h
  rw [Bool.and_eq_true] at h
  obtain ⟨h1, h2⟩ := fewRo_sz h.1
  obtain ⟨h3, h4⟩ := few_sz h.2
  exact ⟨h1, h3, h2, h4⟩
end Go.Proofs.YtbpfcjdjhponaaaGreat
namespace Go.Proofs.YtbpfcjdjhponaaaGreat
open Go.RowKit
namespace Sp
abbrev PV := Int × Int × Int × ByteArray
def zeroV : PV := (0, 0, 0, ⟨#[]⟩)
def takeVal (s : ByteArray) (a : Int) : PV × Int × Int :=
  if a < 0 ∨ (s.size : Int) < a then (zeroV, 0, 1)
  else if (s.size : Int) - a < 2 then (zeroV, 0, 2)
  else
    let g := getV s (a + 2)
    if g.2.2 ≠ 0 then (zeroV, 0, g.2.2)
    else
      let t := takeV s g.2.1 32
      if t.2.2 ≠ 0 then (zeroV, 0, t.2.2)
      else
        let v : PV := (((s.data.toList.getD a.toNat 0).toNat : Int), ((s.data.toList.getD (a.toNat + 1) 0).toNat : Int) - 128, (g.1 : Int), t.1)
        if mayV v.1 v.2.1 v.2.2.1 v.2.2.2 then (v, t.2.1, 0) else (zeroV, 0, 3)
end Sp
open Sp
def encV (v : PV) : Value := .agg #[.int .i64 v.1, .int .i64 v.2.1, .int .i64 v.2.2.1, .string v.2.2.2]
theorem bodyPost_ctt {P : Program} {fn : Func} {R : Ending → World → Prop} {a : Act} {w : World} {p u v : Tmp} {ty : TypeId} (h : fn.results = #[.cell p ty, .tmp u, .tmp v]) (g : Nat) (t : TypeId) (cs : Array Value) (fr : Nat × Nat) (d : TypeDesc)
    (hp : a.tmps.getD p undef = .pointer (some ⟨g, 0, none⟩)) (hg : w.heap[g]? = some (.cells cs t fr))
    (hu : P.underlying ty = some d) (hd : (match d with | .struct _ | .array _ _ => true | _ => false) = true) (hi : (P.info? ty).map (·.size) = some cs.size)
    (hde : a.defers = []) (hR : R (.returned (.tuple #[.agg cs, a.tmps.getD u undef, a.tmps.getD v undef])) w) : bodyPost P fn R .ret a w := by
  refine bodyPost_ret ?_ hde hR
  have hp' : a.tmps[p]?.getD undef = .pointer (some ⟨g, 0, none⟩) := by simpa using hp
  simp [results, h, hp', asAddr, run_loadVar_row w g t ty cs fr d hg hu hd hi]
theorem info_val : (Tryz.prog.info? 27).map (·.size) = some 4 := by kernel_rfl
end Go.Proofs.YtbpfcjdjhponaaaGreat
namespace Go.Proofs.YtbpfcjdjhponaaaGreat
open Go.RowKit
open Sp
theorem varTake_is (s : ByteArray) (a most : Int) (t : ByteArray) (to er : Int) (w : World) (hs : s.size ≤ 140737488351232) (hm : most ≤ 1048576) (hm0 : -1048576 ≤ most) (h : Hid (takeV s a most = (t, to, er))) :
    Calls Tryz.prog 89 #[.string s, .int .i64 a, .int .i64 most] w fun e w' => e = .returned (.tuple #[.string t, .int .i64 to, .int .i64 er]) ∧ w = w' := by
  have := varTake_calls s a most w hs hm hm0
  rwa [h.out] at this
set_option maxHeartbeats 4000000 in
set_option maxRecDepth 100000 in
theorem valTake_1 (s : ByteArray) (a : Int) (w : World) (h : a < 0) :
    Calls Tryz.prog 138 #[.string s, .int .i64 a] w fun e w' => e = .returned (.tuple #[encV zeroV, .int .i64 0, .int .i64 1]) ∧ Below w.heap.size w w' := by
  go_enter Tryz.func138, Tryz.ntmps138
  go_wp2
  (try simp only [Exit.inBlock, Exit.then])
  exact bodyPost_ctt rfl w.heap.size _ _ (0, 0) _ rfl (heap_alloc_new w _) Tryz.underlying27 rfl info_val rfl ⟨rfl, (Below.refl _ _).alloc (Nat.le_refl _) _⟩
set_option maxHeartbeats 4000000 in
set_option maxRecDepth 100000 in
theorem valTake_2 (s : ByteArray) (a : Int) (w : World) (h0 : 0 ≤ a) (h : (s.size : Int) < a) :
    Calls Tryz.prog 138 #[.string s, .int .i64 a] w fun e w' => e = .returned (.tuple #[encV zeroV, .int .i64 0, .int .i64 1]) ∧ Below w.heap.size w w' := by
  go_enter Tryz.func138, Tryz.ntmps138
  go_wp2
  (try simp only [Exit.inBlock, Exit.then])
  exact bodyPost_ctt rfl w.heap.size _ _ (0, 0) _ rfl (heap_alloc_new w _) Tryz.underlying27 rfl info_val rfl ⟨rfl, (Below.refl _ _).alloc (Nat.le_refl _) _⟩
set_option maxHeartbeats 4000000 in
set_option maxRecDepth 100000 in
theorem valTake_3 (s : ByteArray) (a : Int) (w : World) (hs : s.size ≤ 140737488351232) (h0 : 0 ≤ a) (h1 : a ≤ (s.size : Int)) (h : (s.size : Int) - a < 2) :
    Calls Tryz.prog 138 #[.string s, .int .i64 a] w fun e w' => e = .returned (.tuple #[encV zeroV, .int .i64 0, .int .i64 2]) ∧ Below w.heap.size w w' := by
  go_enter Tryz.func138, Tryz.ntmps138
  go_wp2
  (try simp only [Exit.inBlock, Exit.then])
  exact bodyPost_ctt rfl w.heap.size _ _ (0, 0) _ rfl (heap_alloc_new w _) Tryz.underlying27 rfl info_val rfl ⟨rfl, (Below.refl _ _).alloc (Nat.le_refl _) _⟩
set_option maxHeartbeats 4000000 in
set_option maxRecDepth 100000 in
theorem valTake_4 (s : ByteArray) (m : Nat) (n : Nat) (next : Int) (w : World) (hs : s.size ≤ 140737488351232) (h : m + 2 ≤ s.size) (er : Int) (he : er ≠ 0) (hg : Hid (getV s ((m : Int) + 2) = (n, next, er))) :
    Calls Tryz.prog 138 #[.string s, .int .i64 m] w fun e w' => e = .returned (.tuple #[encV zeroV, .int .i64 0, .int .i64 er]) ∧ Below w.heap.size w w' := by
  have hb : (er != 0) = true := by simpa using he
  have HE := Lib.hid he
  clear he
  go_enter Tryz.func138, Tryz.ntmps138
  go_wp2_with fail
  with_reducible refine (varGet_is s _ n next er _ hs hg).mono ?_
  rintro e w1 ⟨rfl, rfl⟩
  go_wp2
  (try simp only [Exit.inBlock, Exit.then])
  exact bodyPost_ctt rfl w.heap.size _ _ (0, 0) _ rfl (heap_alloc_new w _) Tryz.underlying27 rfl info_val rfl ⟨rfl, (Below.refl _ _).alloc (Nat.le_refl _) _⟩
set_option maxHeartbeats 4000000 in
set_option maxRecDepth 100000 in
theorem valTake_5 (s : ByteArray) (m : Nat) (n : Nat) (next : Int) (w : World) (hs : s.size ≤ 140737488351232) (h : m + 2 ≤ s.size) (t : ByteArray) (to er : Int) (he : er ≠ 0) (hg : Hid (getV s ((m : Int) + 2) = (n, next, 0))) (ht : Hid (takeV s next 32 = (t, to, er))) :
    Calls Tryz.prog 138 #[.string s, .int .i64 m] w fun e w' => e = .returned (.tuple #[encV zeroV, .int .i64 0, .int .i64 er]) ∧ Below w.heap.size w w' := by
  have hb : (er != 0) = true := by simpa using he
  have HE := Lib.hid he
  clear he
  go_enter Tryz.func138, Tryz.ntmps138
  go_wp2_with fail
  with_reducible refine (varGet_is s _ n next 0 _ hs hg).mono ?_
  rintro e w1 ⟨rfl, rfl⟩
  go_wp2_with fail
  with_reducible refine (varTake_is s next 32 t to er _ hs (by omega) (by omega) ht).mono ?_
  rintro e w1 ⟨rfl, rfl⟩
  go_wp2
  (try simp only [Exit.inBlock, Exit.then])
  exact bodyPost_ctt rfl w.heap.size _ _ (0, 0) _ rfl (heap_alloc_new w _) Tryz.underlying27 rfl info_val rfl ⟨rfl, (Below.refl _ _).alloc (Nat.le_refl _) _⟩
set_option maxHeartbeats 4000000 in
set_option maxRecDepth 100000 in
theorem valTake_9 (s : ByteArray) (m : Nat) (x y n : Nat) (next to : Int) (t : ByteArray) (w : World) (hs : s.size ≤ 140737488351232) (h : m + 2 ≤ s.size) (hx : (s[m]'(by omega)).toNat = x) (hy : (s[m + 1]'(by omega)).toNat = y)
    (hg : Hid (getV s ((m : Int) + 2) = (n, next, 0))) (ht : Hid (takeV s next 32 = (t, to, 0))) (hn : n ≤ 1099511627776) (hts : t.size ≤ 32) (hm : Hid (mayV x ((y : Int) + -128) n t = true)) :
    Calls Tryz.prog 138 #[.string s, .int .i64 m] w fun e w' => e = .returned (.tuple #[encV ((x : Int), (y : Int) + -128, (n : Int), t), .int .i64 to, .int .i64 0]) ∧ Below w.heap.size w w' := by
  have hx0 : x < 256 := by rw [← hx]; exact UInt8.toNat_lt _
  have hy0 : y < 256 := by rw [← hy]; exact UInt8.toNat_lt _
  have hmin : min (n : Int) 1099511627777 = (n : Int) := by omega
  go_enter Tryz.func138, Tryz.ntmps138
  go_wp2_with fail
  with_reducible refine (varGet_is s _ n next 0 _ hs hg).mono ?_
  rintro e w1 ⟨rfl, rfl⟩
  go_wp2_with fail
  with_reducible refine (varTake_is s next 32 t to 0 _ hs (by omega) (by omega) ht).mono ?_
  rintro e w1 ⟨rfl, rfl⟩
  go_wp2_with fail
  go_region
  go_wp2_with fail
  with_reducible refine (may_is _ _ _ t true _ (by omega) hm).mono ?_
  rintro e w2 ⟨rfl, b2⟩
  have hz : (w.alloc (.cells #[.int .i64 0, .int .i64 0, .int .i64 0, .string ⟨#[]⟩] 27)).heap.size = w.heap.size + 1 := Array.size_push ..
  have hnew : S4 (w.heap.size + 1) x ((y : Int) + -128) n t w2 := by
    refine S4.below (W := ((w.alloc (.cells #[.int .i64 0, .int .i64 0, .int .i64 0, .string ⟨#[]⟩] 27)).alloc (.cells #[.int .i64 x, .int .i64 ((y : Int) + -128), .int .i64 n, .string t] 27)).drew) (S4.drew ?_) b2
    rw [← hz]
    exact ⟨cell_new _ _ _ _ _ rfl, cell_new _ _ _ _ _ rfl, cell_new _ _ _ _ _ rfl, cell_new _ _ _ _ _ rfl⟩
  have hold : w2.heap[w.heap.size]? = some (.cells #[.int .i64 0, .int .i64 0, .int .i64 0, .string ⟨#[]⟩] 27 (0, 0)) := by
    refine (b2.block w.heap.size (Nat.lt_of_lt_of_le (by rw [hz]; omega) (Nat.le_of_lt (Nat.lt_of_lt_of_eq (Nat.lt_succ_self _) (Array.size_push ..).symm)))).trans ?_
    refine (Below.heap_alloc _ _ _ (by rw [hz]; omega)).trans ?_
    exact heap_alloc_new w _
  obtain ⟨c0, c1, c2, c3⟩ := hnew
  have o0 : w2.cell? ⟨w.heap.size, 0, none⟩ = some (.int .i64 0) := by simp [World.cell?, hold]
  have o1 : w2.cell? ⟨w.heap.size, 1, none⟩ = some (.int .i64 0) := by simp [World.cell?, hold]
  have o2 : w2.cell? ⟨w.heap.size, 2, none⟩ = some (.int .i64 0) := by simp [World.cell?, hold]
  have o3 : w2.cell? ⟨w.heap.size, 3, none⟩ = some (.string ⟨#[]⟩) := by simp [World.cell?, hold]
  have f0 : w2.frozen? ⟨w.heap.size, 0, none⟩ = false := by simp [World.frozen?, hold]
  have f1 : w2.frozen? ⟨w.heap.size, 1, none⟩ = false := by simp [World.frozen?, hold]
  have f2 : w2.frozen? ⟨w.heap.size, 2, none⟩ = false := by simp [World.frozen?, hold]
  have f3 : w2.frozen? ⟨w.heap.size, 3, none⟩ = false := by simp [World.frozen?, hold]
  have hB : Below w.heap.size w w2 := by
    have e1 : Below w.heap.size w ((w.alloc (.cells #[.int .i64 0, .int .i64 0, .int .i64 0, .string ⟨#[]⟩] 27)).alloc (.cells #[.int .i64 x, .int .i64 ((y : Int) + -128), .int .i64 n, .string t] 27)).drew := Below.drew (below_alloc0 (below_alloc0 (Below.refl _ _) _) _)
    exact below_call e1 b2
  go_wp2
  (try simp only [Exit.inBlock, Exit.then])
  refine bodyPost_ctt rfl w.heap.size 27 #[.int .i64 x, .int .i64 ((y : Int) + -128), .int .i64 n, .string t] (0, 0) _ rfl ?_ Tryz.underlying27 rfl info_val rfl ⟨rfl, ?_⟩
  · simp [World.setCell, Array.getElem?_modify, hold]
  · exact (((hB.setCell (p := ⟨w.heap.size, 0, none⟩) (Nat.le_refl _) _).setCell (p := ⟨w.heap.size, 1, none⟩) (Nat.le_refl _) _).setCell (p := ⟨w.heap.size, 2, none⟩) (Nat.le_refl _) _).setCell (p := ⟨w.heap.size, 3, none⟩) (Nat.le_refl _) _
end Go.Proofs.YtbpfcjdjhponaaaGreat
namespace Go.Proofs.YtbpfcjdjhponaaaGreat
open Go.RowKit
open Sp
set_option maxHeartbeats 4000000 in
set_option maxRecDepth 100000 in
theorem valTake_8b (s : ByteArray) (m : Nat) (x y n : Nat) (next to : Int) (t : ByteArray) (w : World) (hs : s.size ≤ 140737488351232) (h : m + 2 ≤ s.size) (hx : (s[m]'(by omega)).toNat = x) (hy : (s[m + 1]'(by omega)).toNat = y)
    (hg : Hid (getV s ((m : Int) + 2) = (n, next, 0))) (ht : Hid (takeV s next 32 = (t, to, 0))) (hn : n ≤ 1099511627777) (hts : t.size ≤ 32) (hm : Hid (mayV x ((y : Int) + -128) n t = false)) :
    Calls Tryz.prog 138 #[.string s, .int .i64 m] w fun e w' => e = .returned (.tuple #[encV zeroV, .int .i64 0, .int .i64 3]) ∧ Below w.heap.size w w' := by
  have hx0 : x < 256 := by rw [← hx]; exact UInt8.toNat_lt _
  have hy0 : y < 256 := by rw [← hy]; exact UInt8.toNat_lt _
  have hmin : min (n : Int) 1099511627777 = (n : Int) := by omega
  go_enter Tryz.func138, Tryz.ntmps138
  go_wp2_with fail
  with_reducible refine (varGet_is s _ n next 0 _ hs hg).mono ?_
  rintro e w1 ⟨rfl, rfl⟩
  go_wp2_with fail
  with_reducible refine (varTake_is s next 32 t to 0 _ hs (by omega) (by omega) ht).mono ?_
  rintro e w1 ⟨rfl, rfl⟩
  go_wp2_with fail
  go_region
  go_wp2_with fail
  with_reducible refine (may_is _ _ _ t false _ (by omega) hm).mono ?_
  rintro e w2 ⟨rfl, b2⟩
  have hz : (w.alloc (.cells #[.int .i64 0, .int .i64 0, .int .i64 0, .string ⟨#[]⟩] 27)).heap.size = w.heap.size + 1 := Array.size_push ..
  have hnew : S4 (w.heap.size + 1) x ((y : Int) + -128) n t w2 := by
    refine S4.below (W := ((w.alloc (.cells #[.int .i64 0, .int .i64 0, .int .i64 0, .string ⟨#[]⟩] 27)).alloc (.cells #[.int .i64 x, .int .i64 ((y : Int) + -128), .int .i64 n, .string t] 27)).drew) (S4.drew ?_) b2
    rw [← hz]
    exact ⟨cell_new _ _ _ _ _ rfl, cell_new _ _ _ _ _ rfl, cell_new _ _ _ _ _ rfl, cell_new _ _ _ _ _ rfl⟩
  have hold : w2.heap[w.heap.size]? = some (.cells #[.int .i64 0, .int .i64 0, .int .i64 0, .string ⟨#[]⟩] 27 (0, 0)) := by
    refine (b2.block w.heap.size (Nat.lt_of_lt_of_le (by rw [hz]; omega) (Nat.le_of_lt (Nat.lt_of_lt_of_eq (Nat.lt_succ_self _) (Array.size_push ..).symm)))).trans ?_
    refine (Below.heap_alloc _ _ _ (by rw [hz]; omega)).trans ?_
    exact heap_alloc_new w _
  obtain ⟨c0, c1, c2, c3⟩ := hnew
  have o0 : w2.cell? ⟨w.heap.size, 0, none⟩ = some (.int .i64 0) := by simp [World.cell?, hold]
  have o1 : w2.cell? ⟨w.heap.size, 1, none⟩ = some (.int .i64 0) := by simp [World.cell?, hold]
  have o2 : w2.cell? ⟨w.heap.size, 2, none⟩ = some (.int .i64 0) := by simp [World.cell?, hold]
  have o3 : w2.cell? ⟨w.heap.size, 3, none⟩ = some (.string ⟨#[]⟩) := by simp [World.cell?, hold]
  have f0 : w2.frozen? ⟨w.heap.size, 0, none⟩ = false := by simp [World.frozen?, hold]
  have f1 : w2.frozen? ⟨w.heap.size, 1, none⟩ = false := by simp [World.frozen?, hold]
  have f2 : w2.frozen? ⟨w.heap.size, 2, none⟩ = false := by simp [World.frozen?, hold]
  have f3 : w2.frozen? ⟨w.heap.size, 3, none⟩ = false := by simp [World.frozen?, hold]
  have hB : Below w.heap.size w w2 := by
    have e1 : Below w.heap.size w ((w.alloc (.cells #[.int .i64 0, .int .i64 0, .int .i64 0, .string ⟨#[]⟩] 27)).alloc (.cells #[.int .i64 x, .int .i64 ((y : Int) + -128), .int .i64 n, .string t] 27)).drew := Below.drew (below_alloc0 (below_alloc0 (Below.refl _ _) _) _)
    exact below_call e1 b2
  go_wp2
  (try simp only [Exit.inBlock, Exit.then])
  refine bodyPost_ctt rfl w.heap.size 27 #[.int .i64 0, .int .i64 0, .int .i64 0, .string ⟨#[]⟩] (0, 0) _ rfl ?_ Tryz.underlying27 rfl info_val rfl ⟨rfl, ?_⟩
  · simp [World.setCell, Array.getElem?_modify, hold]
  · exact (((hB.setCell (p := ⟨w.heap.size, 0, none⟩) (Nat.le_refl _) _).setCell (p := ⟨w.heap.size, 1, none⟩) (Nat.le_refl _) _).setCell (p := ⟨w.heap.size, 2, none⟩) (Nat.le_refl _) _).setCell (p := ⟨w.heap.size, 3, none⟩) (Nat.le_refl _) _
set_option maxHeartbeats 4000000 in
set_option maxRecDepth 100000 in
theorem valTake_7 (s : ByteArray) (m : Nat) (x y n : Nat) (next to : Int) (t : ByteArray) (w : World) (hs : s.size ≤ 140737488351232) (h : m + 2 ≤ s.size) (hx : (s[m]'(by omega)).toNat = x) (hy : (s[m + 1]'(by omega)).toNat = y)
    (hg : Hid (getV s ((m : Int) + 2) = (n, next, 0))) (ht : Hid (takeV s next 32 = (t, to, 0))) (hn : 1099511627777 < n) (hni : (1099511627777 : Int) < (n : Int)) (hn2 : n < 18446744073709551616) (hts : t.size ≤ 32) (hm : Hid (mayV x ((y : Int) + -128) 1099511627777 t = false)) :
    Calls Tryz.prog 138 #[.string s, .int .i64 m] w fun e w' => e = .returned (.tuple #[encV zeroV, .int .i64 0, .int .i64 3]) ∧ Below w.heap.size w w' := by
  have hx0 : x < 256 := by rw [← hx]; exact UInt8.toNat_lt _
  have hy0 : y < 256 := by rw [← hy]; exact UInt8.toNat_lt _
  have hmin : min (n : Int) 1099511627777 = 1099511627777 := by omega
  go_enter Tryz.func138, Tryz.ntmps138
  go_wp2_with fail
  with_reducible refine (varGet_is s _ n next 0 _ hs hg).mono ?_
  rintro e w1 ⟨rfl, rfl⟩
  go_wp2_with fail
  with_reducible refine (varTake_is s next 32 t to 0 _ hs (by omega) (by omega) ht).mono ?_
  rintro e w1 ⟨rfl, rfl⟩
  go_wp2_with fail
  go_region
  go_wp2_with fail
  with_reducible refine (may_is _ _ _ t false _ (by omega) hm).mono ?_
  rintro e w2 ⟨rfl, b2⟩
  have hz : (w.alloc (.cells #[.int .i64 0, .int .i64 0, .int .i64 0, .string ⟨#[]⟩] 27)).heap.size = w.heap.size + 1 := Array.size_push ..
  have hnew : S4 (w.heap.size + 1) x ((y : Int) + -128) 1099511627777 t w2 := by
    refine S4.below (W := ((w.alloc (.cells #[.int .i64 0, .int .i64 0, .int .i64 0, .string ⟨#[]⟩] 27)).alloc (.cells #[.int .i64 x, .int .i64 ((y : Int) + -128), .int .i64 1099511627777, .string t] 27)).drew) (S4.drew ?_) b2
    rw [← hz]
    exact ⟨cell_new _ _ _ _ _ rfl, cell_new _ _ _ _ _ rfl, cell_new _ _ _ _ _ rfl, cell_new _ _ _ _ _ rfl⟩
  have hold : w2.heap[w.heap.size]? = some (.cells #[.int .i64 0, .int .i64 0, .int .i64 0, .string ⟨#[]⟩] 27 (0, 0)) := by
    refine (b2.block w.heap.size (Nat.lt_of_lt_of_le (by rw [hz]; omega) (Nat.le_of_lt (Nat.lt_of_lt_of_eq (Nat.lt_succ_self _) (Array.size_push ..).symm)))).trans ?_
    refine (Below.heap_alloc _ _ _ (by rw [hz]; omega)).trans ?_
    exact heap_alloc_new w _
  obtain ⟨c0, c1, c2, c3⟩ := hnew
  have o0 : w2.cell? ⟨w.heap.size, 0, none⟩ = some (.int .i64 0) := by simp [World.cell?, hold]
  have o1 : w2.cell? ⟨w.heap.size, 1, none⟩ = some (.int .i64 0) := by simp [World.cell?, hold]
  have o2 : w2.cell? ⟨w.heap.size, 2, none⟩ = some (.int .i64 0) := by simp [World.cell?, hold]
  have o3 : w2.cell? ⟨w.heap.size, 3, none⟩ = some (.string ⟨#[]⟩) := by simp [World.cell?, hold]
  have f0 : w2.frozen? ⟨w.heap.size, 0, none⟩ = false := by simp [World.frozen?, hold]
  have f1 : w2.frozen? ⟨w.heap.size, 1, none⟩ = false := by simp [World.frozen?, hold]
  have f2 : w2.frozen? ⟨w.heap.size, 2, none⟩ = false := by simp [World.frozen?, hold]
  have f3 : w2.frozen? ⟨w.heap.size, 3, none⟩ = false := by simp [World.frozen?, hold]
  have hB : Below w.heap.size w w2 := by
    have e1 : Below w.heap.size w ((w.alloc (.cells #[.int .i64 0, .int .i64 0, .int .i64 0, .string ⟨#[]⟩] 27)).alloc (.cells #[.int .i64 x, .int .i64 ((y : Int) + -128), .int .i64 1099511627777, .string t] 27)).drew := Below.drew (below_alloc0 (below_alloc0 (Below.refl _ _) _) _)
    exact below_call e1 b2
  go_wp2
  (try simp only [Exit.inBlock, Exit.then])
  refine bodyPost_ctt rfl w.heap.size 27 #[.int .i64 0, .int .i64 0, .int .i64 0, .string ⟨#[]⟩] (0, 0) _ rfl ?_ Tryz.underlying27 rfl info_val rfl ⟨rfl, ?_⟩
  · simp [World.setCell, Array.getElem?_modify, hold]
  · exact (((hB.setCell (p := ⟨w.heap.size, 0, none⟩) (Nat.le_refl _) _).setCell (p := ⟨w.heap.size, 1, none⟩) (Nat.le_refl _) _).setCell (p := ⟨w.heap.size, 2, none⟩) (Nat.le_refl _) _).setCell (p := ⟨w.heap.size, 3, none⟩) (Nat.le_refl _) _
theorem valTake_calls (s : ByteArray) (a : Int) (w : World) (hs : s.size ≤ 140737488351232) :
    Calls Tryz.prog 138 #[.string s, .int .i64 a] w fun e w' => e = .returned (.tuple #[encV (takeVal s a).1, .int .i64 (takeVal s a).2.1, .int .i64 (takeVal s a).2.2]) ∧ Below w.heap.size w w' := by
  unfold takeVal
  by_cases h0 : a < 0
  · rw [if_pos (.inl h0)]; exact valTake_1 s a w h0
  by_cases h1 : (s.size : Int) < a
  · rw [if_pos (.inr h1)]; exact valTake_2 s a w (by omega) h1
  rw [if_neg (by omega)]
  by_cases h2 : (s.size : Int) - a < 2
  · rw [if_pos h2]; exact valTake_3 s a w hs (by omega) (by omega) h2
  rw [if_neg h2]
  obtain ⟨m, rfl⟩ := Int.eq_ofNat_of_zero_le (show 0 ≤ a by omega)
  have hm2 : m + 2 ≤ s.size := by omega
  obtain ⟨n, next, er, hg⟩ : ∃ n next er, getV s ((m : Int) + 2) = (n, next, er) := ⟨_, _, _, rfl⟩
  simp only [hg]
  by_cases he : er = 0
  · subst he
    rw [if_neg (by simp)]
    have hn2 := (getV_ok s _ n next hg).2.2.2
    obtain ⟨t, to, er, ht⟩ : ∃ t to er, takeV s next 32 = (t, to, er) := ⟨_, _, _, rfl⟩
    simp only [ht]
    by_cases he : er = 0
    · subst he
      rw [if_neg (by simp)]
      have hts : t.size ≤ 32 := by
        have := (takeV_size s next 32 (by show (takeV s next 32).2.2 = 0; rw [ht])).1
        rw [show takeV s next (32 : Nat) = (t, to, 0) from ht] at this
        exact this
      have hgx : ∀ i (h : i < s.size), s.data.toList.getD i 0 = s[i] := fun i h => by
        have hl : i < s.data.toList.length := by rw [← size_eq_length]; exact h
        rw [List.getD_eq_getElem?_getD, List.getElem?_eq_getElem hl]; rfl
      rw [Int.toNat_natCast, hgx m (by omega), hgx (m + 1) (by omega)]
      obtain ⟨x, hx⟩ : ∃ x, (s[m]'(by omega)).toNat = x := ⟨_, rfl⟩
      obtain ⟨y, hy⟩ : ∃ y, (s[m + 1]'(by omega)).toNat = y := ⟨_, rfl⟩
      simp only [hx, hy]
      by_cases hn : 1099511627777 < n
      · have hmf : mayV x ((y : Int) + -128) 1099511627777 t = false := by
          cases hq : mayV x ((y : Int) + -128) 1099511627777 t with
          | false => rfl
          | true => have := (mayV_iff _ _ _ _).1 hq; omega
        have hmf2 : mayV x ((y : Int) - 128) n t = false := by
          cases hq : mayV x ((y : Int) - 128) n t with
          | false => rfl
          | true => have := (mayV_iff _ _ _ _).1 hq; omega
        rw [if_neg (by rw [hmf2]; exact Bool.false_ne_true)]
        exact valTake_7 s m x y n next to t w hs hm2 hx hy hg ht hn (by omega) hn2 hts hmf
      · cases hq : mayV x ((y : Int) - 128) n t with
        | false =>
          rw [if_neg Bool.false_ne_true]
          exact valTake_8b s m x y n next to t w hs hm2 hx hy hg ht (by omega) hts (by show _ = _; rw [← Int.sub_eq_add_neg]; exact hq)
        | true =>
          rw [if_pos rfl]
          have hnn := (mayV_iff _ _ _ _).1 hq
          have := valTake_9 s m x y n next to t w hs hm2 hx hy hg ht (by omega) hts (by show _ = _; rw [← Int.sub_eq_add_neg]; exact hq)
          rw [← Int.sub_eq_add_neg] at this
          exact this
    · rw [if_pos he]
      exact valTake_5 s m n next w hs hm2 t to er he hg ht
  · rw [if_pos he]
    exact valTake_4 s m n next w hs hm2 er he hg
end Go.Proofs.YtbpfcjdjhponaaaGreat
namespace Go.Proofs.YtbpfcjdjhponaaaGreat
open Go.RowKit Sp
set_option maxHeartbeats 1000000 in
set_option maxRecDepth 100000 in
theorem crcOpen_calls (s : ByteArray) (w : World) (hs : s.size ≤ 140737488351232) :
    Calls Tryz.prog 52 #[.string s] w fun e w' => e = .returned (.tuple #[.string (openS s).1, .int .i64 (openS s).2]) ∧ Below w.heap.size w w' := by
  by_cases h4 : (s.size : Int) < 4
  · have HV : Hid (openS s = (⟨#[]⟩, 2)) := by show _ = _; rw [openS, if_pos (by omega)]
    go_enter Tryz.func52, Tryz.ntmps52
    go_wp2
    go_ret2
    rw [HV.out]
    exact ⟨rfl, Below.refl _ _⟩
  · have hz : (s.extract 0 (s.size - 4)).size ≤ 140737488351232 := by rw [ByteArray.size_extract]; omega
    by_cases he : sealS (s.extract 0 (s.size - 4)) = s
    · have HV : Hid (openS s = (s.extract 0 (s.size - 4), 0)) := by show _ = _; rw [openS, if_neg (by omega), if_pos he]
      have hne : (!((sealS (s.extract 0 (s.size - 4))).toList == s.toList)) = false := by rw [he]; simp
      clear he
      go_enter Tryz.func52, Tryz.ntmps52
      go_wp2_with fail
      refine (crcSeal_calls _ _ hz).mono ?_
      rintro e w1 ⟨rfl, b1⟩
      go_wp2
      go_ret2
      rw [HV.out]
      exact ⟨rfl, b1⟩
    · have HV : Hid (openS s = (⟨#[]⟩, 4)) := by show _ = _; rw [openS, if_neg (by omega), if_neg he]
      have hne : (!((sealS (s.extract 0 (s.size - 4))).toList == s.toList)) = true := by
        simp only [Bool.not_eq_true', beq_eq_false_iff_ne]
        exact fun e => he (toList_inj'.1 e)
      clear he
      go_enter Tryz.func52, Tryz.ntmps52
      go_wp2_with fail
      refine (crcSeal_calls _ _ hz).mono ?_
      rintro e w1 ⟨rfl, b1⟩
      go_wp2
      go_ret2
      rw [HV.out]
      exact ⟨rfl, b1⟩
end Go.Proofs.YtbpfcjdjhponaaaGreat
namespace Go.Proofs.YtbpfcjdjhponaaaGreat
open Go.RowKit
namespace Sp
structure Ev where
  k : Int
  u : ByteArray
  o : ByteArray
  i : Int
  v : PV
def zeroE : Ev := ⟨0, ⟨#[]⟩, ⟨#[]⟩, 0, zeroV⟩
def isZ (a p n : Int) (t : ByteArray) : Bool := decide (a = 0) && (decide (p = 0) && (decide (n = 0) && decide (t.toList = [])))
def mayE8 (k : Int) (u o : ByteArray) (i a p n : Int) (t : ByteArray) : Bool :=
  if k < 1 ∨ 8 < k ∨ isName u = false then false
  else if k ≤ 6 then isName o && (decide (i = 0) && isZ a p n t)
  else if o.toList ≠ [] ∨ i < 0 ∨ 4 ≤ i then false
  else if k = 7 then mayV a p n t else isZ a p n t
def mayE (e : Ev) : Bool := mayE8 e.k e.u e.o e.i e.v.1 e.v.2.1 e.v.2.2.1 e.v.2.2.2
end Sp
open Sp
def evV (e : Ev) : Value := .agg #[.int .i64 e.k, .string e.u, .string e.o, .int .i64 e.i, .int .i64 e.v.1, .int .i64 e.v.2.1, .int .i64 e.v.2.2.1, .string e.v.2.2.2]
end Go.Proofs.YtbpfcjdjhponaaaGreat
namespace Go.Proofs.YtbpfcjdjhponaaaGreat
open Go.RowKit
open Sp
def hasK (k : Int) : Int := if 1 ≤ k ∧ k ≤ 6 then 1 else if k = 7 then 6 else if k = 8 then 2 else 0
set_option maxHeartbeats 2000000 in
set_option maxRecDepth 100000 in
theorem has_calls (k : Int) (w : World) : Calls Tryz.prog 48 #[.int .i64 k] w fun e w' => e = .returned (.int .i64 (hasK k)) ∧ w = w' := by
  go_enter Tryz.func48, Tryz.ntmps48
  go_wp2
  all_goals (try go_ret)
  all_goals (refine ⟨ret_int ?_, rfl⟩)
  all_goals (unfold hasK)
  all_goals (try (simp_all; done))
  all_goals (try (simp_all; omega))
theorem name_ne (o : ByteArray) (h : isName o = true) : o.toList ≠ [] := fun e => by
  have := ((isName_iff o).mp h).1
  rw [toList_nil_iff] at e
  omega
theorem has_is (k c : Int) (w : World) (h : Hid (hasK k = c)) : Calls Tryz.prog 48 #[.int .i64 k] w fun e w' => e = .returned (.int .i64 c) ∧ w = w' := re_ (has_calls k w) (by rw [h.out])
set_option maxHeartbeats 20000000 in
set_option maxRecDepth 100000 in
theorem mayE_1 (k : Int) (u o : ByteArray) (i a p n : Int) (t : ByteArray) (w : World) (hu : u.size ≤ 140737488351232) (ho : o.size ≤ 140737488351232) (ht : t.size ≤ 140737488351232) (h1 : 1 ≤ k) (h6 : k ≤ 6) :
    Calls Tryz.prog 43 #[.agg #[.int .i64 k, .string u, .string o, .int .i64 i, .int .i64 a, .int .i64 p, .int .i64 n, .string t]] w fun e w' => e = .returned (.bool (mayE8 k u o i a p n t)) ∧ Below w.heap.size w w' := by
  have e1 : bits .and .i64 1 1 = 1 := by decide
  have e2 : bits .and .i64 1 2 = 0 := by decide
  have e4 : bits .and .i64 1 4 = 0 := by decide
  go_enter Tryz.func43, Tryz.ntmps43
  go_wp2_with (first | (go_at_call 48; refine (has_is _ 1 _ (by unfold Hid; unfold hasK; rw [if_pos ⟨h1, h6⟩])).mono ?_; rintro e w1 ⟨rfl, rfl⟩) | (go_at_call 74; refine (Is_calls _ _ (by assumption)).mono ?_; rintro e w2 ⟨rfl, b2⟩; have B2 := below_call (by first | assumption | exact below_box _) b2; obtain ⟨hc2, hf2⟩ := bcell b2; have hz2 : w.heap.size < w2.heap.size := Nat.lt_of_lt_of_le (by first | assumption | simp) b2.size; clear b2) | (go_at_call 75; refine (may_calls _ _ _ _ _ (by assumption)).mono ?_; rintro e w1 ⟨rfl, b1⟩; have B2 := below_call (by first | assumption | exact below_box _) b1))
  all_goals (try go_ret)
  all_goals (refine ⟨ret_bool ?_, by first | assumption | exact below_box _⟩)
  all_goals (unfold mayE8 isZ)
  all_goals (try (simp_all; done))
  all_goals (try (simp_all; omega))
set_option maxHeartbeats 20000000 in
set_option maxRecDepth 100000 in
theorem mayE_7 (k : Int) (u o : ByteArray) (i a p n : Int) (t : ByteArray) (w : World) (hu : u.size ≤ 140737488351232) (ho : o.size ≤ 140737488351232) (ht : t.size ≤ 140737488351232) (h7 : k = 7) :
    Calls Tryz.prog 43 #[.agg #[.int .i64 k, .string u, .string o, .int .i64 i, .int .i64 a, .int .i64 p, .int .i64 n, .string t]] w fun e w' => e = .returned (.bool (mayE8 k u o i a p n t)) ∧ Below w.heap.size w w' := by
  have e1 : bits .and .i64 6 1 = 0 := by decide
  have e2 : bits .and .i64 6 2 = 2 := by decide
  have e4 : bits .and .i64 6 4 = 4 := by decide
  go_enter Tryz.func43, Tryz.ntmps43
  go_wp2_with (first | (go_at_call 48; refine (has_is _ 6 _ (by unfold Hid; unfold hasK; subst h7; rfl)).mono ?_; rintro e w1 ⟨rfl, rfl⟩) | (go_at_call 74; refine (Is_calls _ _ (by assumption)).mono ?_; rintro e w2 ⟨rfl, b2⟩; have B2 := below_call (by first | assumption | exact below_box _) b2; obtain ⟨hc2, hf2⟩ := bcell b2; have hz2 : w.heap.size < w2.heap.size := Nat.lt_of_lt_of_le (by first | assumption | simp) b2.size; clear b2) | (go_at_call 75; refine (may_calls _ _ _ _ _ (by assumption)).mono ?_; rintro e w1 ⟨rfl, b1⟩; have B2 := below_call (by first | assumption | exact below_box _) b1))
  all_goals (try go_ret)
  all_goals (refine ⟨ret_bool ?_, by first | assumption | exact below_box _⟩)
  all_goals (unfold mayE8 isZ)
  all_goals (try (simp_all; done))
  all_goals (try (simp_all; omega))
  all_goals (rename_i hq; have hne := name_ne o hq; simp_all)
set_option maxHeartbeats 20000000 in
set_option maxRecDepth 100000 in
theorem mayE_8 (k : Int) (u o : ByteArray) (i a p n : Int) (t : ByteArray) (w : World) (hu : u.size ≤ 140737488351232) (ho : o.size ≤ 140737488351232) (ht : t.size ≤ 140737488351232) (h8 : k = 8) :
    Calls Tryz.prog 43 #[.agg #[.int .i64 k, .string u, .string o, .int .i64 i, .int .i64 a, .int .i64 p, .int .i64 n, .string t]] w fun e w' => e = .returned (.bool (mayE8 k u o i a p n t)) ∧ Below w.heap.size w w' := by
  have e1 : bits .and .i64 2 1 = 0 := by decide
  have e2 : bits .and .i64 2 2 = 2 := by decide
  have e4 : bits .and .i64 2 4 = 0 := by decide
  go_enter Tryz.func43, Tryz.ntmps43
  go_wp2_with (first | (go_at_call 48; refine (has_is _ 2 _ (by unfold Hid; unfold hasK; subst h8; rfl)).mono ?_; rintro e w1 ⟨rfl, rfl⟩) | (go_at_call 74; refine (Is_calls _ _ (by assumption)).mono ?_; rintro e w2 ⟨rfl, b2⟩; have B2 := below_call (by first | assumption | exact below_box _) b2; obtain ⟨hc2, hf2⟩ := bcell b2; have hz2 : w.heap.size < w2.heap.size := Nat.lt_of_lt_of_le (by first | assumption | simp) b2.size; clear b2) | (go_at_call 75; refine (may_calls _ _ _ _ _ (by assumption)).mono ?_; rintro e w1 ⟨rfl, b1⟩; have B2 := below_call (by first | assumption | exact below_box _) b1))
  all_goals (try go_ret)
  all_goals (refine ⟨ret_bool ?_, by first | assumption | exact below_box _⟩)
  all_goals (unfold mayE8 isZ)
  all_goals (try (simp_all; done))
  all_goals (try (simp_all; omega))
  all_goals (rename_i hq; have hne := name_ne o hq; simp_all)
set_option maxHeartbeats 20000000 in
set_option maxRecDepth 100000 in
theorem mayE_0 (k : Int) (u o : ByteArray) (i a p n : Int) (t : ByteArray) (w : World) (hu : u.size ≤ 140737488351232) (ho : o.size ≤ 140737488351232) (ht : t.size ≤ 140737488351232) (h : k < 1 ∨ 8 < k) :
    Calls Tryz.prog 43 #[.agg #[.int .i64 k, .string u, .string o, .int .i64 i, .int .i64 a, .int .i64 p, .int .i64 n, .string t]] w fun e w' => e = .returned (.bool (mayE8 k u o i a p n t)) ∧ Below w.heap.size w w' := by
  have e1 : bits .and .i64 0 1 = 0 := by decide
  have e2 : bits .and .i64 0 2 = 0 := by decide
  have e4 : bits .and .i64 0 4 = 0 := by decide
  go_enter Tryz.func43, Tryz.ntmps43
  go_wp2_with (first | (go_at_call 48; refine (has_is _ 0 _ (by unfold Hid; unfold hasK; rw [if_neg (by omega), if_neg (by omega), if_neg (by omega)])).mono ?_; rintro e w1 ⟨rfl, rfl⟩) | (go_at_call 74; refine (Is_calls _ _ (by assumption)).mono ?_; rintro e w2 ⟨rfl, b2⟩; have B2 := below_call (by first | assumption | exact below_box _) b2; obtain ⟨hc2, hf2⟩ := bcell b2; have hz2 : w.heap.size < w2.heap.size := Nat.lt_of_lt_of_le (by first | assumption | simp) b2.size; clear b2) | (go_at_call 75; refine (may_calls _ _ _ _ _ (by assumption)).mono ?_; rintro e w1 ⟨rfl, b1⟩; have B2 := below_call (by first | assumption | exact below_box _) b1))
  all_goals (try go_ret)
  all_goals (refine ⟨ret_bool ?_, by first | assumption | exact below_box _⟩)
  all_goals (unfold mayE8 isZ)
  all_goals (try (simp_all; done))
  all_goals (try (simp_all; omega))
theorem mayE_calls (k : Int) (u o : ByteArray) (i a p n : Int) (t : ByteArray) (w : World) (hu : u.size ≤ 140737488351232) (ho : o.size ≤ 140737488351232) (ht : t.size ≤ 140737488351232) :
    Calls Tryz.prog 43 #[.agg #[.int .i64 k, .string u, .string o, .int .i64 i, .int .i64 a, .int .i64 p, .int .i64 n, .string t]] w fun e w' => e = .returned (.bool (mayE8 k u o i a p n t)) ∧ Below w.heap.size w w' := by
  by_cases h0 : k < 1 ∨ 8 < k
  · exact mayE_0 k u o i a p n t w hu ho ht h0
  by_cases h6 : k ≤ 6
  · exact mayE_1 k u o i a p n t w hu ho ht (by omega) h6
  by_cases h7 : k = 7
  · exact mayE_7 k u o i a p n t w hu ho ht h7
  · exact mayE_8 k u o i a p n t w hu ho ht (by omega)
end Go.Proofs.YtbpfcjdjhponaaaGreat
namespace Go.Proofs.YtbpfcjdjhponaaaGreat
open Go.RowKit
namespace Sp
def foldE (e : Ev) : Ev × Bool :=
  let f : Ev := ⟨e.k, (foldV e.u).1, (foldV e.o).1, e.i, e.v⟩
  if (foldV e.u).2 = false ∨ ((foldV e.o).2 = false ∧ e.o.toList ≠ []) ∨ mayE f = false then (zeroE, false) else (f, true)
end Sp
open Sp
theorem nb_t {b : Bool} (h : (!b) = true) : b = false := by simpa using h
theorem nb_f {b : Bool} (h : (!b) = false) : b = true := by simpa using h
theorem foldE_no (e : Ev) (u' o' : ByteArray) (bu bo : Bool) (HU : foldV e.u = (u', bu)) (HO : foldV e.o = (o', bo)) (h : bu = false ∨ (bo = false ∧ e.o.toList ≠ []) ∨ mayE8 e.k u' o' e.i e.v.1 e.v.2.1 e.v.2.2.1 e.v.2.2.2 = false) : foldE e = (zeroE, false) := by
  simp only [foldE, mayE, HU, HO]
  rw [if_pos h]
theorem foldE_yes (e : Ev) (u' o' : ByteArray) (bu bo : Bool) (HU : foldV e.u = (u', bu)) (HO : foldV e.o = (o', bo)) (h : bu = true) (h2 : bo = true ∨ e.o.toList = []) (h3 : mayE8 e.k u' o' e.i e.v.1 e.v.2.1 e.v.2.2.1 e.v.2.2.2 = true) : foldE e = (⟨e.k, u', o', e.i, e.v⟩, true) := by
  simp only [foldE, mayE, HU, HO]
  rw [if_neg]
  rintro (h' | ⟨h', h4⟩ | h')
  · rw [h] at h'; cases h'
  · rcases h2 with h2 | h2
    · rw [h2] at h'; cases h'
    · exact h4 h2
  · rw [h3] at h'; cases h'
set_option maxHeartbeats 20000000 in
set_option maxRecDepth 100000 in
theorem foldE_w (k : Int) (u o : ByteArray) (i a p n : Int) (t : ByteArray) (u' o' : ByteArray) (bu bo : Bool) (w : World) (hu : u.size ≤ 140737488351232) (ho : o.size ≤ 140737488351232) (ht : t.size ≤ 140737488351232)
   (HU : Hid (foldV u = (u', bu))) (HO : Hid (foldV o = (o', bo))) (hu' : u'.size ≤ 140737488351232) (ho' : o'.size ≤ 140737488351232) :
    Calls Tryz.prog 13 #[.agg #[.int .i64 k, .string u, .string o, .int .i64 i, .int .i64 a, .int .i64 p, .int .i64 n, .string t]] w fun e w' => e = .returned (.tuple #[evV (foldE ⟨k, u, o, i, a, p, n, t⟩).1, .bool (foldE ⟨k, u, o, i, a, p, n, t⟩).2]) ∧ Below w.heap.size w w' := by
  obtain ⟨fe, hfe⟩ : ∃ fe, foldE ⟨k, u, o, i, a, p, n, t⟩ = fe := ⟨_, rfl⟩
  rw [hfe]
  have HF := Lib.hid hfe
  clear hfe
  go_enter Tryz.func13, Tryz.ntmps13
  go_wp2_with fail
  refine (re_ (identFold_calls u _ hu) (by rw [HU.out])).mono ?_
  rintro e w1 ⟨rfl, b1⟩
  obtain ⟨hc1, hf1⟩ := bcell b1
  have hz1 : w.heap.size + 1 < w1.heap.size := by have := b1.size; simp at this; omega
  have hza1 : w.heap.size < w1.heap.size := by omega
  go_wp2_with fail
  refine (re_ (identFold_calls o _ ho) (by rw [HO.out])).mono ?_
  rintro e w2 ⟨rfl, b2⟩
  obtain ⟨hc2, hf2⟩ := bcell b2
  have hz2 : w.heap.size + 1 < w2.heap.size := Nat.lt_of_lt_of_le hz1 b2.size
  have hza2 : w.heap.size < w2.heap.size := by omega
  have B2 : Below w.heap.size w w2 := below_call (below_call (below_alloc0 (below_alloc0 (Below.refl _ _) _) _) b1) b2
  clear b1 b2
  go_wp2_with (first | (go_at_call 43; refine (mayE_calls _ _ _ _ _ _ _ _ _ (by assumption) (by assumption) (by assumption)).mono ?_; rintro e w3 ⟨rfl, b3⟩; obtain ⟨hc3, hf3⟩ := bcell b3; have hz3 : w.heap.size + 1 < w3.heap.size := Nat.lt_of_lt_of_le (by first | assumption | (simp; omega)) b3.size; have hza3 : w.heap.size < w3.heap.size := by omega))
  all_goals (try simp only [Exit.inBlock, Exit.then])
  all_goals first
    | (refine bodyPost_ret (v := .tuple #[evV zeroE, .bool false]) ?_ rfl ⟨?_, ?_⟩; focus (simp [results, Tryz.results13, go_sem, evV, zeroE, zeroV, *]; done))
    | (refine bodyPost_ret (v := .tuple #[evV ⟨k, u', o', i, a, p, n, t⟩, .bool true]) ?_ rfl ⟨?_, ?_⟩; focus (simp [results, Tryz.results13, go_sem, evV, *]; done))
  all_goals first
    | (have hx : ¬bu = true := (by with_reducible assumption); have hfe := foldE_no ⟨k, u, o, i, a, p, n, t⟩ u' o' bu bo HU.out HO.out (.inl (Bool.eq_false_iff.2 hx)); (replace hfe := HF.out.symm.trans hfe); rw [hfe])
    | (have hx : ¬bo = true := (by with_reducible assumption); have hy : ¬o.toList = [] := (by with_reducible assumption); have hfe := foldE_no ⟨k, u, o, i, a, p, n, t⟩ u' o' bu bo HU.out HO.out (.inr (.inl ⟨Bool.eq_false_iff.2 hx, hy⟩)); (replace hfe := HF.out.symm.trans hfe); rw [hfe])
    | (have hx : (!mayE8 k u' o' i a p n t) = true := (by with_reducible assumption); have hfe := foldE_no ⟨k, u, o, i, a, p, n, t⟩ u' o' bu bo HU.out HO.out (.inr (.inr (nb_t hx))); (replace hfe := HF.out.symm.trans hfe); rw [hfe])
    | (have hx : bu = true := (by with_reducible assumption); have hy : bo = true := (by with_reducible assumption); have hz : (!mayE8 k u' o' i a p n t) = false := (by with_reducible assumption); have hfe := foldE_yes ⟨k, u, o, i, a, p, n, t⟩ u' o' bu bo HU.out HO.out hx (.inl hy) (nb_f hz); (replace hfe := HF.out.symm.trans hfe); rw [hfe])
    | (have hx : bu = true := (by with_reducible assumption); have hy : o.toList = [] := (by with_reducible assumption); have hz : (!mayE8 k u' o' i a p n t) = false := (by with_reducible assumption); have hfe := foldE_yes ⟨k, u, o, i, a, p, n, t⟩ u' o' bu bo HU.out HO.out hx (.inr hy) (nb_f hz); (replace hfe := HF.out.symm.trans hfe); rw [hfe])
    | skip
  all_goals (repeat (first | with_reducible exact B2 | with_reducible refine Below.setCell ?_ (Nat.le_succ _) _ | with_reducible refine Below.setCell ?_ (Nat.le_of_lt hza2) _ | with_reducible refine below_alloc0 ?_ _ | with_reducible refine below_call ?_ b3))
end Go.Proofs.YtbpfcjdjhponaaaGreat
namespace Go.Proofs.YtbpfcjdjhponaaaGreat
open Go.RowKit
namespace Sp
def encE8 (k : Int) (u o : ByteArray) (i a p n : Int) (t : ByteArray) : ByteArray × Int :=
  if ¬ mayE8 k u o i a p n t = true then (⟨#[]⟩, 1)
  else (sealS (if k ≤ 6 then strOf [UInt8.ofNat k.toNat] ++ textV u ++ textV o else if k = 7 then strOf [UInt8.ofNat k.toNat] ++ textV u ++ strOf [UInt8.ofNat i.toNat] ++ (putVal a p n t).1 else strOf [UInt8.ofNat k.toNat] ++ textV u ++ strOf [UInt8.ofNat i.toNat]), 0)
def encE (e : Ev) : ByteArray × Int := encE8 e.k e.u e.o e.i e.v.1 e.v.2.1 e.v.2.2.1 e.v.2.2.2
end Sp
open Sp
theorem mayE8_sz (k : Int) (u o : ByteArray) (i a p n : Int) (t : ByteArray) (h : mayE8 k u o i a p n t = true) : 1 ≤ k ∧ k ≤ 8 ∧ u.size ≤ 16 ∧ o.size ≤ 16 ∧ t.size ≤ 32 ∧ (6 < k → 0 ≤ i) ∧ (6 < k → i < 4) := by
  unfold mayE8 at h
  split at h
  · cases h
  · rename_i h1
    have hn : isName u = true := by cases hq : isName u <;> simp_all
    have hu := ((isName_iff u).mp hn).2.1
    split at h
    · rename_i h6
      simp only [isZ, Bool.and_eq_true, decide_eq_true_eq] at h
      have ho := ((isName_iff o).mp h.1).2.1
      have ht := (toList_nil_iff t).1 h.2.2.2.2.2
      exact ⟨by omega, by omega, hu, ho, by omega, by omega, by omega⟩
    · rename_i h6
      split at h
      · cases h
      · rename_i h2
        have ho : o.size = 0 := (toList_nil_iff o).1 (by by_cases e : o.toList = [] <;> simp_all)
        split at h
        · have ht := ((mayV_iff a p n t).1 h).2.2.2.2.2.2.1
          exact ⟨by omega, by omega, hu, by omega, by omega, by omega, by omega⟩
        · simp only [isZ, Bool.and_eq_true, decide_eq_true_eq] at h
          have ht := (toList_nil_iff t).1 h.2.2.2
          exact ⟨by omega, by omega, hu, by omega, by omega, by omega, by omega⟩
theorem putVal_size (a p n : Int) (t : ByteArray) : (putVal a p n t).1.size ≤ 60 := by
  unfold putVal
  split
  · rename_i h
    have hh := (mayV_iff a p n t).1 h
    have h1 := textV_size t (by omega)
    have h2 := putV_len n.toNat (by omega)
    simp only [ByteArray.size_append, strOf_size]
    have h3 : (valL a p n).length = 2 := rfl
    omega
  · simp [ByteArray.size]
def S8 (g : Nat) (k : Int) (u o : ByteArray) (i a p n : Int) (t : ByteArray) (W : World) : Prop :=
  W.cell? ⟨g, 0, none⟩ = some (.int .i64 k) ∧ W.cell? ⟨g, 1, none⟩ = some (.string u) ∧ W.cell? ⟨g, 2, none⟩ = some (.string o) ∧ W.cell? ⟨g, 3, none⟩ = some (.int .i64 i) ∧ W.cell? ⟨g, 4, none⟩ = some (.int .i64 a) ∧ W.cell? ⟨g, 5, none⟩ = some (.int .i64 p) ∧ W.cell? ⟨g, 6, none⟩ = some (.int .i64 n) ∧ W.cell? ⟨g, 7, none⟩ = some (.string t)
theorem S8.below {g : Nat} {k : Int} {u o : ByteArray} {i a p n : Int} {t : ByteArray} {W W' : World} (h : S8 g k u o i a p n t W) (hb : Below W.heap.size W W') : S8 g k u o i a p n t W' :=
  ⟨cell_below hb h.1, cell_below hb h.2.1, cell_below hb h.2.2.1, cell_below hb h.2.2.2.1, cell_below hb h.2.2.2.2.1, cell_below hb h.2.2.2.2.2.1, cell_below hb h.2.2.2.2.2.2.1, cell_below hb h.2.2.2.2.2.2.2⟩
theorem S8.alloc {g : Nat} {k : Int} {u o : ByteArray} {i a p n : Int} {t : ByteArray} {W : World} (h : S8 g k u o i a p n t W) (x : Obj) : S8 g k u o i a p n t (W.alloc x) := h.below ((Below.refl _ _).alloc (Nat.le_refl _) _)
end Go.Proofs.YtbpfcjdjhponaaaGreat
