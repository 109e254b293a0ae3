/-
Layer 23: an event folded, by the program.
-/
import Derived.Test.YtobhlcogopcbdaaScrB
import Derived.Test.YtobhlcogopcbdaaIdentC
set_option linter.unusedVariables false
set_option linter.unusedSimpArgs false
namespace Go.Proofs.Ytobhlcogopcbdaa
open Go.RowKit
namespace Sp
def foldE (e : Ev) : Ev × Bool :=
  let f : Ev := ⟨e.k, (foldV e.u).1, (foldV e.o).1, e.i, e.v⟩
  if (foldV e.u).2 = false ∨ ((foldV e.o).2 = false ∧ e.o.toList ≠ []) ∨ mayE f = false then (zeroE, false) else (f, true)
end Sp
open Sp
/-- The end of a function whose first of two results lies in a variable. -/
theorem bodyPost_ct {P : Program} {fn : Func} {R : Ending → World → Prop} {a : Act} {w : World} {p u : Tmp} {ty : TypeId} (h : fn.results = #[.cell p ty, .tmp u]) (g : Nat) (t : TypeId) (cs : Array Value) (fr : Nat × Nat) (d : TypeDesc)
    (hp : a.tmps.getD p undef = .pointer (some ⟨g, 0, none⟩)) (hg : w.heap[g]? = some (.cells cs t fr))
    (hu : P.underlying ty = some d) (hd : (match d with | .struct _ | .array _ _ => true | _ => false) = true) (hi : (P.info? ty).map (·.size) = some cs.size)
    (hde : a.defers = []) (hR : R (.returned (.tuple #[.agg cs, a.tmps.getD u undef])) w) : bodyPost P fn R .ret a w := by
  refine bodyPost_ret ?_ hde hR
  have hp' : a.tmps[p]?.getD undef = .pointer (some ⟨g, 0, none⟩) := by simpa using hp
  simp [results, h, hp', asAddr, run_loadVar_row w g t ty cs fr d hg hu hd hi]
theorem info_ev : (Try.prog.info? 44).map (·.size) = some 8 := by kernel_rfl

theorem nb_t {b : Bool} (h : (!b) = true) : b = false := by simpa using h
theorem nb_f {b : Bool} (h : (!b) = false) : b = true := by simpa using h
theorem foldE_no (e : Ev) (u' o' : ByteArray) (bu bo : Bool) (HU : foldV e.u = (u', bu)) (HO : foldV e.o = (o', bo)) (h : bu = false ∨ (bo = false ∧ e.o.toList ≠ []) ∨ mayE8 e.k u' o' e.i e.v.1 e.v.2.1 e.v.2.2.1 e.v.2.2.2 = false) : foldE e = (zeroE, false) := by
  simp only [foldE, mayE, HU, HO]
  rw [if_pos h]
theorem foldE_yes (e : Ev) (u' o' : ByteArray) (bu bo : Bool) (HU : foldV e.u = (u', bu)) (HO : foldV e.o = (o', bo)) (h : bu = true) (h2 : bo = true ∨ e.o.toList = []) (h3 : mayE8 e.k u' o' e.i e.v.1 e.v.2.1 e.v.2.2.1 e.v.2.2.2 = true) : foldE e = (⟨e.k, u', o', e.i, e.v⟩, true) := by
  simp only [foldE, mayE, HU, HO]
  rw [if_neg]
  rintro (h' | ⟨h', h4⟩ | h')
  · rw [h] at h'; cases h'
  · rcases h2 with h2 | h2
    · rw [h2] at h'; cases h'
    · exact h4 h2
  · rw [h3] at h'; cases h'

set_option maxHeartbeats 20000000 in
set_option maxRecDepth 100000 in
theorem foldE_w (k : Int) (u o : ByteArray) (i a p n : Int) (t : ByteArray) (u' o' : ByteArray) (bu bo : Bool) (w : World) (hu : u.size ≤ 140737488351232) (ho : o.size ≤ 140737488351232) (ht : t.size ≤ 140737488351232)
   (HU : Hid (foldV u = (u', bu))) (HO : Hid (foldV o = (o', bo))) (hu' : u'.size ≤ 140737488351232) (ho' : o'.size ≤ 140737488351232) :
    Calls Try.prog 42 #[.agg #[.int .i64 k, .string u, .string o, .int .i64 i, .int .i64 a, .int .i64 p, .int .i64 n, .string t]] w fun e w' => e = .returned (.tuple #[evV (foldE ⟨k, u, o, i, a, p, n, t⟩).1, .bool (foldE ⟨k, u, o, i, a, p, n, t⟩).2]) ∧ Below w.heap.size w w' := by
  obtain ⟨fe, hfe⟩ : ∃ fe, foldE ⟨k, u, o, i, a, p, n, t⟩ = fe := ⟨_, rfl⟩
  rw [hfe]
  have HF := Lib.hid hfe
  clear hfe
  go_enter Try.func42, Try.ntmps42
  go_wp2_with fail
  refine (re_ (identFold_calls u _ hu) (by rw [HU.out])).mono ?_
  rintro e w1 ⟨rfl, b1⟩
  obtain ⟨hc1, hf1⟩ := bcell b1
  have hz1 : w.heap.size + 1 < w1.heap.size := by have := b1.size; simp at this; omega
  have hza1 : w.heap.size < w1.heap.size := by omega
  go_wp2_with fail
  refine (re_ (identFold_calls o _ ho) (by rw [HO.out])).mono ?_
  rintro e w2 ⟨rfl, b2⟩
  obtain ⟨hc2, hf2⟩ := bcell b2
  have hz2 : w.heap.size + 1 < w2.heap.size := Nat.lt_of_lt_of_le hz1 b2.size
  have hza2 : w.heap.size < w2.heap.size := by omega
  have B2 : Below w.heap.size w w2 := below_call (below_call (below_alloc0 (below_alloc0 (Below.refl _ _) _) _) b1) b2
  clear b1 b2
  go_wp2_with (first | (go_at_call 41; refine (mayE_calls _ _ _ _ _ _ _ _ _ (by assumption) (by assumption) (by assumption)).mono ?_; rintro e w3 ⟨rfl, b3⟩; obtain ⟨hc3, hf3⟩ := bcell b3; have hz3 : w.heap.size + 1 < w3.heap.size := Nat.lt_of_lt_of_le (by first | assumption | (simp; omega)) b3.size; have hza3 : w.heap.size < w3.heap.size := by omega))
  all_goals (try simp only [Exit.inBlock, Exit.then])
  all_goals first
    | (refine bodyPost_ret (v := .tuple #[evV zeroE, .bool false]) ?_ rfl ⟨?_, ?_⟩; focus (simp [results, Try.results42, go_sem, evV, zeroE, zeroV, *]; done))
    | (refine bodyPost_ret (v := .tuple #[evV ⟨k, u', o', i, a, p, n, t⟩, .bool true]) ?_ rfl ⟨?_, ?_⟩; focus (simp [results, Try.results42, go_sem, evV, *]; done))
  all_goals first
    | (have hx : ¬bu = true := (by with_reducible assumption); have hfe := foldE_no ⟨k, u, o, i, a, p, n, t⟩ u' o' bu bo HU.out HO.out (.inl (Bool.eq_false_iff.2 hx)); (replace hfe := HF.out.symm.trans hfe); rw [hfe])
    | (have hx : ¬bo = true := (by with_reducible assumption); have hy : ¬o.toList = [] := (by with_reducible assumption); have hfe := foldE_no ⟨k, u, o, i, a, p, n, t⟩ u' o' bu bo HU.out HO.out (.inr (.inl ⟨Bool.eq_false_iff.2 hx, hy⟩)); (replace hfe := HF.out.symm.trans hfe); rw [hfe])
    | (have hx : (!mayE8 k u' o' i a p n t) = true := (by with_reducible assumption); have hfe := foldE_no ⟨k, u, o, i, a, p, n, t⟩ u' o' bu bo HU.out HO.out (.inr (.inr (nb_t hx))); (replace hfe := HF.out.symm.trans hfe); rw [hfe])
    | (have hx : bu = true := (by with_reducible assumption); have hy : bo = true := (by with_reducible assumption); have hz : (!mayE8 k u' o' i a p n t) = false := (by with_reducible assumption); have hfe := foldE_yes ⟨k, u, o, i, a, p, n, t⟩ u' o' bu bo HU.out HO.out hx (.inl hy) (nb_f hz); (replace hfe := HF.out.symm.trans hfe); rw [hfe])
    | (have hx : bu = true := (by with_reducible assumption); have hy : o.toList = [] := (by with_reducible assumption); have hz : (!mayE8 k u' o' i a p n t) = false := (by with_reducible assumption); have hfe := foldE_yes ⟨k, u, o, i, a, p, n, t⟩ u' o' bu bo HU.out HO.out hx (.inr hy) (nb_f hz); (replace hfe := HF.out.symm.trans hfe); rw [hfe])
    | skip
  all_goals (repeat (first | with_reducible exact B2 | with_reducible refine Below.setCell ?_ (Nat.le_succ _) _ | with_reducible refine Below.setCell ?_ (Nat.le_of_lt hza2) _ | with_reducible refine below_alloc0 ?_ _ | with_reducible refine below_call ?_ b3))
end Go.Proofs.Ytobhlcogopcbdaa
