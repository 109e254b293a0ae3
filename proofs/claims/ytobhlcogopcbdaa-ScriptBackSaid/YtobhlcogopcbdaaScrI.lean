/-
Layer 23: what is known of the world while the program reads an event; the plain reading.
-/
import Derived.Test.YtobhlcogopcbdaaScrH
import Derived.LoopN
set_option linter.unusedVariables false
set_option linter.unusedSimpArgs false
namespace Go.Proofs.Ytobhlcogopcbdaa
open Go.RowKit
namespace Sp
def readP (s : ByteArray) : Ev × Bool :=
  if s.size = 0 then (zeroE, false)
  else if (takeN s 1).2.2 ≠ 0 then (zeroE, false)
  else if 1 ≤ byteAt s 0 ∧ byteAt s 0 ≤ 6 then
    if (takeN s (takeN s 1).2.1).2.2 = 0 ∧ (takeN s (takeN s 1).2.1).2.1 = s.size ∧ mayE8 (byteAt s 0) (takeN s 1).1 (takeN s (takeN s 1).2.1).1 0 0 0 0 ⟨#[]⟩ = true then (⟨byteAt s 0, (takeN s 1).1, (takeN s (takeN s 1).2.1).1, 0, zeroV⟩, true) else (zeroE, false)
  else if (s.size : Int) ≤ (takeN s 1).2.1 then (zeroE, false)
  else if byteAt s 0 = 7 then
    if (takeVal s ((takeN s 1).2.1 + 1)).2.2 = 0 ∧ (takeVal s ((takeN s 1).2.1 + 1)).2.1 = s.size ∧ mayE ⟨7, (takeN s 1).1, ⟨#[]⟩, byteAt s (takeN s 1).2.1.toNat, (takeVal s ((takeN s 1).2.1 + 1)).1⟩ = true then (⟨7, (takeN s 1).1, ⟨#[]⟩, byteAt s (takeN s 1).2.1.toNat, (takeVal s ((takeN s 1).2.1 + 1)).1⟩, true) else (zeroE, false)
  else if byteAt s 0 = 8 then
    if (takeN s 1).2.1 + 1 = s.size ∧ mayE8 8 (takeN s 1).1 ⟨#[]⟩ (byteAt s (takeN s 1).2.1.toNat) 0 0 0 ⟨#[]⟩ = true then (⟨8, (takeN s 1).1, ⟨#[]⟩, byteAt s (takeN s 1).2.1.toNat, zeroV⟩, true) else (zeroE, false)
  else (zeroE, false)
end Sp
open Sp
abbrev z8 : Array Value := #[.int .i64 0, .string ⟨#[]⟩, .string ⟨#[]⟩, .int .i64 0, .int .i64 0, .int .i64 0, .int .i64 0, .string ⟨#[]⟩]
structure RW (w : World) (cs : Array Value) (W : World) : Prop where
  r1 : W.heap[w.heap.size]? = some (.cells z8 44 (0, 0))
  r2 : W.heap[w.heap.size + 1]? = some (.cells cs 44 (0, 0))
  bel : Below w.heap.size w W
  siz : w.heap.size + 1 < W.heap.size
section
variable {w W W' : World} {cs : Array Value}
theorem RW.start (w : World) : RW w z8 ((w.alloc (.cells z8 44)).alloc (.cells z8 44)) := by
  refine ⟨?_, ?_, below_alloc0 (below_alloc0 (Below.refl _ _) _) _, by simp⟩
  · rw [Below.heap_alloc _ _ _ (by simp)]; exact heap_alloc_new w _
  · have := heap_alloc_new (w.alloc (.cells z8 44)) (.cells z8 44)
    rwa [show (w.alloc (.cells z8 44)).heap.size = w.heap.size + 1 from Array.size_push ..] at this
theorem RW.belowB (h : RW w cs W) (hb : Below (w.heap.size + 2) W W') : RW w cs W' :=
  ⟨(hb.block _ (by omega)).trans h.r1, (hb.block _ (by omega)).trans h.r2, h.bel.trans (hb.mono (by omega)), Nat.lt_of_lt_of_le h.siz hb.size⟩
theorem RW.below (h : RW w cs W) (hb : Below W.heap.size W W') : RW w cs W' := h.belowB (hb.mono (by have := h.siz; omega))
theorem RW.alloc (h : RW w cs W) (o : Obj) : RW w cs (W.alloc o) := h.below ((Below.refl _ _).alloc (Nat.le_refl _) _)
theorem RW.drew (h : RW w cs W) : RW w cs W.drew := ⟨h.r1, h.r2, ⟨h.bel.os, h.bel.tape, h.bel.output, h.bel.size, h.bel.block⟩, h.siz⟩
theorem RW.set (h : RW w cs W) (j : Nat) (v : Value) : RW w (cs.setIfInBounds j v) (W.setCell ⟨w.heap.size + 1, j, none⟩ v) := by
  refine ⟨?_, ?_, h.bel.setCell (p := ⟨w.heap.size + 1, j, none⟩) (Nat.le_succ _) v, by simpa [World.setCell] using h.siz⟩
  · rw [Below.heap_setCell _ _ _ _ (by simp)]; exact h.r1
  · simp [World.setCell, Array.getElem?_modify, h.r2]
theorem RW.cell (h : RW w cs W) (j : Nat) (v : Value) (hv : cs[j]? = some v) : W.cell? ⟨w.heap.size + 1, j, none⟩ = some v := by simp [World.cell?, h.r2, hv]
theorem RW.free (h : RW w cs W) (j : Nat) : W.frozen? ⟨w.heap.size + 1, j, none⟩ = false := by simp [World.frozen?, h.r2]
theorem RW.cell0 (h : RW w cs W) (j : Nat) (v : Value) (hv : z8[j]? = some v) : W.cell? ⟨w.heap.size, j, none⟩ = some v := by simp [World.cell?, h.r1, hv]
theorem RW.free0 (h : RW w cs W) (j : Nat) : W.frozen? ⟨w.heap.size, j, none⟩ = false := by simp [World.frozen?, h.r1]
end
def enJ (v : Value) : List Value := [v]
theorem enJ_len (v : Value) : (enJ v).length = 1 := rfl
theorem info_any : (Try.prog.info? 20).map (fun i => (i.zero, i.size, i.bytes)) = some (some .nilIface, 1, 16) := by kernel_rfl
abbrev fStr (w : World) (o : Nat) : Value := .iface 101 (.pointer (some ⟨w.heap.size + 1, o, none⟩))
abbrev fInt (w : World) (o : Nat) : Value := .iface 100 (.pointer (some ⟨w.heap.size + 1, o, none⟩))
abbrev fVal (w : World) (o : Nat) : Value := .iface 103 (.pointer (some ⟨w.heap.size + 1, o, none⟩))
theorem own_set {w W : World} {v : Value} {xs : List Value} (h : Own enJ 1 20 W (w.heap.size + 2) v xs) (j : Nat) (x : Value) : Own enJ 1 20 (W.setCell ⟨w.heap.size + 1, j, none⟩ x) (w.heap.size + 2) v xs :=
  ownsRow_setCell_below (a := ⟨w.heap.size + 1, j, none⟩) h (by show w.heap.size + 1 < w.heap.size + 2; omega) x
theorem own_slice_n {W : World} {base : Nat} {e : TypeId} {v : Value} {xs : List Value} (h : Own enJ 1 e W base v xs) (n : Nat) (hn : xs.length = n) (h0 : 0 < n) : ∃ ad c, v = .slice (some ad) n c := by
  obtain ⟨A, c, rfl, _⟩ := h.slice
  obtain ⟨ad, rfl, _⟩ := h.row.get (fun _ => rfl) 0 (by omega)
  exact ⟨ad, c, by rw [hn]⟩
theorem own_elem {W : World} {base n c : Nat} {e : TypeId} {ad : Addr} {xs : List Value} (h : Own enJ 1 e W base (.slice (some ad) n c) xs) (j : Nat) (x : Value) (hx : xs[j]? = some x) : W.cell? (ad.add j) = some x := by
  have hj : j < xs.length := (List.getElem?_eq_some_iff.1 hx).1
  obtain ⟨ad', e', hc⟩ := Row.get1 (f := id) h.row j hj
  injection e' with e'
  subst e'
  rw [hc]
  rw [List.getElem?_eq_getElem hj] at hx
  exact hx

end Go.Proofs.Ytobhlcogopcbdaa
