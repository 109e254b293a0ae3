/-
A row of bytes made of a text, that is appended to.
-/
import Derived.Test.YtcopiimflloooaaVarA
import Derived.ArgAppend
set_option linter.unusedVariables false
set_option linter.unusedSimpArgs false
namespace Go.Proofs.Ytcopiimflloooaa
open Go.RowKit

def Buf (w : World) (base : Nat) (v : Value) (l : List UInt8) : Prop :=
  ∃ g cap, v = .slice (some ⟨g, 0, none⟩) l.length cap ∧ base ≤ g ∧ l.length ≤ cap ∧ cap ≤ maxLen ∧ g < w.heap.size ∧
    (∀ j (h : j < l.length), w.cell? ⟨g, j, none⟩ = some (.int .u8 l[j].toNat)) ∧ (∀ j, j < cap → (w.cell? ⟨g, j, none⟩).isSome = true) ∧ ∀ j, j < cap → w.frozen? ⟨g, j, none⟩ = false

theorem Buf.text (w : World) (s : ByteArray) (hs : s.size ≤ maxLen) : Buf (Lib.bytesWorld w 5 s) w.heap.size (.slice (some ⟨w.heap.size, 0, none⟩) s.size (grownCap w s.size 0 5)) s.data.toList := by
  have h1 := grownCap_ge w s.size 0 5
  have h2 := grownCap_le_maxLen w s.size 0 5 hs
  have h3 : (Lib.bytesCells w 5 s).size = s.size + (grownCap w s.size 0 5 - s.size) := by simp [Lib.bytesCells]
  have ht := TextRow.new 5 w s hs
  have hn := Lib.bytesWorld_at_new w 5 s
  refine ⟨w.heap.size, _, by rw [← size_eq_length], Nat.le_refl _, by rw [← size_eq_length]; exact h1, h2, ht.lt, fun j h => ?_, fun j h => ?_, fun j h => ?_⟩
  · exact ht.bytes.cell j h
  · simp only [World.cell?, hn]
    rw [Array.getElem?_eq_getElem (by omega)]
    rfl
  · simp only [World.frozen?, hn]
    simp only [Bool.and_eq_false_iff, decide_eq_false_iff_not]
    left
    omega
theorem Buf.below {w w1 : World} {base : Nat} {v : Value} {l : List UInt8} (h : Buf w base v l) (hb : Below w.heap.size w w1) : Buf w1 base v l := by
  obtain ⟨g, cap, rfl, h1, h2, h3, h4, h5, h6, h7⟩ := h
  have hc : ∀ j, w1.cell? ⟨g, j, none⟩ = w.cell? ⟨g, j, none⟩ := fun j => hb.cell (p := ⟨g, j, none⟩) h4
  refine ⟨g, cap, rfl, h1, h2, h3, by have := hb.size; omega, fun j hj => by rw [hc]; exact h5 j hj, fun j hj => by rw [hc]; exact h6 j hj, fun j hj => ?_⟩
  rw [hb.frozen (p := ⟨g, j, none⟩) h4]
  exact h7 j hj
theorem Buf.row {w : World} {base : Nat} {v : Value} {l : List UInt8} (h : Buf w base v l) : Row enB 1 w v l := by
  obtain ⟨g, cap, rfl, h1, h2, h3, h4, h5, h6, h7⟩ := h
  refine ⟨some ⟨g, 0, none⟩, cap, rfl, h2, h3, by rw [enB_flat]; simp, fun _ => ⟨_, rfl, fun j u hu => ?_⟩⟩
  rw [enB_flat, List.getElem?_map] at hu
  obtain ⟨b, hb, rfl⟩ := Option.map_eq_some_iff.mp hu
  obtain ⟨hj, rfl⟩ := List.getElem?_eq_some_iff.mp hb
  rw [add_plain]
  exact h5 j hj
theorem Buf.base_le {w : World} {base : Nat} {v : Value} {l : List UInt8} (h : Buf w base v l) (k : Nat) (hk : v.ownBlock = some k) : base ≤ k := by
  obtain ⟨g, cap, rfl, h1, _⟩ := h
  simp [Value.ownBlock] at hk
  omega
theorem Buf.own {w : World} {base : Nat} {v : Value} {l : List UInt8} (h : w.ownsRow base 5 1 v l.length (l.map fun b => .int .u8 b.toNat)) (hl : 0 < l.length) : Buf w base v l := by
  rcases h.2 with ⟨_, h0⟩ | ⟨g, cap, cur, rfl, hb, hg, h1, h2, h3, h4⟩
  · omega
  refine ⟨g, cap, rfl, hb, h1, h2, (Array.getElem?_eq_some_iff.1 hg).1, fun j hj => ?_, fun j hj => ?_, fun j hj => ?_⟩
  · have := World.ownsRow.cells h (g := g) rfl j (.int .u8 l[j].toNat) (by rw [List.getElem?_map, List.getElem?_eq_getElem hj]; rfl)
    rw [add_plain] at this
    exact this
  · simp only [World.cell?, hg]
    rw [Array.getElem?_eq_getElem (by omega)]
    rfl
  · simp [World.frozen?, hg]

section
variable {ops : Array Oper} {rest : List Oper} {o : Oper} {a : Act} {Q : Exit → Act → World → Prop}
theorem Buf.append {w0 W : World} (base : Nat) (hgd : o.guard = none) (s x : Operand)
    (ho : o.op = .call { callee := .builtin .append, args := #[s, x], argTypes := #[85, 85] })
    (v : Value) (l : List UInt8) (b : UInt8) (c : Value) (hc : c = .int .u8 b.toNat) (hs : a.eval s = v) (hx : a.eval x = .slice (some ⟨W.heap.size, 0, none⟩) 1 1)
    (HO : Buf W base v l) (HB : Below base w0 W) (hbase : base ≤ W.heap.size) (hl : l.length + 1 ≤ 140737488355328)
    (h : ∀ v1 w1, Buf w1 base v1 (l ++ [b]) → Below base w0 w1 → wpList Try.prog ops Q rest (a.put o.dst v1) w1) :
    wpList Try.prog ops Q (o :: rest) a (W.alloc (.cells #[c] 5)) := by
  subst hc
  obtain ⟨i0, hi, hzz⟩ := Option.map_eq_some_iff.1 info_u8
  simp only [Prod.mk.injEq] at hzz
  obtain ⟨hz0, hz1, hz2⟩ := hzz
  have HO1 : Buf (W.alloc (.cells #[.int .u8 b.toNat] 5)) base v l := HO.below ((Below.refl _ _).alloc (Nat.le_refl _) _)
  have HB1 : Below base w0 (W.alloc (.cells #[.int .u8 b.toNat] 5)) := HB.alloc hbase _
  have hsz : (W.alloc (.cells #[.int .u8 b.toNat] 5)).heap.size = W.heap.size + 1 := Array.size_push ..
  have hnew : (W.alloc (.cells #[.int .u8 b.toNat] 5)).cell? ⟨W.heap.size, 0, none⟩ = some (.int .u8 b.toNat) := by
    have := World.news_of_block (cs := #[.int .u8 b.toNat]) (t := 5) (fr := (0, 0)) (heap_alloc_new W (.cells #[.int .u8 b.toNat] 5)) 0 (.int .u8 b.toNat) (by rfl)
    rw [add_plain] at this
    exact this
  generalize W.alloc (.cells #[.int .u8 b.toNat] 5) = W1 at *
  have HO2 := HO1
  obtain ⟨g, cap, rfl, h1, h2, h3, h4, h5, h6, h7⟩ := HO1
  have hmap : (l.map fun b : UInt8 => (.int .u8 b.toNat : Value)).length = l.length * 1 := by simp
  refine wpList_append_arg W1 hgd s x _ ho 5 i0 (.int .u8 0) 1 1 Try.underlying85 hi hz0 hz1 hz2 rfl (by omega) g 0 l.length cap (l.map fun b => .int .u8 b.toNat) hs hmap (fun j u hu => ?_)
    ⟨W.heap.size, 0, none⟩ 1 1 [.int .u8 b.toNat] hx rfl (fun j u hu => ?_) (by simp [Value.oneCell']) (fun hr j hj => ?_) (by simp only [maxLen]; omega) (by omega) (fun hr => ?_) (fun hr v' w' hown hg => ?_)
  · rw [List.getElem?_map] at hu
    obtain ⟨x, hx, rfl⟩ := Option.map_eq_some_iff.mp hu
    obtain ⟨hj, rfl⟩ := List.getElem?_eq_some_iff.mp hx
    rw [Nat.zero_add]
    exact h5 j hj
  · cases j with
    | zero => simp at hu; subst hu; rw [add_plain]; exact hnew
    | succ j => simp at hu
  · simp at hj
    subst hj
    simp only [Nat.zero_add, Nat.mul_one, Nat.add_zero]
    exact ⟨h6 _ (by omega), h7 _ (by omega)⟩
  · simp only [Nat.zero_add, Nat.mul_one]
    refine h _ _ ⟨g, cap, by simp, h1, by simpa using hr, h3, ?_, fun j hj => ?_, fun j hj => ?_, fun j hj => ?_⟩ ?_
    · simpa [World.setCells] using h4
    · simp only [World.setCells]
      by_cases e : j = l.length
      · subst e
        rw [World.cell?_setCell_same _ _ _ (Option.some_get (h6 l.length (by omega))).symm]
        simp
      · have hj' : j < l.length := by simp at hj; omega
        rw [World.cell?_setCell_other _ _ _ _ (by intro e2; injection e2; omega), h5 j hj', List.getElem_append_left hj']
    · simp only [World.setCells]
      by_cases e : j = l.length
      · subst e
        rw [World.cell?_setCell_same _ _ _ (Option.some_get (h6 l.length (by omega))).symm]
        rfl
      · rw [World.cell?_setCell_other _ _ _ _ (by intro e2; injection e2; omega)]
        exact h6 j hj
    · rw [World.frozen?_setCells]
      exact h7 j hj
    · simp only [World.setCells]
      exact HB1.setCell (p := ⟨g, l.length, none⟩) h1 _
  · refine h v' w' ?_ (HB1.grown hg (by omega) (fun k hk => by cases hk))
    have hown2 : w'.ownsRow base 5 1 v' (l ++ [b]).length ((l ++ [b]).map fun b => .int .u8 b.toNat) := by
      have := (show Own enB 1 5 w' W1.heap.size v' (l ++ [b]) by unfold Own; rw [enB_flat]; simpa using hown).lower (base' := base) (by omega)
      unfold Own at this
      rw [enB_flat] at this
      exact this
    exact Buf.own hown2 (by simp)
end
end Go.Proofs.Ytcopiimflloooaa
