import Derived.Below
import Derived.Deep.Draws
import Derived.Deep.AppendLies
import Derived.Maps.AppendAt
import Derived.OwnWalk
import Derived.Laws.BytesArg
import Derived.Laws.MakeOwn
import Derived.Laws.OwnMore
import Derived.Lib.ConvBytes
import Derived.WalkKit
import Derived.WalkLawsBesides
import Derived.WalkSpells
import Derived.Lib.Hide
import Derived.Lib.AppendStr
import Derived.Laws.CopyOwn
import Derived.Shelf.Small.Bits
import Derived.Shelf.Small.Strs
import Derived.Shelf.Small.Wraps
import Derived.Shelf.Strconv.Itoa0
import Derived.Shelf.Slices.CompactS
import Derived.Ground.Names2Prog
import Derived.Shelf.Slices.SearchI
import Derived.Shelf.Slices.Cells
import Derived.Ground.SlsfProg
import Derived.Shelf.SlSortCmp.Insertion
import Derived.Shelf.SlSortCmp.SiftDown1
import Derived.Shelf.SlSortCmp.HeapSort1
import Derived.Shelf.SlSortCmp.Insertion1
import Derived.Shelf.SlSortCmp.Median1
import Derived.Shelf.SlSortCmp.Pivot1
import Derived.Shelf.SlSortCmp.ReverseRange1
import Derived.Shelf.SlSortCmp.PartialInsertion1
import Derived.Shelf.SlSortCmp.PartitionEqual1
import Derived.Shelf.SlSortCmp.Partition1
import Derived.Shelf.SlSortCmp.Pdq1
import Derived.Shelf.SlSortCmp.Whole1
import Derived.Shelf.SlSortCmp.NoneTotal
import Derived.Test.YtocdoddmaopdbaaProg
import Derived.WideKeyPair
import Derived.DeepKeys4
import Derived.Maps.OwnOps
import Derived.Maps.OwnSet
import Derived.Maps.RangeWalk
import Derived.Deep.Slices
set_option linter.unusedVariables false
set_option linter.unusedSimpArgs false
namespace Go.Proofs.Ytocdoddmaopdbaa
namespace Sp
def ltL : List UInt8 → List UInt8 → Bool
  | [], [] => false
  | [], _ :: _ => true
  | _ :: _, [] => false
  | a :: l, b :: m => a < b || (a == b && ltL l m)
def less (a b : ByteArray) : Bool := a.size < b.size || (a.size == b.size && ltL a.data.toList b.data.toList)
end Sp
end Go.Proofs.Ytocdoddmaopdbaa
namespace Go.Proofs.Ytocdoddmaopdbaa
open Go.RowKit
theorem ret_bool {a b : Bool} (h : a = b) : Ending.returned (.bool a) = .returned (.bool b) := by rw [h]
theorem ret_int {k : IntKind} {a b : Int} (h : a = b) : Ending.returned (.int k a) = .returned (.int k b) := by rw [h]
theorem re_ {P : Program} {f : FuncId} {args : Array Value} {w : World} {v v' : Ending} {R : World → Prop} (h : Calls P f args w fun e w' => e = v ∧ R w') (hv : v = v') : Calls P f args w fun e w' => e = v' ∧ R w' := by rw [← hv]; exact h
theorem size_eq_length (s : ByteArray) : s.size = s.data.toList.length := by rw [Array.length_toList]; rfl
theorem toList_inj {s t : ByteArray} : s.data.toList = t.data.toList ↔ s = t :=
  ⟨fun h => by cases s; cases t; simp only [Array.toList_inj] at h; rw [h], fun h => by rw [h]⟩
theorem toList_inj' {s t : ByteArray} : s.toList = t.toList ↔ s = t := by rw [ByteArray.toList_eq, ByteArray.toList_eq, toList_inj]
theorem ofList_toList (s : ByteArray) : (⟨s.data.toList.toArray⟩ : ByteArray) = s := by cases s; simp
theorem data_ofList (l : List UInt8) : (⟨l.toArray⟩ : ByteArray).data.toList = l := by simp
theorem below_drewN {B : Nat} {a w : World} (h : Below B a w) (n : Nat) : Below B a (w.drewN n) := ⟨h.os, h.tape, h.output, h.size, h.block⟩
theorem below_call {w w1 w2 : World} (h : Below w.heap.size w w1) (k : Below w1.heap.size w1 w2) : Below w.heap.size w w2 := h.trans (k.mono h.size)
theorem cell_below {w w1 : World} (h : Below w.heap.size w w1) {a : Addr} {v : Value} (hc : w.cell? a = some v) : w1.cell? a = some v := (h.cell (World.block_lt_of_cell? w a hc)).trans hc
theorem grown_of_below {w w1 : World} (h : Below w.heap.size w w1) (row : Option Nat) : w.grownBy w1 row := ⟨h.os, h.tape, h.output, h.size, fun i hi _ => h.block i hi⟩
theorem add_plain (g j : Nat) : (⟨g, 0, none⟩ : Addr).add j = ⟨g, j, none⟩ := by unfold Addr.add; split <;> simp_all
theorem add_add (a : Addr) (i j : Nat) : (a.add i).add j = a.add (i + j) := by
  unfold Addr.add
  by_cases hi : i = 0 <;> by_cases hj : j = 0 <;> simp [hi, hj, Nat.add_assoc]
theorem add_block (a : Addr) (n : Nat) : (a.add n).block = a.block := by unfold Addr.add; split <;> rfl
section
variable {α : Type}
def Own (enc : α → List Value) (k : Nat) (e : TypeId) (w : World) (base : Nat) (v : Value) (xs : List α) : Prop := w.ownsRow base e k v xs.length (xs.flatMap enc)
def Row (enc : α → List Value) (k : Nat) (w : World) (v : Value) (xs : List α) : Prop :=
  ∃ A c, v = .slice A xs.length c ∧ xs.length ≤ c ∧ c ≤ maxLen ∧ (xs.flatMap enc).length = xs.length * k ∧ (0 < xs.length → ∃ ad, A = some ad ∧ ∀ j u, (xs.flatMap enc)[j]? = some u → w.cell? (ad.add j) = some u)
variable {enc : α → List Value} {k : Nat} {e : TypeId} {w w1 : World} {base : Nat} {v : Value} {xs : List α}
theorem Own.nil (enc : α → List Value) (k : Nat) (e : TypeId) (w : World) (base : Nat) : Own enc k e w base (.slice none 0 0) [] := World.ownsRow_nil w base e k
theorem Own.kept {row : Option Nat} (h : Own enc k e w base v xs) (hg : w.grownBy w1 row) (hne : v.ownBlock = none ∨ v.ownBlock ≠ row) : Own enc k e w1 base v xs := World.ownsRow.kept h hg hne
theorem Own.below (h : Own enc k e w base v xs) (hb : Below w.heap.size w w1) : Own enc k e w1 base v xs := h.kept (grown_of_below hb none) (by cases v.ownBlock <;> simp)
theorem Own.alloc (h : Own enc k e w base v xs) (o : Obj) : Own enc k e (w.alloc o) base v xs := World.ownsRow.alloc h o
theorem Own.drewN (h : Own enc k e w base v xs) (n : Nat) : Own enc k e (w.drewN n) base v xs := h
theorem Own.base_le (h : Own enc k e w base v xs) (g : Nat) (hg : v.ownBlock = some g) : base ≤ g := (World.ownsRow.lt h g hg).1
theorem Own.slice (h : Own enc k e w base v xs) : ∃ A c, v = .slice A xs.length c ∧ xs.length ≤ c := by
  rcases h.2 with ⟨rfl, h0⟩ | ⟨g, cap, cur, rfl, _, _, h1, _⟩
  · exact ⟨none, 0, by rw [h0], by omega⟩
  · exact ⟨_, cap, rfl, h1⟩
theorem Own.row (h : Own enc k e w base v xs) : Row enc k w v xs := by
  rcases h.2 with ⟨rfl, h0⟩ | ⟨g, cap, cur, rfl, _, _, h1, h2, _⟩
  · exact ⟨none, 0, by rw [h0], by omega, by simp [maxLen], h.1, fun hp => absurd hp (by omega)⟩
  · exact ⟨_, cap, rfl, h1, h2, h.1, fun _ => ⟨_, rfl, fun j u hu => World.ownsRow.cells h (g := g) rfl j u hu⟩⟩
theorem Row.nil (enc : α → List Value) (k : Nat) (w : World) : Row enc k w (.slice none 0 0) [] := ⟨none, 0, rfl, by simp, by simp [maxLen], by simp, fun h => by simp at h⟩
theorem Row.empty (enc : α → List Value) (k : Nat) (w : World) (A : Option Addr) (c : Nat) (hc : c ≤ 9223372036854775807) : Row enc k w (.slice A 0 c) [] := ⟨A, c, rfl, by simp, by simpa [maxLen] using hc, by simp, fun h => by simp at h⟩
theorem Row.below (h : Row enc k w v xs) (hb : Below w.heap.size w w1) : Row enc k w1 v xs := by
  obtain ⟨A, c, rfl, h1, h2, h3, h4⟩ := h
  refine ⟨A, c, rfl, h1, h2, h3, fun hp => ?_⟩
  obtain ⟨ad, e, hc⟩ := h4 hp
  exact ⟨ad, e, fun j u hu => cell_below hb (hc j u hu)⟩
theorem Row.grown {row : Option Nat} (h : Row enc k w v xs) (hg : w.grownBy w1 row) (hr : ∀ g, row = some g → ∀ A n c ad, v = .slice A n c → A = some ad → ad.block ≠ g) : Row enc k w1 v xs := by
  obtain ⟨A, c, rfl, h1, h2, h3, h4⟩ := h
  refine ⟨A, c, rfl, h1, h2, h3, fun hp => ?_⟩
  obtain ⟨ad, e, hc⟩ := h4 hp
  exact ⟨ad, e, fun j u hu => hg.cell (hc j u hu) (fun he => hr _ he.symm _ _ _ _ rfl e (add_block ad j).symm)⟩
theorem Row.drewN (h : Row enc k w v xs) (n : Nat) : Row enc k (w.drewN n) v xs := h
theorem Row.len (h : Row enc k w v xs) : xs.length ≤ 9223372036854775807 := by
  obtain ⟨A, c, _, h1, h2, _⟩ := h
  simp only [maxLen] at h2
  omega
theorem flat_get (hk : ∀ x, (enc x).length = k) (xs : List α) (j i : Nat) (hj : j < xs.length) (hi : i < k) : (xs.flatMap enc)[j * k + i]? = (enc xs[j])[i]? := by
  induction xs generalizing j with
  | nil => simp at hj
  | cons x xs ih =>
    rw [List.flatMap_cons]
    cases j with
    | zero => simp only [Nat.zero_mul, Nat.zero_add, List.getElem_cons_zero]; rw [List.getElem?_append_left (by rw [hk]; exact hi)]
    | succ j =>
      have hj' : j < xs.length := by simpa using hj
      rw [Nat.succ_mul, List.getElem?_append_right (by rw [hk]; omega), hk, show j * k + k + i - k = j * k + i by omega, ih j hj']
      simp
theorem flat_length (hk : ∀ x, (enc x).length = k) (xs : List α) : (xs.flatMap enc).length = xs.length * k := by
  induction xs with
  | nil => simp
  | cons x xs ih => rw [List.flatMap_cons, List.length_append, ih, hk, List.length_cons, Nat.succ_mul]; omega
theorem Row.get {A : Option Addr} {n c : Nat} (h : Row enc k w (.slice A n c) xs) (hk : ∀ x, (enc x).length = k) (j : Nat) (hj : j < xs.length) :
    ∃ ad, A = some ad ∧ ∀ i, i < k → w.cell? ((ad.add (j * k)).add i) = (enc xs[j])[i]? := by
  obtain ⟨A', c', he, h1, h2, h3, h4⟩ := h
  injection he with e1 e2 e3
  subst e1
  obtain ⟨ad, rfl, hc⟩ := h4 (by omega)
  refine ⟨ad, rfl, fun i hi => ?_⟩
  have hf := flat_get (enc := enc) hk xs j i hj hi
  have hl : i < (enc xs[j]).length := by rw [hk]; exact hi
  rw [List.getElem?_eq_getElem hl] at hf ⊢
  rw [add_add]
  exact hc _ _ hf
theorem Row.len_eq {A : Option Addr} {n c : Nat} (h : Row enc k w (.slice A n c) xs) : n = xs.length := by
  obtain ⟨A', c', he, _⟩ := h
  injection he
theorem Row.get1 {A : Option Addr} {n c : Nat} {f : α → Value} (h : Row (fun x => [f x]) 1 w (.slice A n c) xs) (j : Nat) (hj : j < xs.length) : ∃ ad, A = some ad ∧ w.cell? (ad.add j) = some (f xs[j]) := by
  obtain ⟨ad, e, hc⟩ := h.get (fun _ => rfl) j hj
  refine ⟨ad, e, ?_⟩
  have := hc 0 (by omega)
  rw [add_add] at this
  simpa using this
end
theorem Row.take {α : Type} {enc : α → List Value} {k : Nat} {w : World} {A : Option Addr} {n c : Nat} {xs : List α} (h : Row enc k w (.slice A n c) xs) (hk : ∀ x, (enc x).length = k) (i : Nat) (hi : i ≤ n) : Row enc k w (.slice A i c) (xs.take i) := by
  have hl := h.len_eq
  obtain ⟨A', c', he, h1, h2, h3, h4⟩ := h
  injection he with e1 e2 e3
  subst e1 e3
  have hti : (xs.take i).length = i := by rw [List.length_take]; omega
  refine ⟨A, c, by rw [hti], by omega, h2, flat_length hk _, fun hp => ?_⟩
  obtain ⟨ad, e, hc⟩ := h4 (by omega)
  refine ⟨ad, e, fun j u hu => hc j u ?_⟩
  have hx : xs.flatMap enc = (xs.take i).flatMap enc ++ (xs.drop i).flatMap enc := by rw [← List.flatMap_append, List.take_append_drop]
  rw [hx, List.getElem?_append_left (List.getElem?_eq_some_iff.1 hu).1]
  exact hu
theorem Row.drop {α : Type} {enc : α → List Value} {k : Nat} {w : World} {A : Option Addr} {n c : Nat} {xs : List α} (h : Row enc k w (.slice A n c) xs) (hk : ∀ x, (enc x).length = k) (i : Nat) (hi : i ≤ n) :
    Row enc k w (.slice (if c = i then A else A.map (·.add (i * k))) (n - i) (c - i)) (xs.drop i) := by
  have hl := h.len_eq
  obtain ⟨A', c', he, h1, h2, h3, h4⟩ := h
  injection he with e1 e2 e3
  subst e1 e3
  have hti : (xs.drop i).length = n - i := by rw [List.length_drop]; omega
  refine ⟨_, c - i, by rw [hti], by omega, by omega, flat_length hk _, fun hp => ?_⟩
  obtain ⟨ad, e, hc⟩ := h4 (by omega)
  rw [if_neg (by omega), e]
  refine ⟨_, rfl, fun j u hu => ?_⟩
  rw [add_add]
  refine hc _ u ?_
  have hx : xs.flatMap enc = (xs.take i).flatMap enc ++ (xs.drop i).flatMap enc := by rw [← List.flatMap_append, List.take_append_drop]
  have hl2 : ((xs.take i).flatMap enc).length = i * k := by rw [flat_length hk, List.length_take]; congr 1; omega
  rw [hx, List.getElem?_append_right (by omega), hl2, show i * k + j - i * k = j by omega]
  exact hu
theorem Own.lit {α : Type} {enc : α → List Value} {k : Nat} {e : TypeId} {base : Nat} (hk : ∀ x, (enc x).length = k) (W : World) (xs : List α) (cs : Array Value) (n : Nat) (hcs : cs.toList = xs.flatMap enc) (hn : n = xs.length) (hb : base ≤ W.heap.size) (hm : n ≤ 9223372036854775807) :
    Own enc k e (W.alloc (.cells cs e)) base (.slice (some ⟨W.heap.size, 0, none⟩) n n) xs := by
  subst hn
  have h := World.ownsRow_lit (base := base) (e := e) (size := k) W cs xs.length hb (by simpa [maxLen] using hm) (by rw [← Array.length_toList, hcs, flat_length hk])
  unfold Own
  rw [← hcs]
  exact h
section
variable {P : Program} {ops : Array Oper} {rest : List Oper} {o : Oper} {a : Act} {Q : Exit → Act → World → Prop} {α : Type} {enc : α → List Value}
theorem Own.append {w0 W : World} (base : Nat) (hgd : o.guard = none) (s x : Operand) (t e : TypeId) (z : Value) (k bytes : Nat)
    (ho : o.op = .call { callee := .builtin .append, args := #[s, x], argTypes := #[t, t] })
    (ht : P.underlying t = some (.slice e)) (hinfo : (P.info? e).map (fun i => (i.zero, i.size, i.bytes)) = some (some z, k, bytes)) (hz : z.cells.size = k) (hs0 : 0 < k)
    (v : Value) (xs : List α) (p : α) (cs : List Value) (hs : a.eval s = v) (hx : a.eval x = .slice (some ⟨W.heap.size, 0, none⟩) 1 1) (hp : enc p = cs) (hcs : cs.length = k) (h1 : ∀ u ∈ cs, u.oneCell' = true)
    (HO : Own enc k e W base v xs) (HB : Below base w0 W) (hbase : base ≤ W.heap.size) (hl : (xs.length + 1) * bytes ≤ 140737488355328) (hl2 : xs.length + 1 ≤ 140737488355328)
    (h : ∀ v1 w1, Own enc k e w1 base v1 (xs ++ [p]) → Below base w0 w1 → W.grownBy w1 v.ownBlock → (v1.ownBlock = v.ownBlock ∨ ∃ b, v1.ownBlock = some b ∧ W.heap.size ≤ b) → wpList P ops Q rest (a.put o.dst v1) w1) :
    wpList P ops Q (o :: rest) a (W.alloc (.cells cs.toArray e)) := by
  obtain ⟨i0, hi, hzz⟩ := Option.map_eq_some_iff.1 hinfo
  simp only [Prod.mk.injEq] at hzz
  obtain ⟨hz0, hz1, hz2⟩ := hzz
  refine wpList_append_own_at (W.alloc (.cells cs.toArray e)) hgd s x t ho base e i0 z k bytes ht hi hz0 hz1 hz2 hz hs0 v xs.length _ hs (HO.alloc _) ⟨W.heap.size, 0, none⟩ 1 1 cs hx (by rw [hcs]; simp)
    (by simpa using World.news_of_block (cs := cs.toArray) (t := e) (fr := (0, 0)) (heap_alloc_new W (.cells cs.toArray e))) h1 (by simp only [maxLen]; omega) hl (by simp; omega) ?_
  intro v1 w1 hown hg _ hat
  refine h v1 w1 ?_ ((HB.alloc hbase _).grown hg (by simp; omega) (HO.base_le)) (World.grownBy.trans (World.grownBy_alloc W _ _) hg) ?_
  · unfold Own
    rw [List.flatMap_append, List.length_append]
    simpa [hp] using hown
  · rcases hat with hat | hat
    · exact .inl hat
    · exact .inr ⟨_, hat, by simp⟩
theorem Own.appendRow {w0 W : World} (base : Nat) (hgd : o.guard = none) (s x : Operand) (t e : TypeId) (z : Value) (k bytes : Nat)
    (ho : o.op = .call { callee := .builtin .append, args := #[s, x], argTypes := #[t, t] })
    (ht : P.underlying t = some (.slice e)) (hinfo : (P.info? e).map (fun i => (i.zero, i.size, i.bytes)) = some (some z, k, bytes)) (hz : z.cells.size = k) (hs0 : 0 < k)
    (v u : Value) (xs ys : List α) (hs : a.eval s = v) (hx : a.eval x = u) (h1 : ∀ y, ∀ u ∈ enc y, u.oneCell' = true)
    (HO : Own enc k e W base v xs) (HR : Row enc k W u ys) (HB : Below base w0 W) (hbase : base ≤ W.heap.size) (hl : (xs.length + ys.length) * bytes ≤ 140737488355328) (hl2 : xs.length + ys.length ≤ 140737488355328)
    (h : ∀ v1 w1, Own enc k e w1 base v1 (xs ++ ys) → Below base w0 w1 → W.grownBy w1 v.ownBlock → (v1.ownBlock = v.ownBlock ∨ ∃ b, v1.ownBlock = some b ∧ W.heap.size ≤ b) → wpList P ops Q rest (a.put o.dst v1) w1) :
    wpList P ops Q (o :: rest) a W := by
  obtain ⟨i0, hi, hzz⟩ := Option.map_eq_some_iff.1 hinfo
  simp only [Prod.mk.injEq] at hzz
  obtain ⟨hz0, hz1, hz2⟩ := hzz
  obtain ⟨A, c, rfl, r1, r2, r3, r4⟩ := HR
  rcases A with _ | ad
  · have hm : ys = [] := by
      rcases Nat.eq_zero_or_pos ys.length with h0 | h0
      · exact List.eq_nil_of_length_eq_zero h0
      · obtain ⟨ad, h, _⟩ := r4 h0
        cases h
    subst hm
    have hrun : (Builtin.append_ #[t, t] o.type #[v, .slice none 0 c]).run P W = .ok v W := by
      rcases HO.2 with ⟨rfl, _⟩ | ⟨g, cap, cur, rfl, _, _, hnc, _⟩
      · simp [Builtin.append_, run_underlying ht, sizeOf, typeInfo, hi, Builtin.lenOf, Builtin.firstCells]
      · simp [Builtin.append_, run_underlying ht, sizeOf, typeInfo, hi, Builtin.lenOf, Builtin.firstCells, hnc, storeCells]
    refine wpList_plain hgd fun _ hK => ?_
    unfold Oper.wp execOp
    simp only [ho, resolve, invoke, builtin, Sem.run_bind, Sem.run_pure, Result.andThen_ok, List.map_toArray, List.map_cons, List.map_nil, hs, hx, List.length_nil, hrun]
    exact hK _ _ (h v W (by simpa using HO) HB (World.grownBy.refl W _) (.inl rfl))
  · have hcells : ∀ j u, (ys.flatMap enc)[j]? = some u → W.cell? (ad.add j) = some u := by
      intro j u hu
      rcases Nat.eq_zero_or_pos ys.length with h0 | h0
      · rw [List.eq_nil_of_length_eq_zero h0] at hu
        simp at hu
      · obtain ⟨ad', h, hc⟩ := r4 h0
        injection h with h
        subst h
        exact hc j u hu
    refine wpList_append_own_at W hgd s x t ho base e i0 z k bytes ht hi hz0 hz1 hz2 hz hs0 v xs.length _ hs HO ad ys.length c (ys.flatMap enc) hx r3 hcells
      (fun u hu => by obtain ⟨y, _, hy⟩ := List.mem_flatMap.1 hu; exact h1 y u hy) (by simp only [maxLen]; omega) hl hbase ?_
    intro v1 w1 hown hg _ hat
    refine h v1 w1 ?_ (HB.grown hg hbase HO.base_le) hg ?_
    · unfold Own
      rw [List.flatMap_append, List.length_append]
      exact hown
    · rcases hat with hat | hat
      · exact .inl hat
      · exact .inr ⟨_, hat, Nat.le_refl _⟩
end
def enB (b : UInt8) : List Value := [.int .u8 b.toNat]
theorem enB_len (x : UInt8) : (enB x).length = 1 := rfl
def strOf (l : List UInt8) : ByteArray := ⟨l.toArray⟩
theorem strOf_list (l : List UInt8) : (strOf l).data.toList = l := data_ofList l
theorem strOf_toList (s : ByteArray) : strOf s.data.toList = s := ofList_toList s
theorem strOf_inj {a b : List UInt8} : strOf a = strOf b ↔ a = b := ⟨fun h => by rw [← strOf_list a, h, strOf_list], fun h => by rw [h]⟩
theorem enB_flat (l : List UInt8) : l.flatMap enB = l.map fun b => .int .u8 b.toNat := by
  induction l with
  | nil => rfl
  | cons b l ih => rw [List.flatMap_cons, ih]; rfl
theorem strOf_nums (l : List UInt8) : strOfNums (l.map fun b => (b.toNat : Int)) = strOf l := by
  rw [← toList_inj, strOfNums_data, strOf_list, List.map_map]
  conv => rhs; rw [← List.map_id l]
  refine List.map_congr_left fun b _ => ?_
  simp
theorem Row.string {P : Program} {w : World} {src dst e : TypeId} {v : Value} {l : List UInt8} (hs : P.underlying src = some (.slice e)) (he : P.underlying e = some (.int .u8)) (hd : P.underlying dst = some .string)
    (h : Row enB 1 w v l) : (convert src dst v).run P w = .ok (.string (strOf l)) w := by
  obtain ⟨A, c, rfl, h1, h2, h3, h4⟩ := h
  rcases A with _ | ad
  · have hm : l = [] := by
      rcases Nat.eq_zero_or_pos l.length with h0 | h0
      · exact List.eq_nil_of_length_eq_zero h0
      · obtain ⟨ad, h, _⟩ := h4 h0
        cases h
    subst hm
    exact run_convert_bytes_nil w src e hs he _ _ dst hd
  · have hcells : ∀ j u, ((l.map fun b => (b.toNat : Int)).map (Value.int .u8))[j]? = some u → w.cell? (ad.add j) = some u := by
      intro j u hu
      rcases Nat.eq_zero_or_pos l.length with h0 | h0
      · rw [List.eq_nil_of_length_eq_zero h0] at hu
        simp at hu
      · obtain ⟨ad', h, hc⟩ := h4 h0
        injection h with h
        subst h
        refine hc j u ?_
        rw [enB_flat, ← hu, List.map_map]
        rfl
    have hl := run_loadCells_list (P := P) w ad ((l.map fun b => (b.toNat : Int)).map (Value.int .u8)) hcells
    rw [List.length_map, List.length_map] at hl
    rw [run_convert_bytes_string w src dst e _ l.length c hs he hd, run_bytesToString w _ l.length c (l.map fun b => (b.toNat : Int)) hl, foldl_push_bytes, ← strOf_nums]
    simp [strOfNums, ByteArray.empty, ByteArray.emptyWithCapacity]
    rfl
def TextRow (e : TypeId) (w : World) (k : Nat) (s : ByteArray) : Prop :=
  ∃ cs : Array Value, w.heap[k]? = some (.cells cs e (cs.size, cs.size + 1)) ∧ s.size ≤ cs.size ∧ cs.size ≤ maxLen ∧ ∀ j (h : j < s.size), cs[j]? = some (.int .u8 s[j].toNat)
theorem TextRow.new (e : TypeId) (w : World) (s : ByteArray) (hs : s.size ≤ maxLen) : TextRow e (Lib.bytesWorld w e s) w.heap.size s := by
  have h1 := grownCap_ge w s.size 0 e
  have h2 := grownCap_le_maxLen w s.size 0 e hs
  have h3 : (Lib.bytesCells w e s).size = s.size + (grownCap w s.size 0 e - s.size) := by
    simp [Lib.bytesCells]
  refine ⟨_, Lib.bytesWorld_at_new w e s, by omega, by omega, fun j h => ?_⟩
  · have h1 := Lib.bytesWorld_cell w e s j h
    rw [World.cell?, Lib.bytesWorld_at_new] at h1
    have h2 : s.data.toList.getD j 0 = s[j] := by
      have hl : j < s.data.toList.length := by rw [← size_eq_length]; exact h
      rw [List.getD_eq_getElem?_getD, List.getElem?_eq_getElem hl]
      rfl
    rw [h2] at h1
    exact h1
theorem TextRow.cell {e : TypeId} {w : World} {k : Nat} {s : ByteArray} (h : TextRow e w k s) (j : Nat) (hj : j < s.size) : w.cell? ⟨k, j, none⟩ = some (.int .u8 s[j].toNat) := by
  obtain ⟨cs, h1, _, _, h4⟩ := h
  rw [World.cell?, h1]
  exact h4 j hj
theorem TextRow.lt {e : TypeId} {w : World} {k : Nat} {s : ByteArray} (h : TextRow e w k s) : k < w.heap.size := by
  obtain ⟨cs, h1, _⟩ := h
  exact (Array.getElem?_eq_some_iff.1 h1).1
def BytesAt (e : TypeId) (w : World) (k : Nat) (l : List UInt8) : Prop :=
  ∃ cs : Array Value, w.heap[k]? = some (.cells cs e (cs.size, cs.size + 1)) ∧ l.length ≤ cs.size ∧ ∀ j (h : j < l.length), cs[j]? = some (.int .u8 l[j].toNat)
theorem TextRow.bytes {e : TypeId} {w : World} {k : Nat} {s : ByteArray} (h : TextRow e w k s) : BytesAt e w k s.data.toList := by
  obtain ⟨cs, h1, h2, h3, h4⟩ := h
  exact ⟨cs, h1, by rw [← size_eq_length]; exact h2, fun j hj => h4 j (by rw [size_eq_length]; exact hj)⟩
theorem BytesAt.cell {e : TypeId} {w : World} {k : Nat} {l : List UInt8} (h : BytesAt e w k l) (j : Nat) (hj : j < l.length) : w.cell? ⟨k, j, none⟩ = some (.int .u8 l[j].toNat) := by
  obtain ⟨cs, h1, _, h4⟩ := h
  rw [World.cell?, h1]
  exact h4 j hj
theorem BytesAt.free {e : TypeId} {w : World} {k : Nat} {l : List UInt8} (h : BytesAt e w k l) (j : Nat) (hj : j < l.length) : w.frozen? ⟨k, j, none⟩ = false := by
  obtain ⟨cs, h1, h2, _⟩ := h
  simp [World.frozen?, h1]
  omega
theorem BytesAt.lt {e : TypeId} {w : World} {k : Nat} {l : List UInt8} (h : BytesAt e w k l) : k < w.heap.size := by
  obtain ⟨cs, h1, _⟩ := h
  exact (Array.getElem?_eq_some_iff.1 h1).1
theorem BytesAt.set {e : TypeId} {w : World} {k : Nat} {l : List UInt8} (h : BytesAt e w k l) (j : Nat) (b : UInt8) : BytesAt e (w.setCell ⟨k, j, none⟩ (.int .u8 b.toNat)) k (l.set j b) := by
  obtain ⟨cs, h1, h2, h3⟩ := h
  refine ⟨cs.setIfInBounds j (.int .u8 b.toNat), ?_, by simpa using h2, fun i hi => ?_⟩
  · simp [World.setCell, Array.getElem?_modify, h1]
  · have hi' : i < l.length := by simpa using hi
    rw [Array.getElem?_setIfInBounds, List.getElem_set]
    by_cases e : j = i
    · subst e
      rw [if_pos rfl, if_pos rfl, if_pos (by omega)]
    · rw [if_neg e, if_neg e]
      exact h3 i hi'
theorem BytesAt.row {e : TypeId} {w : World} {k c : Nat} {l : List UInt8} (h : BytesAt e w k l) (hc : l.length ≤ c) (hm : c ≤ maxLen) : Row enB 1 w (.slice (some ⟨k, 0, none⟩) l.length c) l := by
  refine ⟨_, c, rfl, hc, hm, flat_length enB_len l, fun _ => ⟨_, rfl, fun j u hu => ?_⟩⟩
  rw [enB_flat] at hu
  have hj : j < l.length := by
    rcases Nat.lt_or_ge j l.length with h | h
    · exact h
    · rw [List.getElem?_eq_none (by simpa using h)] at hu; cases hu
  rw [List.getElem?_eq_getElem (by simpa using hj)] at hu
  rw [add_plain, h.cell j hj]
  simpa using hu
end Go.Proofs.Ytocdoddmaopdbaa
namespace Go.Proofs
open Go.Shelf
def Try.lays106_ren : Go.Shelf.Ren := ⟨fun | 106 => 77 | 213 => 90 | 265 => 97 | n => n, fun | 9 => 9 | 3 => 3 | n => n, fun | n => n⟩
theorem Try.lays106 : Go.Proofs.Lays.n106 Try.prog Try.lays106_ren := {
  mixed := by kernel_rfl
  f106 := Try.func77.trans (congrArg some (by kernel_rfl))
  f213 := Try.func90.trans (congrArg some (by kernel_rfl))
  f265 := Try.func97.trans (congrArg some (by kernel_rfl))
  t3 := Try.underlying3
  a3 := Try.isAgg3
  z3 := Try.sizeOf3
  v3 := Try.zeroValue3
  t9 := Try.underlying9
  a9 := Try.isAgg9
  z9 := Try.sizeOf9
  v9 := Try.zeroValue9 }
open Go.RowKit in
theorem Try.strings_Compare (a b : ByteArray) (w : World) :
    Calls Try.prog 77 #[.string a, .string b] w fun e w' => e = .returned (.int .i64 (Lib.compareBytes a.data.toList b.data.toList)) ∧ w' = w := Any.strings_Compare Try.lays106 a b w
def Try.lays122_ren : Go.Shelf.Ren := ⟨fun | 122 => 76 | 215 => 89 | n => n, fun | 3 => 3 | 4 => 4 | n => n, fun | n => n⟩
theorem Try.lays122 : Go.Proofs.Lays.n122 Try.prog Try.lays122_ren := {
  mixed := by kernel_rfl
  f122 := Try.func76.trans (congrArg some (by kernel_rfl))
  f215 := Try.func89.trans (congrArg some (by kernel_rfl))
  t3 := Try.underlying3
  a3 := Try.isAgg3
  z3 := Try.sizeOf3
  v3 := Try.zeroValue3
  t4 := Try.underlying4
  a4 := Try.isAgg4
  z4 := Try.sizeOf4
  v4 := Try.zeroValue4 }
open Go.RowKit in
theorem Try.cmp_Compare_int (x y : Int) (w : World) :
    Calls Try.prog 76 #[.int .i64 x, .int .i64 y] w fun e w' => e = .returned (.int .i64 (Lib.compareInt x y)) ∧ w' = w := Any.cmp_Compare_int Try.lays122 x y w
def Try.lays194_ren : Go.Shelf.Ren := ⟨fun | 194 => 66 | n => n, fun | 31 => 38 | 9 => 9 | 3 => 3 | 4 => 4 | 0 => 0 | n => n, fun | n => n⟩
theorem Try.lays194 : Go.Proofs.Lays.n194 Try.prog Try.lays194_ren := {
  mixed := by kernel_rfl
  f194 := Try.func66.trans (congrArg some (by kernel_rfl))
  t0 := Try.underlying0
  a0 := Try.isAgg0
  z0 := Try.sizeOf0
  v0 := Try.zeroValue0
  t3 := Try.underlying3
  a3 := Try.isAgg3
  z3 := Try.sizeOf3
  v3 := Try.zeroValue3
  t4 := Try.underlying4
  a4 := Try.isAgg4
  z4 := Try.sizeOf4
  v4 := Try.zeroValue4
  t9 := Try.underlying9
  a9 := Try.isAgg9
  z9 := Try.sizeOf9
  v9 := Try.zeroValue9
  t31 := Try.underlying38
  a31 := Try.isAgg38
  z31 := Try.sizeOf38
  v31 := Try.zeroValue38 }
open Go.RowKit Go.Lib Go.Sort in
theorem Try.slices_Compact_string (blk off cap : Nat) (zs : List (List UInt8)) (w : World) (hH : Holds encStr w blk off zs.toArray) (hsz : zs.length ≤ 9223372036854775807) (hcap : zs.length ≤ cap) :
    Calls Try.prog 66 #[.slice (some ⟨blk, off, none⟩) zs.length cap] w fun e w' => e = .returned (.slice (some ⟨blk, off, none⟩) (Lib.compact zs).length cap) ∧ ∃ q, w' = putRow encStr (Sort.ahead w q) blk off (Lib.compact zs ++ List.replicate (zs.length - (Lib.compact zs).length) []).toArray := Any.slices_Compact_string Try.lays194 blk off cap zs w hH hsz hcap
open Go.RowKit Go.Lib Go.Sort in
theorem Try.slices_Compact_string_empty (a : Option Addr) (cap : Nat) (w : World) :
    Calls Try.prog 66 #[.slice a 0 cap] w fun e w' => e = .returned (.slice a 0 cap) ∧ w' = w := Any.slices_Compact_string_empty Try.lays194 a cap w
def Try.laysSlF6_f64_ren : Go.Shelf.Ren := ⟨fun | 6 => 64 | 15 => 74 | 14 => 73 | 28 => 87 | 29 => 88 | 20 => 79 | 21 => 80 | 22 => 81 | 23 => 82 | 24 => 83 | 25 => 84 | 26 => 85 | 27 => 86 | 46 => 92 | 47 => 93 | 48 => 94 | 49 => 95 | 50 => 96 | 57 => 98 | n => n, fun | 22 => 38 | 24 => 9 | 25 => 96 | 3 => 3 | 39 => 105 | 0 => 0 | 53 => 116 | 55 => 118 | 4 => 4 | 46 => 110 | 45 => 109 | 50 => 67 | 5 => 5 | 9 => 9 | 66 => 121 | 70 => 125 | 76 => 127 | 77 => 128 | n => n, fun | n => n⟩
theorem Try.laysSlF6_f64 : Go.Proofs.SlLaysF.n6 Try.prog Try.laysSlF6_f64_ren := {
  mixed := by kernel_rfl
  f6 := ⟨Try.f64.name, by decide, Try.func64.trans (congrArg some (by kernel_rfl))⟩
  f14 := ⟨Try.f73.name, by decide, Try.func73.trans (congrArg some (by kernel_rfl))⟩
  f15 := Try.func74.trans (congrArg some (by kernel_rfl))
  f20 := ⟨Try.f79.name, by decide, Try.func79.trans (congrArg some (by kernel_rfl))⟩
  f21 := ⟨Try.f80.name, by decide, Try.func80.trans (congrArg some (by kernel_rfl))⟩
  f22 := ⟨Try.f81.name, by decide, Try.func81.trans (congrArg some (by kernel_rfl))⟩
  f23 := ⟨Try.f82.name, by decide, Try.func82.trans (congrArg some (by kernel_rfl))⟩
  f24 := ⟨Try.f83.name, by decide, Try.func83.trans (congrArg some (by kernel_rfl))⟩
  f25 := ⟨Try.f84.name, by decide, Try.func84.trans (congrArg some (by kernel_rfl))⟩
  f26 := ⟨Try.f85.name, by decide, Try.func85.trans (congrArg some (by kernel_rfl))⟩
  f27 := ⟨Try.f86.name, by decide, Try.func86.trans (congrArg some (by kernel_rfl))⟩
  f28 := Try.func87.trans (congrArg some (by kernel_rfl))
  f29 := Try.func88.trans (congrArg some (by kernel_rfl))
  f46 := ⟨Try.f92.name, by decide, Try.func92.trans (congrArg some (by kernel_rfl))⟩
  f47 := Try.func93.trans (congrArg some (by kernel_rfl))
  f48 := Try.func94.trans (congrArg some (by kernel_rfl))
  f49 := ⟨Try.f95.name, by decide, Try.func95.trans (congrArg some (by kernel_rfl))⟩
  f50 := ⟨Try.f96.name, by decide, Try.func96.trans (congrArg some (by kernel_rfl))⟩
  f57 := ⟨Try.f98.name, by decide, Try.func98.trans (congrArg some (by kernel_rfl))⟩
  t0 := Try.underlying0
  a0 := Try.isAgg0
  z0 := Try.sizeOf0
  v0 := Try.zeroValue0
  t3 := Try.underlying3
  a3 := Try.isAgg3
  z3 := Try.sizeOf3
  v3 := Try.zeroValue3
  t4 := Try.underlying4
  a4 := Try.isAgg4
  z4 := Try.sizeOf4
  v4 := Try.zeroValue4
  t5 := Try.underlying5
  a5 := Try.isAgg5
  z5 := Try.sizeOf5
  v5 := Try.zeroValue5
  t9 := Try.underlying9
  a9 := Try.isAgg9
  z9 := Try.sizeOf9
  v9 := Try.zeroValue9
  t22 := Try.underlying38
  a22 := Try.isAgg38
  z22 := Try.sizeOf38
  v22 := Try.zeroValue38
  a24 := Try.isAgg9
  z24 := Try.sizeOf9
  t25 := Try.underlying96
  a25 := Try.isAgg96
  z25 := Try.sizeOf96
  v25 := Try.zeroValue96
  t39 := Try.underlying105
  a39 := Try.isAgg105
  z39 := Try.sizeOf105
  v39 := Try.zeroValue105
  t45 := Try.underlying109
  a45 := Try.isAgg109
  z45 := Try.sizeOf109
  v45 := Try.zeroValue109
  t46 := Try.underlying110
  a46 := Try.isAgg110
  z46 := Try.sizeOf110
  v46 := Try.zeroValue110
  t50 := Try.underlying67
  a50 := Try.isAgg67
  z50 := Try.sizeOf67
  v50 := Try.zeroValue67
  t53 := Try.underlying116
  a53 := Try.isAgg116
  z53 := Try.sizeOf116
  v53 := Try.zeroValue116
  t55 := Try.underlying118
  a55 := Try.isAgg118
  z55 := Try.sizeOf118
  v55 := Try.zeroValue118
  t66 := Try.underlying121
  a66 := Try.isAgg121
  z66 := Try.sizeOf121
  v66 := Try.zeroValue121
  t70 := Try.underlying125
  a70 := Try.isAgg125
  z70 := Try.sizeOf125
  v70 := Try.zeroValue125
  t76 := Try.underlying127
  a76 := Try.isAgg127
  z76 := Try.sizeOf127
  v76 := Try.zeroValue127
  t77 := Try.underlying128
  a77 := Try.isAgg128
  z77 := Try.sizeOf128
  v77 := Try.zeroValue128 }
open Go.RowKit Go.Lib Go.Sort in
theorem Try.slices_SortFunc {α : Type} [Inhabited α] (enc : α → Value) (h1 : OneCell enc) (cf : α → α → Int) (hO : SWO (ltOf cf)) (g : Nat) (cb : Array Value) (blk off cap : Nat) (d : Array α) (w : World) (eg : ∀ args w, (callFunc g args).run Try.prog w = .ok (.enter g args) w) (hcmp : CmpLays1 Try.prog g cb enc cf blk off d.size w) (hH : Holds enc w blk off d) (hblk : blk < w.heap.size) (hsz : d.size < 4611686018427387904) :
    Calls Try.prog 64 #[.slice (some ⟨blk, off, none⟩) d.size cap, .func (.func g) #[] cb] w fun e w' =>
      e = .returned (.tuple #[]) ∧ ∃ d' n os, PermIn 0 d.size d d' ∧ SortedIn (ltOf cf) 0 d.size d' ∧ w' = sortWorld enc w blk off n d' os := Any.slices_SortFunc Try.laysSlF6_f64 enc h1 cf hO g cb blk off cap d w eg hcmp hH hblk hsz
def Try.laysSlF06_f64_ren : Go.Shelf.Ren := ⟨fun | 6 => 64 | 15 => 74 | 14 => 73 | 28 => 87 | 29 => 88 | 20 => 79 | 21 => 80 | 22 => 81 | 23 => 82 | 24 => 83 | 25 => 84 | 26 => 85 | 27 => 86 | 46 => 92 | 47 => 93 | 48 => 94 | 49 => 95 | 50 => 96 | 57 => 98 | n => n, fun | 22 => 38 | 24 => 9 | 25 => 96 | 3 => 3 | 39 => 105 | 0 => 0 | 53 => 116 | 55 => 118 | 4 => 4 | 46 => 110 | 45 => 109 | 50 => 67 | 5 => 5 | 9 => 9 | 66 => 121 | 70 => 125 | 76 => 127 | 77 => 128 | n => n, fun | n => n⟩
theorem Try.laysSlF06_f64 : Go.Proofs.SlLaysF0.n6 Try.prog Try.laysSlF06_f64_ren := {
  mixed := by kernel_rfl
  f6 := ⟨Try.f64.name, by decide, Try.func64.trans (congrArg some (by kernel_rfl))⟩
  f14 := ⟨Try.f73.name, by decide, Try.func73.trans (congrArg some (by kernel_rfl))⟩
  f15 := Try.func74.trans (congrArg some (by kernel_rfl))
  f20 := ⟨Try.f79.name, by decide, Try.func79.trans (congrArg some (by kernel_rfl))⟩
  f21 := ⟨Try.f80.name, by decide, Try.func80.trans (congrArg some (by kernel_rfl))⟩
  f22 := ⟨Try.f81.name, by decide, Try.func81.trans (congrArg some (by kernel_rfl))⟩
  f23 := ⟨Try.f82.name, by decide, Try.func82.trans (congrArg some (by kernel_rfl))⟩
  f24 := ⟨Try.f83.name, by decide, Try.func83.trans (congrArg some (by kernel_rfl))⟩
  f25 := ⟨Try.f84.name, by decide, Try.func84.trans (congrArg some (by kernel_rfl))⟩
  f26 := ⟨Try.f85.name, by decide, Try.func85.trans (congrArg some (by kernel_rfl))⟩
  f27 := ⟨Try.f86.name, by decide, Try.func86.trans (congrArg some (by kernel_rfl))⟩
  f28 := Try.func87.trans (congrArg some (by kernel_rfl))
  f29 := Try.func88.trans (congrArg some (by kernel_rfl))
  f46 := ⟨Try.f92.name, by decide, Try.func92.trans (congrArg some (by kernel_rfl))⟩
  f47 := Try.func93.trans (congrArg some (by kernel_rfl))
  f48 := Try.func94.trans (congrArg some (by kernel_rfl))
  f49 := ⟨Try.f95.name, by decide, Try.func95.trans (congrArg some (by kernel_rfl))⟩
  f50 := ⟨Try.f96.name, by decide, Try.func96.trans (congrArg some (by kernel_rfl))⟩
  f57 := ⟨Try.f98.name, by decide, Try.func98.trans (congrArg some (by kernel_rfl))⟩
  t0 := Try.underlying0
  a0 := Try.isAgg0
  z0 := Try.sizeOf0
  v0 := Try.zeroValue0
  t3 := Try.underlying3
  a3 := Try.isAgg3
  z3 := Try.sizeOf3
  v3 := Try.zeroValue3
  t4 := Try.underlying4
  a4 := Try.isAgg4
  z4 := Try.sizeOf4
  v4 := Try.zeroValue4
  t5 := Try.underlying5
  a5 := Try.isAgg5
  z5 := Try.sizeOf5
  v5 := Try.zeroValue5
  t9 := Try.underlying9
  a9 := Try.isAgg9
  z9 := Try.sizeOf9
  v9 := Try.zeroValue9
  t22 := Try.underlying38
  a22 := Try.isAgg38
  z22 := Try.sizeOf38
  v22 := Try.zeroValue38
  t25 := Try.underlying96
  a25 := Try.isAgg96
  z25 := Try.sizeOf96
  v25 := Try.zeroValue96
  t39 := Try.underlying105
  a39 := Try.isAgg105
  z39 := Try.sizeOf105
  v39 := Try.zeroValue105
  t45 := Try.underlying109
  a45 := Try.isAgg109
  z45 := Try.sizeOf109
  v45 := Try.zeroValue109
  t46 := Try.underlying110
  a46 := Try.isAgg110
  z46 := Try.sizeOf110
  v46 := Try.zeroValue110
  t50 := Try.underlying67
  a50 := Try.isAgg67
  z50 := Try.sizeOf67
  v50 := Try.zeroValue67
  t53 := Try.underlying116
  a53 := Try.isAgg116
  z53 := Try.sizeOf116
  v53 := Try.zeroValue116
  t55 := Try.underlying118
  a55 := Try.isAgg118
  z55 := Try.sizeOf118
  v55 := Try.zeroValue118
  t66 := Try.underlying121
  a66 := Try.isAgg121
  z66 := Try.sizeOf121
  v66 := Try.zeroValue121
  t70 := Try.underlying125
  a70 := Try.isAgg125
  z70 := Try.sizeOf125
  v70 := Try.zeroValue125
  t76 := Try.underlying127
  a76 := Try.isAgg127
  z76 := Try.sizeOf127
  v76 := Try.zeroValue127
  t77 := Try.underlying128
  a77 := Try.isAgg128
  z77 := Try.sizeOf128
  v77 := Try.zeroValue128 }
open Go.RowKit Go.Lib Go.Sort in
theorem Try.slices_SortFunc_none {α : Type} [Inhabited α] (p : Option Addr) (cap : Nat) (fv : Value) (w : World) :
    Calls Try.prog 64 #[.slice p 0 cap, fv] w fun e w' => e = .returned (.tuple #[]) ∧ w' = w := AnyF.slices_SortFunc_none Try.laysSlF06_f64 p cap fv w
end Go.Proofs
namespace Go.Proofs.Ytocdoddmaopdbaa
namespace Sp
theorem ltL_irrefl : ∀ l : List UInt8, ltL l l = false
  | [] => rfl
  | a :: l => by simp [ltL, ltL_irrefl l]
theorem ltL_trans : ∀ x y z : List UInt8, ltL x y = true → ltL y z = true → ltL x z = true
  | _, [], [], _, h => by simp [ltL] at h
  | _, _ :: _, [], _, h => by simp [ltL] at h
  | [], [], _ :: _, h, _ => by simp [ltL] at h
  | _ :: _, [], _ :: _, h, _ => by simp [ltL] at h
  | [], _ :: _, _ :: _, _, _ => rfl
  | a :: x, b :: y, c :: z, h1, h2 => by
    simp only [ltL, Bool.or_eq_true, Bool.and_eq_true, decide_eq_true_eq, beq_iff_eq] at h1 h2 ⊢
    rcases h1 with h1 | ⟨rfl, h1⟩
    · rcases h2 with h2 | ⟨rfl, h2⟩
      · exact .inl (UInt8.lt_trans h1 h2)
      · exact .inl h1
    · rcases h2 with h2 | ⟨rfl, h2⟩
      · exact .inl h2
      · exact .inr ⟨rfl, ltL_trans x y z h1 h2⟩
theorem ltL_total : ∀ x y : List UInt8, x ≠ y → ltL x y = true ∨ ltL y x = true
  | [], [], h => absurd rfl h
  | [], _ :: _, _ => .inl rfl
  | _ :: _, [], _ => .inr rfl
  | a :: x, b :: y, h => by
    simp only [ltL, Bool.or_eq_true, Bool.and_eq_true, decide_eq_true_eq, beq_iff_eq]
    by_cases e : a = b
    · subst e
      have hn : x ≠ y := fun e => h (by rw [e])
      rcases ltL_total x y hn with h | h
      · exact .inl (.inr ⟨rfl, h⟩)
      · exact .inr (.inr ⟨rfl, h⟩)
    · rcases UInt8.lt_or_lt_of_ne e with h | h
      · exact .inl (.inl h)
      · exact .inr (.inl h)
theorem bytes_ext {s t : ByteArray} (h : s.data.toList = t.data.toList) : s = t := by
  cases s; cases t; simp only [Array.toList_inj] at h; rw [h]
theorem less_irrefl (a : ByteArray) : less a a = false := by simp [less, ltL_irrefl]
theorem less_trans (a b c : ByteArray) (h1 : less a b = true) (h2 : less b c = true) : less a c = true := by
  simp only [less, Bool.or_eq_true, Bool.and_eq_true, decide_eq_true_eq, beq_iff_eq] at h1 h2 ⊢
  rcases h1 with h1 | ⟨e1, h1⟩ <;> rcases h2 with h2 | ⟨e2, h2⟩
  · exact .inl (by omega)
  · exact .inl (by omega)
  · exact .inl (by omega)
  · exact .inr ⟨by omega, ltL_trans _ _ _ h1 h2⟩
theorem less_total (a b : ByteArray) (h : a ≠ b) : less a b = true ∨ less b a = true := by
  simp only [less, Bool.or_eq_true, Bool.and_eq_true, decide_eq_true_eq, beq_iff_eq]
  rcases Nat.lt_trichotomy a.size b.size with h1 | h1 | h1
  · exact .inl (.inl h1)
  · rcases ltL_total a.data.toList b.data.toList (fun e => h (bytes_ext e)) with h2 | h2
    · exact .inl (.inr ⟨h1, h2⟩)
    · exact .inr (.inr ⟨h1.symm, h2⟩)
  · exact .inr (.inl h1)
theorem less_asymm (a b : ByteArray) (h : less a b = true) : less b a = false := by
  rw [← Bool.not_eq_true]
  intro h2
  have := less_trans a b a h h2
  rw [less_irrefl] at this
  cases this
theorem not_less_iff (a b : ByteArray) : less a b = false ↔ (a = b ∨ less b a = true) := by
  constructor
  · intro h
    by_cases e : a = b
    · exact .inl e
    · rcases less_total a b e with h2 | h2
      · rw [h] at h2; cases h2
      · exact .inr h2
  · rintro (rfl | h)
    · exact less_irrefl a
    · exact less_asymm b a h
def Sorted (l : List ByteArray) : Prop := l.Pairwise fun a b => less a b = true
theorem sorted_ext : ∀ l m : List ByteArray, Sorted l → Sorted m → (∀ x, x ∈ l ↔ x ∈ m) → l = m
  | [], [], _, _, _ => rfl
  | [], b :: m, _, _, h => absurd ((h b).2 List.mem_cons_self) (by simp)
  | a :: l, [], _, _, h => absurd ((h a).1 List.mem_cons_self) (by simp)
  | a :: l, b :: m, hl, hm, h => by
    obtain ⟨ha, hl'⟩ := List.pairwise_cons.1 hl
    obtain ⟨hb, hm'⟩ := List.pairwise_cons.1 hm
    have hab : a = b := by
      rcases List.mem_cons.1 ((h a).1 List.mem_cons_self) with e | e
      · exact e
      · rcases List.mem_cons.1 ((h b).2 List.mem_cons_self) with e' | e'
        · exact e'.symm
        · have h1 := hb a e
          have h2 := less_asymm _ _ (ha b e')
          rw [h1] at h2
          cases h2
    subst hab
    congr 1
    refine sorted_ext l m hl' hm' fun x => ?_
    have hx := h x
    simp only [List.mem_cons] at hx
    constructor
    · intro hxl
      rcases hx.1 (.inr hxl) with e | e
      · subst e
        have := ha _ hxl
        rw [less_irrefl] at this
        cases this
      · exact e
    · intro hxm
      rcases hx.2 (.inr hxm) with e | e
      · subst e
        have := hb _ hxm
        rw [less_irrefl] at this
        cases this
      · exact e
def insS (l : List ByteArray) (s : ByteArray) : List ByteArray :=
  let p := l.takeWhile fun x => less x s
  let q := l.dropWhile fun x => less x s
  if q.head? = some s then l else p ++ s :: q
def mergeS (a b : List ByteArray) : List ByteArray := (a ++ b).foldl insS []
theorem insS_mem (l : List ByteArray) (s x : ByteArray) : x ∈ insS l s ↔ x = s ∨ x ∈ l := by
  unfold insS
  have hl : l.takeWhile (fun x => less x s) ++ l.dropWhile (fun x => less x s) = l := List.takeWhile_append_dropWhile
  simp only
  split
  · rename_i h
    constructor
    · exact .inr
    · rintro (rfl | h')
      · rw [← hl, List.mem_append]
        exact .inr (List.mem_of_mem_head? (by rw [h]; rfl))
      · exact h'
  · rw [List.mem_append, List.mem_cons]
    conv => rhs; rw [← hl, List.mem_append]
    constructor
    · rintro (h | h | h)
      · exact .inr (.inl h)
      · exact .inl h
      · exact .inr (.inr h)
    · rintro (h | h | h)
      · exact .inr (.inl h)
      · exact .inl h
      · exact .inr (.inr h)
theorem dropWhile_head {α : Type} (p : α → Bool) : ∀ (l : List α) (x : α), (l.dropWhile p).head? = some x → p x = false
  | [], _, h => by simp at h
  | a :: l, x, h => by
    rw [List.dropWhile_cons] at h
    split at h
    · exact dropWhile_head p l x h
    · rename_i hp
      simp only [List.head?_cons, Option.some.injEq] at h
      subst h
      simpa using hp
theorem takeWhile_all {α : Type} (p : α → Bool) : ∀ (l : List α) (x : α), x ∈ l.takeWhile p → p x = true
  | a :: l, x, h => by
    rw [List.takeWhile_cons] at h
    split at h
    · rename_i hp
      rcases List.mem_cons.1 h with e | e
      · rw [e]; exact hp
      · exact takeWhile_all p l x e
    · cases h
theorem insS_sorted (l : List ByteArray) (s : ByteArray) (h : Sorted l) : Sorted (insS l s) := by
  unfold insS
  have hl : l.takeWhile (fun x => less x s) ++ l.dropWhile (fun x => less x s) = l := List.takeWhile_append_dropWhile
  simp only
  split
  · exact h
  · rename_i hne
    rw [Sorted, ← hl, List.pairwise_append] at h
    obtain ⟨h1, h2, h3⟩ := h
    rw [Sorted, List.pairwise_append]
    have hq : ∀ y ∈ l.dropWhile (fun x => less x s), less s y = true := by
      cases hd : l.dropWhile (fun x => less x s) with
      | nil => intro y hy; cases hy
      | cons z q =>
        rw [hd] at h2 hne
        have hz := dropWhile_head (fun x => less x s) l z (by rw [hd]; rfl)
        have hzs : less s z = true := by
          rcases (not_less_iff z s).1 hz with e | e
          · subst e; simp at hne
          · exact e
        intro y hy
        rcases List.mem_cons.1 hy with e | e
        · rw [e]; exact hzs
        · exact less_trans _ _ _ hzs ((List.pairwise_cons.1 h2).1 y e)
    refine ⟨h1, List.pairwise_cons.2 ⟨hq, h2⟩, fun a ha b hb => ?_⟩
    have has := takeWhile_all _ l a ha
    rcases List.mem_cons.1 hb with e | e
    · rw [e]; exact has
    · exact less_trans _ _ _ has (hq b e)
theorem fold_mem : ∀ (m l : List ByteArray) (x : ByteArray), x ∈ m.foldl insS l ↔ x ∈ l ∨ x ∈ m
  | [], l, x => by simp
  | s :: m, l, x => by
    rw [List.foldl_cons, fold_mem m, insS_mem, List.mem_cons]
    constructor
    · rintro ((h | h) | h)
      · exact .inr (.inl h)
      · exact .inl h
      · exact .inr (.inr h)
    · rintro (h | h | h)
      · exact .inl (.inr h)
      · exact .inl (.inl h)
      · exact .inr h
theorem fold_sorted : ∀ (m l : List ByteArray), Sorted l → Sorted (m.foldl insS l)
  | [], _, h => h
  | s :: m, l, h => fold_sorted m _ (insS_sorted l s h)
theorem mergeS_sorted (a b : List ByteArray) : Sorted (mergeS a b) := fold_sorted _ _ List.Pairwise.nil
theorem mergeS_mem (a b : List ByteArray) (x : ByteArray) : x ∈ mergeS a b ↔ x ∈ a ∨ x ∈ b := by
  unfold mergeS
  rw [fold_mem, List.mem_append]
  simp
theorem mergeS_eq (a b l : List ByteArray) (h : Sorted l) (hm : ∀ x, x ∈ l ↔ x ∈ a ∨ x ∈ b) : mergeS a b = l :=
  sorted_ext _ _ (mergeS_sorted a b) h fun x => (mergeS_mem a b x).trans (hm x).symm
theorem insS_len (l : List ByteArray) (s : ByteArray) : (insS l s).length ≤ l.length + 1 := by
  unfold insS
  simp only
  split
  · omega
  · have hl : l.takeWhile (fun x => less x s) ++ l.dropWhile (fun x => less x s) = l := List.takeWhile_append_dropWhile
    have := congrArg List.length hl
    rw [List.length_append] at this
    simp only [List.length_append, List.length_cons]
    omega
theorem fold_len : ∀ (m l : List ByteArray), (m.foldl insS l).length ≤ l.length + m.length
  | [], l => by simp
  | s :: m, l => by
    rw [List.foldl_cons]
    have h1 := fold_len m (insS l s)
    have h2 := insS_len l s
    simp only [List.length_cons]
    omega
theorem mergeS_len (a b : List ByteArray) : (mergeS a b).length ≤ a.length + b.length := by
  have := fold_len (a ++ b) []
  rw [List.length_append] at this
  simp only [List.length_nil, Nat.zero_add] at this
  exact this
end Sp
end Go.Proofs.Ytocdoddmaopdbaa
namespace Go.Proofs.Ytocdoddmaopdbaa
open Go.RowKit Sp
def enI (x : Int) : List Value := [.int .i64 x]
def enS (s : ByteArray) : List Value := [.string s]
theorem enI_len (x : Int) : (enI x).length = 1 := rfl
theorem enS_len (x : ByteArray) : (enS x).length = 1 := rfl
theorem enS_one (x : ByteArray) : ∀ u ∈ enS x, u.oneCell' = true := fun u hu => by rw [enS, List.mem_singleton] at hu; rw [hu]; rfl
theorem bytesLess_eq : ∀ x y : List UInt8, Op.bytesLess x y = ltL x y
  | [], [] => rfl
  | [], _ :: _ => rfl
  | _ :: _, [] => rfl
  | a :: x, b :: y => by simp only [Op.bytesLess, ltL, bytesLess_eq x y]
theorem bytesLess_less (a b : ByteArray) : Op.bytesLess a.toList b.toList = ltL a.data.toList b.data.toList := by
  rw [ByteArray.toList_eq, ByteArray.toList_eq, bytesLess_eq]
theorem compareBytes_neg : ∀ x y : List UInt8, (Lib.compareBytes x y < 0) = (ltL x y = true)
  | [], [] => by simp [Lib.compareBytes, ltL]
  | [], _ :: _ => by simp [Lib.compareBytes, ltL]
  | _ :: _, [] => by simp [Lib.compareBytes, ltL]
  | a :: x, b :: y => by
    simp only [Lib.compareBytes, ltL]
    by_cases h : a < b
    · rw [if_pos h]; simp [h]
    · rw [if_neg h]
      by_cases h2 : b < a
      · rw [if_pos h2]
        have hne : (a == b) = false := by
          rw [beq_eq_false_iff_ne]
          rintro rfl
          exact UInt8.lt_irrefl _ h2
        simp [h, hne]
      · rw [if_neg h2]
        have he : a = b := by
          by_cases e : a = b
          · exact e
          · rcases UInt8.lt_or_lt_of_ne e with e | e
            · exact absurd e h
            · exact absurd e h2
        subst he
        simp [compareBytes_neg x y]
def cmpS (a b : ByteArray) : Int := if Lib.compareInt a.size b.size ≠ 0 then Lib.compareInt a.size b.size else Lib.compareBytes a.data.toList b.data.toList
theorem cmpS_neg (a b : ByteArray) : decide (cmpS a b < 0) = less a b := by
  unfold cmpS less Lib.compareInt
  rcases Nat.lt_trichotomy a.size b.size with h | h | h
  · simp [h]
  · simp [h, compareBytes_neg]
  · have h1 : ¬ a.size < b.size := by omega
    have h2 : ¬ a.size = b.size := by omega
    have h3 : ¬ ((a.size : Int) < b.size) := by omega
    have h4 : ((b.size : Int) < a.size) := by omega
    simp [h1, h2, h4]
def orL : List Int → Int
  | [] => 0
  | x :: l => if x ≠ 0 then x else orL l
theorem orL_two (x y : Int) : orL [x, y] = if x ≠ 0 then x else y := by
  by_cases h : x = 0 <;> by_cases h2 : y = 0 <;> simp [orL, h, h2]
theorem orL_drop (xs : List Int) (k : Nat) (h : k < xs.length) : orL (xs.drop k) = if xs[k] ≠ 0 then xs[k] else orL (xs.drop (k + 1)) := by
  rw [List.drop_eq_getElem_cons h]; rfl
set_option maxRecDepth 100000 in
theorem cmpOr_calls (A : Option Addr) (n c : Nat) (xs : List Int) (w : World) (h : Row enI 1 w (.slice A n c) xs) (hn : n ≤ 100) :
    Calls Try.prog 75 #[.slice A n c] w fun e w' => e = .returned (.int .i64 (orL xs)) ∧ w = w' := by
  have hl := h.len_eq
  have HL := Lib.hid hl
  clear hl
  go_enter Try.func75, Try.ntmps75
  go_wp2
  go_loop [8] (fun v8 => ∃ k : Nat, v8 = .int .i64 k ∧ k ≤ n ∧ Hid (orL (xs.drop k) = orL xs)) (fun v8 => (n - intOf v8).toNat)
  case atStart => exact ⟨0, rfl, Nat.zero_le _, by show _ = _; rw [List.drop_zero]⟩
  case round =>
    obtain ⟨k, rfl, hk, HF⟩ := hrel
    by_cases hlt : k < n
    · have hk' : k < xs.length := by have := HL.out; omega
      obtain ⟨ad, rfl, hc⟩ := h.get1 (f := Value.int .i64) k hk'
      have hd := orL_drop xs k hk'
      obtain ⟨x, hx⟩ : ∃ x, xs[k] = x := ⟨_, rfl⟩
      rw [hx] at hc hd
      clear hx
      rw [HF.out] at hd
      by_cases h0 : x = 0
      · have hb : (x != 0) = false := by simp [h0]
        have HF2 : Hid (orL (xs.drop (k + 1)) = orL xs) := by rw [hd, if_neg (by simp [h0])]; rfl
        clear h0 hd
        go_wp2
        go_round
        case rel => exact ⟨k + 1, by go_num, by omega, HF2⟩
        case measure => simp [intOf]; omega
      · have hb : (x != 0) = true := by simp [h0]
        have HF2 : Hid (orL xs = x) := by rw [hd, if_pos h0]; rfl
        clear h0 hd
        go_wp2
        go_ret
        exact ⟨ret_int HF2.out.symm, rfl⟩
    · have HF2 : Hid (orL xs = 0) := by
        have := HF.out
        rw [List.drop_eq_nil_of_le (by have := HL.out; omega)] at this
        exact this.symm
      go_wp2
      go_ret
      exact ⟨ret_int HF2.out.symm, rfl⟩
set_option maxRecDepth 100000 in
theorem compare_exact (a b : ByteArray) (w : World) :
    Calls Try.prog 65 #[.string a, .string b] w fun e w' => e = .returned (.int .i64 (cmpS a b)) ∧ ∃ o, w' = w.alloc o := by
  have hfin : orL [Lib.compareInt a.size b.size, Lib.compareBytes a.data.toList b.data.toList] = cmpS a b := by
    unfold cmpS
    exact orL_two _ _
  have HF := Lib.hid hfin
  clear hfin
  go_enter Try.func65, Try.ntmps65
  go_wp2_with fail
  refine (Try.cmp_Compare_int _ _ _).mono ?_
  rintro e w1 ⟨rfl, rfl⟩
  go_wp2_with fail
  refine (Try.strings_Compare _ _ _).mono ?_
  rintro e w1 ⟨rfl, rfl⟩
  go_wp2_with fail
  refine (cmpOr_calls _ 2 2 [Lib.compareInt a.size b.size, Lib.compareBytes a.data.toList b.data.toList] _ (Own.lit (base := 0) enI_len w1 _ _ 2 rfl rfl (Nat.zero_le _) (by omega)).row (by omega)).mono ?_
  rintro e w2 ⟨rfl, rfl⟩
  go_wp2
  go_ret
  exact ⟨ret_int HF.out, _, rfl⟩
set_option maxRecDepth 100000 in
theorem refLess_calls (a b : ByteArray) (w : World) :
    Calls Try.prog 25 #[.string a, .string b] w fun e w' => e = .returned (.bool (less a b)) ∧ w = w' := by
  have hl := bytesLess_less a b
  have HL := Lib.hid hl
  clear hl
  rcases Nat.lt_trichotomy a.size b.size with h | h | h
  · go_enter Try.func25, Try.ntmps25
    go_wp2
    go_ret
    exact ⟨ret_bool (a := true) (by simp [less, h]), rfl⟩
  · have h1 : ¬ a.size < b.size := by omega
    have hb1 : ((a.size : Int) == b.size) = true := by simp [h]
    have H := Lib.hid h
    clear h
    go_enter Try.func25, Try.ntmps25
    go_wp2
    go_ret
    refine ⟨ret_bool (a := Op.bytesLess a.toList b.toList) ?_, rfl⟩
    rw [HL.out]
    simp [less, H.out]
  · have h1 : ¬ a.size < b.size := by omega
    have hb1 : ((a.size : Int) == b.size) = false := by simp; omega
    go_enter Try.func25, Try.ntmps25
    go_wp2
    go_ret
    refine ⟨ret_bool (a := false) ?_, rfl⟩
    have h2 : ¬ a.size = b.size := by omega
    simp [less, h1, h2]
end Go.Proofs.Ytocdoddmaopdbaa
namespace Go.Proofs.Ytocdoddmaopdbaa
open Go.RowKit
theorem below_alloc0 {w w1 : World} (h : Below w.heap.size w w1) (o : Obj) : Below w.heap.size w (w1.alloc o) := h.alloc h.size o
theorem below_box {w : World} (o : Obj) : Below w.heap.size w (w.alloc o) := below_alloc0 (Below.refl _ _) o
theorem hcall {W W' : World} {g : Nat} {o : Obj} (h : W.heap[g]? = some o) (b : Below W.heap.size W W') : W'.heap[g]? = some o := (b.block g (Array.getElem?_eq_some_iff.1 h).1).trans h
theorem size_alloc (w : World) (o : Obj) : (w.alloc o).heap.size = w.heap.size + 1 := Array.size_push ..
end Go.Proofs.Ytocdoddmaopdbaa
namespace Go.Proofs.Ytocdoddmaopdbaa
open Go.RowKit
structure Kept (P : World → Prop) : Prop where
  below : ∀ {w w1 : World}, P w → Below w.heap.size w w1 → P w1
  drew : ∀ {w : World}, P w → P w.drew
theorem Kept.row {α : Type} {enc : α → List Value} {k : Nat} {v : Value} {xs : List α} : Kept (fun w => Row enc k w v xs) := ⟨fun h b => h.below b, fun h => h⟩
theorem Kept.own {α : Type} {enc : α → List Value} {k : Nat} {e : TypeId} {base : Nat} {v : Value} {xs : List α} : Kept (fun w => Own enc k e w base v xs) := ⟨fun h b => h.below b, fun h => h⟩
theorem Kept.heap {g : Nat} {o : Obj} : Kept (fun w => w.heap[g]? = some o) := ⟨fun h b => hcall h b, fun h => h⟩
theorem Kept.cell {a : Addr} {v : Value} : Kept (fun w => w.cell? a = some v) := ⟨fun h b => cell_below b h, fun h => h⟩
theorem Kept.lt {n : Nat} : Kept (fun w => n < w.heap.size) := ⟨fun h b => Nat.lt_of_lt_of_le h b.size, fun h => h⟩
theorem Kept.and {P Q : World → Prop} (h : Kept P) (k : Kept Q) : Kept (fun w => P w ∧ Q w) := ⟨fun x b => ⟨h.below x.1 b, k.below x.2 b⟩, fun x => ⟨h.drew x.1, k.drew x.2⟩⟩
theorem Kept.alloc {P : World → Prop} (h : Kept P) {w : World} (x : P w) (o : Obj) : P (w.alloc o) := h.below x (below_box o)
end Go.Proofs.Ytocdoddmaopdbaa
namespace Go.Proofs.Ytocdoddmaopdbaa
open Go.RowKit Go.WideMaps Go.Maps Sp
abbrev agPk (p q : ByteArray) : Value := .agg #[.string p, .string q]
def keyP (p q : ByteArray) : Lit := .string (keyBytes [.string p.data.toList, .string q.data.toList])
theorem laidP : laidOutB Try.prog = true := by kernel_rfl
theorem arrP : ArrKey Try.prog 56 9 2 := ⟨Try.underlying56, by kernel_rfl, by kernel_rfl, by kernel_rfl⟩
theorem mapLawP : Keyed Try.prog 56 := Keyed.of_law (deep_law_laid laidP (m := 4) (by decide) (of_decide_eq_true (by kernel_rfl)) (by kernel_rfl) (by kernel_rfl))
theorem typesP : ∃ m, Try.prog.types.size = m + 1 := ⟨Try.prog.types.size - 1, by have : Try.prog.types.size ≠ 0 := of_decide_eq_true (by kernel_rfl); omega⟩
theorem keyOfP (p q : ByteArray) (hp : p.size ≤ maxLen) (hq : q.size ≤ maxLen) : keyOf Try.prog 56 (agPk p q) = some (keyP p q) := by
  have A := arrP
  have he := Try.underlying9
  have hkt := A.keyType typesP
  obtain ⟨m, hm⟩ := typesP
  unfold keyOf keyP
  simp only [A.hu]
  rw [if_pos (by simp [hkt, Value.formed, A.hu, A.size]), hm]
  unfold Program.keyLits
  simp only [A.hu, Value.cells]
  rw [if_pos (by rw [A.size]; rfl), show List.range 2 = [0, 1] from rfl, List.mapM_cons, List.mapM_cons, List.mapM_nil]
  simp [A.one, Program.keyLits, he, hp, hq]
theorem lit_str {P : Program} {e : TypeId} (he : P.underlying e = some .string) {m : Nat} {x : Value} {ls : List Lit} (h : P.keyLits (m + 1) e [x] = some ls) : ∃ s : ByteArray, x = .string s ∧ s.size ≤ maxLen ∧ ls = [.string s.data.toList] := by
  unfold Program.keyLits at h
  rw [he] at h
  cases x <;> simp at h
  exact ⟨_, rfl, h.1, h.2.symm⟩
theorem keyOf_inv2 {P : Program} {k e : TypeId} (A : ArrKey P k e 2) (he : P.underlying e = some .string) (hs : ∃ m, P.types.size = m + 1) {v : Value} {kl : Lit} (h : keyOf P k v = some kl) :
    ∃ p q : ByteArray, v = agPk p q ∧ kl = keyP p q ∧ p.size ≤ maxLen ∧ q.size ≤ maxLen := by
  have hkt := A.keyType hs
  obtain ⟨m, hm⟩ := hs
  unfold keyOf at h
  simp only [A.hu] at h
  split at h
  · rename_i hf
    rw [Bool.and_eq_true] at hf
    have hf2 := hf.2
    cases v with
    | agg cs =>
      simp only [Value.formed, A.hu, A.size, beq_iff_eq] at hf2
      obtain ⟨l⟩ := cs
      simp only [List.size_toArray] at hf2
      match l, hf2 with
      | [x, y], _ =>
        rw [hm] at h
        unfold Program.keyLits at h
        simp only [A.hu, Value.cells] at h
        rw [if_pos (by rw [A.size]; rfl), show List.range 2 = [0, 1] from rfl, List.mapM_cons, List.mapM_cons, List.mapM_nil] at h
        simp only [A.one] at h
        simp only [Option.map_eq_some_iff] at h
        obtain ⟨ls, ⟨lss, h, rfl⟩, rfl⟩ := h
        cases h1 : P.keyLits (m + 1) e [x] with
        | none => simp [h1] at h
        | some l1 =>
          cases h2 : P.keyLits (m + 1) e [y] with
          | none => simp [h1, h2] at h
          | some l2 =>
            simp [h1, h2] at h
            obtain ⟨p, rfl, hp, rfl⟩ := lit_str he h1
            obtain ⟨q, rfl, hq, rfl⟩ := lit_str he h2
            subst h
            exact ⟨p, q, rfl, rfl, hp, hq⟩
    | _ => simp [Value.formed, A.hu] at hf2
  · cases h
theorem keyOfP_inv {v : Value} {kl : Lit} (h : keyOf Try.prog 56 v = some kl) : ∃ p q : ByteArray, v = agPk p q ∧ kl = keyP p q ∧ p.size ≤ maxLen ∧ q.size ≤ maxLen := keyOf_inv2 arrP Try.underlying9 typesP h
theorem keyP_key (p q : ByteArray) : WideAt.IsKeyLit (keyP p q) := trivial
theorem keyP_inj {p q p' q' : ByteArray} (hp : p.size ≤ maxLen) (hq : q.size ≤ maxLen) (hp' : p'.size ≤ maxLen) (hq' : q'.size ≤ maxLen) (e : keyP p q = keyP p' q') : p = p' ∧ q = q' := by
  have h1 := keyOfP p q hp hq
  have h2 := keyOfP p' q' hp' hq'
  rw [← e] at h2
  have h3 := mapLawP.inj h1 h2
  injection h3 with h3
  injection h3 with h3
  injection h3 with h4 h5
  injection h4 with h4
  injection h5 with h5 h6
  injection h5 with h5
  exact ⟨h4, h5⟩
theorem boolP_inv0 {H : Type} {P : Program} {e : TypeId} (he : P.underlying e = some .bool) {v : Value} {z : DataW H × List MemPlace} (h : plainElem P e v = some z) : ∃ x, v = .bool x ∧ z = (.lit (.bool x), []) := by
  unfold plainElem at h
  rw [he] at h
  cases v <;> simp at h
  exact ⟨_, rfl, h.symm⟩
theorem boolP_inv {H : Type} {v : Value} {z : DataW H × List MemPlace} (h : plainElem Try.prog 4 v = some z) : ∃ x, v = .bool x ∧ z = (.lit (.bool x), []) := boolP_inv0 Try.underlying4 h
theorem zeroBoolP (w : World) : (zeroValue 4).run Try.prog w = .ok (.bool false) w := by kernel_rfl
def BMap (w : World) (b n : Nat) (S : ByteArray → ByteArray → Bool) (m : Nat) : Prop :=
  ∃ D : DataW Unit, w.ownsMap Try.prog 56 (plainElem Try.prog 4) b n D ∧ (∀ p q : ByteArray, p.size ≤ maxLen → q.size ≤ maxLen → Maps.has D (keyP p q) = S p q) ∧
    (∀ kl z, Maps.has D kl = true → D.atKey kl z = .lit (.bool true)) ∧ Maps.size D = m
theorem BMap.new (w : World) : BMap (w.alloc (.map #[] 0)) w.heap.size 0 (fun _ _ => false) 0 := ⟨_, World.ownsMap_made _ _ _ _, fun _ _ _ _ => rfl, fun _ _ h => by simp [Maps.has] at h, rfl⟩
theorem BMap.kept {w w1 : World} {b n m : Nat} {S : ByteArray → ByteArray → Bool} {row : Option Nat} (h : BMap w b n S m) (hg : w.grownBy w1 row) (hne : some b ≠ row) : BMap w1 b n S m := by
  obtain ⟨D, h1, h2⟩ := h
  exact ⟨D, h1.kept hg hne, h2⟩
theorem BMap.below {w w1 : World} {b n m : Nat} {S : ByteArray → ByteArray → Bool} (h : BMap w b n S m) (hb : Below w.heap.size w w1) : BMap w1 b n S m := h.kept (grown_of_below hb none) (by simp)
theorem BMap.mono {w : World} {b n n' m : Nat} {S : ByteArray → ByteArray → Bool} (h : BMap w b n S m) (hn : n ≤ n') : BMap w b n' S m := by
  obtain ⟨D, h1, h2⟩ := h
  exact ⟨D, h1.mono hn, h2⟩
theorem BMap.set {w : World} {b n m : Nat} {S T : ByteArray → ByteArray → Bool} (h : BMap w b n S m) (hs : ∀ p q : ByteArray, p.size ≤ maxLen → q.size ≤ maxLen → S p q = T p q) : BMap w b n T m := by
  obtain ⟨D, h1, h2, h3⟩ := h
  exact ⟨D, h1, fun p q hp hq => (h2 p q hp hq).trans (hs p q hp hq), h3⟩
theorem BMap.isMap {w : World} {b n m : Nat} {S : ByteArray → ByteArray → Bool} (h : BMap w b n S m) : ∃ es c, w.heap[b]? = some (.map es c) := by
  obtain ⟨D, ⟨es, c, h1, _⟩, _⟩ := h
  exact ⟨es, c, h1⟩
theorem BMap.look {w : World} {b n m : Nat} {S : ByteArray → ByteArray → Bool} (h : BMap w b n S m) (p q : ByteArray) (hp : p.size ≤ maxLen) (hq : q.size ≤ maxLen) :
    (Instr.lookup 51 (.map (some b)) (agPk p q) false).run Try.prog w = .ok (.bool (S p q)) w := by
  obtain ⟨D, h1, h2, h3, _⟩ := h
  obtain ⟨v, ps, hrun, hv⟩ := h1.lookup mapLawP Try.underlying51 (zeroBoolP _) (plainElem_bool Try.underlying4 false) (keyOfP p q hp hq)
  obtain ⟨x, rfl, e⟩ := boolP_inv hv
  simp only [Prod.mk.injEq] at e
  rw [hrun, ← h2 p q hp hq]
  cases hh : Maps.has D (keyP p q) with
  | true => rw [h3 _ _ hh] at e; simp only [DataW.lit.injEq, Lit.bool.injEq] at e; rw [← e.1]
  | false => rw [atKey_of_not_has hh] at e; simp only [DataW.lit.injEq, Lit.bool.injEq] at e; rw [← e.1]
theorem BMap.lenRun {w : World} {b n m : Nat} {S : ByteArray → ByteArray → Bool} (h : BMap w b n S m) (ty : TypeId) : (Builtin.len_ #[51] ty #[.map (some b)]).run Try.prog w = .ok (.int .i64 (m : Int)) w := by
  obtain ⟨D, h1, h2, h3, rfl⟩ := h
  exact h1.len Try.underlying51 ty
theorem BMap.put {w : World} {b n m : Nat} {S : ByteArray → ByteArray → Bool} (h : BMap w b n S m) (p q : ByteArray) (hp : p.size ≤ maxLen) (hq : q.size ≤ maxLen) (hn : n < 1000000) :
    ∃ w', (Instr.mapUpdate 51 (.map (some b)) (agPk p q) (.bool true)).run Try.prog w = .ok () w' ∧ BMap w' b (n + 1) (fun x y => decide (x = p ∧ y = q) || S x y) (if S p q then m else m + 1) ∧ w.mapTurned w' b := by
  obtain ⟨D, h1, h2, h3, rfl⟩ := h
  have ht := h1.tidy mapLawP
  obtain ⟨w', r1, r2, r3⟩ := h1.store mapLawP Try.underlying51 (by unfold maxLen; omega) (keyOfP p q hp hq) (plainElem_bool Try.underlying4 true)
  refine ⟨w', r1, ⟨_, r2, fun x y hx hy => ?_, fun kl z hk => ?_, ?_⟩, r3⟩
  · by_cases e : x = p ∧ y = q
    · obtain ⟨rfl, rfl⟩ := e
      rw [has_put_same ht.isMap (keyP_key x y)]
      simp
    · rw [has_put_other (fun e2 => e (keyP_inj hx hy hp hq e2)), h2 x y hx hy]
      simp [e]
  · by_cases e : kl = keyP p q
    · rw [e, atKey_put_same ht.isMap (keyP_key p q)]
    · rw [atKey_put_other e]
      rw [has_put_other e] at hk
      exact h3 kl z hk
  · rw [size_put ht, h2 p q hp hq]
theorem BMap.del {w : World} {b n m : Nat} {S : ByteArray → ByteArray → Bool} (h : BMap w b n S m) (p q : ByteArray) (hp : p.size ≤ maxLen) (hq : q.size ≤ maxLen) (ty : TypeId) :
    ∃ w', (Builtin.delete_ #[51, 56] ty #[.map (some b), agPk p q]).run Try.prog w = .ok (.tuple #[]) w' ∧ BMap w' b n (fun x y => !decide (x = p ∧ y = q) && S x y) (if S p q then m - 1 else m) ∧ w.mapTurned w' b := by
  obtain ⟨D, h1, h2, h3, rfl⟩ := h
  have ht := h1.tidy mapLawP
  obtain ⟨w', r1, r2, r3⟩ := h1.drop mapLawP Try.underlying51 (keyOfP p q hp hq) ty
  refine ⟨w', r1, ⟨_, r2, fun x y hx hy => ?_, fun kl z hk => ?_, ?_⟩, r3⟩
  · by_cases e : x = p ∧ y = q
    · obtain ⟨rfl, rfl⟩ := e
      rw [has_del_same]
      simp
    · rw [has_del_other (fun e2 => e (keyP_inj hx hy hp hq e2)), h2 x y hx hy]
      simp [e]
  · by_cases e : kl = keyP p q
    · rw [e, has_del_same] at hk
      cases hk
    · rw [atKey_del_other e]
      rw [has_del_other e] at hk
      exact h3 kl z hk
  · have := size_del (k := keyP p q) ht
    rw [h2 p q hp hq] at this
    cases hs : S p q <;> rw [hs] at this <;> simp at this ⊢ <;> omega
def elN (v : Value) : Option (DataW Unit × List MemPlace) :=
  match v with
  | .map (some g) => some (.lit (.int .i64 (g : Int)), [])
  | .map none => some (.lit (.bool false), [])
  | _ => none
def dN : Option Nat → DataW Unit
  | some g => .lit (.int .i64 (g : Int))
  | none => .lit (.bool false)
theorem elN_mk (g : Option Nat) : elN (.map g) = some (dN g, []) := by cases g <;> rfl
theorem elN_inv {v : Value} {g : Option Nat} {ps : List MemPlace} (h : elN v = some (dN g, ps)) : v = .map g := by
  unfold elN at h
  split at h
  · cases g with
    | none => simp [dN] at h
    | some k =>
      simp only [dN, Option.some.injEq, Prod.mk.injEq, DataW.lit.injEq, Lit.int.injEq, true_and] at h
      have := Int.ofNat.inj h.1
      rw [this]
  · cases g with
    | none => rfl
    | some k => simp [dN] at h
  · cases h
theorem mapLawN : Keyed Try.prog 9 := string_keyed Try.underlying9
theorem zeroN (w : World) : (zeroValue 51).run Try.prog w = .ok (.map none) w := by kernel_rfl
def keyN (s : ByteArray) : Lit := .string s.data.toList
theorem keyN_ne {s t : ByteArray} (h : s ≠ t) : keyN s ≠ keyN t := fun e => h (by
  have e2 : s.data.toList = t.data.toList := by injection e
  exact toList_inj.1 e2)
def NMap (w : World) (c n : Nat) (f : ByteArray → Option Nat) : Prop :=
  ∃ D : DataW Unit, w.ownsMap Try.prog 9 elN c n D ∧ ∀ s : ByteArray, D.atKey (keyN s) (dN none) = dN (f s)
theorem NMap.new (w : World) : NMap (w.alloc (.map #[] 0)) w.heap.size 0 (fun _ => none) := ⟨_, World.ownsMap_made _ _ _ _, fun _ => by simp [DataW.atKey]⟩
theorem NMap.kept {w w1 : World} {c n : Nat} {f : ByteArray → Option Nat} {row : Option Nat} (h : NMap w c n f) (hg : w.grownBy w1 row) (hne : some c ≠ row) : NMap w1 c n f := by
  obtain ⟨D, h1, h2⟩ := h
  exact ⟨D, h1.kept hg hne, h2⟩
theorem NMap.below {w w1 : World} {c n : Nat} {f : ByteArray → Option Nat} (h : NMap w c n f) (hb : Below w.heap.size w w1) : NMap w1 c n f := h.kept (grown_of_below hb none) (by simp)
theorem NMap.mono {w : World} {c n n' : Nat} {f : ByteArray → Option Nat} (h : NMap w c n f) (hn : n ≤ n') : NMap w c n' f := by
  obtain ⟨D, h1, h2⟩ := h
  exact ⟨D, h1.mono hn, h2⟩
theorem NMap.isMap {w : World} {c n : Nat} {f : ByteArray → Option Nat} (h : NMap w c n f) : ∃ es k, w.heap[c]? = some (.map es k) := by
  obtain ⟨D, ⟨es, k, h1, _⟩, _⟩ := h
  exact ⟨es, k, h1⟩
theorem NMap.look {w : World} {c n : Nat} {f : ByteArray → Option Nat} (h : NMap w c n f) (s : ByteArray) (hs : s.size ≤ maxLen) :
    (Instr.lookup 52 (.map (some c)) (.string s) false).run Try.prog w = .ok (.map (f s)) w := by
  obtain ⟨D, h1, h2⟩ := h
  obtain ⟨v, ps, hrun, hv⟩ := h1.lookup mapLawN Try.underlying52 (zeroN _) (elN_mk none) (keyOf_string_mk Try.underlying9 hs)
  rw [show (.string s.data.toList : Lit) = keyN s from rfl, h2] at hv
  rw [hrun, elN_inv hv]
theorem NMap.put {w : World} {c n : Nat} {f : ByteArray → Option Nat} (h : NMap w c n f) (s : ByteArray) (g : Nat) (hs : s.size ≤ maxLen) (hn : n < 1000000) :
    ∃ w', (Instr.mapUpdate 52 (.map (some c)) (.string s) (.map (some g))).run Try.prog w = .ok () w' ∧ NMap w' c (n + 1) (fun t => if t = s then some g else f t) ∧ w.mapTurned w' c := by
  obtain ⟨D, h1, h2⟩ := h
  have ht := h1.tidy mapLawN
  obtain ⟨w', r1, r2, r3⟩ := h1.store mapLawN Try.underlying52 (by unfold maxLen; omega) (keyOf_string_mk Try.underlying9 hs) (elN_mk (some g))
  refine ⟨w', r1, ⟨_, r2, fun t => ?_⟩, r3⟩
  rw [show (.string s.data.toList : Lit) = keyN s from rfl]
  show _ = dN (if t = s then some g else f t)
  by_cases e : t = s
  · subst e
    rw [if_pos rfl, atKey_put_same ht.isMap (show WideAt.IsKeyLit (keyN t) from trivial)]
  · rw [if_neg e, atKey_put_other (keyN_ne e)]
    exact h2 t
end Go.Proofs.Ytocdoddmaopdbaa
namespace Go.Proofs.Ytocdoddmaopdbaa
open Go.RowKit Go.Maps
namespace Sp
abbrev Pr := ByteArray × ByteArray
structure OpI where
  d : Int
  w : ByteArray
  c : ByteArray
instance : DecidableEq OpI := fun a b => decidable_of_iff (a.d = b.d ∧ a.w = b.w ∧ a.c = b.c) ⟨fun h => by cases a; cases b; simp only at h; obtain ⟨h1, h2, h3⟩ := h; subst h1 h2 h3; rfl, fun h => by subst h; exact ⟨rfl, rfl, rfl⟩⟩
def inP (L : List Pr) (p q : ByteArray) : Bool := L.any fun x => decide (x.1 = p) && decide (x.2 = q)
theorem inP_iff {L : List Pr} {p q : ByteArray} : inP L p q = true ↔ (p, q) ∈ L := by
  unfold inP
  rw [List.any_eq_true]
  constructor
  · rintro ⟨⟨x, y⟩, hx, e⟩
    simp only [Bool.and_eq_true, decide_eq_true_eq] at e
    rw [← e.1, ← e.2]
    exact hx
  · exact fun h => ⟨(p, q), h, by simp⟩
def sd (s : Bool) (x : Pr) : ByteArray := if s then x.2 else x.1
def tuP (L : List Pr) (p q : ByteArray) (on : Bool) : List Pr := if on then L ++ [(p, q)] else L.filter fun x => !(decide (x.1 = p) && decide (x.2 = q))
def setP (L : List Pr) (p q : ByteArray) (on : Bool) : List Pr × Bool := if inP L p q = on then (L, false) else (tuP L p q on, true)
def sideP (L : List Pr) (u : ByteArray) (s : Bool) : List ByteArray := mergeS ((L.filter fun x => decide (sd s x = u)).map (sd (!s))) []
def forgetP (L : List Pr) (u : ByteArray) : List Pr := L.filter fun x => !decide (x.1 = u) && !decide (x.2 = u)
theorem inP_tuP (L : List Pr) (p q : ByteArray) (on : Bool) (x y : ByteArray) : inP (tuP L p q on) x y = if on then (decide (x = p ∧ y = q) || inP L x y) else (!decide (x = p ∧ y = q) && inP L x y) := by
  rw [Bool.eq_iff_iff, inP_iff]
  unfold tuP
  cases on
  · simp only [Bool.false_eq_true, if_false, List.mem_filter, Bool.and_eq_true, Bool.not_eq_true', Bool.and_eq_false_iff, decide_eq_false_iff_not, inP_iff]
    constructor
    · rintro ⟨h1, h2⟩
      exact ⟨fun e => by rcases h2 with h2 | h2; exact h2 e.1; exact h2 e.2, h1⟩
    · rintro ⟨h1, h2⟩
      refine ⟨h2, ?_⟩
      by_cases e : x = p
      · exact .inr fun e2 => h1 ⟨e, e2⟩
      · exact .inl e
  · simp only [if_true, List.mem_append, List.mem_singleton, Prod.mk.injEq, Bool.or_eq_true, decide_eq_true_eq, inP_iff]
    exact or_comm
theorem nodup_filter {α : Type} (f : α → Bool) : ∀ L : List α, L.Nodup → (L.filter f).Nodup := fun L h => List.Pairwise.filter _ h
theorem tuP_nodup {L : List Pr} (h : L.Nodup) (p q : ByteArray) (on : Bool) (ho : on = true → inP L p q = false) : (tuP L p q on).Nodup := by
  unfold tuP
  cases on
  · exact nodup_filter _ _ h
  · simp only [if_true]
    rw [List.nodup_append]
    refine ⟨h, by simp, fun x hx y hy e => ?_⟩
    rw [List.mem_singleton] at hy
    rw [e, hy, ← inP_iff, ho rfl] at hx
    cases hx
theorem len_off (p q : ByteArray) : ∀ L : List Pr, L.Nodup → (L.filter fun x => !(decide (x.1 = p) && decide (x.2 = q))).length = if inP L p q then L.length - 1 else L.length
  | [], _ => rfl
  | x :: L, h => by
    obtain ⟨h1, h2⟩ := List.nodup_cons.1 h
    have ih := len_off p q L h2
    by_cases e : x.1 = p ∧ x.2 = q
    · have hx : x = (p, q) := Prod.ext e.1 e.2
      have hn : inP L p q = false := by
        cases hh : inP L p q with
        | false => rfl
        | true => rw [inP_iff, ← hx] at hh; exact absurd hh h1
      rw [hn] at ih
      rw [List.filter_cons, if_neg (by simp [e.1, e.2]), ih, show inP (x :: L) p q = true from inP_iff.2 (by rw [hx]; exact List.mem_cons_self ..)]
      simp
    · have hb : (!(decide (x.1 = p) && decide (x.2 = q))) = true := by
        rw [Bool.not_eq_true', Bool.and_eq_false_iff]
        by_cases e1 : x.1 = p
        · exact .inr (decide_eq_false fun e2 => e ⟨e1, e2⟩)
        · exact .inl (decide_eq_false e1)
      have hi : inP (x :: L) p q = inP L p q := by
        unfold inP
        rw [List.any_cons]
        rw [Bool.not_eq_true'] at hb
        rw [hb, Bool.false_or]
      rw [List.filter_cons, if_pos hb, List.length_cons, ih, hi]
      cases hh : inP L p q with
      | false => rfl
      | true =>
        rw [inP_iff] at hh
        have := List.length_pos_of_mem hh
        simp only [if_true, List.length_cons]
        omega
theorem tuP_len {L : List Pr} (h : L.Nodup) (p q : ByteArray) (on : Bool) (ho : on = true → inP L p q = false) : (tuP L p q on).length = if on then L.length + 1 else if inP L p q then L.length - 1 else L.length := by
  unfold tuP
  cases on
  · exact len_off p q L h
  · simp
end Sp
open Sp
abbrev Whose := Nat → Option (Option (Bool × Option ByteArray))
def SideAt (w : World) (own : Whose) (s : Bool) (c : Nat) (L : List Pr) (n : Nat) : Prop :=
  ∃ f, NMap w c n f ∧ ∀ name : ByteArray, (f name = none → ∀ x ∈ L, sd s x ≠ name) ∧ ∀ g, f name = some g → own g = some (some (s, some name)) ∧ ∃ m, BMap w g n (fun p q => inP L p q && decide (sd s (p, q) = name)) m
structure IdxAt (w : World) (own : Whose) (a b : Nat) (c : Bool → Nat) (P : List Pr) (L : Bool → List Pr) (n : Nat) : Prop where
  box : w.heap[a]? = some (.cells #[.map (some b), .map (some (c false)), .map (some (c true))] 55)
  ob : own b = some none
  oc : ∀ s, own (c s) = some (some (s, none))
  prs : BMap w b n (inP P) P.length
  side : ∀ s, SideAt w own s (c s) (L s) n
  maps : ∀ i r, own i = some r → ∃ es k, w.heap[i]? = some (.map es k)
structure Turned (own : Whose) (w w' : World) : Prop where
  low : Below 0 w w'
  same : ∀ i, i < w.heap.size → own i = none → w'.heap[i]? = w.heap[i]?
def OwnUp (own own' : Whose) (w : World) : Prop := (∀ i r, own i = some r → own' i = some r) ∧ ∀ i, own i = none → own' i ≠ none → w.heap.size ≤ i
theorem Turned.refl (own : Whose) (w : World) : Turned own w w := ⟨Below.refl _ _, fun _ _ _ => rfl⟩
theorem OwnUp.refl (own : Whose) (w : World) : OwnUp own own w := ⟨fun _ _ h => h, fun _ h h' => absurd h h'⟩
theorem OwnUp.trans {own own1 own2 : Whose} {w w1 : World} (h : OwnUp own own1 w) (hs : w.heap.size ≤ w1.heap.size) (h' : OwnUp own1 own2 w1) : OwnUp own own2 w :=
  ⟨fun i r e => h'.1 i r (h.1 i r e), fun i e e' => by
    cases e1 : own1 i with
    | none => exact Nat.le_trans hs (h'.2 i e1 e')
    | some r => exact h.2 i e (by rw [e1]; simp)⟩
theorem Turned.trans {own own1 : Whose} {w w1 w2 : World} (h : Turned own w w1) (u : OwnUp own own1 w) (h' : Turned own1 w1 w2) : Turned own w w2 :=
  ⟨h.low.trans h'.low, fun i hi e => by
    have e1 : own1 i = none := by
      cases e1 : own1 i with
      | none => rfl
      | some r => exact absurd (u.2 i e (by rw [e1]; simp)) (by omega)
    rw [h'.same i (Nat.lt_of_lt_of_le hi h.low.size) e1, h.same i hi e]⟩
theorem Turned.below {own : Whose} {w w1 w2 : World} (h : Turned own w w1) (b : Below w1.heap.size w1 w2) : Turned own w w2 :=
  ⟨h.low.trans (b.mono (Nat.zero_le _)), fun i hi e => (b.block i (Nat.lt_of_lt_of_le hi h.low.size)).trans (h.same i hi e)⟩
theorem Turned.of_below {own : Whose} {w w1 : World} (b : Below w.heap.size w w1) : Turned own w w1 := (Turned.refl own w).below b
theorem Turned.of_map {own : Whose} {w w1 : World} {b : Nat} (h : w.mapTurned w1 b) (ho : own b ≠ none) : Turned own w w1 := by
  have g := h.grown
  exact ⟨⟨g.os, g.tape, g.output, g.size, fun i hi => absurd hi (Nat.not_lt_zero _)⟩, fun i hi e => g.block i hi (fun e2 => by injection e2 with e2; rw [← e2, e] at ho; exact ho rfl)⟩
def Owned (own : Whose) (w : World) : Prop := ∀ i r, own i = some r → ∃ es k, w.heap[i]? = some (.map es k)
theorem Turned.cells {own : Whose} {w w1 : World} (h : Turned own w w1) (hm : Owned own w) {g : Nat} {cs : Array Value} {T : TypeId} {fr : Nat × Nat} (hg : w.heap[g]? = some (.cells cs T fr)) : w1.heap[g]? = some (.cells cs T fr) := by
  have ho : own g = none := by
    cases e : own g with
    | none => rfl
    | some r => obtain ⟨es, k, hk⟩ := hm g r e; rw [hg] at hk; cases hk
  rw [h.same g (Array.getElem?_eq_some_iff.1 hg).1 ho, hg]
theorem Turned.row {own : Whose} {w w1 : World} (h : Turned own w w1) (hm : Owned own w) {α : Type} {enc : α → List Value} {k : Nat} {v : Value} {xs : List α} (hr : Row enc k w v xs) : Row enc k w1 v xs := by
  obtain ⟨A, c, rfl, h1, h2, h3, h4⟩ := hr
  refine ⟨A, c, rfl, h1, h2, h3, fun hp => ?_⟩
  obtain ⟨ad, e, hc⟩ := h4 hp
  refine ⟨ad, e, fun j u hu => ?_⟩
  have h5 := hc j u hu
  have hb : (ad.add j).block = ad.block := add_block ad j
  have hcell : ∃ cs T fr, w.heap[ad.block]? = some (.cells cs T fr) := by
    unfold World.cell? at h5
    rw [hb] at h5
    split at h5
    · rename_i cs T fr hh
      exact ⟨_, _, _, hh⟩
    · cases h5
  obtain ⟨cs, T, fr, hh⟩ := hcell
  have h6 := h.cells hm hh
  unfold World.cell? at h5 ⊢
  rw [hb] at h5 ⊢
  rw [h6]
  rw [hh] at h5
  exact h5
theorem SideAt.mono {w : World} {own : Whose} {s : Bool} {c : Nat} {L : List Pr} {n n' : Nat} (h : SideAt w own s c L n) (hn : n ≤ n') : SideAt w own s c L n' := by
  obtain ⟨f, h1, h2⟩ := h
  refine ⟨f, h1.mono hn, fun name => ⟨(h2 name).1, fun g e => ?_⟩⟩
  obtain ⟨q1, m, q2⟩ := (h2 name).2 g e
  exact ⟨q1, m, q2.mono hn⟩
theorem SideAt.up {w : World} {own own' : Whose} {s : Bool} {c : Nat} {L : List Pr} {n : Nat} (h : SideAt w own s c L n) (hu : ∀ i r, own i = some r → own' i = some r) : SideAt w own' s c L n := by
  obtain ⟨f, h1, h2⟩ := h
  exact ⟨f, h1, fun name => ⟨(h2 name).1, fun g e => ⟨hu _ _ ((h2 name).2 g e).1, ((h2 name).2 g e).2⟩⟩⟩
theorem SideAt.move {w w1 : World} {own : Whose} {s : Bool} {c : Nat} {L : List Pr} {n : Nat} (h : SideAt w own s c L n) (hc : own c = some (some (s, none))) {row : Option Nat} (hg : w.grownBy w1 row)
    (hr : ∀ b, row = some b → ∀ nm, own b ≠ some (some (s, nm))) : SideAt w1 own s c L n := by
  obtain ⟨f, h1, h2⟩ := h
  refine ⟨f, h1.kept hg (fun e => hr c e.symm none hc), fun name => ⟨(h2 name).1, fun g e => ?_⟩⟩
  obtain ⟨q1, m, q2⟩ := (h2 name).2 g e
  exact ⟨q1, m, q2.kept hg (fun e => hr g e.symm _ q1)⟩
theorem IdxAt.owned {w : World} {own : Whose} {a b : Nat} {c : Bool → Nat} {P : List Pr} {L : Bool → List Pr} {n : Nat} (h : IdxAt w own a b c P L n) : Owned own w := h.maps
theorem IdxAt.below {w w1 : World} {own : Whose} {a b : Nat} {c : Bool → Nat} {P : List Pr} {L : Bool → List Pr} {n : Nat} (h : IdxAt w own a b c P L n) (hb : Below w.heap.size w w1) : IdxAt w1 own a b c P L n where
  box := hcall h.box hb
  ob := h.ob
  oc := h.oc
  prs := h.prs.below hb
  side := fun s => (h.side s).move (h.oc s) (grown_of_below hb none) (fun b e => by cases e)
  maps := fun i r e => by obtain ⟨es, k, hk⟩ := h.maps i r e; exact ⟨es, k, hcall hk hb⟩
theorem IdxAt.mono {w : World} {own : Whose} {a b : Nat} {c : Bool → Nat} {P : List Pr} {L : Bool → List Pr} {n n' : Nat} (h : IdxAt w own a b c P L n) (hn : n ≤ n') : IdxAt w own a b c P L n' :=
  ⟨h.box, h.ob, h.oc, h.prs.mono hn, fun s => (h.side s).mono hn, h.maps⟩
theorem map_isMap {w w1 : World} {b i : Nat} (h : w.mapTurned w1 b) (hi : ∃ es k, w.heap[i]? = some (.map es k)) : ∃ es k, w1.heap[i]? = some (.map es k) := by
  by_cases e : i = b
  · obtain ⟨es, k, es', k', hb, rfl⟩ := h
    subst e
    exact ⟨es', k', Go.ChangeMaps.heap_setBlock_same hb _⟩
  · obtain ⟨es, k, hk⟩ := hi
    exact ⟨es, k, (h.grown.block i (Array.getElem?_eq_some_iff.1 hk).1 (fun e2 => e (by injection e2))).trans hk⟩
theorem IdxAt.look {w : World} {own : Whose} {a b : Nat} {c : Bool → Nat} {P : List Pr} {L : Bool → List Pr} {n : Nat} (h : IdxAt w own a b c P L n) (s : Bool) (name : ByteArray) (hs : name.size ≤ maxLen) (hn : n + 1 < 1000000) :
    (∃ g, (Instr.lookup 52 (.map (some (c s))) (.string name) false).run Try.prog w = .ok (.map (some g)) w ∧ own g = some (some (s, some name)) ∧ ∃ m, BMap w g n (fun p q => inP (L s) p q && decide (sd s (p, q) = name)) m) ∨
    ((Instr.lookup 52 (.map (some (c s))) (.string name) false).run Try.prog w = .ok (.map none) w ∧ (∀ x ∈ L s, sd s x ≠ name) ∧
      ∃ w2 own2, (Instr.mapUpdate 52 (.map (some (c s))) (.string name) (.map (some w.heap.size))).run Try.prog (w.alloc (.map #[] 0)) = .ok () w2 ∧ IdxAt w2 own2 a b c P L (n + 1) ∧ OwnUp own own2 w ∧ Turned own w w2 ∧
        (Instr.lookup 52 (.map (some (c s))) (.string name) false).run Try.prog w2 = .ok (.map (some w.heap.size)) w2 ∧ own2 w.heap.size = some (some (s, some name)) ∧ w2.heap.size = w.heap.size + 1) := by
  obtain ⟨f, h1, h2⟩ := h.side s
  cases hf : f name with
  | some g =>
    left
    obtain ⟨q1, m, q2⟩ := (h2 name).2 g hf
    exact ⟨g, by rw [h1.look name hs, hf], q1, m, q2⟩
  | none =>
    right
    have hno := (h2 name).1 hf
    refine ⟨by rw [h1.look name hs, hf], hno, ?_⟩
    have hB := below_box (w := w) (.map #[] 0)
    have hI := h.below hB
    have hnew : (w.alloc (.map #[] 0)).heap[w.heap.size]? = some (.map #[] 0) := (MapKept.heap_alloc w _).1
    have hfresh : own w.heap.size = none := by
      cases e : own w.heap.size with
      | none => rfl
      | some r => obtain ⟨es, k, hk⟩ := h.maps _ r e; exact absurd (Array.getElem?_eq_some_iff.1 hk).1 (Nat.lt_irrefl _)
    obtain ⟨w2, r1, r2, r3⟩ := (h1.kept (grown_of_below hB none) (by simp)).put name w.heap.size hs (by omega)
    have hg := r3.grown
    have hcs : own (c s) = some (some (s, none)) := h.oc s
    let own2 : Whose := fun i => if i = w.heap.size then some (some (s, some name)) else own i
    have up : ∀ i r, own i = some r → own2 i = some r := fun i r e => by
      show (if i = w.heap.size then some (some (s, some name)) else own i) = _
      rw [if_neg (fun e2 => by rw [e2, hfresh] at e; cases e), e]
    have o2 : own2 w.heap.size = some (some (s, some name)) := if_pos rfl
    have hlt : c s < w.heap.size := by obtain ⟨es, k, hk⟩ := h.maps _ _ hcs; exact (Array.getElem?_eq_some_iff.1 hk).1
    have hsz2 : w2.heap.size = w.heap.size + 1 := by
      obtain ⟨es, k, es', k', hb, rfl⟩ := r3
      simp [Go.ChangeMaps.setBlock, size_alloc]
    have hlk : (Instr.lookup 52 (.map (some (c s))) (.string name) false).run Try.prog w2 = .ok (.map (some w.heap.size)) w2 := by
      rw [r2.look name hs, if_pos rfl]
    have hT : Turned own w w2 := by
      refine (Turned.of_below hB).trans (OwnUp.refl own w) (Turned.of_map r3 (by rw [hcs]; simp))
    refine ⟨w2, own2, r1, ⟨?_, up _ _ h.ob, fun t => up _ _ (h.oc t), ?_, fun t => ?_, ?_⟩, ⟨up, fun i e e' => ?_⟩, hT, hlk, o2, hsz2⟩
    · exact hT.cells h.owned h.box
    · have hb2 : (w.alloc (.map #[] 0)).heap.size = w.heap.size + 1 := size_alloc _ _
      exact ((h.prs.below hB).kept hg (fun e => by injection e with e; have h3 := h.ob; rw [e, hcs] at h3; cases h3)).mono (by omega)
    · by_cases e : t = s
      · subst e
        refine ⟨_, r2, fun nm => ?_⟩
        by_cases en : nm = name
        · subst en
          refine ⟨fun e2 => ?_, fun g e2 => ?_⟩
          · rw [if_pos rfl] at e2
            cases e2
          · rw [if_pos rfl] at e2
            injection e2 with e2
            subst e2
            refine ⟨o2, 0, ?_⟩
            refine ((BMap.new w).mono (Nat.zero_le (n + 1))).kept hg (fun e => ?_) |>.set fun p q _ _ => ?_
            · injection e with e
              omega
            · symm
              rw [Bool.and_eq_false_iff]
              cases hp : inP (L t) p q with
              | false => exact .inl rfl
              | true => exact .inr (decide_eq_false (hno _ (inP_iff.1 hp)))
        · refine ⟨fun e2 => ?_, fun g e2 => ?_⟩
          · rw [if_neg en] at e2
            exact (h2 nm).1 e2
          · rw [if_neg en] at e2
            obtain ⟨q1, m, q2⟩ := (h2 nm).2 g e2
            refine ⟨up _ _ q1, m, ((q2.below hB).kept hg (fun e => ?_)).mono (by omega)⟩
            injection e with e
            rw [e, hcs] at q1
            cases q1
      · refine (SideAt.mono ?_ (Nat.le_succ n)).up up
        refine ((h.side t).move (h.oc t) (grown_of_below hB none) (fun b e => by cases e)).move (h.oc t) hg (fun b2 e2 nm e3 => ?_)
        injection e2 with e2
        rw [← e2, hcs] at e3
        injection e3 with e3
        injection e3 with e3
        injection e3 with e3 e4
        exact e e3.symm
    · intro i r e
      by_cases e2 : i = w.heap.size
      · subst e2
        exact map_isMap r3 ⟨_, _, hnew⟩
      · have e3 : own i = some r := by
          have : own2 i = own i := if_neg e2
          rw [← this]
          exact e
        obtain ⟨es, k, hk⟩ := h.maps i r e3
        exact map_isMap r3 ⟨es, k, hcall hk hB⟩
    · by_cases e2 : i = w.heap.size
      · omega
      · exact absurd (show own2 i = none by rw [← e]; exact if_neg e2) e'
theorem ok_map {w : World} {x y : Option Nat} (h : (Result.ok (.map x) w : Result Value) = .ok (.map y) w) : x = y := by
  injection h with h
  injection h
theorem IdxAt.turn {w w3 : World} {own : Whose} {a b : Nat} {c : Bool → Nat} {P : List Pr} {L : Bool → List Pr} {n : Nat} (h : IdxAt w own a b c P L n) (s : Bool) (p q : ByteArray) (on : Bool) {g m : Nat}
    (hlk : (Instr.lookup 52 (.map (some (c s))) (.string (sd s (p, q))) false).run Try.prog w = .ok (.map (some g)) w) (hs : (sd s (p, q)).size ≤ maxLen) (hog : own g = some (some (s, some (sd s (p, q)))))
    (hr3 : w.mapTurned w3 g) (r2 : BMap w3 g (n + 1) (fun x y => inP (tuP (L s) p q on) x y && decide (sd s (x, y) = sd s (p, q))) m) :
    IdxAt w3 own a b c P (fun t => if t = s then tuP (L s) p q on else L t) (n + 1) ∧ Turned own w w3 := by
  have hT : Turned own w w3 := Turned.of_map hr3 (by rw [hog]; simp)
  have hg := hr3.grown
  refine ⟨⟨hT.cells h.owned h.box, h.ob, h.oc, ?_, fun t => ?_, fun i r e => map_isMap hr3 (h.maps i r e)⟩, hT⟩
  · refine (h.prs.kept hg (fun e => ?_)).mono (by omega)
    injection e with e
    have h3 := h.ob
    rw [e, hog] at h3
    cases h3
  · by_cases e : t = s
    · subst e
      rw [if_pos rfl]
      obtain ⟨f, h1, h2⟩ := h.side t
      have hf : f (sd t (p, q)) = some g := by
        have := h1.look (sd t (p, q)) hs
        exact (ok_map (hlk.symm.trans this)).symm
      refine ⟨f, (h1.kept hg (fun e => ?_)).mono (by omega), fun nm => ⟨fun e2 x hx => ?_, fun g2 e2 => ?_⟩⟩
      · injection e with e
        have h3 := h.oc t
        rw [e, hog] at h3
        cases h3
      · have hxp : ¬ nm = sd t (p, q) := fun e3 => by rw [e3, hf] at e2; cases e2
        have hx2 := inP_iff.2 hx
        have hx3 := inP_tuP (L t) p q on x.1 x.2
        rw [show inP (tuP (L t) p q on) x.1 x.2 = true from hx2] at hx3
        cases on
        · simp only [Bool.false_eq_true, if_false] at hx3
          have := (Bool.and_eq_true _ _ ▸ hx3.symm : _ ∧ _).2
          exact (h2 nm).1 e2 x (inP_iff.1 this)
        · simp only [if_true] at hx3
          have := (Bool.or_eq_true _ _ ▸ hx3.symm : _ ∨ _)
          rcases this with this | this
          · rw [decide_eq_true_eq] at this
            have : x = (p, q) := Prod.ext this.1 this.2
            rw [this]
            exact fun e => hxp e.symm
          · exact (h2 nm).1 e2 x (inP_iff.1 this)
      · by_cases en : nm = sd t (p, q)
        · subst en
          rw [hf] at e2
          injection e2 with e2
          subst e2
          exact ⟨hog, m, r2⟩
        · obtain ⟨q1, m2, q2⟩ := (h2 nm).2 g2 e2
          refine ⟨q1, m2, ((q2.kept hg (fun e => ?_)).mono (by omega)).set fun x y _ _ => ?_⟩
          · injection e with e
            rw [e, hog] at q1
            injection q1 with q1
            injection q1 with q1
            injection q1 with q1 q3
            injection q3 with q3
            exact en q3.symm
          · rw [inP_tuP]
            by_cases e3 : x = p ∧ y = q
            · obtain ⟨rfl, rfl⟩ := e3
              rw [decide_eq_false (fun e4 => en e4.symm), Bool.and_false, Bool.and_false]
            · rw [decide_eq_false e3]
              cases on <;> simp
    · rw [if_neg e]
      refine (SideAt.mono ?_ (Nat.le_succ n))
      refine (h.side t).move (h.oc t) hg (fun b2 e2 nm e3 => ?_)
      injection e2 with e2
      rw [← e2, hog] at e3
      injection e3 with e3
      injection e3 with e3
      injection e3 with e3 e4
      exact e e3.symm
theorem IdxAt.put {w : World} {own : Whose} {a b : Nat} {c : Bool → Nat} {P : List Pr} {L : Bool → List Pr} {n : Nat} (h : IdxAt w own a b c P L n) (s : Bool) (p q : ByteArray) {g m : Nat} (hp : p.size ≤ maxLen) (hq : q.size ≤ maxLen)
    (hlk : (Instr.lookup 52 (.map (some (c s))) (.string (sd s (p, q))) false).run Try.prog w = .ok (.map (some g)) w) (hog : own g = some (some (s, some (sd s (p, q)))))
    (hB : BMap w g n (fun x y => inP (L s) x y && decide (sd s (x, y) = sd s (p, q))) m) (hn : n < 1000000) :
    ∃ w3, (Instr.mapUpdate 51 (.map (some g)) (agPk p q) (.bool true)).run Try.prog w = .ok () w3 ∧ IdxAt w3 own a b c P (fun t => if t = s then tuP (L s) p q true else L t) (n + 1) ∧ Turned own w w3 ∧ w3.heap.size = w.heap.size := by
  obtain ⟨w3, r1, r2, r3⟩ := hB.put p q hp hq hn
  have hs : (sd s (p, q)).size ≤ maxLen := by cases s <;> assumption
  obtain ⟨k1, k2⟩ := h.turn s p q true hlk hs hog r3 (r2.set fun x y _ _ => by
    rw [inP_tuP]
    by_cases e : x = p ∧ y = q
    · obtain ⟨rfl, rfl⟩ := e
      simp
    · simp [e])
  exact ⟨w3, r1, k1, k2, by obtain ⟨es, k, es', k', hb, rfl⟩ := r3; simp [Go.ChangeMaps.setBlock]⟩
theorem IdxAt.del {w : World} {own : Whose} {a b : Nat} {c : Bool → Nat} {P : List Pr} {L : Bool → List Pr} {n : Nat} (h : IdxAt w own a b c P L n) (s : Bool) (p q : ByteArray) {g m : Nat} (hp : p.size ≤ maxLen) (hq : q.size ≤ maxLen)
    (hlk : (Instr.lookup 52 (.map (some (c s))) (.string (sd s (p, q))) false).run Try.prog w = .ok (.map (some g)) w) (hog : own g = some (some (s, some (sd s (p, q)))))
    (hB : BMap w g n (fun x y => inP (L s) x y && decide (sd s (x, y) = sd s (p, q))) m) (ty : TypeId) :
    ∃ w3, (Builtin.delete_ #[51, 56] ty #[.map (some g), agPk p q]).run Try.prog w = .ok (.tuple #[]) w3 ∧ IdxAt w3 own a b c P (fun t => if t = s then tuP (L s) p q false else L t) (n + 1) ∧ Turned own w w3 ∧ w3.heap.size = w.heap.size := by
  obtain ⟨w3, r1, r2, r3⟩ := hB.del p q hp hq ty
  have hs : (sd s (p, q)).size ≤ maxLen := by cases s <;> assumption
  obtain ⟨k1, k2⟩ := h.turn s p q false hlk hs hog r3 ((r2.mono (Nat.le_succ n)).set fun x y _ _ => by
    rw [inP_tuP]
    by_cases e : x = p ∧ y = q
    · obtain ⟨rfl, rfl⟩ := e
      simp
    · simp [e])
  exact ⟨w3, r1, k1, k2, by obtain ⟨es, k, es', k', hb, rfl⟩ := r3; simp [Go.ChangeMaps.setBlock]⟩
theorem IdxAt.pairs {w w3 : World} {own : Whose} {a b : Nat} {c : Bool → Nat} {P P' : List Pr} {L : Bool → List Pr} {n : Nat} (h : IdxAt w own a b c P L n) (hr3 : w.mapTurned w3 b) (r2 : BMap w3 b (n + 1) (inP P') P'.length) :
    IdxAt w3 own a b c P' L (n + 1) ∧ Turned own w w3 := by
  have hT : Turned own w w3 := Turned.of_map hr3 (by rw [h.ob]; simp)
  refine ⟨⟨hT.cells h.owned h.box, h.ob, h.oc, r2, fun t => ?_, fun i r e => map_isMap hr3 (h.maps i r e)⟩, hT⟩
  refine (SideAt.mono ?_ (Nat.le_succ n))
  refine (h.side t).move (h.oc t) hr3.grown (fun b2 e2 nm e3 => ?_)
  injection e2 with e2
  rw [← e2, h.ob] at e3
  cases e3
theorem IdxAt.putAll {w : World} {own : Whose} {a b : Nat} {c : Bool → Nat} {P : List Pr} {L : Bool → List Pr} {n : Nat} (h : IdxAt w own a b c P L n) (p q : ByteArray) (hp : p.size ≤ maxLen) (hq : q.size ≤ maxLen) (hn : n < 1000000) (hnd : P.Nodup) (hno : inP P p q = false) :
    ∃ w3, (Instr.mapUpdate 51 (.map (some b)) (agPk p q) (.bool true)).run Try.prog w = .ok () w3 ∧ IdxAt w3 own a b c (tuP P p q true) L (n + 1) ∧ Turned own w w3 := by
  obtain ⟨w3, r1, r2, r3⟩ := h.prs.put p q hp hq hn
  rw [hno, if_neg (by simp), ← show (tuP P p q true).length = P.length + 1 by rw [tuP_len hnd p q true (fun _ => hno)]; rfl] at r2
  obtain ⟨k1, k2⟩ := h.pairs (P' := tuP P p q true) r3 (r2.set fun x y _ _ => by rw [inP_tuP]; rfl)
  exact ⟨w3, r1, k1, k2⟩
theorem IdxAt.delAll {w : World} {own : Whose} {a b : Nat} {c : Bool → Nat} {P : List Pr} {L : Bool → List Pr} {n : Nat} (h : IdxAt w own a b c P L n) (p q : ByteArray) (hp : p.size ≤ maxLen) (hq : q.size ≤ maxLen) (hnd : P.Nodup) (ty : TypeId) :
    ∃ w3, (Builtin.delete_ #[51, 56] ty #[.map (some b), agPk p q]).run Try.prog w = .ok (.tuple #[]) w3 ∧ IdxAt w3 own a b c (tuP P p q false) L (n + 1) ∧ Turned own w w3 := by
  obtain ⟨w3, r1, r2, r3⟩ := h.prs.del p q hp hq ty
  rw [show (if inP P p q = true then P.length - 1 else P.length) = (tuP P p q false).length by rw [tuP_len hnd p q false (fun e => by cases e)]; rfl] at r2
  obtain ⟨k1, k2⟩ := h.pairs (P' := tuP P p q false) r3 ((r2.mono (Nat.le_succ n)).set fun x y _ _ => by rw [inP_tuP]; rfl)
  exact ⟨w3, r1, k1, k2⟩
theorem IdxAt.cong {w : World} {own : Whose} {a b : Nat} {c : Bool → Nat} {P : List Pr} {L L' : Bool → List Pr} {n : Nat} (h : IdxAt w own a b c P L n) (e : ∀ s, L s = L' s) : IdxAt w own a b c P L' n := by
  rw [show L' = L from funext fun s => (e s).symm]
  exact h
end Go.Proofs.Ytocdoddmaopdbaa
namespace Go.Proofs.Ytocdoddmaopdbaa
open Go.RowKit
open Sp
def enOp (x : OpI) : List Value := [.int .i64 x.d, .string x.w, .string x.c]
theorem enOp_len (x : OpI) : (enOp x).length = 3 := rfl
theorem rowOp {W : World} {A : Option Addr} {n c : Nat} {l : List OpI} (h : Row enOp 3 W (.slice A n c) l) (i : Nat) (hi : i < l.length) (a_ : Int) (b_ : ByteArray) (c_ : ByteArray) (he : l[i] = ⟨a_, b_, c_⟩) :
    ∃ ad, A = some ad ∧ W.cell? (ad.add (i * 3)) = some (.int .i64 a_) ∧ W.cell? ⟨(ad.add (i * 3)).block, (ad.add (i * 3)).off + 1, none⟩ = some (.string b_) ∧ W.cell? ⟨(ad.add (i * 3)).block, (ad.add (i * 3)).off + 2, none⟩ = some (.string c_) := by
  obtain ⟨ad, e, hc⟩ := h.get enOp_len i hi
  rw [he] at hc
  exact ⟨ad, e, hc 0 (by omega), hc 1 (by omega), hc 2 (by omega)⟩
end Go.Proofs.Ytocdoddmaopdbaa
namespace Go.Proofs.Ytocdoddmaopdbaa
open Go.RowKit Go.ChangeShapes Go.WideShapes
open Sp
def OkOp (x : OpI) : Prop := x.w.size ≤ maxLen ∧ x.c.size ≤ maxLen
section
variable {H : Type} {enc : TypeId × Value → H} {w : World} {base : Nat} {spare : Nat → Bool} {held : Bool}
set_option maxRecDepth 100000 in
theorem ceOp {n : Nat} {cs : List Value} {y : DataW H × List MemPlace} (h : DataW.trod enc Try.prog w base spare held n 32 cs = some y) : ∃ e : OpI, cs = enOp e ∧ OkOp e := by
  have ck : Try.prog.cellsOf 32 = 3 := by kernel_rfl
  have c0_ : Try.prog.cellsOf 3 = 1 := by kernel_rfl
  have c1_ : Try.prog.cellsOf 9 = 1 := by kernel_rfl
  obtain ⟨ys0, m0, _, _, hl0, hlen0, hf0⟩ := DataW.trod_struct Try.underlying32 h
  rw [ck] at hl0
  obtain ⟨a0, a1, a2, rfl⟩ : ∃ a0 a1 a2, cs = [a0, a1, a2] := by
    match cs, hl0 with
    | [a0, a1, a2], _ => exact ⟨_, _, _, rfl⟩
  obtain ⟨y0_0, y0_1, y0_2, rfl⟩ : ∃ y0_0 y0_1 y0_2, ys0 = [y0_0, y0_1, y0_2] := by
    match ys0, hlen0 with
    | [y0_0, y0_1, y0_2], _ => exact ⟨_, _, _, rfl⟩
  have h0_0 := hf0 0 _ rfl
  have h0_1 := hf0 1 _ rfl
  have h0_2 := hf0 2 _ rfl
  simp only [List.getElem_toArray, List.getElem_cons_zero, List.getElem_cons_succ, c0_, c1_, List.drop_zero, List.drop_succ_cons, List.take_succ_cons, List.take_zero, List.getElem?_cons_zero, List.getElem?_cons_succ] at h0_0 h0_1 h0_2
  obtain ⟨z0, e0, _, g0⟩ := DataW.trod_int Try.underlying3 h0_0
  obtain ⟨z1, e1, _, g1⟩ := DataW.trod_string Try.underlying9 h0_1
  obtain ⟨z2, e2, _, g2⟩ := DataW.trod_string Try.underlying9 h0_2
  cases e0
  cases e1
  cases e2
  exact ⟨⟨z0, z1, z2⟩, rfl, g1, g2⟩
theorem rwOp {t : TypeId} {a : Option Addr} {n c : Nat} {d : DataW H} {p : List MemPlace} (ht : Try.prog.underlying t = some (.slice 32))
    (h : DataW.Trod enc Try.prog w 0 (fun _ => true) true t (.slice a n c) d p) : ∃ l, Row enOp 3 w (.slice a n c) l ∧ ∀ e ∈ l, OkOp e := by
  obtain ⟨fuel, hf⟩ := h
  rcases Go.Deep.open_slice ht hf with ⟨hcs, _⟩ | ⟨ad, len, cap, m, k, D, Pl, hcs, _, hl, hm, hmm, _, hi⟩
  · simp [Value.cells] at hcs
    obtain ⟨rfl, rfl, rfl⟩ := hcs
    exact ⟨[], Row.nil _ _ _, by simp⟩
  · simp [Value.cells] at hcs
    obtain ⟨rfl, rfl, rfl⟩ := hcs
    have ck : Try.prog.cellsOf 32 = 3 := by kernel_rfl
    rw [ck] at hi
    have hn : n ≤ m := by rw [hmm, if_pos rfl]; exact hl
    have hev : ∀ i, i < n → ∃ e : OpI, OkOp e ∧ ∀ j u, (enOp e)[j]? = some u → w.cell? (ad.add (i * 3 + j)) = some u := by
      intro i hi'
      obtain ⟨cs', hc, ht'⟩ := hi i (by omega)
      obtain ⟨e, rfl, he⟩ := ceOp ht'
      obtain ⟨_, _, hat⟩ := World.cells?_some hc
      refine ⟨e, he, fun j u hj => ?_⟩
      have hj8 : j < 3 := (List.getElem?_eq_some_iff.1 hj).1
      have := hat j hj8
      rw [hj] at this
      rw [← this, Go.Deep.add_add]
    have hex : ∃ l : List OpI, l.length = n ∧ ∀ i (h : i < l.length), OkOp l[i] ∧ ∀ j u, (enOp l[i])[j]? = some u → w.cell? (ad.add (i * 3 + j)) = some u := by
      refine ⟨List.ofFn (fun i : Fin n => (hev i.1 i.2).choose), by simp, fun i h => ?_⟩
      have hin : i < n := by simpa using h
      have hc := (hev i hin).choose_spec
      simp only [List.getElem_ofFn]
      exact hc
    obtain ⟨l, hln, hle⟩ := hex
    refine ⟨l, ⟨some ad, c, by rw [hln], by omega, hm, by rw [flat_length enOp_len, hln], fun hp => ⟨ad, rfl, fun j u hu => ?_⟩⟩, fun e he => ?_⟩
    · have hj : j < l.length * 3 := by rw [← flat_length enOp_len]; exact (List.getElem?_eq_some_iff.1 hu).1
      have hi8 : j / 3 < l.length := by omega
      have := (hle (j / 3) hi8).2 (j % 3) u
      rw [show j / 3 * 3 + j % 3 = j by omega] at this
      refine this ?_
      have hfg := flat_get enOp_len l (j / 3) (j % 3) hi8 (by omega)
      rw [show j / 3 * 3 + j % 3 = j by omega] at hfg
      rw [← hfg, hu]
    · obtain ⟨i, hi', rfl⟩ := List.getElem_of_mem he
      exact (hle i hi').1
end
end Go.Proofs.Ytocdoddmaopdbaa
