/-
Words used by all texts of this seat: results, rows that are read, rows of a call's own. Plain lemmas, no function of the program.
-/
import Derived.Below
import Derived.Deep.Draws
import Derived.Deep.AppendLies
import Derived.Maps.AppendAt
import Derived.OwnWalk
import Derived.Laws.BytesArg
import Derived.Laws.MakeOwn
import Derived.Laws.OwnMore
import Derived.Lib.ConvBytes
import Derived.WalkKit
import Derived.WalkLawsBesides
import Derived.WalkSpells
import Derived.Lib.Hide
import Derived.Lib.AppendStr
import Derived.Laws.CopyOwn
namespace Go.Proofs.Ytocdoddmaopdbaa
open Go.RowKit

/-! ### 1. Endings -/
theorem ret_bool {a b : Bool} (h : a = b) : Ending.returned (.bool a) = .returned (.bool b) := by rw [h]
theorem ret_int {k : IntKind} {a b : Int} (h : a = b) : Ending.returned (.int k a) = .returned (.int k b) := by rw [h]
theorem ret_str {a b : ByteArray} (h : a = b) : Ending.returned (.string a) = .returned (.string b) := by rw [h]
theorem val_int {k : IntKind} {a b : Int} (h : a = b) : Value.int k a = .int k b := by rw [h]
theorem val_str {a b : ByteArray} (h : a = b) : Value.string a = .string b := by rw [h]
theorem val_bool {a b : Bool} (h : a = b) : Value.bool a = .bool b := by rw [h]
theorem ret2 {a a' b b' : Value} (h1 : a = a') (h2 : b = b') : Ending.returned (.tuple #[a, b]) = .returned (.tuple #[a', b']) := by rw [h1, h2]
theorem ret3 {a a' b b' c c' : Value} (h1 : a = a') (h2 : b = b') (h3 : c = c') : Ending.returned (.tuple #[a, b, c]) = .returned (.tuple #[a', b', c']) := by rw [h1, h2, h3]
theorem ret_val {a b : Value} (h : a = b) : Ending.returned a = .returned b := by rw [h]
theorem results_tmp4 {fn : Func} {t u v x : Tmp} (h : fn.results = #[.tmp t, .tmp u, .tmp v, .tmp x]) (tmps : Array Value) (P : Program) (w : World) :
    (results fn tmps).run P w = .ok (.tuple #[tmps.getD t undef, tmps.getD u undef, tmps.getD v undef, tmps.getD x undef]) w := by simp [results, h]

/-- A contract whose answer is spelled otherwise. -/
theorem re_ {P : Program} {f : FuncId} {args : Array Value} {w : World} {v v' : Ending} {R : World → Prop} (h : Calls P f args w fun e w' => e = v ∧ R w') (hv : v = v') : Calls P f args w fun e w' => e = v' ∧ R w' := by rw [← hv]; exact h

/-! ### 2. Texts -/
theorem size_eq_length (s : ByteArray) : s.size = s.data.toList.length := by rw [Array.length_toList]; rfl
theorem toList_nil_iff (s : ByteArray) : s.toList = [] ↔ s.size = 0 := by
  rw [ByteArray.toList_eq, size_eq_length, List.length_eq_zero_iff]
theorem toList_inj {s t : ByteArray} : s.data.toList = t.data.toList ↔ s = t :=
  ⟨fun h => by cases s; cases t; simp only [Array.toList_inj] at h; rw [h], fun h => by rw [h]⟩
theorem toList_inj' {s t : ByteArray} : s.toList = t.toList ↔ s = t := by rw [ByteArray.toList_eq, ByteArray.toList_eq, toList_inj]
theorem ofList_toList (s : ByteArray) : (⟨s.data.toList.toArray⟩ : ByteArray) = s := by cases s; simp
theorem data_ofList (l : List UInt8) : (⟨l.toArray⟩ : ByteArray).data.toList = l := by simp
theorem size_ofList (l : List UInt8) : (⟨l.toArray⟩ : ByteArray).size = l.length := by simp [ByteArray.size]

/-! ### 3. Worlds -/
theorem below_drewN {B : Nat} {a w : World} (h : Below B a w) (n : Nat) : Below B a (w.drewN n) := ⟨h.os, h.tape, h.output, h.size, h.block⟩
/-- What a callee leaves, behind what its caller has done. -/
theorem below_call {w w1 w2 : World} (h : Below w.heap.size w w1) (k : Below w1.heap.size w1 w2) : Below w.heap.size w w2 := h.trans (k.mono h.size)
theorem below_then {B : Nat} {w w1 w2 : World} (h : Below B w w1) (hB : B ≤ w1.heap.size) (k : Below w1.heap.size w1 w2) : Below B w w2 := h.trans (k.mono hB)
theorem cell_below {w w1 : World} (h : Below w.heap.size w w1) {a : Addr} {v : Value} (hc : w.cell? a = some v) : w1.cell? a = some v := (h.cell (World.block_lt_of_cell? w a hc)).trans hc
theorem grown_of_below {w w1 : World} (h : Below w.heap.size w w1) (row : Option Nat) : w.grownBy w1 row := ⟨h.os, h.tape, h.output, h.size, fun i hi _ => h.block i hi⟩
theorem add_plain (g j : Nat) : (⟨g, 0, none⟩ : Addr).add j = ⟨g, j, none⟩ := by unfold Addr.add; split <;> simp_all
theorem add_add (a : Addr) (i j : Nat) : (a.add i).add j = a.add (i + j) := by
  unfold Addr.add
  by_cases hi : i = 0 <;> by_cases hj : j = 0 <;> simp [hi, hj, Nat.add_assoc]
theorem add_block (a : Addr) (n : Nat) : (a.add n).block = a.block := by unfold Addr.add; split <;> rfl

/-! ### 4. A row of a call's own: its elements' cells are 'enc x', k of each -/
section
variable {α : Type}
def Own (enc : α → List Value) (k : Nat) (e : TypeId) (w : World) (base : Nat) (v : Value) (xs : List α) : Prop := w.ownsRow base e k v xs.length (xs.flatMap enc)
/-- A row that is read. -/
def Row (enc : α → List Value) (k : Nat) (w : World) (v : Value) (xs : List α) : Prop :=
  ∃ A c, v = .slice A xs.length c ∧ xs.length ≤ c ∧ c ≤ maxLen ∧ (xs.flatMap enc).length = xs.length * k ∧ (0 < xs.length → ∃ ad, A = some ad ∧ ∀ j u, (xs.flatMap enc)[j]? = some u → w.cell? (ad.add j) = some u)
variable {enc : α → List Value} {k : Nat} {e : TypeId} {w w1 : World} {base : Nat} {v : Value} {xs : List α}

theorem Own.nil (enc : α → List Value) (k : Nat) (e : TypeId) (w : World) (base : Nat) : Own enc k e w base (.slice none 0 0) [] := World.ownsRow_nil w base e k
theorem Own.kept {row : Option Nat} (h : Own enc k e w base v xs) (hg : w.grownBy w1 row) (hne : v.ownBlock = none ∨ v.ownBlock ≠ row) : Own enc k e w1 base v xs := World.ownsRow.kept h hg hne
theorem Own.below (h : Own enc k e w base v xs) (hb : Below w.heap.size w w1) : Own enc k e w1 base v xs := h.kept (grown_of_below hb none) (by cases v.ownBlock <;> simp)
theorem Own.alloc (h : Own enc k e w base v xs) (o : Obj) : Own enc k e (w.alloc o) base v xs := World.ownsRow.alloc h o
theorem Own.drewN (h : Own enc k e w base v xs) (n : Nat) : Own enc k e (w.drewN n) base v xs := h
theorem Own.base_le (h : Own enc k e w base v xs) (g : Nat) (hg : v.ownBlock = some g) : base ≤ g := (World.ownsRow.lt h g hg).1
theorem Own.lower {base' : Nat} (h : Own enc k e w base v xs) (hb : base' ≤ base) : Own enc k e w base' v xs := by
  obtain ⟨h1, h2⟩ := h
  refine ⟨h1, ?_⟩
  rcases h2 with h2 | ⟨g, cap, cur, rfl, hg, r⟩
  · exact .inl h2
  · exact .inr ⟨g, cap, cur, rfl, by omega, r⟩
theorem Own.slice (h : Own enc k e w base v xs) : ∃ A c, v = .slice A xs.length c ∧ xs.length ≤ c := by
  rcases h.2 with ⟨rfl, h0⟩ | ⟨g, cap, cur, rfl, _, _, h1, _⟩
  · exact ⟨none, 0, by rw [h0], by omega⟩
  · exact ⟨_, cap, rfl, h1⟩
theorem Own.row (h : Own enc k e w base v xs) : Row enc k w v xs := by
  rcases h.2 with ⟨rfl, h0⟩ | ⟨g, cap, cur, rfl, _, _, h1, h2, _⟩
  · exact ⟨none, 0, by rw [h0], by omega, by simp [maxLen], h.1, fun hp => absurd hp (by omega)⟩
  · exact ⟨_, cap, rfl, h1, h2, h.1, fun _ => ⟨_, rfl, fun j u hu => World.ownsRow.cells h (g := g) rfl j u hu⟩⟩
theorem Row.nil (enc : α → List Value) (k : Nat) (w : World) : Row enc k w (.slice none 0 0) [] := ⟨none, 0, rfl, by simp, by simp [maxLen], by simp, fun h => by simp at h⟩
theorem Row.empty (enc : α → List Value) (k : Nat) (w : World) (A : Option Addr) (c : Nat) (hc : c ≤ 9223372036854775807) : Row enc k w (.slice A 0 c) [] := ⟨A, c, rfl, by simp, by simpa [maxLen] using hc, by simp, fun h => by simp at h⟩
theorem Row.below (h : Row enc k w v xs) (hb : Below w.heap.size w w1) : Row enc k w1 v xs := by
  obtain ⟨A, c, rfl, h1, h2, h3, h4⟩ := h
  refine ⟨A, c, rfl, h1, h2, h3, fun hp => ?_⟩
  obtain ⟨ad, e, hc⟩ := h4 hp
  exact ⟨ad, e, fun j u hu => cell_below hb (hc j u hu)⟩
theorem Row.grown {row : Option Nat} (h : Row enc k w v xs) (hg : w.grownBy w1 row) (hr : ∀ g, row = some g → ∀ A n c ad, v = .slice A n c → A = some ad → ad.block ≠ g) : Row enc k w1 v xs := by
  obtain ⟨A, c, rfl, h1, h2, h3, h4⟩ := h
  refine ⟨A, c, rfl, h1, h2, h3, fun hp => ?_⟩
  obtain ⟨ad, e, hc⟩ := h4 hp
  exact ⟨ad, e, fun j u hu => hg.cell (hc j u hu) (fun he => hr _ he.symm _ _ _ _ rfl e (add_block ad j).symm)⟩
theorem Row.drewN (h : Row enc k w v xs) (n : Nat) : Row enc k (w.drewN n) v xs := h
theorem Row.len (h : Row enc k w v xs) : xs.length ≤ 9223372036854775807 := by
  obtain ⟨A, c, _, h1, h2, _⟩ := h
  simp only [maxLen] at h2
  omega

/-- Where element j's cell i stands in the line of all cells. -/
theorem flat_get (hk : ∀ x, (enc x).length = k) (xs : List α) (j i : Nat) (hj : j < xs.length) (hi : i < k) : (xs.flatMap enc)[j * k + i]? = (enc xs[j])[i]? := by
  induction xs generalizing j with
  | nil => simp at hj
  | cons x xs ih =>
    rw [List.flatMap_cons]
    cases j with
    | zero => simp only [Nat.zero_mul, Nat.zero_add, List.getElem_cons_zero]; rw [List.getElem?_append_left (by rw [hk]; exact hi)]
    | succ j =>
      have hj' : j < xs.length := by simpa using hj
      rw [Nat.succ_mul, List.getElem?_append_right (by rw [hk]; omega), hk, show j * k + k + i - k = j * k + i by omega, ih j hj']
      simp
theorem flat_length (hk : ∀ x, (enc x).length = k) (xs : List α) : (xs.flatMap enc).length = xs.length * k := by
  induction xs with
  | nil => simp
  | cons x xs ih => rw [List.flatMap_cons, List.length_append, ih, hk, List.length_cons, Nat.succ_mul]; omega
/-- A row's element's cells. -/
theorem Row.get {A : Option Addr} {n c : Nat} (h : Row enc k w (.slice A n c) xs) (hk : ∀ x, (enc x).length = k) (j : Nat) (hj : j < xs.length) :
    ∃ ad, A = some ad ∧ ∀ i, i < k → w.cell? ((ad.add (j * k)).add i) = (enc xs[j])[i]? := by
  obtain ⟨A', c', he, h1, h2, h3, h4⟩ := h
  injection he with e1 e2 e3
  subst e1
  obtain ⟨ad, rfl, hc⟩ := h4 (by omega)
  refine ⟨ad, rfl, fun i hi => ?_⟩
  have hf := flat_get (enc := enc) hk xs j i hj hi
  have hl : i < (enc xs[j]).length := by rw [hk]; exact hi
  rw [List.getElem?_eq_getElem hl] at hf ⊢
  rw [add_add]
  exact hc _ _ hf
theorem Row.len_eq {A : Option Addr} {n c : Nat} (h : Row enc k w (.slice A n c) xs) : n = xs.length := by
  obtain ⟨A', c', he, _⟩ := h
  injection he
/-- One cell an element. -/
theorem Row.get1 {A : Option Addr} {n c : Nat} {f : α → Value} (h : Row (fun x => [f x]) 1 w (.slice A n c) xs) (j : Nat) (hj : j < xs.length) : ∃ ad, A = some ad ∧ w.cell? (ad.add j) = some (f xs[j]) := by
  obtain ⟨ad, e, hc⟩ := h.get (fun _ => rfl) j hj
  refine ⟨ad, e, ?_⟩
  have := hc 0 (by omega)
  rw [add_add] at this
  simpa using this
end

/-- A cut. -/
theorem Row.take {α : Type} {enc : α → List Value} {k : Nat} {w : World} {A : Option Addr} {n c : Nat} {xs : List α} (h : Row enc k w (.slice A n c) xs) (hk : ∀ x, (enc x).length = k) (i : Nat) (hi : i ≤ n) : Row enc k w (.slice A i c) (xs.take i) := by
  have hl := h.len_eq
  obtain ⟨A', c', he, h1, h2, h3, h4⟩ := h
  injection he with e1 e2 e3
  subst e1 e3
  have hti : (xs.take i).length = i := by rw [List.length_take]; omega
  refine ⟨A, c, by rw [hti], by omega, h2, flat_length hk _, fun hp => ?_⟩
  obtain ⟨ad, e, hc⟩ := h4 (by omega)
  refine ⟨ad, e, fun j u hu => hc j u ?_⟩
  have hx : xs.flatMap enc = (xs.take i).flatMap enc ++ (xs.drop i).flatMap enc := by rw [← List.flatMap_append, List.take_append_drop]
  rw [hx, List.getElem?_append_left (List.getElem?_eq_some_iff.1 hu).1]
  exact hu
theorem Row.drop {α : Type} {enc : α → List Value} {k : Nat} {w : World} {A : Option Addr} {n c : Nat} {xs : List α} (h : Row enc k w (.slice A n c) xs) (hk : ∀ x, (enc x).length = k) (i : Nat) (hi : i ≤ n) :
    Row enc k w (.slice (if c = i then A else A.map (·.add (i * k))) (n - i) (c - i)) (xs.drop i) := by
  have hl := h.len_eq
  obtain ⟨A', c', he, h1, h2, h3, h4⟩ := h
  injection he with e1 e2 e3
  subst e1 e3
  have hti : (xs.drop i).length = n - i := by rw [List.length_drop]; omega
  refine ⟨_, c - i, by rw [hti], by omega, by omega, flat_length hk _, fun hp => ?_⟩
  obtain ⟨ad, e, hc⟩ := h4 (by omega)
  rw [if_neg (by omega), e]
  refine ⟨_, rfl, fun j u hu => ?_⟩
  rw [add_add]
  refine hc _ u ?_
  have hx : xs.flatMap enc = (xs.take i).flatMap enc ++ (xs.drop i).flatMap enc := by rw [← List.flatMap_append, List.take_append_drop]
  have hl2 : ((xs.take i).flatMap enc).length = i * k := by rw [flat_length hk, List.length_take]; congr 1; omega
  rw [hx, List.getElem?_append_right (by omega), hl2, show i * k + j - i * k = j by omega]
  exact hu

/-- A literal. -/
theorem Own.lit {α : Type} {enc : α → List Value} {k : Nat} {e : TypeId} {base : Nat} (hk : ∀ x, (enc x).length = k) (W : World) (xs : List α) (cs : Array Value) (n : Nat) (hcs : cs.toList = xs.flatMap enc) (hn : n = xs.length) (hb : base ≤ W.heap.size) (hm : n ≤ 9223372036854775807) :
    Own enc k e (W.alloc (.cells cs e)) base (.slice (some ⟨W.heap.size, 0, none⟩) n n) xs := by
  subst hn
  have h := World.ownsRow_lit (base := base) (e := e) (size := k) W cs xs.length hb (by simpa [maxLen] using hm) (by rw [← Array.length_toList, hcs, flat_length hk])
  unfold Own
  rw [← hcs]
  exact h

/-! ### 5. append(v, x), behind 'at_builtin': the goal's world is 'W.alloc' of the box that holds x -/
section
variable {P : Program} {ops : Array Oper} {rest : List Oper} {o : Oper} {a : Act} {Q : Exit → Act → World → Prop} {α : Type} {enc : α → List Value}
theorem Own.append {w0 W : World} (base : Nat) (hgd : o.guard = none) (s x : Operand) (t e : TypeId) (z : Value) (k bytes : Nat)
    (ho : o.op = .call { callee := .builtin .append, args := #[s, x], argTypes := #[t, t] })
    (ht : P.underlying t = some (.slice e)) (hinfo : (P.info? e).map (fun i => (i.zero, i.size, i.bytes)) = some (some z, k, bytes)) (hz : z.cells.size = k) (hs0 : 0 < k)
    (v : Value) (xs : List α) (p : α) (cs : List Value) (hs : a.eval s = v) (hx : a.eval x = .slice (some ⟨W.heap.size, 0, none⟩) 1 1) (hp : enc p = cs) (hcs : cs.length = k) (h1 : ∀ u ∈ cs, u.oneCell' = true)
    (HO : Own enc k e W base v xs) (HB : Below base w0 W) (hbase : base ≤ W.heap.size) (hl : (xs.length + 1) * bytes ≤ 140737488355328) (hl2 : xs.length + 1 ≤ 140737488355328)
    (h : ∀ v1 w1, Own enc k e w1 base v1 (xs ++ [p]) → Below base w0 w1 → W.grownBy w1 v.ownBlock → (v1.ownBlock = v.ownBlock ∨ ∃ b, v1.ownBlock = some b ∧ W.heap.size ≤ b) → wpList P ops Q rest (a.put o.dst v1) w1) :
    wpList P ops Q (o :: rest) a (W.alloc (.cells cs.toArray e)) := by
  obtain ⟨i0, hi, hzz⟩ := Option.map_eq_some_iff.1 hinfo
  simp only [Prod.mk.injEq] at hzz
  obtain ⟨hz0, hz1, hz2⟩ := hzz
  refine wpList_append_own_at (W.alloc (.cells cs.toArray e)) hgd s x t ho base e i0 z k bytes ht hi hz0 hz1 hz2 hz hs0 v xs.length _ hs (HO.alloc _) ⟨W.heap.size, 0, none⟩ 1 1 cs hx (by rw [hcs]; simp)
    (by simpa using World.news_of_block (cs := cs.toArray) (t := e) (fr := (0, 0)) (heap_alloc_new W (.cells cs.toArray e))) h1 (by simp only [maxLen]; omega) hl (by simp; omega) ?_
  intro v1 w1 hown hg _ hat
  refine h v1 w1 ?_ ((HB.alloc hbase _).grown hg (by simp; omega) (HO.base_le)) (World.grownBy.trans (World.grownBy_alloc W _ _) hg) ?_
  · unfold Own
    rw [List.flatMap_append, List.length_append]
    simpa [hp] using hown
  · rcases hat with hat | hat
    · exact .inl hat
    · exact .inr ⟨_, hat, by simp⟩
/-- append(v, xs...): what is appended is read. -/
theorem Own.appendRow {w0 W : World} (base : Nat) (hgd : o.guard = none) (s x : Operand) (t e : TypeId) (z : Value) (k bytes : Nat)
    (ho : o.op = .call { callee := .builtin .append, args := #[s, x], argTypes := #[t, t] })
    (ht : P.underlying t = some (.slice e)) (hinfo : (P.info? e).map (fun i => (i.zero, i.size, i.bytes)) = some (some z, k, bytes)) (hz : z.cells.size = k) (hs0 : 0 < k)
    (v u : Value) (xs ys : List α) (hs : a.eval s = v) (hx : a.eval x = u) (h1 : ∀ y, ∀ u ∈ enc y, u.oneCell' = true)
    (HO : Own enc k e W base v xs) (HR : Row enc k W u ys) (HB : Below base w0 W) (hbase : base ≤ W.heap.size) (hl : (xs.length + ys.length) * bytes ≤ 140737488355328) (hl2 : xs.length + ys.length ≤ 140737488355328)
    (h : ∀ v1 w1, Own enc k e w1 base v1 (xs ++ ys) → Below base w0 w1 → W.grownBy w1 v.ownBlock → (v1.ownBlock = v.ownBlock ∨ ∃ b, v1.ownBlock = some b ∧ W.heap.size ≤ b) → wpList P ops Q rest (a.put o.dst v1) w1) :
    wpList P ops Q (o :: rest) a W := by
  obtain ⟨i0, hi, hzz⟩ := Option.map_eq_some_iff.1 hinfo
  simp only [Prod.mk.injEq] at hzz
  obtain ⟨hz0, hz1, hz2⟩ := hzz
  obtain ⟨A, c, rfl, r1, r2, r3, r4⟩ := HR
  rcases A with _ | ad
  · have hm : ys = [] := by
      rcases Nat.eq_zero_or_pos ys.length with h0 | h0
      · exact List.eq_nil_of_length_eq_zero h0
      · obtain ⟨ad, h, _⟩ := r4 h0
        cases h
    subst hm
    have hrun : (Builtin.append_ #[t, t] o.type #[v, .slice none 0 c]).run P W = .ok v W := by
      rcases HO.2 with ⟨rfl, _⟩ | ⟨g, cap, cur, rfl, _, _, hnc, _⟩
      · simp [Builtin.append_, run_underlying ht, sizeOf, typeInfo, hi, Builtin.lenOf, Builtin.firstCells]
      · simp [Builtin.append_, run_underlying ht, sizeOf, typeInfo, hi, Builtin.lenOf, Builtin.firstCells, hnc, storeCells]
    refine wpList_plain hgd fun _ hK => ?_
    unfold Oper.wp execOp
    simp only [ho, resolve, invoke, builtin, Sem.run_bind, Sem.run_pure, Result.andThen_ok, List.map_toArray, List.map_cons, List.map_nil, hs, hx, List.length_nil, hrun]
    exact hK _ _ (h v W (by simpa using HO) HB (World.grownBy.refl W _) (.inl rfl))
  · have hcells : ∀ j u, (ys.flatMap enc)[j]? = some u → W.cell? (ad.add j) = some u := by
      intro j u hu
      rcases Nat.eq_zero_or_pos ys.length with h0 | h0
      · rw [List.eq_nil_of_length_eq_zero h0] at hu
        simp at hu
      · obtain ⟨ad', h, hc⟩ := r4 h0
        injection h with h
        subst h
        exact hc j u hu
    refine wpList_append_own_at W hgd s x t ho base e i0 z k bytes ht hi hz0 hz1 hz2 hz hs0 v xs.length _ hs HO ad ys.length c (ys.flatMap enc) hx r3 hcells
      (fun u hu => by obtain ⟨y, _, hy⟩ := List.mem_flatMap.1 hu; exact h1 y u hy) (by simp only [maxLen]; omega) hl hbase ?_
    intro v1 w1 hown hg _ hat
    refine h v1 w1 ?_ (HB.grown hg hbase HO.base_le) hg ?_
    · unfold Own
      rw [List.flatMap_append, List.length_append]
      exact hown
    · rcases hat with hat | hat
      · exact .inl hat
      · exact .inr ⟨_, hat, Nat.le_refl _⟩
end

/-! ### 6. Rows of bytes: a text of them, and a text's -/
def enB (b : UInt8) : List Value := [.int .u8 b.toNat]
theorem enB_len (x : UInt8) : (enB x).length = 1 := rfl
theorem enB_one (x : UInt8) : ∀ u ∈ enB x, u.oneCell' = true := fun u hu => by rw [enB, List.mem_singleton] at hu; rw [hu]; rfl
def strOf (l : List UInt8) : ByteArray := ⟨l.toArray⟩
theorem strOf_size (l : List UInt8) : (strOf l).size = l.length := size_ofList l
theorem strOf_list (l : List UInt8) : (strOf l).data.toList = l := data_ofList l
theorem strOf_toList (s : ByteArray) : strOf s.data.toList = s := ofList_toList s
theorem strOf_inj {a b : List UInt8} : strOf a = strOf b ↔ a = b := ⟨fun h => by rw [← strOf_list a, h, strOf_list], fun h => by rw [h]⟩
theorem strOf_append (a b : List UInt8) : strOf a ++ strOf b = strOf (a ++ b) := by
  rw [← toList_inj, strOf_list]
  simp [ByteArray.data_append, strOf]
theorem data_append (a b : ByteArray) : (a ++ b).data.toList = a.data.toList ++ b.data.toList := by simp [ByteArray.data_append]
theorem append_strOf (a b : ByteArray) : a ++ b = strOf (a.data.toList ++ b.data.toList) := by rw [← strOf_append, strOf_toList, strOf_toList]

theorem enB_flat (l : List UInt8) : l.flatMap enB = l.map fun b => .int .u8 b.toNat := by
  induction l with
  | nil => rfl
  | cons b l ih => rw [List.flatMap_cons, ih]; rfl
theorem strOf_nums (l : List UInt8) : strOfNums (l.map fun b => (b.toNat : Int)) = strOf l := by
  rw [← toList_inj, strOfNums_data, strOf_list, List.map_map]
  conv => rhs; rw [← List.map_id l]
  refine List.map_congr_left fun b _ => ?_
  simp
/-- string(v), v a row of bytes. -/
theorem Row.string {P : Program} {w : World} {src dst e : TypeId} {v : Value} {l : List UInt8} (hs : P.underlying src = some (.slice e)) (he : P.underlying e = some (.int .u8)) (hd : P.underlying dst = some .string)
    (h : Row enB 1 w v l) : (convert src dst v).run P w = .ok (.string (strOf l)) w := by
  obtain ⟨A, c, rfl, h1, h2, h3, h4⟩ := h
  rcases A with _ | ad
  · have hm : l = [] := by
      rcases Nat.eq_zero_or_pos l.length with h0 | h0
      · exact List.eq_nil_of_length_eq_zero h0
      · obtain ⟨ad, h, _⟩ := h4 h0
        cases h
    subst hm
    exact run_convert_bytes_nil w src e hs he _ _ dst hd
  · have hcells : ∀ j u, ((l.map fun b => (b.toNat : Int)).map (Value.int .u8))[j]? = some u → w.cell? (ad.add j) = some u := by
      intro j u hu
      rcases Nat.eq_zero_or_pos l.length with h0 | h0
      · rw [List.eq_nil_of_length_eq_zero h0] at hu
        simp at hu
      · obtain ⟨ad', h, hc⟩ := h4 h0
        injection h with h
        subst h
        refine hc j u ?_
        rw [enB_flat, ← hu, List.map_map]
        rfl
    have hl := run_loadCells_list (P := P) w ad ((l.map fun b => (b.toNat : Int)).map (Value.int .u8)) hcells
    rw [List.length_map, List.length_map] at hl
    rw [run_convert_bytes_string w src dst e _ l.length c hs he hd, run_bytesToString w _ l.length c (l.map fun b => (b.toNat : Int)) hl, foldl_push_bytes, ← strOf_nums]
    simp [strOfNums, ByteArray.empty, ByteArray.emptyWithCapacity]
    rfl

/-! ### 7. '[]byte(s)': a row with a mark behind its end -/
def TextRow (e : TypeId) (w : World) (k : Nat) (s : ByteArray) : Prop :=
  ∃ cs : Array Value, w.heap[k]? = some (.cells cs e (cs.size, cs.size + 1)) ∧ s.size ≤ cs.size ∧ cs.size ≤ maxLen ∧ ∀ j (h : j < s.size), cs[j]? = some (.int .u8 s[j].toNat)
theorem TextRow.new (e : TypeId) (w : World) (s : ByteArray) (hs : s.size ≤ maxLen) : TextRow e (Lib.bytesWorld w e s) w.heap.size s := by
  have h1 := grownCap_ge w s.size 0 e
  have h2 := grownCap_le_maxLen w s.size 0 e hs
  have h3 : (Lib.bytesCells w e s).size = s.size + (grownCap w s.size 0 e - s.size) := by
    simp [Lib.bytesCells]
  refine ⟨_, Lib.bytesWorld_at_new w e s, by omega, by omega, fun j h => ?_⟩
  · have h1 := Lib.bytesWorld_cell w e s j h
    rw [World.cell?, Lib.bytesWorld_at_new] at h1
    have h2 : s.data.toList.getD j 0 = s[j] := by
      have hl : j < s.data.toList.length := by rw [← size_eq_length]; exact h
      rw [List.getD_eq_getElem?_getD, List.getElem?_eq_getElem hl]
      rfl
    rw [h2] at h1
    exact h1
theorem TextRow.keep {e : TypeId} {w w' : World} {k : Nat} {s : ByteArray} (h : TextRow e w k s) (hk : w'.heap[k]? = w.heap[k]?) : TextRow e w' k s := by
  obtain ⟨cs, h1, h2⟩ := h
  exact ⟨cs, hk.trans h1, h2⟩
theorem TextRow.cell {e : TypeId} {w : World} {k : Nat} {s : ByteArray} (h : TextRow e w k s) (j : Nat) (hj : j < s.size) : w.cell? ⟨k, j, none⟩ = some (.int .u8 s[j].toNat) := by
  obtain ⟨cs, h1, _, _, h4⟩ := h
  rw [World.cell?, h1]
  exact h4 j hj
theorem TextRow.lt {e : TypeId} {w : World} {k : Nat} {s : ByteArray} (h : TextRow e w k s) : k < w.heap.size := by
  obtain ⟨cs, h1, _⟩ := h
  exact (Array.getElem?_eq_some_iff.1 h1).1
/-- Such a row, written since: it holds the bytes l. -/
def BytesAt (e : TypeId) (w : World) (k : Nat) (l : List UInt8) : Prop :=
  ∃ cs : Array Value, w.heap[k]? = some (.cells cs e (cs.size, cs.size + 1)) ∧ l.length ≤ cs.size ∧ ∀ j (h : j < l.length), cs[j]? = some (.int .u8 l[j].toNat)
theorem TextRow.bytes {e : TypeId} {w : World} {k : Nat} {s : ByteArray} (h : TextRow e w k s) : BytesAt e w k s.data.toList := by
  obtain ⟨cs, h1, h2, h3, h4⟩ := h
  exact ⟨cs, h1, by rw [← size_eq_length]; exact h2, fun j hj => h4 j (by rw [size_eq_length]; exact hj)⟩
theorem BytesAt.cell {e : TypeId} {w : World} {k : Nat} {l : List UInt8} (h : BytesAt e w k l) (j : Nat) (hj : j < l.length) : w.cell? ⟨k, j, none⟩ = some (.int .u8 l[j].toNat) := by
  obtain ⟨cs, h1, _, h4⟩ := h
  rw [World.cell?, h1]
  exact h4 j hj
theorem BytesAt.free {e : TypeId} {w : World} {k : Nat} {l : List UInt8} (h : BytesAt e w k l) (j : Nat) (hj : j < l.length) : w.frozen? ⟨k, j, none⟩ = false := by
  obtain ⟨cs, h1, h2, _⟩ := h
  simp [World.frozen?, h1]
  omega
theorem BytesAt.keep {e : TypeId} {w w' : World} {k : Nat} {l : List UInt8} (h : BytesAt e w k l) (hk : w'.heap[k]? = w.heap[k]?) : BytesAt e w' k l := by
  obtain ⟨cs, h1, h2⟩ := h
  exact ⟨cs, hk.trans h1, h2⟩
theorem BytesAt.lt {e : TypeId} {w : World} {k : Nat} {l : List UInt8} (h : BytesAt e w k l) : k < w.heap.size := by
  obtain ⟨cs, h1, _⟩ := h
  exact (Array.getElem?_eq_some_iff.1 h1).1
theorem BytesAt.set {e : TypeId} {w : World} {k : Nat} {l : List UInt8} (h : BytesAt e w k l) (j : Nat) (b : UInt8) : BytesAt e (w.setCell ⟨k, j, none⟩ (.int .u8 b.toNat)) k (l.set j b) := by
  obtain ⟨cs, h1, h2, h3⟩ := h
  refine ⟨cs.setIfInBounds j (.int .u8 b.toNat), ?_, by simpa using h2, fun i hi => ?_⟩
  · simp [World.setCell, Array.getElem?_modify, h1]
  · have hi' : i < l.length := by simpa using hi
    rw [Array.getElem?_setIfInBounds, List.getElem_set]
    by_cases e : j = i
    · subst e
      rw [if_pos rfl, if_pos rfl, if_pos (by omega)]
    · rw [if_neg e, if_neg e]
      exact h3 i hi'
theorem BytesAt.row {e : TypeId} {w : World} {k c : Nat} {l : List UInt8} (h : BytesAt e w k l) (hc : l.length ≤ c) (hm : c ≤ maxLen) : Row enB 1 w (.slice (some ⟨k, 0, none⟩) l.length c) l := by
  refine ⟨_, c, rfl, hc, hm, flat_length enB_len l, fun _ => ⟨_, rfl, fun j u hu => ?_⟩⟩
  rw [enB_flat] at hu
  have hj : j < l.length := by
    rcases Nat.lt_or_ge j l.length with h | h
    · exact h
    · rw [List.getElem?_eq_none (by simpa using h)] at hu; cases hu
  rw [List.getElem?_eq_getElem (by simpa using hj)] at hu
  rw [add_plain, h.cell j hj]
  simpa using hu
theorem below_bytes {B : Nat} {a w : World} (h : Below B a w) (hB : B ≤ w.heap.size) (e : TypeId) (s : ByteArray) : Below B a (Lib.bytesWorld w e s) :=
  h.trans ⟨rfl, rfl, rfl, by rw [Lib.bytesWorld_size]; omega, fun k hk => Lib.bytesWorld_at_old w e s k (by omega)⟩
/-- A block whose mark lies behind n stands. -/
def KeepsMarked (b n : Nat) (w w' : World) : Prop := ∀ k cs t fz, k ≠ b → w.heap[k]? = some (.cells cs t fz) → n < fz.2 → w'.heap[k]? = w.heap[k]?

end Go.Proofs.Ytocdoddmaopdbaa
