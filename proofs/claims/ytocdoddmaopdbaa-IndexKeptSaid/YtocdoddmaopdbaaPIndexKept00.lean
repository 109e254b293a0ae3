import Derived.Below
import Derived.Deep.Draws
import Derived.Deep.AppendLies
import Derived.Maps.AppendAt
import Derived.OwnWalk
import Derived.Laws.BytesArg
import Derived.Laws.MakeOwn
import Derived.Laws.OwnMore
import Derived.Lib.ConvBytes
import Derived.WalkKit
import Derived.WalkLawsBesides
import Derived.WalkSpells
import Derived.Lib.Hide
import Derived.Lib.AppendStr
import Derived.Laws.CopyOwn
import Derived.Test.YtocdoddmaopdbaaProg
import Derived.Lib.OthersKept
import Derived.Shelf.Small.Bits
import Derived.Shelf.Small.Strs
import Derived.Shelf.Small.Wraps
import Derived.Shelf.Strconv.Itoa0
import Derived.Shelf.Slices.CompactS
import Derived.Ground.Names2Prog
import Derived.Shelf.Slices.SearchI
import Derived.Shelf.Slices.Cells
import Derived.Ground.SlsfProg
import Derived.Shelf.SlSortCmp.Insertion
import Derived.Shelf.SlSortCmp.SiftDown1
import Derived.Shelf.SlSortCmp.HeapSort1
import Derived.Shelf.SlSortCmp.Insertion1
import Derived.Shelf.SlSortCmp.Median1
import Derived.Shelf.SlSortCmp.Pivot1
import Derived.Shelf.SlSortCmp.ReverseRange1
import Derived.Shelf.SlSortCmp.PartialInsertion1
import Derived.Shelf.SlSortCmp.PartitionEqual1
import Derived.Shelf.SlSortCmp.Partition1
import Derived.Shelf.SlSortCmp.Pdq1
import Derived.Shelf.SlSortCmp.Whole1
import Derived.Shelf.SlSortCmp.NoneTotal
import Derived.SliceStrings
import Derived.ChangeSlices
import Derived.OpenShut
import Derived.ChangeOld
import Derived.WideKeyPair
import Derived.DeepKeys4
import Derived.Maps.OwnOps
import Derived.Maps.OwnSet
import Derived.Maps.RangeWalk
set_option linter.unusedVariables false
set_option linter.unusedSimpArgs false
namespace Go.Proofs.Ytocdoddmaopdbaa
namespace Sp
def isLetter (c : UInt8) : Bool := 97 ≤ c && c ≤ 122
def isNameByte (c : UInt8) : Bool := isLetter c || (48 ≤ c && c ≤ 57) || c == 45
def nameL : List UInt8 → Bool
  | [] => false
  | c :: l => isLetter c && l.all isNameByte && decide (l.length < 16)
def isName (s : ByteArray) : Bool := nameL s.data.toList
theorem letter_is (c : UInt8) (h : isLetter c = true) : isNameByte c = true := by simp [isNameByte, h]
def okTo (s : ByteArray) (k : Nat) : Prop := ∀ j (h : j < s.size), j < k → isNameByte s[j] = true ∧ (j = 0 → isLetter s[j] = true)
theorem okTo_zero (s : ByteArray) : okTo s 0 := fun _ _ h => absurd h (by omega)
theorem okTo_succ (s : ByteArray) (k : Nat) (h : k < s.size) : okTo s (k + 1) ↔ okTo s k ∧ isNameByte s[k] = true ∧ (k = 0 → isLetter s[k] = true) := by
  constructor
  · intro o
    exact ⟨fun j hj hk => o j hj (by omega), o k h (by omega)⟩
  · rintro ⟨o, h1, h2⟩ j hj hk
    rcases Nat.lt_or_ge j k with hlt | hge
    · exact o j hj hlt
    · obtain rfl : j = k := by omega
      exact ⟨h1, h2⟩
theorem isName_iff (s : ByteArray) : isName s = true ↔ 0 < s.size ∧ s.size ≤ 16 ∧ okTo s s.size := by
  have hs : s.size = s.data.toList.length := by rw [Array.length_toList]; rfl
  have hg : ∀ j (h : j < s.size), s[j] = s.data.toList[j]'(by omega) := fun j h => rfl
  unfold isName okTo
  cases hl : s.data.toList with
  | nil =>
    rw [hl] at hs
    simp only [List.length_nil] at hs
    exact ⟨fun h => (by cases h), fun h => absurd h.1 (by omega)⟩
  | cons c l =>
    rw [hl] at hs
    simp only [List.length_cons] at hs
    have h0 : s[0]'(by omega) = c := by rw [hg]; simp [hl]
    have hs1 : ∀ j (h : j < l.length), s[j + 1]'(by omega) = l[j] := fun j h => by rw [hg]; simp [hl]
    simp only [nameL, Bool.and_eq_true, List.all_eq_true, decide_eq_true_eq]
    constructor
    · rintro ⟨⟨a, b⟩, d⟩
      refine ⟨by omega, by omega, fun j hj _ => ?_⟩
      cases j with
      | zero => rw [h0]; exact ⟨letter_is _ a, fun _ => a⟩
      | succ j => rw [hs1 j (by omega)]; exact ⟨b _ (List.getElem_mem _), fun h => absurd h (by omega)⟩
    · rintro ⟨_, a, b⟩
      refine ⟨⟨?_, fun x hx => ?_⟩, by omega⟩
      · have := (b 0 (by omega) (by omega)).2 rfl; rwa [h0] at this
      · obtain ⟨j, hj, rfl⟩ := List.getElem_of_mem hx
        have := (b (j + 1) (by omega) (by omega)).1; rwa [hs1 j hj] at this
theorem isName_no (s : ByteArray) (pos : Nat) (h : pos < s.size) (hn : ¬ (isNameByte s[pos] = true ∧ (pos = 0 → isLetter s[pos] = true))) : isName s = false := by
  rw [← Bool.not_eq_true, isName_iff]
  rintro ⟨_, _, o⟩
  exact hn (o pos h h)
theorem isLetter_nat (c : UInt8) : isLetter c = true ↔ 97 ≤ c.toNat ∧ c.toNat ≤ 122 := by
  simp [isLetter, UInt8.le_iff_toNat_le]
theorem isNameByte_nat (c : UInt8) : isNameByte c = true ↔ (97 ≤ c.toNat ∧ c.toNat ≤ 122) ∨ (48 ≤ c.toNat ∧ c.toNat ≤ 57) ∨ c.toNat = 45 := by
  simp [isNameByte, isLetter, UInt8.le_iff_toNat_le, ← UInt8.toNat_inj, or_assoc]
def ltL : List UInt8 → List UInt8 → Bool
  | [], [] => false
  | [], _ :: _ => true
  | _ :: _, [] => false
  | a :: l, b :: m => a < b || (a == b && ltL l m)
def less (a b : ByteArray) : Bool := a.size < b.size || (a.size == b.size && ltL a.data.toList b.data.toList)
end Sp
end Go.Proofs.Ytocdoddmaopdbaa
namespace Go.Proofs.Ytocdoddmaopdbaa
open Go.RowKit
theorem ret_bool {a b : Bool} (h : a = b) : Ending.returned (.bool a) = .returned (.bool b) := by rw [h]
theorem ret_int {k : IntKind} {a b : Int} (h : a = b) : Ending.returned (.int k a) = .returned (.int k b) := by rw [h]
theorem re_ {P : Program} {f : FuncId} {args : Array Value} {w : World} {v v' : Ending} {R : World → Prop} (h : Calls P f args w fun e w' => e = v ∧ R w') (hv : v = v') : Calls P f args w fun e w' => e = v' ∧ R w' := by rw [← hv]; exact h
theorem size_eq_length (s : ByteArray) : s.size = s.data.toList.length := by rw [Array.length_toList]; rfl
theorem toList_inj {s t : ByteArray} : s.data.toList = t.data.toList ↔ s = t :=
  ⟨fun h => by cases s; cases t; simp only [Array.toList_inj] at h; rw [h], fun h => by rw [h]⟩
theorem toList_inj' {s t : ByteArray} : s.toList = t.toList ↔ s = t := by rw [ByteArray.toList_eq, ByteArray.toList_eq, toList_inj]
theorem ofList_toList (s : ByteArray) : (⟨s.data.toList.toArray⟩ : ByteArray) = s := by cases s; simp
theorem data_ofList (l : List UInt8) : (⟨l.toArray⟩ : ByteArray).data.toList = l := by simp
theorem below_drewN {B : Nat} {a w : World} (h : Below B a w) (n : Nat) : Below B a (w.drewN n) := ⟨h.os, h.tape, h.output, h.size, h.block⟩
theorem below_call {w w1 w2 : World} (h : Below w.heap.size w w1) (k : Below w1.heap.size w1 w2) : Below w.heap.size w w2 := h.trans (k.mono h.size)
theorem below_then {B : Nat} {w w1 w2 : World} (h : Below B w w1) (hB : B ≤ w1.heap.size) (k : Below w1.heap.size w1 w2) : Below B w w2 := h.trans (k.mono hB)
theorem cell_below {w w1 : World} (h : Below w.heap.size w w1) {a : Addr} {v : Value} (hc : w.cell? a = some v) : w1.cell? a = some v := (h.cell (World.block_lt_of_cell? w a hc)).trans hc
theorem grown_of_below {w w1 : World} (h : Below w.heap.size w w1) (row : Option Nat) : w.grownBy w1 row := ⟨h.os, h.tape, h.output, h.size, fun i hi _ => h.block i hi⟩
theorem add_plain (g j : Nat) : (⟨g, 0, none⟩ : Addr).add j = ⟨g, j, none⟩ := by unfold Addr.add; split <;> simp_all
theorem add_add (a : Addr) (i j : Nat) : (a.add i).add j = a.add (i + j) := by
  unfold Addr.add
  by_cases hi : i = 0 <;> by_cases hj : j = 0 <;> simp [hi, hj, Nat.add_assoc]
theorem add_block (a : Addr) (n : Nat) : (a.add n).block = a.block := by unfold Addr.add; split <;> rfl
section
variable {α : Type}
def Own (enc : α → List Value) (k : Nat) (e : TypeId) (w : World) (base : Nat) (v : Value) (xs : List α) : Prop := w.ownsRow base e k v xs.length (xs.flatMap enc)
def Row (enc : α → List Value) (k : Nat) (w : World) (v : Value) (xs : List α) : Prop :=
  ∃ A c, v = .slice A xs.length c ∧ xs.length ≤ c ∧ c ≤ maxLen ∧ (xs.flatMap enc).length = xs.length * k ∧ (0 < xs.length → ∃ ad, A = some ad ∧ ∀ j u, (xs.flatMap enc)[j]? = some u → w.cell? (ad.add j) = some u)
variable {enc : α → List Value} {k : Nat} {e : TypeId} {w w1 : World} {base : Nat} {v : Value} {xs : List α}
theorem Own.nil (enc : α → List Value) (k : Nat) (e : TypeId) (w : World) (base : Nat) : Own enc k e w base (.slice none 0 0) [] := World.ownsRow_nil w base e k
theorem Own.kept {row : Option Nat} (h : Own enc k e w base v xs) (hg : w.grownBy w1 row) (hne : v.ownBlock = none ∨ v.ownBlock ≠ row) : Own enc k e w1 base v xs := World.ownsRow.kept h hg hne
theorem Own.below (h : Own enc k e w base v xs) (hb : Below w.heap.size w w1) : Own enc k e w1 base v xs := h.kept (grown_of_below hb none) (by cases v.ownBlock <;> simp)
theorem Own.alloc (h : Own enc k e w base v xs) (o : Obj) : Own enc k e (w.alloc o) base v xs := World.ownsRow.alloc h o
theorem Own.drewN (h : Own enc k e w base v xs) (n : Nat) : Own enc k e (w.drewN n) base v xs := h
theorem Own.base_le (h : Own enc k e w base v xs) (g : Nat) (hg : v.ownBlock = some g) : base ≤ g := (World.ownsRow.lt h g hg).1
theorem Own.slice (h : Own enc k e w base v xs) : ∃ A c, v = .slice A xs.length c ∧ xs.length ≤ c := by
  rcases h.2 with ⟨rfl, h0⟩ | ⟨g, cap, cur, rfl, _, _, h1, _⟩
  · exact ⟨none, 0, by rw [h0], by omega⟩
  · exact ⟨_, cap, rfl, h1⟩
theorem Own.row (h : Own enc k e w base v xs) : Row enc k w v xs := by
  rcases h.2 with ⟨rfl, h0⟩ | ⟨g, cap, cur, rfl, _, _, h1, h2, _⟩
  · exact ⟨none, 0, by rw [h0], by omega, by simp [maxLen], h.1, fun hp => absurd hp (by omega)⟩
  · exact ⟨_, cap, rfl, h1, h2, h.1, fun _ => ⟨_, rfl, fun j u hu => World.ownsRow.cells h (g := g) rfl j u hu⟩⟩
theorem Row.nil (enc : α → List Value) (k : Nat) (w : World) : Row enc k w (.slice none 0 0) [] := ⟨none, 0, rfl, by simp, by simp [maxLen], by simp, fun h => by simp at h⟩
theorem Row.empty (enc : α → List Value) (k : Nat) (w : World) (A : Option Addr) (c : Nat) (hc : c ≤ 9223372036854775807) : Row enc k w (.slice A 0 c) [] := ⟨A, c, rfl, by simp, by simpa [maxLen] using hc, by simp, fun h => by simp at h⟩
theorem Row.below (h : Row enc k w v xs) (hb : Below w.heap.size w w1) : Row enc k w1 v xs := by
  obtain ⟨A, c, rfl, h1, h2, h3, h4⟩ := h
  refine ⟨A, c, rfl, h1, h2, h3, fun hp => ?_⟩
  obtain ⟨ad, e, hc⟩ := h4 hp
  exact ⟨ad, e, fun j u hu => cell_below hb (hc j u hu)⟩
theorem Row.grown {row : Option Nat} (h : Row enc k w v xs) (hg : w.grownBy w1 row) (hr : ∀ g, row = some g → ∀ A n c ad, v = .slice A n c → A = some ad → ad.block ≠ g) : Row enc k w1 v xs := by
  obtain ⟨A, c, rfl, h1, h2, h3, h4⟩ := h
  refine ⟨A, c, rfl, h1, h2, h3, fun hp => ?_⟩
  obtain ⟨ad, e, hc⟩ := h4 hp
  exact ⟨ad, e, fun j u hu => hg.cell (hc j u hu) (fun he => hr _ he.symm _ _ _ _ rfl e (add_block ad j).symm)⟩
theorem Row.drewN (h : Row enc k w v xs) (n : Nat) : Row enc k (w.drewN n) v xs := h
theorem Row.len (h : Row enc k w v xs) : xs.length ≤ 9223372036854775807 := by
  obtain ⟨A, c, _, h1, h2, _⟩ := h
  simp only [maxLen] at h2
  omega
theorem flat_get (hk : ∀ x, (enc x).length = k) (xs : List α) (j i : Nat) (hj : j < xs.length) (hi : i < k) : (xs.flatMap enc)[j * k + i]? = (enc xs[j])[i]? := by
  induction xs generalizing j with
  | nil => simp at hj
  | cons x xs ih =>
    rw [List.flatMap_cons]
    cases j with
    | zero => simp only [Nat.zero_mul, Nat.zero_add, List.getElem_cons_zero]; rw [List.getElem?_append_left (by rw [hk]; exact hi)]
    | succ j =>
      have hj' : j < xs.length := by simpa using hj
      rw [Nat.succ_mul, List.getElem?_append_right (by rw [hk]; omega), hk, show j * k + k + i - k = j * k + i by omega, ih j hj']
      simp
theorem flat_length (hk : ∀ x, (enc x).length = k) (xs : List α) : (xs.flatMap enc).length = xs.length * k := by
  induction xs with
  | nil => simp
  | cons x xs ih => rw [List.flatMap_cons, List.length_append, ih, hk, List.length_cons, Nat.succ_mul]; omega
theorem Row.get {A : Option Addr} {n c : Nat} (h : Row enc k w (.slice A n c) xs) (hk : ∀ x, (enc x).length = k) (j : Nat) (hj : j < xs.length) :
    ∃ ad, A = some ad ∧ ∀ i, i < k → w.cell? ((ad.add (j * k)).add i) = (enc xs[j])[i]? := by
  obtain ⟨A', c', he, h1, h2, h3, h4⟩ := h
  injection he with e1 e2 e3
  subst e1
  obtain ⟨ad, rfl, hc⟩ := h4 (by omega)
  refine ⟨ad, rfl, fun i hi => ?_⟩
  have hf := flat_get (enc := enc) hk xs j i hj hi
  have hl : i < (enc xs[j]).length := by rw [hk]; exact hi
  rw [List.getElem?_eq_getElem hl] at hf ⊢
  rw [add_add]
  exact hc _ _ hf
theorem Row.len_eq {A : Option Addr} {n c : Nat} (h : Row enc k w (.slice A n c) xs) : n = xs.length := by
  obtain ⟨A', c', he, _⟩ := h
  injection he
theorem Row.get1 {A : Option Addr} {n c : Nat} {f : α → Value} (h : Row (fun x => [f x]) 1 w (.slice A n c) xs) (j : Nat) (hj : j < xs.length) : ∃ ad, A = some ad ∧ w.cell? (ad.add j) = some (f xs[j]) := by
  obtain ⟨ad, e, hc⟩ := h.get (fun _ => rfl) j hj
  refine ⟨ad, e, ?_⟩
  have := hc 0 (by omega)
  rw [add_add] at this
  simpa using this
end
theorem Row.take {α : Type} {enc : α → List Value} {k : Nat} {w : World} {A : Option Addr} {n c : Nat} {xs : List α} (h : Row enc k w (.slice A n c) xs) (hk : ∀ x, (enc x).length = k) (i : Nat) (hi : i ≤ n) : Row enc k w (.slice A i c) (xs.take i) := by
  have hl := h.len_eq
  obtain ⟨A', c', he, h1, h2, h3, h4⟩ := h
  injection he with e1 e2 e3
  subst e1 e3
  have hti : (xs.take i).length = i := by rw [List.length_take]; omega
  refine ⟨A, c, by rw [hti], by omega, h2, flat_length hk _, fun hp => ?_⟩
  obtain ⟨ad, e, hc⟩ := h4 (by omega)
  refine ⟨ad, e, fun j u hu => hc j u ?_⟩
  have hx : xs.flatMap enc = (xs.take i).flatMap enc ++ (xs.drop i).flatMap enc := by rw [← List.flatMap_append, List.take_append_drop]
  rw [hx, List.getElem?_append_left (List.getElem?_eq_some_iff.1 hu).1]
  exact hu
theorem Row.drop {α : Type} {enc : α → List Value} {k : Nat} {w : World} {A : Option Addr} {n c : Nat} {xs : List α} (h : Row enc k w (.slice A n c) xs) (hk : ∀ x, (enc x).length = k) (i : Nat) (hi : i ≤ n) :
    Row enc k w (.slice (if c = i then A else A.map (·.add (i * k))) (n - i) (c - i)) (xs.drop i) := by
  have hl := h.len_eq
  obtain ⟨A', c', he, h1, h2, h3, h4⟩ := h
  injection he with e1 e2 e3
  subst e1 e3
  have hti : (xs.drop i).length = n - i := by rw [List.length_drop]; omega
  refine ⟨_, c - i, by rw [hti], by omega, by omega, flat_length hk _, fun hp => ?_⟩
  obtain ⟨ad, e, hc⟩ := h4 (by omega)
  rw [if_neg (by omega), e]
  refine ⟨_, rfl, fun j u hu => ?_⟩
  rw [add_add]
  refine hc _ u ?_
  have hx : xs.flatMap enc = (xs.take i).flatMap enc ++ (xs.drop i).flatMap enc := by rw [← List.flatMap_append, List.take_append_drop]
  have hl2 : ((xs.take i).flatMap enc).length = i * k := by rw [flat_length hk, List.length_take]; congr 1; omega
  rw [hx, List.getElem?_append_right (by omega), hl2, show i * k + j - i * k = j by omega]
  exact hu
theorem Own.lit {α : Type} {enc : α → List Value} {k : Nat} {e : TypeId} {base : Nat} (hk : ∀ x, (enc x).length = k) (W : World) (xs : List α) (cs : Array Value) (n : Nat) (hcs : cs.toList = xs.flatMap enc) (hn : n = xs.length) (hb : base ≤ W.heap.size) (hm : n ≤ 9223372036854775807) :
    Own enc k e (W.alloc (.cells cs e)) base (.slice (some ⟨W.heap.size, 0, none⟩) n n) xs := by
  subst hn
  have h := World.ownsRow_lit (base := base) (e := e) (size := k) W cs xs.length hb (by simpa [maxLen] using hm) (by rw [← Array.length_toList, hcs, flat_length hk])
  unfold Own
  rw [← hcs]
  exact h
section
variable {P : Program} {ops : Array Oper} {rest : List Oper} {o : Oper} {a : Act} {Q : Exit → Act → World → Prop} {α : Type} {enc : α → List Value}
theorem Own.append {w0 W : World} (base : Nat) (hgd : o.guard = none) (s x : Operand) (t e : TypeId) (z : Value) (k bytes : Nat)
    (ho : o.op = .call { callee := .builtin .append, args := #[s, x], argTypes := #[t, t] })
    (ht : P.underlying t = some (.slice e)) (hinfo : (P.info? e).map (fun i => (i.zero, i.size, i.bytes)) = some (some z, k, bytes)) (hz : z.cells.size = k) (hs0 : 0 < k)
    (v : Value) (xs : List α) (p : α) (cs : List Value) (hs : a.eval s = v) (hx : a.eval x = .slice (some ⟨W.heap.size, 0, none⟩) 1 1) (hp : enc p = cs) (hcs : cs.length = k) (h1 : ∀ u ∈ cs, u.oneCell' = true)
    (HO : Own enc k e W base v xs) (HB : Below base w0 W) (hbase : base ≤ W.heap.size) (hl : (xs.length + 1) * bytes ≤ 140737488355328) (hl2 : xs.length + 1 ≤ 140737488355328)
    (h : ∀ v1 w1, Own enc k e w1 base v1 (xs ++ [p]) → Below base w0 w1 → W.grownBy w1 v.ownBlock → (v1.ownBlock = v.ownBlock ∨ ∃ b, v1.ownBlock = some b ∧ W.heap.size ≤ b) → wpList P ops Q rest (a.put o.dst v1) w1) :
    wpList P ops Q (o :: rest) a (W.alloc (.cells cs.toArray e)) := by
  obtain ⟨i0, hi, hzz⟩ := Option.map_eq_some_iff.1 hinfo
  simp only [Prod.mk.injEq] at hzz
  obtain ⟨hz0, hz1, hz2⟩ := hzz
  refine wpList_append_own_at (W.alloc (.cells cs.toArray e)) hgd s x t ho base e i0 z k bytes ht hi hz0 hz1 hz2 hz hs0 v xs.length _ hs (HO.alloc _) ⟨W.heap.size, 0, none⟩ 1 1 cs hx (by rw [hcs]; simp)
    (by simpa using World.news_of_block (cs := cs.toArray) (t := e) (fr := (0, 0)) (heap_alloc_new W (.cells cs.toArray e))) h1 (by simp only [maxLen]; omega) hl (by simp; omega) ?_
  intro v1 w1 hown hg _ hat
  refine h v1 w1 ?_ ((HB.alloc hbase _).grown hg (by simp; omega) (HO.base_le)) (World.grownBy.trans (World.grownBy_alloc W _ _) hg) ?_
  · unfold Own
    rw [List.flatMap_append, List.length_append]
    simpa [hp] using hown
  · rcases hat with hat | hat
    · exact .inl hat
    · exact .inr ⟨_, hat, by simp⟩
theorem Own.appendRow {w0 W : World} (base : Nat) (hgd : o.guard = none) (s x : Operand) (t e : TypeId) (z : Value) (k bytes : Nat)
    (ho : o.op = .call { callee := .builtin .append, args := #[s, x], argTypes := #[t, t] })
    (ht : P.underlying t = some (.slice e)) (hinfo : (P.info? e).map (fun i => (i.zero, i.size, i.bytes)) = some (some z, k, bytes)) (hz : z.cells.size = k) (hs0 : 0 < k)
    (v u : Value) (xs ys : List α) (hs : a.eval s = v) (hx : a.eval x = u) (h1 : ∀ y, ∀ u ∈ enc y, u.oneCell' = true)
    (HO : Own enc k e W base v xs) (HR : Row enc k W u ys) (HB : Below base w0 W) (hbase : base ≤ W.heap.size) (hl : (xs.length + ys.length) * bytes ≤ 140737488355328) (hl2 : xs.length + ys.length ≤ 140737488355328)
    (h : ∀ v1 w1, Own enc k e w1 base v1 (xs ++ ys) → Below base w0 w1 → W.grownBy w1 v.ownBlock → (v1.ownBlock = v.ownBlock ∨ ∃ b, v1.ownBlock = some b ∧ W.heap.size ≤ b) → wpList P ops Q rest (a.put o.dst v1) w1) :
    wpList P ops Q (o :: rest) a W := by
  obtain ⟨i0, hi, hzz⟩ := Option.map_eq_some_iff.1 hinfo
  simp only [Prod.mk.injEq] at hzz
  obtain ⟨hz0, hz1, hz2⟩ := hzz
  obtain ⟨A, c, rfl, r1, r2, r3, r4⟩ := HR
  rcases A with _ | ad
  · have hm : ys = [] := by
      rcases Nat.eq_zero_or_pos ys.length with h0 | h0
      · exact List.eq_nil_of_length_eq_zero h0
      · obtain ⟨ad, h, _⟩ := r4 h0
        cases h
    subst hm
    have hrun : (Builtin.append_ #[t, t] o.type #[v, .slice none 0 c]).run P W = .ok v W := by
      rcases HO.2 with ⟨rfl, _⟩ | ⟨g, cap, cur, rfl, _, _, hnc, _⟩
      · simp [Builtin.append_, run_underlying ht, sizeOf, typeInfo, hi, Builtin.lenOf, Builtin.firstCells]
      · simp [Builtin.append_, run_underlying ht, sizeOf, typeInfo, hi, Builtin.lenOf, Builtin.firstCells, hnc, storeCells]
    refine wpList_plain hgd fun _ hK => ?_
    unfold Oper.wp execOp
    simp only [ho, resolve, invoke, builtin, Sem.run_bind, Sem.run_pure, Result.andThen_ok, List.map_toArray, List.map_cons, List.map_nil, hs, hx, List.length_nil, hrun]
    exact hK _ _ (h v W (by simpa using HO) HB (World.grownBy.refl W _) (.inl rfl))
  · have hcells : ∀ j u, (ys.flatMap enc)[j]? = some u → W.cell? (ad.add j) = some u := by
      intro j u hu
      rcases Nat.eq_zero_or_pos ys.length with h0 | h0
      · rw [List.eq_nil_of_length_eq_zero h0] at hu
        simp at hu
      · obtain ⟨ad', h, hc⟩ := r4 h0
        injection h with h
        subst h
        exact hc j u hu
    refine wpList_append_own_at W hgd s x t ho base e i0 z k bytes ht hi hz0 hz1 hz2 hz hs0 v xs.length _ hs HO ad ys.length c (ys.flatMap enc) hx r3 hcells
      (fun u hu => by obtain ⟨y, _, hy⟩ := List.mem_flatMap.1 hu; exact h1 y u hy) (by simp only [maxLen]; omega) hl hbase ?_
    intro v1 w1 hown hg _ hat
    refine h v1 w1 ?_ (HB.grown hg hbase HO.base_le) hg ?_
    · unfold Own
      rw [List.flatMap_append, List.length_append]
      exact hown
    · rcases hat with hat | hat
      · exact .inl hat
      · exact .inr ⟨_, hat, Nat.le_refl _⟩
end
def enB (b : UInt8) : List Value := [.int .u8 b.toNat]
theorem enB_len (x : UInt8) : (enB x).length = 1 := rfl
def strOf (l : List UInt8) : ByteArray := ⟨l.toArray⟩
theorem strOf_list (l : List UInt8) : (strOf l).data.toList = l := data_ofList l
theorem strOf_toList (s : ByteArray) : strOf s.data.toList = s := ofList_toList s
theorem strOf_inj {a b : List UInt8} : strOf a = strOf b ↔ a = b := ⟨fun h => by rw [← strOf_list a, h, strOf_list], fun h => by rw [h]⟩
theorem enB_flat (l : List UInt8) : l.flatMap enB = l.map fun b => .int .u8 b.toNat := by
  induction l with
  | nil => rfl
  | cons b l ih => rw [List.flatMap_cons, ih]; rfl
theorem strOf_nums (l : List UInt8) : strOfNums (l.map fun b => (b.toNat : Int)) = strOf l := by
  rw [← toList_inj, strOfNums_data, strOf_list, List.map_map]
  conv => rhs; rw [← List.map_id l]
  refine List.map_congr_left fun b _ => ?_
  simp
theorem Row.string {P : Program} {w : World} {src dst e : TypeId} {v : Value} {l : List UInt8} (hs : P.underlying src = some (.slice e)) (he : P.underlying e = some (.int .u8)) (hd : P.underlying dst = some .string)
    (h : Row enB 1 w v l) : (convert src dst v).run P w = .ok (.string (strOf l)) w := by
  obtain ⟨A, c, rfl, h1, h2, h3, h4⟩ := h
  rcases A with _ | ad
  · have hm : l = [] := by
      rcases Nat.eq_zero_or_pos l.length with h0 | h0
      · exact List.eq_nil_of_length_eq_zero h0
      · obtain ⟨ad, h, _⟩ := h4 h0
        cases h
    subst hm
    exact run_convert_bytes_nil w src e hs he _ _ dst hd
  · have hcells : ∀ j u, ((l.map fun b => (b.toNat : Int)).map (Value.int .u8))[j]? = some u → w.cell? (ad.add j) = some u := by
      intro j u hu
      rcases Nat.eq_zero_or_pos l.length with h0 | h0
      · rw [List.eq_nil_of_length_eq_zero h0] at hu
        simp at hu
      · obtain ⟨ad', h, hc⟩ := h4 h0
        injection h with h
        subst h
        refine hc j u ?_
        rw [enB_flat, ← hu, List.map_map]
        rfl
    have hl := run_loadCells_list (P := P) w ad ((l.map fun b => (b.toNat : Int)).map (Value.int .u8)) hcells
    rw [List.length_map, List.length_map] at hl
    rw [run_convert_bytes_string w src dst e _ l.length c hs he hd, run_bytesToString w _ l.length c (l.map fun b => (b.toNat : Int)) hl, foldl_push_bytes, ← strOf_nums]
    simp [strOfNums, ByteArray.empty, ByteArray.emptyWithCapacity]
    rfl
def TextRow (e : TypeId) (w : World) (k : Nat) (s : ByteArray) : Prop :=
  ∃ cs : Array Value, w.heap[k]? = some (.cells cs e (cs.size, cs.size + 1)) ∧ s.size ≤ cs.size ∧ cs.size ≤ maxLen ∧ ∀ j (h : j < s.size), cs[j]? = some (.int .u8 s[j].toNat)
theorem TextRow.new (e : TypeId) (w : World) (s : ByteArray) (hs : s.size ≤ maxLen) : TextRow e (Lib.bytesWorld w e s) w.heap.size s := by
  have h1 := grownCap_ge w s.size 0 e
  have h2 := grownCap_le_maxLen w s.size 0 e hs
  have h3 : (Lib.bytesCells w e s).size = s.size + (grownCap w s.size 0 e - s.size) := by
    simp [Lib.bytesCells]
  refine ⟨_, Lib.bytesWorld_at_new w e s, by omega, by omega, fun j h => ?_⟩
  · have h1 := Lib.bytesWorld_cell w e s j h
    rw [World.cell?, Lib.bytesWorld_at_new] at h1
    have h2 : s.data.toList.getD j 0 = s[j] := by
      have hl : j < s.data.toList.length := by rw [← size_eq_length]; exact h
      rw [List.getD_eq_getElem?_getD, List.getElem?_eq_getElem hl]
      rfl
    rw [h2] at h1
    exact h1
theorem TextRow.keep {e : TypeId} {w w' : World} {k : Nat} {s : ByteArray} (h : TextRow e w k s) (hk : w'.heap[k]? = w.heap[k]?) : TextRow e w' k s := by
  obtain ⟨cs, h1, h2⟩ := h
  exact ⟨cs, hk.trans h1, h2⟩
theorem TextRow.cell {e : TypeId} {w : World} {k : Nat} {s : ByteArray} (h : TextRow e w k s) (j : Nat) (hj : j < s.size) : w.cell? ⟨k, j, none⟩ = some (.int .u8 s[j].toNat) := by
  obtain ⟨cs, h1, _, _, h4⟩ := h
  rw [World.cell?, h1]
  exact h4 j hj
theorem TextRow.lt {e : TypeId} {w : World} {k : Nat} {s : ByteArray} (h : TextRow e w k s) : k < w.heap.size := by
  obtain ⟨cs, h1, _⟩ := h
  exact (Array.getElem?_eq_some_iff.1 h1).1
def BytesAt (e : TypeId) (w : World) (k : Nat) (l : List UInt8) : Prop :=
  ∃ cs : Array Value, w.heap[k]? = some (.cells cs e (cs.size, cs.size + 1)) ∧ l.length ≤ cs.size ∧ ∀ j (h : j < l.length), cs[j]? = some (.int .u8 l[j].toNat)
theorem TextRow.bytes {e : TypeId} {w : World} {k : Nat} {s : ByteArray} (h : TextRow e w k s) : BytesAt e w k s.data.toList := by
  obtain ⟨cs, h1, h2, h3, h4⟩ := h
  exact ⟨cs, h1, by rw [← size_eq_length]; exact h2, fun j hj => h4 j (by rw [size_eq_length]; exact hj)⟩
theorem BytesAt.cell {e : TypeId} {w : World} {k : Nat} {l : List UInt8} (h : BytesAt e w k l) (j : Nat) (hj : j < l.length) : w.cell? ⟨k, j, none⟩ = some (.int .u8 l[j].toNat) := by
  obtain ⟨cs, h1, _, h4⟩ := h
  rw [World.cell?, h1]
  exact h4 j hj
theorem BytesAt.free {e : TypeId} {w : World} {k : Nat} {l : List UInt8} (h : BytesAt e w k l) (j : Nat) (hj : j < l.length) : w.frozen? ⟨k, j, none⟩ = false := by
  obtain ⟨cs, h1, h2, _⟩ := h
  simp [World.frozen?, h1]
  omega
theorem BytesAt.keep {e : TypeId} {w w' : World} {k : Nat} {l : List UInt8} (h : BytesAt e w k l) (hk : w'.heap[k]? = w.heap[k]?) : BytesAt e w' k l := by
  obtain ⟨cs, h1, h2⟩ := h
  exact ⟨cs, hk.trans h1, h2⟩
theorem BytesAt.lt {e : TypeId} {w : World} {k : Nat} {l : List UInt8} (h : BytesAt e w k l) : k < w.heap.size := by
  obtain ⟨cs, h1, _⟩ := h
  exact (Array.getElem?_eq_some_iff.1 h1).1
theorem BytesAt.set {e : TypeId} {w : World} {k : Nat} {l : List UInt8} (h : BytesAt e w k l) (j : Nat) (b : UInt8) : BytesAt e (w.setCell ⟨k, j, none⟩ (.int .u8 b.toNat)) k (l.set j b) := by
  obtain ⟨cs, h1, h2, h3⟩ := h
  refine ⟨cs.setIfInBounds j (.int .u8 b.toNat), ?_, by simpa using h2, fun i hi => ?_⟩
  · simp [World.setCell, Array.getElem?_modify, h1]
  · have hi' : i < l.length := by simpa using hi
    rw [Array.getElem?_setIfInBounds, List.getElem_set]
    by_cases e : j = i
    · subst e
      rw [if_pos rfl, if_pos rfl, if_pos (by omega)]
    · rw [if_neg e, if_neg e]
      exact h3 i hi'
theorem BytesAt.row {e : TypeId} {w : World} {k c : Nat} {l : List UInt8} (h : BytesAt e w k l) (hc : l.length ≤ c) (hm : c ≤ maxLen) : Row enB 1 w (.slice (some ⟨k, 0, none⟩) l.length c) l := by
  refine ⟨_, c, rfl, hc, hm, flat_length enB_len l, fun _ => ⟨_, rfl, fun j u hu => ?_⟩⟩
  rw [enB_flat] at hu
  have hj : j < l.length := by
    rcases Nat.lt_or_ge j l.length with h | h
    · exact h
    · rw [List.getElem?_eq_none (by simpa using h)] at hu; cases hu
  rw [List.getElem?_eq_getElem (by simpa using hj)] at hu
  rw [add_plain, h.cell j hj]
  simpa using hu
def KeepsMarked (b n : Nat) (w w' : World) : Prop := ∀ k cs t fz, k ≠ b → w.heap[k]? = some (.cells cs t fz) → n < fz.2 → w'.heap[k]? = w.heap[k]?
end Go.Proofs.Ytocdoddmaopdbaa
namespace Go.Proofs.Ytocdoddmaopdbaa
open Go.RowKit Sp
theorem letter_calls (r : Int) (w : World) :
    Calls Try.prog 49 #[.int .i32 r] w fun e w' => e = .returned (.bool (decide (97 ≤ r) && decide (r ≤ 122))) ∧ w = w' := by
  by_cases h1 : 97 ≤ r <;> by_cases h2 : r ≤ 122
  all_goals
    go_enter Try.func49, Try.ntmps49
    go_wp2
    go_ret
    exact ⟨by simp [h1, h2], rfl⟩
theorem width_pos (s : ByteArray) (pos : Nat) (h : pos < s.size) : 1 ≤ (Utf8.decode s pos).2 := by
  by_cases ha : (s[pos]'h).toNat < 128
  · rw [decode_ascii s pos h ha]
    exact Nat.le_refl _
  · exact (decode_high s pos h (by omega)).2
theorem letter_yes (r : Int) (w : World) (h1 : 97 ≤ r) (h2 : r ≤ 122) :
    Calls Try.prog 49 #[.int .i32 r] w fun e w' => e = .returned (.bool true) ∧ w = w' :=
  (letter_calls r w).mono fun _ _ ⟨he, hw⟩ => ⟨by rw [he]; simp [h1, h2], hw⟩
theorem letter_no (r : Int) (w : World) (h : r < 97 ∨ 122 < r) :
    Calls Try.prog 49 #[.int .i32 r] w fun e w' => e = .returned (.bool false) ∧ w = w' :=
  (letter_calls r w).mono fun _ _ ⟨he, hw⟩ => ⟨by rw [he]; congr 2; simp; omega, hw⟩
set_option maxHeartbeats 1000000 in
theorem Is_calls (s : ByteArray) (w : World) (hs : s.size ≤ 140737488351232) :
    Calls Try.prog 34 #[.string s] w fun e w' => e = .returned (.bool (isName s)) ∧ Below w.heap.size w w' := by
  go_enter Try.func34, Try.ntmps34
  go_wp2
  go_loopw [] (fun wr => ∃ pos, wr = w.iter s pos ∧ okTo s pos ∧ pos ≤ s.size) (fun wr => s.size - wr.iterPos w.heap.size)
  case atStart => exact ⟨0, rfl, okTo_zero s, Nat.zero_le _⟩
  case round =>
    obtain ⟨pos, rfl, ho, hle⟩ := hrel
    have HO := Lib.hid ho
    clear ho
    by_cases hp : pos < s.size
    · obtain ⟨r, d, hrd⟩ : ∃ r d, Utf8.decode s pos = (r, d) := ⟨_, _, rfl⟩
      have hwd := width_pos s pos hp
      rw [hrd] at hwd
      simp only at hwd
      have hnx : ∀ ty, (Instr.next (.pointer (some ⟨w.heap.size, 0, none⟩)) true ty).run Try.prog (w.iter s pos) = .ok (.tuple #[.bool true, .int .i64 pos, .int .i32 r]) (w.iter s (pos + d)) := fun ty => by rw [run_next_any w s pos ty hp, hrd]
      have hA : Hid ((s[pos].toNat < 128 → r = s[pos].toNat ∧ d = 1) ∧ (128 ≤ s[pos].toNat → 128 ≤ r)) := by
        refine Lib.hid ⟨fun ha => ?_, fun ha => ?_⟩
        · rw [decode_ascii s pos hp ha] at hrd
          simp only [Prod.mk.injEq] at hrd
          omega
        · have := (decode_high s pos hp ha).1
          rw [hrd] at this
          exact this
      have HR := Lib.hid hrd
      clear hrd
      by_cases hl : 97 ≤ r ∧ r ≤ 122
      · obtain ⟨hl1, hl2⟩ := hl
        go_wp2_with (go_at_call 49; refine (letter_yes _ _ (by omega) (by omega)).mono ?_; rintro e w' ⟨rfl, rfl⟩)
        go_roundw
        case rel =>
          refine ⟨pos + d, rfl, ?_, ?_⟩
          · obtain ⟨a1, a2⟩ := hA.out
            have hlt : s[pos].toNat < 128 := by rcases Nat.lt_or_ge s[pos].toNat 128 with h | h; exact h; have := a2 h; omega
            obtain ⟨a3, a4⟩ := a1 hlt
            rw [a4, okTo_succ s pos hp]
            have hq : isLetter s[pos] = true := (isLetter_nat _).2 (by omega)
            exact ⟨HO.out, letter_is _ hq, fun _ => hq⟩
          · obtain ⟨a1, a2⟩ := hA.out
            have hlt : s[pos].toNat < 128 := by rcases Nat.lt_or_ge s[pos].toNat 128 with h | h; exact h; have := a2 h; omega
            omega
        case measure => simp; omega
      · have hl' : (r : Int) < 97 ∨ 122 < (r : Int) := by omega
        have HL := Lib.hid hl
        clear hl
        have HL' := Lib.hid hl'
        clear hl'
        by_cases h0 : pos = 0
        · subst h0
          go_wp2_with (go_at_call 49; refine (letter_no _ _ HL'.out).mono ?_; rintro e w' ⟨rfl, rfl⟩)
          go_ret
          rw [isName_no s 0 hp (fun h => ?_)]
          · exact ⟨rfl, (Below.refl _ _).alloc (Nat.le_refl _) _⟩
          · have := (isLetter_nat _).1 (h.2 rfl)
            have := hA.out.1
            have := HL.out
            omega
        · have hb0 : ((pos : Int) == 0) = false := by simp; omega
          by_cases hd : 48 ≤ r ∧ r ≤ 57
          · obtain ⟨hd1, hd2⟩ := hd
            go_wp2_with (go_at_call 49; refine (letter_no _ _ HL'.out).mono ?_; rintro e w' ⟨rfl, rfl⟩)
            go_roundw
            case rel =>
              obtain ⟨a1, a2⟩ := hA.out
              have hlt : s[pos].toNat < 128 := by rcases Nat.lt_or_ge s[pos].toNat 128 with h | h; exact h; have := a2 h; omega
              obtain ⟨a3, a4⟩ := a1 hlt
              refine ⟨pos + d, rfl, ?_, by omega⟩
              rw [a4, okTo_succ s pos hp]
              exact ⟨HO.out, (isNameByte_nat _).2 (by omega), fun h => absurd h h0⟩
            case measure => simp; omega
          · by_cases h45 : r = 45
            · subst h45
              go_wp2_with (go_at_call 49; refine (letter_no _ _ HL'.out).mono ?_; rintro e w' ⟨rfl, rfl⟩)
              go_roundw
              case rel =>
                obtain ⟨a1, a2⟩ := hA.out
                have hlt : s[pos].toNat < 128 := by rcases Nat.lt_or_ge s[pos].toNat 128 with h | h; exact h; have := a2 h; omega
                obtain ⟨a3, a4⟩ := a1 hlt
                refine ⟨pos + d, rfl, ?_, by omega⟩
                rw [a4, okTo_succ s pos hp]
                exact ⟨HO.out, (isNameByte_nat _).2 (by omega), fun h => absurd h h0⟩
              case measure => simp; omega
            · have hb45 : ((r : Int) != 45) = true := by simp; omega
              have hno : isName s = false := isName_no s pos hp (fun h => by
                have h1 := (isNameByte_nat _).1 h.1
                have h2 := hA.out.1
                have h3 := HL.out
                omega)
              have HN := Lib.hid hno
              clear hno
              by_cases h48 : r < 48
              · go_wp2_with (go_at_call 49; refine (letter_no _ _ HL'.out).mono ?_; rintro e w' ⟨rfl, rfl⟩)
                go_ret
                rw [HN.out]
                exact ⟨rfl, (Below.refl _ _).alloc (Nat.le_refl _) _⟩
              · have h57 : 57 < r := by omega
                go_wp2_with (go_at_call 49; refine (letter_no _ _ HL'.out).mono ?_; rintro e w' ⟨rfl, rfl⟩)
                go_ret
                rw [HN.out]
                exact ⟨rfl, (Below.refl _ _).alloc (Nat.le_refl _) _⟩
    · obtain rfl : pos = s.size := by omega
      have hnx : ∀ ty, (Instr.next (.pointer (some ⟨w.heap.size, 0, none⟩)) true ty).run Try.prog (w.iter s s.size) = _ := fun ty => run_next_end w s s.size ty hp
      have hbel : Below w.heap.size w (w.iter s s.size) := (Below.refl _ _).alloc (Nat.le_refl _) _
      clear hle
      go_wp2
      · go_ret
        refine ⟨?_, hbel⟩
        have h0 : s.size = 0 := by
          have hq : s.toList = [] := by assumption
          rw [ByteArray.toList_eq] at hq
          have : s.data.toList.length = 0 := by rw [hq]; rfl
          rwa [Array.length_toList] at this
        have hno : isName s = false := by
          rw [← Bool.not_eq_true, isName_iff]
          omega
        rw [hno]
        rfl
      · go_ret
        refine ⟨ret_bool (a := (!s.toList.isEmpty && decide ((s.size : Int) ≤ 16))) ?_, hbel⟩
        have hq : ¬ s.toList = [] := by assumption
        rw [Bool.eq_iff_iff, isName_iff]
        have h0 : 0 < s.size := by
          rcases Nat.eq_zero_or_pos s.size with h | h
          · refine absurd ?_ hq
            rw [ByteArray.toList_eq]
            exact List.eq_nil_of_length_eq_zero (by rw [Array.length_toList]; exact h)
          · exact h
        have ho := HO.out
        simp [hq, h0, ho]
        try omega
end Go.Proofs.Ytocdoddmaopdbaa
namespace Go.Proofs
open Go.Shelf
def Try.lays106_ren : Go.Shelf.Ren := ⟨fun | 106 => 77 | 213 => 90 | 265 => 97 | n => n, fun | 9 => 9 | 3 => 3 | n => n, fun | n => n⟩
theorem Try.lays106 : Go.Proofs.Lays.n106 Try.prog Try.lays106_ren := {
  mixed := by kernel_rfl
  f106 := Try.func77.trans (congrArg some (by kernel_rfl))
  f213 := Try.func90.trans (congrArg some (by kernel_rfl))
  f265 := Try.func97.trans (congrArg some (by kernel_rfl))
  t3 := Try.underlying3
  a3 := Try.isAgg3
  z3 := Try.sizeOf3
  v3 := Try.zeroValue3
  t9 := Try.underlying9
  a9 := Try.isAgg9
  z9 := Try.sizeOf9
  v9 := Try.zeroValue9 }
open Go.RowKit in
theorem Try.strings_Compare (a b : ByteArray) (w : World) :
    Calls Try.prog 77 #[.string a, .string b] w fun e w' => e = .returned (.int .i64 (Lib.compareBytes a.data.toList b.data.toList)) ∧ w' = w := Any.strings_Compare Try.lays106 a b w
def Try.lays122_ren : Go.Shelf.Ren := ⟨fun | 122 => 76 | 215 => 89 | n => n, fun | 3 => 3 | 4 => 4 | n => n, fun | n => n⟩
theorem Try.lays122 : Go.Proofs.Lays.n122 Try.prog Try.lays122_ren := {
  mixed := by kernel_rfl
  f122 := Try.func76.trans (congrArg some (by kernel_rfl))
  f215 := Try.func89.trans (congrArg some (by kernel_rfl))
  t3 := Try.underlying3
  a3 := Try.isAgg3
  z3 := Try.sizeOf3
  v3 := Try.zeroValue3
  t4 := Try.underlying4
  a4 := Try.isAgg4
  z4 := Try.sizeOf4
  v4 := Try.zeroValue4 }
open Go.RowKit in
theorem Try.cmp_Compare_int (x y : Int) (w : World) :
    Calls Try.prog 76 #[.int .i64 x, .int .i64 y] w fun e w' => e = .returned (.int .i64 (Lib.compareInt x y)) ∧ w' = w := Any.cmp_Compare_int Try.lays122 x y w
def Try.lays194_ren : Go.Shelf.Ren := ⟨fun | 194 => 66 | n => n, fun | 31 => 38 | 9 => 9 | 3 => 3 | 4 => 4 | 0 => 0 | n => n, fun | n => n⟩
theorem Try.lays194 : Go.Proofs.Lays.n194 Try.prog Try.lays194_ren := {
  mixed := by kernel_rfl
  f194 := Try.func66.trans (congrArg some (by kernel_rfl))
  t0 := Try.underlying0
  a0 := Try.isAgg0
  z0 := Try.sizeOf0
  v0 := Try.zeroValue0
  t3 := Try.underlying3
  a3 := Try.isAgg3
  z3 := Try.sizeOf3
  v3 := Try.zeroValue3
  t4 := Try.underlying4
  a4 := Try.isAgg4
  z4 := Try.sizeOf4
  v4 := Try.zeroValue4
  t9 := Try.underlying9
  a9 := Try.isAgg9
  z9 := Try.sizeOf9
  v9 := Try.zeroValue9
  t31 := Try.underlying38
  a31 := Try.isAgg38
  z31 := Try.sizeOf38
  v31 := Try.zeroValue38 }
open Go.RowKit Go.Lib Go.Sort in
theorem Try.slices_Compact_string (blk off cap : Nat) (zs : List (List UInt8)) (w : World) (hH : Holds encStr w blk off zs.toArray) (hsz : zs.length ≤ 9223372036854775807) (hcap : zs.length ≤ cap) :
    Calls Try.prog 66 #[.slice (some ⟨blk, off, none⟩) zs.length cap] w fun e w' => e = .returned (.slice (some ⟨blk, off, none⟩) (Lib.compact zs).length cap) ∧ ∃ q, w' = putRow encStr (Sort.ahead w q) blk off (Lib.compact zs ++ List.replicate (zs.length - (Lib.compact zs).length) []).toArray := Any.slices_Compact_string Try.lays194 blk off cap zs w hH hsz hcap
open Go.RowKit Go.Lib Go.Sort in
theorem Try.slices_Compact_string_empty (a : Option Addr) (cap : Nat) (w : World) :
    Calls Try.prog 66 #[.slice a 0 cap] w fun e w' => e = .returned (.slice a 0 cap) ∧ w' = w := Any.slices_Compact_string_empty Try.lays194 a cap w
def Try.laysSlF6_f64_ren : Go.Shelf.Ren := ⟨fun | 6 => 64 | 15 => 74 | 14 => 73 | 28 => 87 | 29 => 88 | 20 => 79 | 21 => 80 | 22 => 81 | 23 => 82 | 24 => 83 | 25 => 84 | 26 => 85 | 27 => 86 | 46 => 92 | 47 => 93 | 48 => 94 | 49 => 95 | 50 => 96 | 57 => 98 | n => n, fun | 22 => 38 | 24 => 9 | 25 => 96 | 3 => 3 | 39 => 105 | 0 => 0 | 53 => 116 | 55 => 118 | 4 => 4 | 46 => 110 | 45 => 109 | 50 => 67 | 5 => 5 | 9 => 9 | 66 => 121 | 70 => 125 | 76 => 127 | 77 => 128 | n => n, fun | n => n⟩
theorem Try.laysSlF6_f64 : Go.Proofs.SlLaysF.n6 Try.prog Try.laysSlF6_f64_ren := {
  mixed := by kernel_rfl
  f6 := ⟨Try.f64.name, by decide, Try.func64.trans (congrArg some (by kernel_rfl))⟩
  f14 := ⟨Try.f73.name, by decide, Try.func73.trans (congrArg some (by kernel_rfl))⟩
  f15 := Try.func74.trans (congrArg some (by kernel_rfl))
  f20 := ⟨Try.f79.name, by decide, Try.func79.trans (congrArg some (by kernel_rfl))⟩
  f21 := ⟨Try.f80.name, by decide, Try.func80.trans (congrArg some (by kernel_rfl))⟩
  f22 := ⟨Try.f81.name, by decide, Try.func81.trans (congrArg some (by kernel_rfl))⟩
  f23 := ⟨Try.f82.name, by decide, Try.func82.trans (congrArg some (by kernel_rfl))⟩
  f24 := ⟨Try.f83.name, by decide, Try.func83.trans (congrArg some (by kernel_rfl))⟩
  f25 := ⟨Try.f84.name, by decide, Try.func84.trans (congrArg some (by kernel_rfl))⟩
  f26 := ⟨Try.f85.name, by decide, Try.func85.trans (congrArg some (by kernel_rfl))⟩
  f27 := ⟨Try.f86.name, by decide, Try.func86.trans (congrArg some (by kernel_rfl))⟩
  f28 := Try.func87.trans (congrArg some (by kernel_rfl))
  f29 := Try.func88.trans (congrArg some (by kernel_rfl))
  f46 := ⟨Try.f92.name, by decide, Try.func92.trans (congrArg some (by kernel_rfl))⟩
  f47 := Try.func93.trans (congrArg some (by kernel_rfl))
  f48 := Try.func94.trans (congrArg some (by kernel_rfl))
  f49 := ⟨Try.f95.name, by decide, Try.func95.trans (congrArg some (by kernel_rfl))⟩
  f50 := ⟨Try.f96.name, by decide, Try.func96.trans (congrArg some (by kernel_rfl))⟩
  f57 := ⟨Try.f98.name, by decide, Try.func98.trans (congrArg some (by kernel_rfl))⟩
  t0 := Try.underlying0
  a0 := Try.isAgg0
  z0 := Try.sizeOf0
  v0 := Try.zeroValue0
  t3 := Try.underlying3
  a3 := Try.isAgg3
  z3 := Try.sizeOf3
  v3 := Try.zeroValue3
  t4 := Try.underlying4
  a4 := Try.isAgg4
  z4 := Try.sizeOf4
  v4 := Try.zeroValue4
  t5 := Try.underlying5
  a5 := Try.isAgg5
  z5 := Try.sizeOf5
  v5 := Try.zeroValue5
  t9 := Try.underlying9
  a9 := Try.isAgg9
  z9 := Try.sizeOf9
  v9 := Try.zeroValue9
  t22 := Try.underlying38
  a22 := Try.isAgg38
  z22 := Try.sizeOf38
  v22 := Try.zeroValue38
  a24 := Try.isAgg9
  z24 := Try.sizeOf9
  t25 := Try.underlying96
  a25 := Try.isAgg96
  z25 := Try.sizeOf96
  v25 := Try.zeroValue96
  t39 := Try.underlying105
  a39 := Try.isAgg105
  z39 := Try.sizeOf105
  v39 := Try.zeroValue105
  t45 := Try.underlying109
  a45 := Try.isAgg109
  z45 := Try.sizeOf109
  v45 := Try.zeroValue109
  t46 := Try.underlying110
  a46 := Try.isAgg110
  z46 := Try.sizeOf110
  v46 := Try.zeroValue110
  t50 := Try.underlying67
  a50 := Try.isAgg67
  z50 := Try.sizeOf67
  v50 := Try.zeroValue67
  t53 := Try.underlying116
  a53 := Try.isAgg116
  z53 := Try.sizeOf116
  v53 := Try.zeroValue116
  t55 := Try.underlying118
  a55 := Try.isAgg118
  z55 := Try.sizeOf118
  v55 := Try.zeroValue118
  t66 := Try.underlying121
  a66 := Try.isAgg121
  z66 := Try.sizeOf121
  v66 := Try.zeroValue121
  t70 := Try.underlying125
  a70 := Try.isAgg125
  z70 := Try.sizeOf125
  v70 := Try.zeroValue125
  t76 := Try.underlying127
  a76 := Try.isAgg127
  z76 := Try.sizeOf127
  v76 := Try.zeroValue127
  t77 := Try.underlying128
  a77 := Try.isAgg128
  z77 := Try.sizeOf128
  v77 := Try.zeroValue128 }
open Go.RowKit Go.Lib Go.Sort in
theorem Try.slices_SortFunc {α : Type} [Inhabited α] (enc : α → Value) (h1 : OneCell enc) (cf : α → α → Int) (hO : SWO (ltOf cf)) (g : Nat) (cb : Array Value) (blk off cap : Nat) (d : Array α) (w : World) (eg : ∀ args w, (callFunc g args).run Try.prog w = .ok (.enter g args) w) (hcmp : CmpLays1 Try.prog g cb enc cf blk off d.size w) (hH : Holds enc w blk off d) (hblk : blk < w.heap.size) (hsz : d.size < 4611686018427387904) :
    Calls Try.prog 64 #[.slice (some ⟨blk, off, none⟩) d.size cap, .func (.func g) #[] cb] w fun e w' =>
      e = .returned (.tuple #[]) ∧ ∃ d' n os, PermIn 0 d.size d d' ∧ SortedIn (ltOf cf) 0 d.size d' ∧ w' = sortWorld enc w blk off n d' os := Any.slices_SortFunc Try.laysSlF6_f64 enc h1 cf hO g cb blk off cap d w eg hcmp hH hblk hsz
def Try.laysSlF06_f64_ren : Go.Shelf.Ren := ⟨fun | 6 => 64 | 15 => 74 | 14 => 73 | 28 => 87 | 29 => 88 | 20 => 79 | 21 => 80 | 22 => 81 | 23 => 82 | 24 => 83 | 25 => 84 | 26 => 85 | 27 => 86 | 46 => 92 | 47 => 93 | 48 => 94 | 49 => 95 | 50 => 96 | 57 => 98 | n => n, fun | 22 => 38 | 24 => 9 | 25 => 96 | 3 => 3 | 39 => 105 | 0 => 0 | 53 => 116 | 55 => 118 | 4 => 4 | 46 => 110 | 45 => 109 | 50 => 67 | 5 => 5 | 9 => 9 | 66 => 121 | 70 => 125 | 76 => 127 | 77 => 128 | n => n, fun | n => n⟩
theorem Try.laysSlF06_f64 : Go.Proofs.SlLaysF0.n6 Try.prog Try.laysSlF06_f64_ren := {
  mixed := by kernel_rfl
  f6 := ⟨Try.f64.name, by decide, Try.func64.trans (congrArg some (by kernel_rfl))⟩
  f14 := ⟨Try.f73.name, by decide, Try.func73.trans (congrArg some (by kernel_rfl))⟩
  f15 := Try.func74.trans (congrArg some (by kernel_rfl))
  f20 := ⟨Try.f79.name, by decide, Try.func79.trans (congrArg some (by kernel_rfl))⟩
  f21 := ⟨Try.f80.name, by decide, Try.func80.trans (congrArg some (by kernel_rfl))⟩
  f22 := ⟨Try.f81.name, by decide, Try.func81.trans (congrArg some (by kernel_rfl))⟩
  f23 := ⟨Try.f82.name, by decide, Try.func82.trans (congrArg some (by kernel_rfl))⟩
  f24 := ⟨Try.f83.name, by decide, Try.func83.trans (congrArg some (by kernel_rfl))⟩
  f25 := ⟨Try.f84.name, by decide, Try.func84.trans (congrArg some (by kernel_rfl))⟩
  f26 := ⟨Try.f85.name, by decide, Try.func85.trans (congrArg some (by kernel_rfl))⟩
  f27 := ⟨Try.f86.name, by decide, Try.func86.trans (congrArg some (by kernel_rfl))⟩
  f28 := Try.func87.trans (congrArg some (by kernel_rfl))
  f29 := Try.func88.trans (congrArg some (by kernel_rfl))
  f46 := ⟨Try.f92.name, by decide, Try.func92.trans (congrArg some (by kernel_rfl))⟩
  f47 := Try.func93.trans (congrArg some (by kernel_rfl))
  f48 := Try.func94.trans (congrArg some (by kernel_rfl))
  f49 := ⟨Try.f95.name, by decide, Try.func95.trans (congrArg some (by kernel_rfl))⟩
  f50 := ⟨Try.f96.name, by decide, Try.func96.trans (congrArg some (by kernel_rfl))⟩
  f57 := ⟨Try.f98.name, by decide, Try.func98.trans (congrArg some (by kernel_rfl))⟩
  t0 := Try.underlying0
  a0 := Try.isAgg0
  z0 := Try.sizeOf0
  v0 := Try.zeroValue0
  t3 := Try.underlying3
  a3 := Try.isAgg3
  z3 := Try.sizeOf3
  v3 := Try.zeroValue3
  t4 := Try.underlying4
  a4 := Try.isAgg4
  z4 := Try.sizeOf4
  v4 := Try.zeroValue4
  t5 := Try.underlying5
  a5 := Try.isAgg5
  z5 := Try.sizeOf5
  v5 := Try.zeroValue5
  t9 := Try.underlying9
  a9 := Try.isAgg9
  z9 := Try.sizeOf9
  v9 := Try.zeroValue9
  t22 := Try.underlying38
  a22 := Try.isAgg38
  z22 := Try.sizeOf38
  v22 := Try.zeroValue38
  t25 := Try.underlying96
  a25 := Try.isAgg96
  z25 := Try.sizeOf96
  v25 := Try.zeroValue96
  t39 := Try.underlying105
  a39 := Try.isAgg105
  z39 := Try.sizeOf105
  v39 := Try.zeroValue105
  t45 := Try.underlying109
  a45 := Try.isAgg109
  z45 := Try.sizeOf109
  v45 := Try.zeroValue109
  t46 := Try.underlying110
  a46 := Try.isAgg110
  z46 := Try.sizeOf110
  v46 := Try.zeroValue110
  t50 := Try.underlying67
  a50 := Try.isAgg67
  z50 := Try.sizeOf67
  v50 := Try.zeroValue67
  t53 := Try.underlying116
  a53 := Try.isAgg116
  z53 := Try.sizeOf116
  v53 := Try.zeroValue116
  t55 := Try.underlying118
  a55 := Try.isAgg118
  z55 := Try.sizeOf118
  v55 := Try.zeroValue118
  t66 := Try.underlying121
  a66 := Try.isAgg121
  z66 := Try.sizeOf121
  v66 := Try.zeroValue121
  t70 := Try.underlying125
  a70 := Try.isAgg125
  z70 := Try.sizeOf125
  v70 := Try.zeroValue125
  t76 := Try.underlying127
  a76 := Try.isAgg127
  z76 := Try.sizeOf127
  v76 := Try.zeroValue127
  t77 := Try.underlying128
  a77 := Try.isAgg128
  z77 := Try.sizeOf128
  v77 := Try.zeroValue128 }
open Go.RowKit Go.Lib Go.Sort in
theorem Try.slices_SortFunc_none {α : Type} [Inhabited α] (p : Option Addr) (cap : Nat) (fv : Value) (w : World) :
    Calls Try.prog 64 #[.slice p 0 cap, fv] w fun e w' => e = .returned (.tuple #[]) ∧ w' = w := AnyF.slices_SortFunc_none Try.laysSlF06_f64 p cap fv w
end Go.Proofs
namespace Go.Proofs.Ytocdoddmaopdbaa
namespace Sp
theorem ltL_irrefl : ∀ l : List UInt8, ltL l l = false
  | [] => rfl
  | a :: l => by simp [ltL, ltL_irrefl l]
theorem ltL_trans : ∀ x y z : List UInt8, ltL x y = true → ltL y z = true → ltL x z = true
  | _, [], [], _, h => by simp [ltL] at h
  | _, _ :: _, [], _, h => by simp [ltL] at h
  | [], [], _ :: _, h, _ => by simp [ltL] at h
  | _ :: _, [], _ :: _, h, _ => by simp [ltL] at h
  | [], _ :: _, _ :: _, _, _ => rfl
  | a :: x, b :: y, c :: z, h1, h2 => by
    simp only [ltL, Bool.or_eq_true, Bool.and_eq_true, decide_eq_true_eq, beq_iff_eq] at h1 h2 ⊢
    rcases h1 with h1 | ⟨rfl, h1⟩
    · rcases h2 with h2 | ⟨rfl, h2⟩
      · exact .inl (UInt8.lt_trans h1 h2)
      · exact .inl h1
    · rcases h2 with h2 | ⟨rfl, h2⟩
      · exact .inl h2
      · exact .inr ⟨rfl, ltL_trans x y z h1 h2⟩
theorem ltL_total : ∀ x y : List UInt8, x ≠ y → ltL x y = true ∨ ltL y x = true
  | [], [], h => absurd rfl h
  | [], _ :: _, _ => .inl rfl
  | _ :: _, [], _ => .inr rfl
  | a :: x, b :: y, h => by
    simp only [ltL, Bool.or_eq_true, Bool.and_eq_true, decide_eq_true_eq, beq_iff_eq]
    by_cases e : a = b
    · subst e
      have hn : x ≠ y := fun e => h (by rw [e])
      rcases ltL_total x y hn with h | h
      · exact .inl (.inr ⟨rfl, h⟩)
      · exact .inr (.inr ⟨rfl, h⟩)
    · rcases UInt8.lt_or_lt_of_ne e with h | h
      · exact .inl (.inl h)
      · exact .inr (.inl h)
theorem bytes_ext {s t : ByteArray} (h : s.data.toList = t.data.toList) : s = t := by
  cases s; cases t; simp only [Array.toList_inj] at h; rw [h]
theorem less_irrefl (a : ByteArray) : less a a = false := by simp [less, ltL_irrefl]
theorem less_trans (a b c : ByteArray) (h1 : less a b = true) (h2 : less b c = true) : less a c = true := by
  simp only [less, Bool.or_eq_true, Bool.and_eq_true, decide_eq_true_eq, beq_iff_eq] at h1 h2 ⊢
  rcases h1 with h1 | ⟨e1, h1⟩ <;> rcases h2 with h2 | ⟨e2, h2⟩
  · exact .inl (by omega)
  · exact .inl (by omega)
  · exact .inl (by omega)
  · exact .inr ⟨by omega, ltL_trans _ _ _ h1 h2⟩
theorem less_total (a b : ByteArray) (h : a ≠ b) : less a b = true ∨ less b a = true := by
  simp only [less, Bool.or_eq_true, Bool.and_eq_true, decide_eq_true_eq, beq_iff_eq]
  rcases Nat.lt_trichotomy a.size b.size with h1 | h1 | h1
  · exact .inl (.inl h1)
  · rcases ltL_total a.data.toList b.data.toList (fun e => h (bytes_ext e)) with h2 | h2
    · exact .inl (.inr ⟨h1, h2⟩)
    · exact .inr (.inr ⟨h1.symm, h2⟩)
  · exact .inr (.inl h1)
theorem less_asymm (a b : ByteArray) (h : less a b = true) : less b a = false := by
  rw [← Bool.not_eq_true]
  intro h2
  have := less_trans a b a h h2
  rw [less_irrefl] at this
  cases this
theorem not_less_iff (a b : ByteArray) : less a b = false ↔ (a = b ∨ less b a = true) := by
  constructor
  · intro h
    by_cases e : a = b
    · exact .inl e
    · rcases less_total a b e with h2 | h2
      · rw [h] at h2; cases h2
      · exact .inr h2
  · rintro (rfl | h)
    · exact less_irrefl a
    · exact less_asymm b a h
def Sorted (l : List ByteArray) : Prop := l.Pairwise fun a b => less a b = true
theorem sorted_ext : ∀ l m : List ByteArray, Sorted l → Sorted m → (∀ x, x ∈ l ↔ x ∈ m) → l = m
  | [], [], _, _, _ => rfl
  | [], b :: m, _, _, h => absurd ((h b).2 List.mem_cons_self) (by simp)
  | a :: l, [], _, _, h => absurd ((h a).1 List.mem_cons_self) (by simp)
  | a :: l, b :: m, hl, hm, h => by
    obtain ⟨ha, hl'⟩ := List.pairwise_cons.1 hl
    obtain ⟨hb, hm'⟩ := List.pairwise_cons.1 hm
    have hab : a = b := by
      rcases List.mem_cons.1 ((h a).1 List.mem_cons_self) with e | e
      · exact e
      · rcases List.mem_cons.1 ((h b).2 List.mem_cons_self) with e' | e'
        · exact e'.symm
        · have h1 := hb a e
          have h2 := less_asymm _ _ (ha b e')
          rw [h1] at h2
          cases h2
    subst hab
    congr 1
    refine sorted_ext l m hl' hm' fun x => ?_
    have hx := h x
    simp only [List.mem_cons] at hx
    constructor
    · intro hxl
      rcases hx.1 (.inr hxl) with e | e
      · subst e
        have := ha _ hxl
        rw [less_irrefl] at this
        cases this
      · exact e
    · intro hxm
      rcases hx.2 (.inr hxm) with e | e
      · subst e
        have := hb _ hxm
        rw [less_irrefl] at this
        cases this
      · exact e
def insS (l : List ByteArray) (s : ByteArray) : List ByteArray :=
  let p := l.takeWhile fun x => less x s
  let q := l.dropWhile fun x => less x s
  if q.head? = some s then l else p ++ s :: q
def mergeS (a b : List ByteArray) : List ByteArray := (a ++ b).foldl insS []
theorem insS_mem (l : List ByteArray) (s x : ByteArray) : x ∈ insS l s ↔ x = s ∨ x ∈ l := by
  unfold insS
  have hl : l.takeWhile (fun x => less x s) ++ l.dropWhile (fun x => less x s) = l := List.takeWhile_append_dropWhile
  simp only
  split
  · rename_i h
    constructor
    · exact .inr
    · rintro (rfl | h')
      · rw [← hl, List.mem_append]
        exact .inr (List.mem_of_mem_head? (by rw [h]; rfl))
      · exact h'
  · rw [List.mem_append, List.mem_cons]
    conv => rhs; rw [← hl, List.mem_append]
    constructor
    · rintro (h | h | h)
      · exact .inr (.inl h)
      · exact .inl h
      · exact .inr (.inr h)
    · rintro (h | h | h)
      · exact .inr (.inl h)
      · exact .inl h
      · exact .inr (.inr h)
theorem dropWhile_head {α : Type} (p : α → Bool) : ∀ (l : List α) (x : α), (l.dropWhile p).head? = some x → p x = false
  | [], _, h => by simp at h
  | a :: l, x, h => by
    rw [List.dropWhile_cons] at h
    split at h
    · exact dropWhile_head p l x h
    · rename_i hp
      simp only [List.head?_cons, Option.some.injEq] at h
      subst h
      simpa using hp
theorem takeWhile_all {α : Type} (p : α → Bool) : ∀ (l : List α) (x : α), x ∈ l.takeWhile p → p x = true
  | a :: l, x, h => by
    rw [List.takeWhile_cons] at h
    split at h
    · rename_i hp
      rcases List.mem_cons.1 h with e | e
      · rw [e]; exact hp
      · exact takeWhile_all p l x e
    · cases h
theorem insS_sorted (l : List ByteArray) (s : ByteArray) (h : Sorted l) : Sorted (insS l s) := by
  unfold insS
  have hl : l.takeWhile (fun x => less x s) ++ l.dropWhile (fun x => less x s) = l := List.takeWhile_append_dropWhile
  simp only
  split
  · exact h
  · rename_i hne
    rw [Sorted, ← hl, List.pairwise_append] at h
    obtain ⟨h1, h2, h3⟩ := h
    rw [Sorted, List.pairwise_append]
    have hq : ∀ y ∈ l.dropWhile (fun x => less x s), less s y = true := by
      cases hd : l.dropWhile (fun x => less x s) with
      | nil => intro y hy; cases hy
      | cons z q =>
        rw [hd] at h2 hne
        have hz := dropWhile_head (fun x => less x s) l z (by rw [hd]; rfl)
        have hzs : less s z = true := by
          rcases (not_less_iff z s).1 hz with e | e
          · subst e; simp at hne
          · exact e
        intro y hy
        rcases List.mem_cons.1 hy with e | e
        · rw [e]; exact hzs
        · exact less_trans _ _ _ hzs ((List.pairwise_cons.1 h2).1 y e)
    refine ⟨h1, List.pairwise_cons.2 ⟨hq, h2⟩, fun a ha b hb => ?_⟩
    have has := takeWhile_all _ l a ha
    rcases List.mem_cons.1 hb with e | e
    · rw [e]; exact has
    · exact less_trans _ _ _ has (hq b e)
theorem fold_mem : ∀ (m l : List ByteArray) (x : ByteArray), x ∈ m.foldl insS l ↔ x ∈ l ∨ x ∈ m
  | [], l, x => by simp
  | s :: m, l, x => by
    rw [List.foldl_cons, fold_mem m, insS_mem, List.mem_cons]
    constructor
    · rintro ((h | h) | h)
      · exact .inr (.inl h)
      · exact .inl h
      · exact .inr (.inr h)
    · rintro (h | h | h)
      · exact .inl (.inr h)
      · exact .inl (.inl h)
      · exact .inr h
theorem fold_sorted : ∀ (m l : List ByteArray), Sorted l → Sorted (m.foldl insS l)
  | [], _, h => h
  | s :: m, l, h => fold_sorted m _ (insS_sorted l s h)
theorem mergeS_sorted (a b : List ByteArray) : Sorted (mergeS a b) := fold_sorted _ _ List.Pairwise.nil
theorem mergeS_mem (a b : List ByteArray) (x : ByteArray) : x ∈ mergeS a b ↔ x ∈ a ∨ x ∈ b := by
  unfold mergeS
  rw [fold_mem, List.mem_append]
  simp
theorem mergeS_eq (a b l : List ByteArray) (h : Sorted l) (hm : ∀ x, x ∈ l ↔ x ∈ a ∨ x ∈ b) : mergeS a b = l :=
  sorted_ext _ _ (mergeS_sorted a b) h fun x => (mergeS_mem a b x).trans (hm x).symm
theorem insS_len (l : List ByteArray) (s : ByteArray) : (insS l s).length ≤ l.length + 1 := by
  unfold insS
  simp only
  split
  · omega
  · have hl : l.takeWhile (fun x => less x s) ++ l.dropWhile (fun x => less x s) = l := List.takeWhile_append_dropWhile
    have := congrArg List.length hl
    rw [List.length_append] at this
    simp only [List.length_append, List.length_cons]
    omega
theorem fold_len : ∀ (m l : List ByteArray), (m.foldl insS l).length ≤ l.length + m.length
  | [], l => by simp
  | s :: m, l => by
    rw [List.foldl_cons]
    have h1 := fold_len m (insS l s)
    have h2 := insS_len l s
    simp only [List.length_cons]
    omega
theorem mergeS_len (a b : List ByteArray) : (mergeS a b).length ≤ a.length + b.length := by
  have := fold_len (a ++ b) []
  rw [List.length_append] at this
  simp only [List.length_nil, Nat.zero_add] at this
  exact this
end Sp
end Go.Proofs.Ytocdoddmaopdbaa
namespace Go.Proofs.Ytocdoddmaopdbaa
open Go.RowKit Sp
def enI (x : Int) : List Value := [.int .i64 x]
def enS (s : ByteArray) : List Value := [.string s]
theorem enI_len (x : Int) : (enI x).length = 1 := rfl
theorem enS_len (x : ByteArray) : (enS x).length = 1 := rfl
theorem enS_one (x : ByteArray) : ∀ u ∈ enS x, u.oneCell' = true := fun u hu => by rw [enS, List.mem_singleton] at hu; rw [hu]; rfl
theorem compareBytes_neg : ∀ x y : List UInt8, (Lib.compareBytes x y < 0) = (ltL x y = true)
  | [], [] => by simp [Lib.compareBytes, ltL]
  | [], _ :: _ => by simp [Lib.compareBytes, ltL]
  | _ :: _, [] => by simp [Lib.compareBytes, ltL]
  | a :: x, b :: y => by
    simp only [Lib.compareBytes, ltL]
    by_cases h : a < b
    · rw [if_pos h]; simp [h]
    · rw [if_neg h]
      by_cases h2 : b < a
      · rw [if_pos h2]
        have hne : (a == b) = false := by
          rw [beq_eq_false_iff_ne]
          rintro rfl
          exact UInt8.lt_irrefl _ h2
        simp [h, hne]
      · rw [if_neg h2]
        have he : a = b := by
          by_cases e : a = b
          · exact e
          · rcases UInt8.lt_or_lt_of_ne e with e | e
            · exact absurd e h
            · exact absurd e h2
        subst he
        simp [compareBytes_neg x y]
def cmpS (a b : ByteArray) : Int := if Lib.compareInt a.size b.size ≠ 0 then Lib.compareInt a.size b.size else Lib.compareBytes a.data.toList b.data.toList
theorem cmpS_neg (a b : ByteArray) : decide (cmpS a b < 0) = less a b := by
  unfold cmpS less Lib.compareInt
  rcases Nat.lt_trichotomy a.size b.size with h | h | h
  · simp [h]
  · simp [h, compareBytes_neg]
  · have h1 : ¬ a.size < b.size := by omega
    have h2 : ¬ a.size = b.size := by omega
    have h3 : ¬ ((a.size : Int) < b.size) := by omega
    have h4 : ((b.size : Int) < a.size) := by omega
    simp [h1, h2, h4]
def orL : List Int → Int
  | [] => 0
  | x :: l => if x ≠ 0 then x else orL l
theorem orL_two (x y : Int) : orL [x, y] = if x ≠ 0 then x else y := by
  by_cases h : x = 0 <;> by_cases h2 : y = 0 <;> simp [orL, h, h2]
theorem orL_drop (xs : List Int) (k : Nat) (h : k < xs.length) : orL (xs.drop k) = if xs[k] ≠ 0 then xs[k] else orL (xs.drop (k + 1)) := by
  rw [List.drop_eq_getElem_cons h]; rfl
set_option maxRecDepth 100000 in
theorem cmpOr_calls (A : Option Addr) (n c : Nat) (xs : List Int) (w : World) (h : Row enI 1 w (.slice A n c) xs) (hn : n ≤ 100) :
    Calls Try.prog 75 #[.slice A n c] w fun e w' => e = .returned (.int .i64 (orL xs)) ∧ w = w' := by
  have hl := h.len_eq
  have HL := Lib.hid hl
  clear hl
  go_enter Try.func75, Try.ntmps75
  go_wp2
  go_loop [8] (fun v8 => ∃ k : Nat, v8 = .int .i64 k ∧ k ≤ n ∧ Hid (orL (xs.drop k) = orL xs)) (fun v8 => (n - intOf v8).toNat)
  case atStart => exact ⟨0, rfl, Nat.zero_le _, by show _ = _; rw [List.drop_zero]⟩
  case round =>
    obtain ⟨k, rfl, hk, HF⟩ := hrel
    by_cases hlt : k < n
    · have hk' : k < xs.length := by have := HL.out; omega
      obtain ⟨ad, rfl, hc⟩ := h.get1 (f := Value.int .i64) k hk'
      have hd := orL_drop xs k hk'
      obtain ⟨x, hx⟩ : ∃ x, xs[k] = x := ⟨_, rfl⟩
      rw [hx] at hc hd
      clear hx
      rw [HF.out] at hd
      by_cases h0 : x = 0
      · have hb : (x != 0) = false := by simp [h0]
        have HF2 : Hid (orL (xs.drop (k + 1)) = orL xs) := by rw [hd, if_neg (by simp [h0])]; rfl
        clear h0 hd
        go_wp2
        go_round
        case rel => exact ⟨k + 1, by go_num, by omega, HF2⟩
        case measure => simp [intOf]; omega
      · have hb : (x != 0) = true := by simp [h0]
        have HF2 : Hid (orL xs = x) := by rw [hd, if_pos h0]; rfl
        clear h0 hd
        go_wp2
        go_ret
        exact ⟨ret_int HF2.out.symm, rfl⟩
    · have HF2 : Hid (orL xs = 0) := by
        have := HF.out
        rw [List.drop_eq_nil_of_le (by have := HL.out; omega)] at this
        exact this.symm
      go_wp2
      go_ret
      exact ⟨ret_int HF2.out.symm, rfl⟩
set_option maxRecDepth 100000 in
theorem compare_exact (a b : ByteArray) (w : World) :
    Calls Try.prog 65 #[.string a, .string b] w fun e w' => e = .returned (.int .i64 (cmpS a b)) ∧ ∃ o, w' = w.alloc o := by
  have hfin : orL [Lib.compareInt a.size b.size, Lib.compareBytes a.data.toList b.data.toList] = cmpS a b := by
    unfold cmpS
    exact orL_two _ _
  have HF := Lib.hid hfin
  clear hfin
  go_enter Try.func65, Try.ntmps65
  go_wp2_with fail
  refine (Try.cmp_Compare_int _ _ _).mono ?_
  rintro e w1 ⟨rfl, rfl⟩
  go_wp2_with fail
  refine (Try.strings_Compare _ _ _).mono ?_
  rintro e w1 ⟨rfl, rfl⟩
  go_wp2_with fail
  refine (cmpOr_calls _ 2 2 [Lib.compareInt a.size b.size, Lib.compareBytes a.data.toList b.data.toList] _ (Own.lit (base := 0) enI_len w1 _ _ 2 rfl rfl (Nat.zero_le _) (by omega)).row (by omega)).mono ?_
  rintro e w2 ⟨rfl, rfl⟩
  go_wp2
  go_ret
  exact ⟨ret_int HF.out, _, rfl⟩
theorem compare_calls (a b : ByteArray) (w : World) :
    Calls Try.prog 65 #[.string a, .string b] w fun e w' => e = .returned (.int .i64 (cmpS a b)) ∧ Below w.heap.size w w' :=
  (compare_exact a b w).mono fun _ _ ⟨he, o, hw⟩ => ⟨he, by rw [hw]; exact (Below.refl _ _).alloc (Nat.le_refl _) _⟩
set_option maxRecDepth 100000 in
theorem Less_calls (a b : ByteArray) (w : World) :
    Calls Try.prog 67 #[.string a, .string b] w fun e w' => e = .returned (.bool (less a b)) ∧ Below w.heap.size w w' := by
  go_enter Try.func67, Try.ntmps67
  go_wp2_with fail
  refine (compare_calls a b _).mono ?_
  rintro e w1 ⟨rfl, hb1⟩
  go_wp2
  go_ret
  exact ⟨ret_bool (cmpS_neg a b), hb1⟩
end Go.Proofs.Ytocdoddmaopdbaa
namespace Go.Proofs.Ytocdoddmaopdbaa
open Go.RowKit Go.ChangeShapes Go.WideShapes
def enK (k : IntKind) (z : Int) : List Value := [.int k z]
theorem flat_one {α : Type} (f : α → Value) (l : List α) : l.flatMap (fun x => [f x]) = l.map f := by
  induction l with
  | nil => rfl
  | cons a l ih => simp [ih]
theorem row_of_cells {α : Type} (f : α → Value) (d : α) (w : World) (a : Addr) (n c : Nat) (l : List α) (hn : n ≤ c) (hc : c ≤ maxLen) (hl : l.length = c) (h : ∀ i, i < l.length → w.cell? (a.add i) = some (f (l.getD i d))) :
    Row (fun x => [f x]) 1 w (.slice (some a) n c) (l.take n) := by
  have hlen : (l.take n).length = n := by simp; omega
  refine ⟨some a, c, by rw [hlen], by omega, hc, by rw [flat_one]; simp, fun _ => ⟨a, rfl, fun j u hj => ?_⟩⟩
  rw [flat_one, List.getElem?_map] at hj
  obtain ⟨x, hx, rfl⟩ := Option.map_eq_some_iff.mp hj
  have hjl : j < (l.take n).length := by
    rcases Nat.lt_or_ge j (l.take n).length with h | h
    · exact h
    · rw [List.getElem?_eq_none h] at hx; cases hx
  rw [h j (by omega)]
  rw [List.getElem?_take] at hx
  split at hx
  · rw [List.getD_eq_getElem?_getD, hx]; rfl
  · cases hx
section
variable {H : Type} {enc : TypeId × Value → H} {P : Program} {w : World}
theorem ints_row {t e : TypeId} {k : IntKind} {a : Option Addr} {n c : Nat} {d : DataW H} {p : List MemPlace} (ht : P.underlying t = some (.slice e)) (he : P.underlying e = some (.int k)) (hc : P.cellsOf e = 1)
    (h : DataW.Trod enc P w 0 (fun _ => true) true t (.slice a n c) d p) : ∃ l, Row (enK k) 1 w (.slice a n c) l ∧ ∀ z ∈ l, (Lit.int k z).wf = true := by
  obtain ⟨fuel, hf⟩ := h
  rcases open_ints ht he hc hf with ⟨hcs, _⟩ | ⟨x, l, c', ss, hcs, _, hl, hm, hz, _, hcell, hw⟩
  · simp [Value.cells] at hcs
    obtain ⟨rfl, rfl, rfl⟩ := hcs
    exact ⟨[], Row.nil _ _ _, by simp⟩
  · simp [Value.cells] at hcs
    obtain ⟨rfl, rfl, rfl⟩ := hcs
    exact ⟨ss.take n, row_of_cells (Value.int k) _ w _ _ _ ss hl hm (by simpa using hz) hcell, fun s hs => hw s (List.mem_of_mem_take hs)⟩
end
end Go.Proofs.Ytocdoddmaopdbaa
namespace Go.Proofs.Ytocdoddmaopdbaa
open Go.RowKit
theorem below_alloc0 {w w1 : World} (h : Below w.heap.size w w1) (o : Obj) : Below w.heap.size w (w1.alloc o) := h.alloc h.size o
theorem below_box {w : World} (o : Obj) : Below w.heap.size w (w.alloc o) := below_alloc0 (Below.refl _ _) o
theorem bset {B : Nat} {a w : World} (h : Below B a w) (g o : Nat) (v : Value) (hg : B ≤ g) : Below B a (w.setCell ⟨g, o, none⟩ v) := h.setCell (p := ⟨g, o, none⟩) hg v
theorem hcall {W W' : World} {g : Nat} {o : Obj} (h : W.heap[g]? = some o) (b : Below W.heap.size W W') : W'.heap[g]? = some o := (b.block g (Array.getElem?_eq_some_iff.1 h).1).trans h
theorem halloc {W : World} {g : Nat} {o : Obj} (h : W.heap[g]? = some o) (x : Obj) : (W.alloc x).heap[g]? = some o := (Below.heap_alloc _ _ _ (Array.getElem?_eq_some_iff.1 h).1).trans h
theorem size_alloc (w : World) (o : Obj) : (w.alloc o).heap.size = w.heap.size + 1 := Array.size_push ..
end Go.Proofs.Ytocdoddmaopdbaa
namespace Go.Proofs.Ytocdoddmaopdbaa
open Go.RowKit
structure Kept (P : World → Prop) : Prop where
  below : ∀ {w w1 : World}, P w → Below w.heap.size w w1 → P w1
  drew : ∀ {w : World}, P w → P w.drew
theorem Kept.row {α : Type} {enc : α → List Value} {k : Nat} {v : Value} {xs : List α} : Kept (fun w => Row enc k w v xs) := ⟨fun h b => h.below b, fun h => h⟩
theorem Kept.own {α : Type} {enc : α → List Value} {k : Nat} {e : TypeId} {base : Nat} {v : Value} {xs : List α} : Kept (fun w => Own enc k e w base v xs) := ⟨fun h b => h.below b, fun h => h⟩
theorem Kept.heap {g : Nat} {o : Obj} : Kept (fun w => w.heap[g]? = some o) := ⟨fun h b => hcall h b, fun h => h⟩
theorem Kept.cell {a : Addr} {v : Value} : Kept (fun w => w.cell? a = some v) := ⟨fun h b => cell_below b h, fun h => h⟩
theorem Kept.lt {n : Nat} : Kept (fun w => n < w.heap.size) := ⟨fun h b => Nat.lt_of_lt_of_le h b.size, fun h => h⟩
theorem Kept.and {P Q : World → Prop} (h : Kept P) (k : Kept Q) : Kept (fun w => P w ∧ Q w) := ⟨fun x b => ⟨h.below x.1 b, k.below x.2 b⟩, fun x => ⟨h.drew x.1, k.drew x.2⟩⟩
theorem Kept.alloc {P : World → Prop} (h : Kept P) {w : World} (x : P w) (o : Obj) : P (w.alloc o) := h.below x (below_box o)
end Go.Proofs.Ytocdoddmaopdbaa
namespace Go.Proofs.Ytocdoddmaopdbaa
open Go.RowKit Go.WideMaps Go.Maps Sp
abbrev agPk (p q : ByteArray) : Value := .agg #[.string p, .string q]
def keyP (p q : ByteArray) : Lit := .string (keyBytes [.string p.data.toList, .string q.data.toList])
theorem laidP : laidOutB Try.prog = true := by kernel_rfl
theorem arrP : ArrKey Try.prog 56 9 2 := ⟨Try.underlying56, by kernel_rfl, by kernel_rfl, by kernel_rfl⟩
theorem mapLawP : Keyed Try.prog 56 := Keyed.of_law (deep_law_laid laidP (m := 4) (by decide) (of_decide_eq_true (by kernel_rfl)) (by kernel_rfl) (by kernel_rfl))
theorem typesP : ∃ m, Try.prog.types.size = m + 1 := ⟨Try.prog.types.size - 1, by have : Try.prog.types.size ≠ 0 := of_decide_eq_true (by kernel_rfl); omega⟩
theorem keyOfP (p q : ByteArray) (hp : p.size ≤ maxLen) (hq : q.size ≤ maxLen) : keyOf Try.prog 56 (agPk p q) = some (keyP p q) := by
  have A := arrP
  have he := Try.underlying9
  have hkt := A.keyType typesP
  obtain ⟨m, hm⟩ := typesP
  unfold keyOf keyP
  simp only [A.hu]
  rw [if_pos (by simp [hkt, Value.formed, A.hu, A.size]), hm]
  unfold Program.keyLits
  simp only [A.hu, Value.cells]
  rw [if_pos (by rw [A.size]; rfl), show List.range 2 = [0, 1] from rfl, List.mapM_cons, List.mapM_cons, List.mapM_nil]
  simp [A.one, Program.keyLits, he, hp, hq]
theorem lit_str {P : Program} {e : TypeId} (he : P.underlying e = some .string) {m : Nat} {x : Value} {ls : List Lit} (h : P.keyLits (m + 1) e [x] = some ls) : ∃ s : ByteArray, x = .string s ∧ s.size ≤ maxLen ∧ ls = [.string s.data.toList] := by
  unfold Program.keyLits at h
  rw [he] at h
  cases x <;> simp at h
  exact ⟨_, rfl, h.1, h.2.symm⟩
theorem keyOf_inv2 {P : Program} {k e : TypeId} (A : ArrKey P k e 2) (he : P.underlying e = some .string) (hs : ∃ m, P.types.size = m + 1) {v : Value} {kl : Lit} (h : keyOf P k v = some kl) :
    ∃ p q : ByteArray, v = agPk p q ∧ kl = keyP p q ∧ p.size ≤ maxLen ∧ q.size ≤ maxLen := by
  have hkt := A.keyType hs
  obtain ⟨m, hm⟩ := hs
  unfold keyOf at h
  simp only [A.hu] at h
  split at h
  · rename_i hf
    rw [Bool.and_eq_true] at hf
    have hf2 := hf.2
    cases v with
    | agg cs =>
      simp only [Value.formed, A.hu, A.size, beq_iff_eq] at hf2
      obtain ⟨l⟩ := cs
      simp only [List.size_toArray] at hf2
      match l, hf2 with
      | [x, y], _ =>
        rw [hm] at h
        unfold Program.keyLits at h
        simp only [A.hu, Value.cells] at h
        rw [if_pos (by rw [A.size]; rfl), show List.range 2 = [0, 1] from rfl, List.mapM_cons, List.mapM_cons, List.mapM_nil] at h
        simp only [A.one] at h
        simp only [Option.map_eq_some_iff] at h
        obtain ⟨ls, ⟨lss, h, rfl⟩, rfl⟩ := h
        cases h1 : P.keyLits (m + 1) e [x] with
        | none => simp [h1] at h
        | some l1 =>
          cases h2 : P.keyLits (m + 1) e [y] with
          | none => simp [h1, h2] at h
          | some l2 =>
            simp [h1, h2] at h
            obtain ⟨p, rfl, hp, rfl⟩ := lit_str he h1
            obtain ⟨q, rfl, hq, rfl⟩ := lit_str he h2
            subst h
            exact ⟨p, q, rfl, rfl, hp, hq⟩
    | _ => simp [Value.formed, A.hu] at hf2
  · cases h
theorem keyOfP_inv {v : Value} {kl : Lit} (h : keyOf Try.prog 56 v = some kl) : ∃ p q : ByteArray, v = agPk p q ∧ kl = keyP p q ∧ p.size ≤ maxLen ∧ q.size ≤ maxLen := keyOf_inv2 arrP Try.underlying9 typesP h
theorem keyP_key (p q : ByteArray) : WideAt.IsKeyLit (keyP p q) := trivial
theorem keyP_inj {p q p' q' : ByteArray} (hp : p.size ≤ maxLen) (hq : q.size ≤ maxLen) (hp' : p'.size ≤ maxLen) (hq' : q'.size ≤ maxLen) (e : keyP p q = keyP p' q') : p = p' ∧ q = q' := by
  have h1 := keyOfP p q hp hq
  have h2 := keyOfP p' q' hp' hq'
  rw [← e] at h2
  have h3 := mapLawP.inj h1 h2
  injection h3 with h3
  injection h3 with h3
  injection h3 with h4 h5
  injection h4 with h4
  injection h5 with h5 h6
  injection h5 with h5
  exact ⟨h4, h5⟩
theorem boolP_inv0 {H : Type} {P : Program} {e : TypeId} (he : P.underlying e = some .bool) {v : Value} {z : DataW H × List MemPlace} (h : plainElem P e v = some z) : ∃ x, v = .bool x ∧ z = (.lit (.bool x), []) := by
  unfold plainElem at h
  rw [he] at h
  cases v <;> simp at h
  exact ⟨_, rfl, h.symm⟩
theorem boolP_inv {H : Type} {v : Value} {z : DataW H × List MemPlace} (h : plainElem Try.prog 4 v = some z) : ∃ x, v = .bool x ∧ z = (.lit (.bool x), []) := boolP_inv0 Try.underlying4 h
theorem zeroBoolP (w : World) : (zeroValue 4).run Try.prog w = .ok (.bool false) w := by kernel_rfl
def BMap (w : World) (b n : Nat) (S : ByteArray → ByteArray → Bool) (m : Nat) : Prop :=
  ∃ D : DataW Unit, w.ownsMap Try.prog 56 (plainElem Try.prog 4) b n D ∧ (∀ p q : ByteArray, p.size ≤ maxLen → q.size ≤ maxLen → Maps.has D (keyP p q) = S p q) ∧
    (∀ kl z, Maps.has D kl = true → D.atKey kl z = .lit (.bool true)) ∧ Maps.size D = m
theorem BMap.new (w : World) : BMap (w.alloc (.map #[] 0)) w.heap.size 0 (fun _ _ => false) 0 := ⟨_, World.ownsMap_made _ _ _ _, fun _ _ _ _ => rfl, fun _ _ h => by simp [Maps.has] at h, rfl⟩
theorem BMap.kept {w w1 : World} {b n m : Nat} {S : ByteArray → ByteArray → Bool} {row : Option Nat} (h : BMap w b n S m) (hg : w.grownBy w1 row) (hne : some b ≠ row) : BMap w1 b n S m := by
  obtain ⟨D, h1, h2⟩ := h
  exact ⟨D, h1.kept hg hne, h2⟩
theorem BMap.below {w w1 : World} {b n m : Nat} {S : ByteArray → ByteArray → Bool} (h : BMap w b n S m) (hb : Below w.heap.size w w1) : BMap w1 b n S m := h.kept (grown_of_below hb none) (by simp)
theorem BMap.mono {w : World} {b n n' m : Nat} {S : ByteArray → ByteArray → Bool} (h : BMap w b n S m) (hn : n ≤ n') : BMap w b n' S m := by
  obtain ⟨D, h1, h2⟩ := h
  exact ⟨D, h1.mono hn, h2⟩
theorem BMap.set {w : World} {b n m : Nat} {S T : ByteArray → ByteArray → Bool} (h : BMap w b n S m) (hs : ∀ p q : ByteArray, p.size ≤ maxLen → q.size ≤ maxLen → S p q = T p q) : BMap w b n T m := by
  obtain ⟨D, h1, h2, h3⟩ := h
  exact ⟨D, h1, fun p q hp hq => (h2 p q hp hq).trans (hs p q hp hq), h3⟩
theorem BMap.isMap {w : World} {b n m : Nat} {S : ByteArray → ByteArray → Bool} (h : BMap w b n S m) : ∃ es c, w.heap[b]? = some (.map es c) := by
  obtain ⟨D, ⟨es, c, h1, _⟩, _⟩ := h
  exact ⟨es, c, h1⟩
theorem BMap.look {w : World} {b n m : Nat} {S : ByteArray → ByteArray → Bool} (h : BMap w b n S m) (p q : ByteArray) (hp : p.size ≤ maxLen) (hq : q.size ≤ maxLen) :
    (Instr.lookup 51 (.map (some b)) (agPk p q) false).run Try.prog w = .ok (.bool (S p q)) w := by
  obtain ⟨D, h1, h2, h3, _⟩ := h
  obtain ⟨v, ps, hrun, hv⟩ := h1.lookup mapLawP Try.underlying51 (zeroBoolP _) (plainElem_bool Try.underlying4 false) (keyOfP p q hp hq)
  obtain ⟨x, rfl, e⟩ := boolP_inv hv
  simp only [Prod.mk.injEq] at e
  rw [hrun, ← h2 p q hp hq]
  cases hh : Maps.has D (keyP p q) with
  | true => rw [h3 _ _ hh] at e; simp only [DataW.lit.injEq, Lit.bool.injEq] at e; rw [← e.1]
  | false => rw [atKey_of_not_has hh] at e; simp only [DataW.lit.injEq, Lit.bool.injEq] at e; rw [← e.1]
theorem BMap.lenRun {w : World} {b n m : Nat} {S : ByteArray → ByteArray → Bool} (h : BMap w b n S m) (ty : TypeId) : (Builtin.len_ #[51] ty #[.map (some b)]).run Try.prog w = .ok (.int .i64 (m : Int)) w := by
  obtain ⟨D, h1, h2, h3, rfl⟩ := h
  exact h1.len Try.underlying51 ty
theorem BMap.put {w : World} {b n m : Nat} {S : ByteArray → ByteArray → Bool} (h : BMap w b n S m) (p q : ByteArray) (hp : p.size ≤ maxLen) (hq : q.size ≤ maxLen) (hn : n < 1000000) :
    ∃ w', (Instr.mapUpdate 51 (.map (some b)) (agPk p q) (.bool true)).run Try.prog w = .ok () w' ∧ BMap w' b (n + 1) (fun x y => decide (x = p ∧ y = q) || S x y) (if S p q then m else m + 1) ∧ w.mapTurned w' b := by
  obtain ⟨D, h1, h2, h3, rfl⟩ := h
  have ht := h1.tidy mapLawP
  obtain ⟨w', r1, r2, r3⟩ := h1.store mapLawP Try.underlying51 (by unfold maxLen; omega) (keyOfP p q hp hq) (plainElem_bool Try.underlying4 true)
  refine ⟨w', r1, ⟨_, r2, fun x y hx hy => ?_, fun kl z hk => ?_, ?_⟩, r3⟩
  · by_cases e : x = p ∧ y = q
    · obtain ⟨rfl, rfl⟩ := e
      rw [has_put_same ht.isMap (keyP_key x y)]
      simp
    · rw [has_put_other (fun e2 => e (keyP_inj hx hy hp hq e2)), h2 x y hx hy]
      simp [e]
  · by_cases e : kl = keyP p q
    · rw [e, atKey_put_same ht.isMap (keyP_key p q)]
    · rw [atKey_put_other e]
      rw [has_put_other e] at hk
      exact h3 kl z hk
  · rw [size_put ht, h2 p q hp hq]
theorem BMap.del {w : World} {b n m : Nat} {S : ByteArray → ByteArray → Bool} (h : BMap w b n S m) (p q : ByteArray) (hp : p.size ≤ maxLen) (hq : q.size ≤ maxLen) (ty : TypeId) :
    ∃ w', (Builtin.delete_ #[51, 56] ty #[.map (some b), agPk p q]).run Try.prog w = .ok (.tuple #[]) w' ∧ BMap w' b n (fun x y => !decide (x = p ∧ y = q) && S x y) (if S p q then m - 1 else m) ∧ w.mapTurned w' b := by
  obtain ⟨D, h1, h2, h3, rfl⟩ := h
  have ht := h1.tidy mapLawP
  obtain ⟨w', r1, r2, r3⟩ := h1.drop mapLawP Try.underlying51 (keyOfP p q hp hq) ty
  refine ⟨w', r1, ⟨_, r2, fun x y hx hy => ?_, fun kl z hk => ?_, ?_⟩, r3⟩
  · by_cases e : x = p ∧ y = q
    · obtain ⟨rfl, rfl⟩ := e
      rw [has_del_same]
      simp
    · rw [has_del_other (fun e2 => e (keyP_inj hx hy hp hq e2)), h2 x y hx hy]
      simp [e]
  · by_cases e : kl = keyP p q
    · rw [e, has_del_same] at hk
      cases hk
    · rw [atKey_del_other e]
      rw [has_del_other e] at hk
      exact h3 kl z hk
  · have := size_del (k := keyP p q) ht
    rw [h2 p q hp hq] at this
    cases hs : S p q <;> rw [hs] at this <;> simp at this ⊢ <;> omega
def elN (v : Value) : Option (DataW Unit × List MemPlace) :=
  match v with
  | .map (some g) => some (.lit (.int .i64 (g : Int)), [])
  | .map none => some (.lit (.bool false), [])
  | _ => none
def dN : Option Nat → DataW Unit
  | some g => .lit (.int .i64 (g : Int))
  | none => .lit (.bool false)
theorem elN_mk (g : Option Nat) : elN (.map g) = some (dN g, []) := by cases g <;> rfl
theorem elN_inv {v : Value} {g : Option Nat} {ps : List MemPlace} (h : elN v = some (dN g, ps)) : v = .map g := by
  unfold elN at h
  split at h
  · cases g with
    | none => simp [dN] at h
    | some k =>
      simp only [dN, Option.some.injEq, Prod.mk.injEq, DataW.lit.injEq, Lit.int.injEq, true_and] at h
      have := Int.ofNat.inj h.1
      rw [this]
  · cases g with
    | none => rfl
    | some k => simp [dN] at h
  · cases h
theorem mapLawN : Keyed Try.prog 9 := string_keyed Try.underlying9
theorem zeroN (w : World) : (zeroValue 51).run Try.prog w = .ok (.map none) w := by kernel_rfl
def keyN (s : ByteArray) : Lit := .string s.data.toList
theorem keyN_ne {s t : ByteArray} (h : s ≠ t) : keyN s ≠ keyN t := fun e => h (by
  have e2 : s.data.toList = t.data.toList := by injection e
  exact toList_inj.1 e2)
def NMap (w : World) (c n : Nat) (f : ByteArray → Option Nat) : Prop :=
  ∃ D : DataW Unit, w.ownsMap Try.prog 9 elN c n D ∧ ∀ s : ByteArray, D.atKey (keyN s) (dN none) = dN (f s)
theorem NMap.new (w : World) : NMap (w.alloc (.map #[] 0)) w.heap.size 0 (fun _ => none) := ⟨_, World.ownsMap_made _ _ _ _, fun _ => by simp [DataW.atKey]⟩
theorem NMap.kept {w w1 : World} {c n : Nat} {f : ByteArray → Option Nat} {row : Option Nat} (h : NMap w c n f) (hg : w.grownBy w1 row) (hne : some c ≠ row) : NMap w1 c n f := by
  obtain ⟨D, h1, h2⟩ := h
  exact ⟨D, h1.kept hg hne, h2⟩
theorem NMap.below {w w1 : World} {c n : Nat} {f : ByteArray → Option Nat} (h : NMap w c n f) (hb : Below w.heap.size w w1) : NMap w1 c n f := h.kept (grown_of_below hb none) (by simp)
theorem NMap.mono {w : World} {c n n' : Nat} {f : ByteArray → Option Nat} (h : NMap w c n f) (hn : n ≤ n') : NMap w c n' f := by
  obtain ⟨D, h1, h2⟩ := h
  exact ⟨D, h1.mono hn, h2⟩
theorem NMap.isMap {w : World} {c n : Nat} {f : ByteArray → Option Nat} (h : NMap w c n f) : ∃ es k, w.heap[c]? = some (.map es k) := by
  obtain ⟨D, ⟨es, k, h1, _⟩, _⟩ := h
  exact ⟨es, k, h1⟩
theorem NMap.look {w : World} {c n : Nat} {f : ByteArray → Option Nat} (h : NMap w c n f) (s : ByteArray) (hs : s.size ≤ maxLen) :
    (Instr.lookup 52 (.map (some c)) (.string s) false).run Try.prog w = .ok (.map (f s)) w := by
  obtain ⟨D, h1, h2⟩ := h
  obtain ⟨v, ps, hrun, hv⟩ := h1.lookup mapLawN Try.underlying52 (zeroN _) (elN_mk none) (keyOf_string_mk Try.underlying9 hs)
  rw [show (.string s.data.toList : Lit) = keyN s from rfl, h2] at hv
  rw [hrun, elN_inv hv]
theorem NMap.put {w : World} {c n : Nat} {f : ByteArray → Option Nat} (h : NMap w c n f) (s : ByteArray) (g : Nat) (hs : s.size ≤ maxLen) (hn : n < 1000000) :
    ∃ w', (Instr.mapUpdate 52 (.map (some c)) (.string s) (.map (some g))).run Try.prog w = .ok () w' ∧ NMap w' c (n + 1) (fun t => if t = s then some g else f t) ∧ w.mapTurned w' c := by
  obtain ⟨D, h1, h2⟩ := h
  have ht := h1.tidy mapLawN
  obtain ⟨w', r1, r2, r3⟩ := h1.store mapLawN Try.underlying52 (by unfold maxLen; omega) (keyOf_string_mk Try.underlying9 hs) (elN_mk (some g))
  refine ⟨w', r1, ⟨_, r2, fun t => ?_⟩, r3⟩
  rw [show (.string s.data.toList : Lit) = keyN s from rfl]
  show _ = dN (if t = s then some g else f t)
  by_cases e : t = s
  · subst e
    rw [if_pos rfl, atKey_put_same ht.isMap (show WideAt.IsKeyLit (keyN t) from trivial)]
  · rw [if_neg e, atKey_put_other (keyN_ne e)]
    exact h2 t
end Go.Proofs.Ytocdoddmaopdbaa
