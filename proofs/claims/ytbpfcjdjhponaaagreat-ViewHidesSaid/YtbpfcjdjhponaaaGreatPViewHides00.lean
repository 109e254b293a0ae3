import Derived.Below
import Derived.Deep.Draws
import Derived.Deep.AppendLies
import Derived.Maps.AppendAt
import Derived.OwnWalk
import Derived.Laws.BytesArg
import Derived.Laws.MakeOwn
import Derived.Laws.OwnMore
import Derived.Lib.ConvBytes
import Derived.WalkKit
import Derived.WalkLawsBesides
import Derived.WalkSpells
import Derived.Lib.Hide
import Derived.Lib.AppendStr
import Derived.Laws.CopyOwn
import Derived.Test.YtbpfcjdjhponaaaGreatProg
import Derived.Lib.OthersKept
import Derived.Shelf.Strings.Builder1
import Derived.Shelf.Small.Bits
import Derived.Shelf.Small.Strs
import Derived.Shelf.Small.Wraps
import Derived.Shelf.Strings.BuilderF
import Derived.Shelf.Strings.BuilderK
import Derived.Shelf.Strconv.Itoa0
import Derived.Shelf.Strings.BuilderCap
import Derived.Shelf.Slices.CompactS
import Derived.Ground.Names2Prog
import Derived.Shelf.Slices.SearchI
import Derived.Shelf.Slices.Cells
import Derived.Ground.SlsfProg
import Derived.Shelf.SlSortCmp.Insertion
import Derived.Shelf.SlSortCmp.SiftDown1
import Derived.Shelf.SlSortCmp.HeapSort1
import Derived.Shelf.SlSortCmp.Insertion1
import Derived.Shelf.SlSortCmp.Median1
import Derived.Shelf.SlSortCmp.Pivot1
import Derived.Shelf.SlSortCmp.ReverseRange1
import Derived.Shelf.SlSortCmp.PartialInsertion1
import Derived.Shelf.SlSortCmp.PartitionEqual1
import Derived.Shelf.SlSortCmp.Partition1
import Derived.Shelf.SlSortCmp.Pdq1
import Derived.Shelf.SlSortCmp.Whole1
import Derived.Shelf.SlSortCmp.NoneTotal
import Derived.WalkMore
import Derived.ScopeJumps
import Derived.Laws.Bits64b
set_option linter.unusedSectionVars false
namespace Go.Proofs.YtbpfcjdjhponaaaGreat
namespace Sp
def isLetter (c : UInt8) : Bool := 97 ≤ c && c ≤ 122
def isNameByte (c : UInt8) : Bool := isLetter c || (48 ≤ c && c ≤ 57) || c == 45
def nameL : List UInt8 → Bool
  | [] => false
  | c :: l => isLetter c && l.all isNameByte && decide (l.length < 16)
def isName (s : ByteArray) : Bool := nameL s.data.toList
theorem letter_is (c : UInt8) (h : isLetter c = true) : isNameByte c = true := by simp [isNameByte, h]
def okTo (s : ByteArray) (k : Nat) : Prop := ∀ j (h : j < s.size), j < k → isNameByte s[j] = true ∧ (j = 0 → isLetter s[j] = true)
theorem okTo_zero (s : ByteArray) : okTo s 0 := fun _ _ h => absurd h (by omega)
theorem okTo_succ (s : ByteArray) (k : Nat) (h : k < s.size) : okTo s (k + 1) ↔ okTo s k ∧ isNameByte s[k] = true ∧ (k = 0 → isLetter s[k] = true) := by
  constructor
  · intro o
    exact ⟨fun j hj hk => o j hj (by omega), o k h (by omega)⟩
  · rintro ⟨o, h1, h2⟩ j hj hk
    rcases Nat.lt_or_ge j k with hlt | hge
    · exact o j hj hlt
    · obtain rfl : j = k := by omega
      exact ⟨h1, h2⟩
theorem isName_iff (s : ByteArray) : isName s = true ↔ 0 < s.size ∧ s.size ≤ 16 ∧ okTo s s.size := by
  have hs : s.size = s.data.toList.length := by rw [Array.length_toList]; rfl
  have hg : ∀ j (h : j < s.size), s[j] = s.data.toList[j]'(by omega) := fun j h => rfl
  unfold isName okTo
  cases hl : s.data.toList with
  | nil =>
    rw [hl] at hs
    simp only [List.length_nil] at hs
    exact ⟨fun h => (by cases h), fun h => absurd h.1 (by omega)⟩
  | cons c l =>
    rw [hl] at hs
    simp only [List.length_cons] at hs
    have h0 : s[0]'(by omega) = c := by rw [hg]; simp [hl]
    have hs1 : ∀ j (h : j < l.length), s[j + 1]'(by omega) = l[j] := fun j h => by rw [hg]; simp [hl]
    simp only [nameL, Bool.and_eq_true, List.all_eq_true, decide_eq_true_eq]
    constructor
    · rintro ⟨⟨a, b⟩, d⟩
      refine ⟨by omega, by omega, fun j hj _ => ?_⟩
      cases j with
      | zero => rw [h0]; exact ⟨letter_is _ a, fun _ => a⟩
      | succ j => rw [hs1 j (by omega)]; exact ⟨b _ (List.getElem_mem _), fun h => absurd h (by omega)⟩
    · rintro ⟨_, a, b⟩
      refine ⟨⟨?_, fun x hx => ?_⟩, by omega⟩
      · have := (b 0 (by omega) (by omega)).2 rfl; rwa [h0] at this
      · obtain ⟨j, hj, rfl⟩ := List.getElem_of_mem hx
        have := (b (j + 1) (by omega) (by omega)).1; rwa [hs1 j hj] at this
theorem isName_short (s : ByteArray) (h : s.size = 0) : isName s = false := by rw [← Bool.not_eq_true, isName_iff]; omega
theorem isName_long (s : ByteArray) (h : 16 < s.size) : isName s = false := by rw [← Bool.not_eq_true, isName_iff]; omega
theorem isName_no (s : ByteArray) (pos : Nat) (h : pos < s.size) (hn : ¬ (isNameByte s[pos] = true ∧ (pos = 0 → isLetter s[pos] = true))) : isName s = false := by
  rw [← Bool.not_eq_true, isName_iff]
  rintro ⟨_, _, o⟩
  exact hn (o pos h h)
theorem isLetter_nat (c : UInt8) : isLetter c = true ↔ 97 ≤ c.toNat ∧ c.toNat ≤ 122 := by
  simp [isLetter, UInt8.le_iff_toNat_le]
theorem isNameByte_nat (c : UInt8) : isNameByte c = true ↔ (97 ≤ c.toNat ∧ c.toNat ≤ 122) ∨ (48 ≤ c.toNat ∧ c.toNat ≤ 57) ∨ c.toNat = 45 := by
  simp [isNameByte, isLetter, UInt8.le_iff_toNat_le, ← UInt8.toNat_inj, or_assoc]
def lower (c : UInt8) : UInt8 := if 65 ≤ c.toNat ∧ c.toNat ≤ 90 then c + 32 else c
def ltL : List UInt8 → List UInt8 → Bool
  | [], [] => false
  | [], _ :: _ => true
  | _ :: _, [] => false
  | a :: l, b :: m => a < b || (a == b && ltL l m)
def less (a b : ByteArray) : Bool := a.size < b.size || (a.size == b.size && ltL a.data.toList b.data.toList)
end Sp
end Go.Proofs.YtbpfcjdjhponaaaGreat
namespace Go.Proofs.YtbpfcjdjhponaaaGreat
open Go.RowKit
theorem zA {α : Type _} {xs : List α} {i : Nat} (h : i < xs.toArray.size) : xs.toArray[i] = xs[i]'(by simpa using h) := rfl
theorem zB {α : Type _} (a : α) (l : List α) (i : Nat) (h : i + 1 < (a :: l).length) : (a :: l)[i + 1] = l[i]'(Nat.lt_of_succ_lt_succ h) := rfl
theorem zC {α : Type _} (a : α) (l : List α) (h : 0 < (a :: l).length) : (a :: l)[0] = a := rfl
theorem zD {α : Type _} (l : List α) (i : Nat) (a : α) : l.toArray.setIfInBounds i a = (l.set i a).toArray := List.setIfInBounds_toArray l i a
theorem zE {α : Type _} {x : α} {l : List α} {a : α} : (x :: l).set 0 a = a :: l := rfl
theorem zF {α : Type _} {x : α} {l : List α} {i : Nat} {a : α} : (x :: l).set (i + 1) a = x :: l.set i a := rfl
theorem ret_bool {a b : Bool} (h : a = b) : Ending.returned (.bool a) = .returned (.bool b) := by rw [h]
theorem ret_int {k : IntKind} {a b : Int} (h : a = b) : Ending.returned (.int k a) = .returned (.int k b) := by rw [h]
theorem re_ {P : Program} {f : FuncId} {args : Array Value} {w : World} {v v' : Ending} {R : World → Prop} (h : Calls P f args w fun e w' => e = v ∧ R w') (hv : v = v') : Calls P f args w fun e w' => e = v' ∧ R w' := by rw [← hv]; exact h
theorem size_eq_length (s : ByteArray) : s.size = s.data.toList.length := by rw [Array.length_toList]; rfl
theorem toList_inj {s t : ByteArray} : s.data.toList = t.data.toList ↔ s = t :=
  ⟨fun h => by cases s; cases t; simp only [Array.toList_inj] at h; rw [h], fun h => by rw [h]⟩
theorem toList_inj' {s t : ByteArray} : s.toList = t.toList ↔ s = t := by rw [ByteArray.toList_eq, ByteArray.toList_eq, toList_inj]
theorem ofList_toList (s : ByteArray) : (⟨s.data.toList.toArray⟩ : ByteArray) = s := by cases s; simp
theorem data_ofList (l : List UInt8) : (⟨l.toArray⟩ : ByteArray).data.toList = l := by simp
theorem below_drewN {B : Nat} {a w : World} (h : Below B a w) (n : Nat) : Below B a (w.drewN n) := ⟨h.os, h.tape, h.output, h.size, h.block⟩
theorem below_call {w w1 w2 : World} (h : Below w.heap.size w w1) (k : Below w1.heap.size w1 w2) : Below w.heap.size w w2 := h.trans (k.mono h.size)
theorem below_then {B : Nat} {w w1 w2 : World} (h : Below B w w1) (hB : B ≤ w1.heap.size) (k : Below w1.heap.size w1 w2) : Below B w w2 := h.trans (k.mono hB)
theorem cell_below {w w1 : World} (h : Below w.heap.size w w1) {a : Addr} {v : Value} (hc : w.cell? a = some v) : w1.cell? a = some v := (h.cell (World.block_lt_of_cell? w a hc)).trans hc
theorem grown_of_below {w w1 : World} (h : Below w.heap.size w w1) (row : Option Nat) : w.grownBy w1 row := ⟨h.os, h.tape, h.output, h.size, fun i hi _ => h.block i hi⟩
theorem add_plain (g j : Nat) : (⟨g, 0, none⟩ : Addr).add j = ⟨g, j, none⟩ := by unfold Addr.add; split <;> simp_all
theorem add_add (a : Addr) (i j : Nat) : (a.add i).add j = a.add (i + j) := by
  unfold Addr.add
  by_cases hi : i = 0 <;> by_cases hj : j = 0 <;> simp [hi, hj, Nat.add_assoc]
theorem add_block (a : Addr) (n : Nat) : (a.add n).block = a.block := by unfold Addr.add; split <;> rfl
section
variable {α : Type}
def Own (enc : α → List Value) (k : Nat) (e : TypeId) (w : World) (base : Nat) (v : Value) (xs : List α) : Prop := w.ownsRow base e k v xs.length (xs.flatMap enc)
def Row (enc : α → List Value) (k : Nat) (w : World) (v : Value) (xs : List α) : Prop :=
  ∃ A c, v = .slice A xs.length c ∧ xs.length ≤ c ∧ c ≤ maxLen ∧ (xs.flatMap enc).length = xs.length * k ∧ (0 < xs.length → ∃ ad, A = some ad ∧ ∀ j u, (xs.flatMap enc)[j]? = some u → w.cell? (ad.add j) = some u)
variable {enc : α → List Value} {k : Nat} {e : TypeId} {w w1 : World} {base : Nat} {v : Value} {xs : List α}
theorem Own.nil (enc : α → List Value) (k : Nat) (e : TypeId) (w : World) (base : Nat) : Own enc k e w base (.slice none 0 0) [] := World.ownsRow_nil w base e k
theorem Own.kept {row : Option Nat} (h : Own enc k e w base v xs) (hg : w.grownBy w1 row) (hne : v.ownBlock = none ∨ v.ownBlock ≠ row) : Own enc k e w1 base v xs := World.ownsRow.kept h hg hne
theorem Own.below (h : Own enc k e w base v xs) (hb : Below w.heap.size w w1) : Own enc k e w1 base v xs := h.kept (grown_of_below hb none) (by cases v.ownBlock <;> simp)
theorem Own.alloc (h : Own enc k e w base v xs) (o : Obj) : Own enc k e (w.alloc o) base v xs := World.ownsRow.alloc h o
theorem Own.drewN (h : Own enc k e w base v xs) (n : Nat) : Own enc k e (w.drewN n) base v xs := h
theorem Own.base_le (h : Own enc k e w base v xs) (g : Nat) (hg : v.ownBlock = some g) : base ≤ g := (World.ownsRow.lt h g hg).1
theorem Own.lower {base' : Nat} (h : Own enc k e w base v xs) (hb : base' ≤ base) : Own enc k e w base' v xs := by
  obtain ⟨h1, h2⟩ := h
  refine ⟨h1, ?_⟩
  rcases h2 with h2 | ⟨g, cap, cur, rfl, hg, r⟩
  · exact .inl h2
  · exact .inr ⟨g, cap, cur, rfl, by omega, r⟩
theorem Own.slice (h : Own enc k e w base v xs) : ∃ A c, v = .slice A xs.length c ∧ xs.length ≤ c := by
  rcases h.2 with ⟨rfl, h0⟩ | ⟨g, cap, cur, rfl, _, _, h1, _⟩
  · exact ⟨none, 0, by rw [h0], by omega⟩
  · exact ⟨_, cap, rfl, h1⟩
theorem Own.row (h : Own enc k e w base v xs) : Row enc k w v xs := by
  rcases h.2 with ⟨rfl, h0⟩ | ⟨g, cap, cur, rfl, _, _, h1, h2, _⟩
  · exact ⟨none, 0, by rw [h0], by omega, by simp [maxLen], h.1, fun hp => absurd hp (by omega)⟩
  · exact ⟨_, cap, rfl, h1, h2, h.1, fun _ => ⟨_, rfl, fun j u hu => World.ownsRow.cells h (g := g) rfl j u hu⟩⟩
theorem Row.nil (enc : α → List Value) (k : Nat) (w : World) : Row enc k w (.slice none 0 0) [] := ⟨none, 0, rfl, by simp, by simp [maxLen], by simp, fun h => by simp at h⟩
theorem Row.empty (enc : α → List Value) (k : Nat) (w : World) (A : Option Addr) (c : Nat) (hc : c ≤ 9223372036854775807) : Row enc k w (.slice A 0 c) [] := ⟨A, c, rfl, by simp, by simpa [maxLen] using hc, by simp, fun h => by simp at h⟩
theorem Row.below (h : Row enc k w v xs) (hb : Below w.heap.size w w1) : Row enc k w1 v xs := by
  obtain ⟨A, c, rfl, h1, h2, h3, h4⟩ := h
  refine ⟨A, c, rfl, h1, h2, h3, fun hp => ?_⟩
  obtain ⟨ad, e, hc⟩ := h4 hp
  exact ⟨ad, e, fun j u hu => cell_below hb (hc j u hu)⟩
theorem Row.grown {row : Option Nat} (h : Row enc k w v xs) (hg : w.grownBy w1 row) (hr : ∀ g, row = some g → ∀ A n c ad, v = .slice A n c → A = some ad → ad.block ≠ g) : Row enc k w1 v xs := by
  obtain ⟨A, c, rfl, h1, h2, h3, h4⟩ := h
  refine ⟨A, c, rfl, h1, h2, h3, fun hp => ?_⟩
  obtain ⟨ad, e, hc⟩ := h4 hp
  exact ⟨ad, e, fun j u hu => hg.cell (hc j u hu) (fun he => hr _ he.symm _ _ _ _ rfl e (add_block ad j).symm)⟩
theorem Row.drewN (h : Row enc k w v xs) (n : Nat) : Row enc k (w.drewN n) v xs := h
theorem Row.len (h : Row enc k w v xs) : xs.length ≤ 9223372036854775807 := by
  obtain ⟨A, c, _, h1, h2, _⟩ := h
  simp only [maxLen] at h2
  omega
theorem flat_get (hk : ∀ x, (enc x).length = k) (xs : List α) (j i : Nat) (hj : j < xs.length) (hi : i < k) : (xs.flatMap enc)[j * k + i]? = (enc xs[j])[i]? := by
  induction xs generalizing j with
  | nil => simp at hj
  | cons x xs ih =>
    rw [List.flatMap_cons]
    cases j with
    | zero => simp only [Nat.zero_mul, Nat.zero_add, List.getElem_cons_zero]; rw [List.getElem?_append_left (by rw [hk]; exact hi)]
    | succ j =>
      have hj' : j < xs.length := by simpa using hj
      rw [Nat.succ_mul, List.getElem?_append_right (by rw [hk]; omega), hk, show j * k + k + i - k = j * k + i by omega, ih j hj']
      simp
theorem flat_length (hk : ∀ x, (enc x).length = k) (xs : List α) : (xs.flatMap enc).length = xs.length * k := by
  induction xs with
  | nil => simp
  | cons x xs ih => rw [List.flatMap_cons, List.length_append, ih, hk, List.length_cons, Nat.succ_mul]; omega
theorem Row.get {A : Option Addr} {n c : Nat} (h : Row enc k w (.slice A n c) xs) (hk : ∀ x, (enc x).length = k) (j : Nat) (hj : j < xs.length) :
    ∃ ad, A = some ad ∧ ∀ i, i < k → w.cell? ((ad.add (j * k)).add i) = (enc xs[j])[i]? := by
  obtain ⟨A', c', he, h1, h2, h3, h4⟩ := h
  injection he with e1 e2 e3
  subst e1
  obtain ⟨ad, rfl, hc⟩ := h4 (by omega)
  refine ⟨ad, rfl, fun i hi => ?_⟩
  have hf := flat_get (enc := enc) hk xs j i hj hi
  have hl : i < (enc xs[j]).length := by rw [hk]; exact hi
  rw [List.getElem?_eq_getElem hl] at hf ⊢
  rw [add_add]
  exact hc _ _ hf
theorem Row.len_eq {A : Option Addr} {n c : Nat} (h : Row enc k w (.slice A n c) xs) : n = xs.length := by
  obtain ⟨A', c', he, _⟩ := h
  injection he
theorem Row.get1 {A : Option Addr} {n c : Nat} {f : α → Value} (h : Row (fun x => [f x]) 1 w (.slice A n c) xs) (j : Nat) (hj : j < xs.length) : ∃ ad, A = some ad ∧ w.cell? (ad.add j) = some (f xs[j]) := by
  obtain ⟨ad, e, hc⟩ := h.get (fun _ => rfl) j hj
  refine ⟨ad, e, ?_⟩
  have := hc 0 (by omega)
  rw [add_add] at this
  simpa using this
end
theorem Row.take {α : Type} {enc : α → List Value} {k : Nat} {w : World} {A : Option Addr} {n c : Nat} {xs : List α} (h : Row enc k w (.slice A n c) xs) (hk : ∀ x, (enc x).length = k) (i : Nat) (hi : i ≤ n) : Row enc k w (.slice A i c) (xs.take i) := by
  have hl := h.len_eq
  obtain ⟨A', c', he, h1, h2, h3, h4⟩ := h
  injection he with e1 e2 e3
  subst e1 e3
  have hti : (xs.take i).length = i := by rw [List.length_take]; omega
  refine ⟨A, c, by rw [hti], by omega, h2, flat_length hk _, fun hp => ?_⟩
  obtain ⟨ad, e, hc⟩ := h4 (by omega)
  refine ⟨ad, e, fun j u hu => hc j u ?_⟩
  have hx : xs.flatMap enc = (xs.take i).flatMap enc ++ (xs.drop i).flatMap enc := by rw [← List.flatMap_append, List.take_append_drop]
  rw [hx, List.getElem?_append_left (List.getElem?_eq_some_iff.1 hu).1]
  exact hu
theorem Row.drop {α : Type} {enc : α → List Value} {k : Nat} {w : World} {A : Option Addr} {n c : Nat} {xs : List α} (h : Row enc k w (.slice A n c) xs) (hk : ∀ x, (enc x).length = k) (i : Nat) (hi : i ≤ n) :
    Row enc k w (.slice (if c = i then A else A.map (·.add (i * k))) (n - i) (c - i)) (xs.drop i) := by
  have hl := h.len_eq
  obtain ⟨A', c', he, h1, h2, h3, h4⟩ := h
  injection he with e1 e2 e3
  subst e1 e3
  have hti : (xs.drop i).length = n - i := by rw [List.length_drop]; omega
  refine ⟨_, c - i, by rw [hti], by omega, by omega, flat_length hk _, fun hp => ?_⟩
  obtain ⟨ad, e, hc⟩ := h4 (by omega)
  rw [if_neg (by omega), e]
  refine ⟨_, rfl, fun j u hu => ?_⟩
  rw [add_add]
  refine hc _ u ?_
  have hx : xs.flatMap enc = (xs.take i).flatMap enc ++ (xs.drop i).flatMap enc := by rw [← List.flatMap_append, List.take_append_drop]
  have hl2 : ((xs.take i).flatMap enc).length = i * k := by rw [flat_length hk, List.length_take]; congr 1; omega
  rw [hx, List.getElem?_append_right (by omega), hl2, show i * k + j - i * k = j by omega]
  exact hu
theorem Own.lit {α : Type} {enc : α → List Value} {k : Nat} {e : TypeId} {base : Nat} (hk : ∀ x, (enc x).length = k) (W : World) (xs : List α) (cs : Array Value) (n : Nat) (hcs : cs.toList = xs.flatMap enc) (hn : n = xs.length) (hb : base ≤ W.heap.size) (hm : n ≤ 9223372036854775807) :
    Own enc k e (W.alloc (.cells cs e)) base (.slice (some ⟨W.heap.size, 0, none⟩) n n) xs := by
  subst hn
  have h := World.ownsRow_lit (base := base) (e := e) (size := k) W cs xs.length hb (by simpa [maxLen] using hm) (by rw [← Array.length_toList, hcs, flat_length hk])
  unfold Own
  rw [← hcs]
  exact h
section
variable {P : Program} {ops : Array Oper} {rest : List Oper} {o : Oper} {a : Act} {Q : Exit → Act → World → Prop} {α : Type} {enc : α → List Value}
theorem Own.append {w0 W : World} (base : Nat) (hgd : o.guard = none) (s x : Operand) (t e : TypeId) (z : Value) (k bytes : Nat)
    (ho : o.op = .call { callee := .builtin .append, args := #[s, x], argTypes := #[t, t] })
    (ht : P.underlying t = some (.slice e)) (hinfo : (P.info? e).map (fun i => (i.zero, i.size, i.bytes)) = some (some z, k, bytes)) (hz : z.cells.size = k) (hs0 : 0 < k)
    (v : Value) (xs : List α) (p : α) (cs : List Value) (hs : a.eval s = v) (hx : a.eval x = .slice (some ⟨W.heap.size, 0, none⟩) 1 1) (hp : enc p = cs) (hcs : cs.length = k) (h1 : ∀ u ∈ cs, u.oneCell' = true)
    (HO : Own enc k e W base v xs) (HB : Below base w0 W) (hbase : base ≤ W.heap.size) (hl : (xs.length + 1) * bytes ≤ 140737488355328) (hl2 : xs.length + 1 ≤ 140737488355328)
    (h : ∀ v1 w1, Own enc k e w1 base v1 (xs ++ [p]) → Below base w0 w1 → W.grownBy w1 v.ownBlock → (v1.ownBlock = v.ownBlock ∨ ∃ b, v1.ownBlock = some b ∧ W.heap.size ≤ b) → wpList P ops Q rest (a.put o.dst v1) w1) :
    wpList P ops Q (o :: rest) a (W.alloc (.cells cs.toArray e)) := by
  obtain ⟨i0, hi, hzz⟩ := Option.map_eq_some_iff.1 hinfo
  simp only [Prod.mk.injEq] at hzz
  obtain ⟨hz0, hz1, hz2⟩ := hzz
  refine wpList_append_own_at (W.alloc (.cells cs.toArray e)) hgd s x t ho base e i0 z k bytes ht hi hz0 hz1 hz2 hz hs0 v xs.length _ hs (HO.alloc _) ⟨W.heap.size, 0, none⟩ 1 1 cs hx (by rw [hcs]; simp)
    (by simpa using World.news_of_block (cs := cs.toArray) (t := e) (fr := (0, 0)) (heap_alloc_new W (.cells cs.toArray e))) h1 (by simp only [maxLen]; omega) hl (by simp; omega) ?_
  intro v1 w1 hown hg _ hat
  refine h v1 w1 ?_ ((HB.alloc hbase _).grown hg (by simp; omega) (HO.base_le)) (World.grownBy.trans (World.grownBy_alloc W _ _) hg) ?_
  · unfold Own
    rw [List.flatMap_append, List.length_append]
    simpa [hp] using hown
  · rcases hat with hat | hat
    · exact .inl hat
    · exact .inr ⟨_, hat, by simp⟩
theorem Own.appendRow {w0 W : World} (base : Nat) (hgd : o.guard = none) (s x : Operand) (t e : TypeId) (z : Value) (k bytes : Nat)
    (ho : o.op = .call { callee := .builtin .append, args := #[s, x], argTypes := #[t, t] })
    (ht : P.underlying t = some (.slice e)) (hinfo : (P.info? e).map (fun i => (i.zero, i.size, i.bytes)) = some (some z, k, bytes)) (hz : z.cells.size = k) (hs0 : 0 < k)
    (v u : Value) (xs ys : List α) (hs : a.eval s = v) (hx : a.eval x = u) (h1 : ∀ y, ∀ u ∈ enc y, u.oneCell' = true)
    (HO : Own enc k e W base v xs) (HR : Row enc k W u ys) (HB : Below base w0 W) (hbase : base ≤ W.heap.size) (hl : (xs.length + ys.length) * bytes ≤ 140737488355328) (hl2 : xs.length + ys.length ≤ 140737488355328)
    (h : ∀ v1 w1, Own enc k e w1 base v1 (xs ++ ys) → Below base w0 w1 → W.grownBy w1 v.ownBlock → (v1.ownBlock = v.ownBlock ∨ ∃ b, v1.ownBlock = some b ∧ W.heap.size ≤ b) → wpList P ops Q rest (a.put o.dst v1) w1) :
    wpList P ops Q (o :: rest) a W := by
  obtain ⟨i0, hi, hzz⟩ := Option.map_eq_some_iff.1 hinfo
  simp only [Prod.mk.injEq] at hzz
  obtain ⟨hz0, hz1, hz2⟩ := hzz
  obtain ⟨A, c, rfl, r1, r2, r3, r4⟩ := HR
  rcases A with _ | ad
  · have hm : ys = [] := by
      rcases Nat.eq_zero_or_pos ys.length with h0 | h0
      · exact List.eq_nil_of_length_eq_zero h0
      · obtain ⟨ad, h, _⟩ := r4 h0
        cases h
    subst hm
    have hrun : (Builtin.append_ #[t, t] o.type #[v, .slice none 0 c]).run P W = .ok v W := by
      rcases HO.2 with ⟨rfl, _⟩ | ⟨g, cap, cur, rfl, _, _, hnc, _⟩
      · simp [Builtin.append_, run_underlying ht, sizeOf, typeInfo, hi, Builtin.lenOf, Builtin.firstCells]
      · simp [Builtin.append_, run_underlying ht, sizeOf, typeInfo, hi, Builtin.lenOf, Builtin.firstCells, hnc, storeCells]
    refine wpList_plain hgd fun _ hK => ?_
    unfold Oper.wp execOp
    simp only [ho, resolve, invoke, builtin, Sem.run_bind, Sem.run_pure, Result.andThen_ok, List.map_toArray, List.map_cons, List.map_nil, hs, hx, List.length_nil, hrun]
    exact hK _ _ (h v W (by simpa using HO) HB (World.grownBy.refl W _) (.inl rfl))
  · have hcells : ∀ j u, (ys.flatMap enc)[j]? = some u → W.cell? (ad.add j) = some u := by
      intro j u hu
      rcases Nat.eq_zero_or_pos ys.length with h0 | h0
      · rw [List.eq_nil_of_length_eq_zero h0] at hu
        simp at hu
      · obtain ⟨ad', h, hc⟩ := r4 h0
        injection h with h
        subst h
        exact hc j u hu
    refine wpList_append_own_at W hgd s x t ho base e i0 z k bytes ht hi hz0 hz1 hz2 hz hs0 v xs.length _ hs HO ad ys.length c (ys.flatMap enc) hx r3 hcells
      (fun u hu => by obtain ⟨y, _, hy⟩ := List.mem_flatMap.1 hu; exact h1 y u hy) (by simp only [maxLen]; omega) hl hbase ?_
    intro v1 w1 hown hg _ hat
    refine h v1 w1 ?_ (HB.grown hg hbase HO.base_le) hg ?_
    · unfold Own
      rw [List.flatMap_append, List.length_append]
      exact hown
    · rcases hat with hat | hat
      · exact .inl hat
      · exact .inr ⟨_, hat, Nat.le_refl _⟩
end
def enB (b : UInt8) : List Value := [.int .u8 b.toNat]
theorem enB_len (x : UInt8) : (enB x).length = 1 := rfl
def strOf (l : List UInt8) : ByteArray := ⟨l.toArray⟩
theorem strOf_list (l : List UInt8) : (strOf l).data.toList = l := data_ofList l
theorem strOf_toList (s : ByteArray) : strOf s.data.toList = s := ofList_toList s
theorem strOf_inj {a b : List UInt8} : strOf a = strOf b ↔ a = b := ⟨fun h => by rw [← strOf_list a, h, strOf_list], fun h => by rw [h]⟩
theorem enB_flat (l : List UInt8) : l.flatMap enB = l.map fun b => .int .u8 b.toNat := by
  induction l with
  | nil => rfl
  | cons b l ih => rw [List.flatMap_cons, ih]; rfl
theorem strOf_nums (l : List UInt8) : strOfNums (l.map fun b => (b.toNat : Int)) = strOf l := by
  rw [← toList_inj, strOfNums_data, strOf_list, List.map_map]
  conv => rhs; rw [← List.map_id l]
  refine List.map_congr_left fun b _ => ?_
  simp
theorem Row.string {P : Program} {w : World} {src dst e : TypeId} {v : Value} {l : List UInt8} (hs : P.underlying src = some (.slice e)) (he : P.underlying e = some (.int .u8)) (hd : P.underlying dst = some .string)
    (h : Row enB 1 w v l) : (convert src dst v).run P w = .ok (.string (strOf l)) w := by
  obtain ⟨A, c, rfl, h1, h2, h3, h4⟩ := h
  rcases A with _ | ad
  · have hm : l = [] := by
      rcases Nat.eq_zero_or_pos l.length with h0 | h0
      · exact List.eq_nil_of_length_eq_zero h0
      · obtain ⟨ad, h, _⟩ := h4 h0
        cases h
    subst hm
    exact run_convert_bytes_nil w src e hs he _ _ dst hd
  · have hcells : ∀ j u, ((l.map fun b => (b.toNat : Int)).map (Value.int .u8))[j]? = some u → w.cell? (ad.add j) = some u := by
      intro j u hu
      rcases Nat.eq_zero_or_pos l.length with h0 | h0
      · rw [List.eq_nil_of_length_eq_zero h0] at hu
        simp at hu
      · obtain ⟨ad', h, hc⟩ := h4 h0
        injection h with h
        subst h
        refine hc j u ?_
        rw [enB_flat, ← hu, List.map_map]
        rfl
    have hl := run_loadCells_list (P := P) w ad ((l.map fun b => (b.toNat : Int)).map (Value.int .u8)) hcells
    rw [List.length_map, List.length_map] at hl
    rw [run_convert_bytes_string w src dst e _ l.length c hs he hd, run_bytesToString w _ l.length c (l.map fun b => (b.toNat : Int)) hl, foldl_push_bytes, ← strOf_nums]
    simp [strOfNums, ByteArray.empty, ByteArray.emptyWithCapacity]
    rfl
def TextRow (e : TypeId) (w : World) (k : Nat) (s : ByteArray) : Prop :=
  ∃ cs : Array Value, w.heap[k]? = some (.cells cs e (cs.size, cs.size + 1)) ∧ s.size ≤ cs.size ∧ cs.size ≤ maxLen ∧ ∀ j (h : j < s.size), cs[j]? = some (.int .u8 s[j].toNat)
theorem TextRow.new (e : TypeId) (w : World) (s : ByteArray) (hs : s.size ≤ maxLen) : TextRow e (Lib.bytesWorld w e s) w.heap.size s := by
  have h1 := grownCap_ge w s.size 0 e
  have h2 := grownCap_le_maxLen w s.size 0 e hs
  have h3 : (Lib.bytesCells w e s).size = s.size + (grownCap w s.size 0 e - s.size) := by
    simp [Lib.bytesCells]
  refine ⟨_, Lib.bytesWorld_at_new w e s, by omega, by omega, fun j h => ?_⟩
  · have h1 := Lib.bytesWorld_cell w e s j h
    rw [World.cell?, Lib.bytesWorld_at_new] at h1
    have h2 : s.data.toList.getD j 0 = s[j] := by
      have hl : j < s.data.toList.length := by rw [← size_eq_length]; exact h
      rw [List.getD_eq_getElem?_getD, List.getElem?_eq_getElem hl]
      rfl
    rw [h2] at h1
    exact h1
theorem TextRow.keep {e : TypeId} {w w' : World} {k : Nat} {s : ByteArray} (h : TextRow e w k s) (hk : w'.heap[k]? = w.heap[k]?) : TextRow e w' k s := by
  obtain ⟨cs, h1, h2⟩ := h
  exact ⟨cs, hk.trans h1, h2⟩
theorem TextRow.cell {e : TypeId} {w : World} {k : Nat} {s : ByteArray} (h : TextRow e w k s) (j : Nat) (hj : j < s.size) : w.cell? ⟨k, j, none⟩ = some (.int .u8 s[j].toNat) := by
  obtain ⟨cs, h1, _, _, h4⟩ := h
  rw [World.cell?, h1]
  exact h4 j hj
theorem TextRow.lt {e : TypeId} {w : World} {k : Nat} {s : ByteArray} (h : TextRow e w k s) : k < w.heap.size := by
  obtain ⟨cs, h1, _⟩ := h
  exact (Array.getElem?_eq_some_iff.1 h1).1
def BytesAt (e : TypeId) (w : World) (k : Nat) (l : List UInt8) : Prop :=
  ∃ cs : Array Value, w.heap[k]? = some (.cells cs e (cs.size, cs.size + 1)) ∧ l.length ≤ cs.size ∧ ∀ j (h : j < l.length), cs[j]? = some (.int .u8 l[j].toNat)
theorem TextRow.bytes {e : TypeId} {w : World} {k : Nat} {s : ByteArray} (h : TextRow e w k s) : BytesAt e w k s.data.toList := by
  obtain ⟨cs, h1, h2, h3, h4⟩ := h
  exact ⟨cs, h1, by rw [← size_eq_length]; exact h2, fun j hj => h4 j (by rw [size_eq_length]; exact hj)⟩
theorem BytesAt.cell {e : TypeId} {w : World} {k : Nat} {l : List UInt8} (h : BytesAt e w k l) (j : Nat) (hj : j < l.length) : w.cell? ⟨k, j, none⟩ = some (.int .u8 l[j].toNat) := by
  obtain ⟨cs, h1, _, h4⟩ := h
  rw [World.cell?, h1]
  exact h4 j hj
theorem BytesAt.free {e : TypeId} {w : World} {k : Nat} {l : List UInt8} (h : BytesAt e w k l) (j : Nat) (hj : j < l.length) : w.frozen? ⟨k, j, none⟩ = false := by
  obtain ⟨cs, h1, h2, _⟩ := h
  simp [World.frozen?, h1]
  omega
theorem BytesAt.keep {e : TypeId} {w w' : World} {k : Nat} {l : List UInt8} (h : BytesAt e w k l) (hk : w'.heap[k]? = w.heap[k]?) : BytesAt e w' k l := by
  obtain ⟨cs, h1, h2⟩ := h
  exact ⟨cs, hk.trans h1, h2⟩
theorem BytesAt.lt {e : TypeId} {w : World} {k : Nat} {l : List UInt8} (h : BytesAt e w k l) : k < w.heap.size := by
  obtain ⟨cs, h1, _⟩ := h
  exact (Array.getElem?_eq_some_iff.1 h1).1
theorem BytesAt.set {e : TypeId} {w : World} {k : Nat} {l : List UInt8} (h : BytesAt e w k l) (j : Nat) (b : UInt8) : BytesAt e (w.setCell ⟨k, j, none⟩ (.int .u8 b.toNat)) k (l.set j b) := by
  obtain ⟨cs, h1, h2, h3⟩ := h
  refine ⟨cs.setIfInBounds j (.int .u8 b.toNat), ?_, by simpa using h2, fun i hi => ?_⟩
  · simp [World.setCell, Array.getElem?_modify, h1]
  · have hi' : i < l.length := by simpa using hi
    rw [Array.getElem?_setIfInBounds, List.getElem_set]
    by_cases e : j = i
    · subst e
      rw [if_pos rfl, if_pos rfl, if_pos (by omega)]
    · rw [if_neg e, if_neg e]
      exact h3 i hi'
theorem BytesAt.row {e : TypeId} {w : World} {k c : Nat} {l : List UInt8} (h : BytesAt e w k l) (hc : l.length ≤ c) (hm : c ≤ maxLen) : Row enB 1 w (.slice (some ⟨k, 0, none⟩) l.length c) l := by
  refine ⟨_, c, rfl, hc, hm, flat_length enB_len l, fun _ => ⟨_, rfl, fun j u hu => ?_⟩⟩
  rw [enB_flat] at hu
  have hj : j < l.length := by
    rcases Nat.lt_or_ge j l.length with h | h
    · exact h
    · rw [List.getElem?_eq_none (by simpa using h)] at hu; cases hu
  rw [List.getElem?_eq_getElem (by simpa using hj)] at hu
  rw [add_plain, h.cell j hj]
  simpa using hu
theorem below_bytes {B : Nat} {a w : World} (h : Below B a w) (hB : B ≤ w.heap.size) (e : TypeId) (s : ByteArray) : Below B a (Lib.bytesWorld w e s) :=
  h.trans ⟨rfl, rfl, rfl, by rw [Lib.bytesWorld_size]; omega, fun k hk => Lib.bytesWorld_at_old w e s k (by omega)⟩
def KeepsMarked (b n : Nat) (w w' : World) : Prop := ∀ k cs t fz, k ≠ b → w.heap[k]? = some (.cells cs t fz) → n < fz.2 → w'.heap[k]? = w.heap[k]?
end Go.Proofs.YtbpfcjdjhponaaaGreat
namespace Go.Proofs.YtbpfcjdjhponaaaGreat
open Go.RowKit Sp
theorem letter_calls (r : Int) (w : World) :
    Calls Tryz.prog 123 #[.int .i32 r] w fun e w' => e = .returned (.bool (decide (97 ≤ r) && decide (r ≤ 122))) ∧ w = w' := by
  by_cases h1 : 97 ≤ r <;> by_cases h2 : r ≤ 122
  all_goals
    go_enter Tryz.func123, Tryz.ntmps123
    go_wp2
    go_ret
    exact ⟨by simp [h1, h2], rfl⟩
theorem width_pos (s : ByteArray) (pos : Nat) (h : pos < s.size) : 1 ≤ (Utf8.decode s pos).2 := by
  by_cases ha : (s[pos]'h).toNat < 128
  · rw [decode_ascii s pos h ha]
    exact Nat.le_refl _
  · exact (decode_high s pos h (by omega)).2
theorem letter_yes (r : Int) (w : World) (h1 : 97 ≤ r) (h2 : r ≤ 122) :
    Calls Tryz.prog 123 #[.int .i32 r] w fun e w' => e = .returned (.bool true) ∧ w = w' :=
  (letter_calls r w).mono fun _ _ ⟨he, hw⟩ => ⟨by rw [he]; simp [h1, h2], hw⟩
theorem letter_no (r : Int) (w : World) (h : r < 97 ∨ 122 < r) :
    Calls Tryz.prog 123 #[.int .i32 r] w fun e w' => e = .returned (.bool false) ∧ w = w' :=
  (letter_calls r w).mono fun _ _ ⟨he, hw⟩ => ⟨by rw [he]; congr 2; simp; omega, hw⟩
set_option maxHeartbeats 1000000 in
theorem Is_calls (s : ByteArray) (w : World) (hs : s.size ≤ 140737488351232) :
    Calls Tryz.prog 74 #[.string s] w fun e w' => e = .returned (.bool (isName s)) ∧ Below w.heap.size w w' := by
  go_enter Tryz.func74, Tryz.ntmps74
  go_wp2
  go_loopw [] (fun wr => ∃ pos, wr = w.iter s pos ∧ okTo s pos ∧ pos ≤ s.size) (fun wr => s.size - wr.iterPos w.heap.size)
  case atStart => exact ⟨0, rfl, okTo_zero s, Nat.zero_le _⟩
  case round =>
    obtain ⟨pos, rfl, ho, hle⟩ := hrel
    have HO := Lib.hid ho
    clear ho
    by_cases hp : pos < s.size
    · obtain ⟨r, d, hrd⟩ : ∃ r d, Utf8.decode s pos = (r, d) := ⟨_, _, rfl⟩
      have hwd := width_pos s pos hp
      rw [hrd] at hwd
      simp only at hwd
      have hnx : ∀ ty, (Instr.next (.pointer (some ⟨w.heap.size, 0, none⟩)) true ty).run Tryz.prog (w.iter s pos) = .ok (.tuple #[.bool true, .int .i64 pos, .int .i32 r]) (w.iter s (pos + d)) := fun ty => by rw [run_next_any w s pos ty hp, hrd]
      have hA : Hid ((s[pos].toNat < 128 → r = s[pos].toNat ∧ d = 1) ∧ (128 ≤ s[pos].toNat → 128 ≤ r)) := by
        refine Lib.hid ⟨fun ha => ?_, fun ha => ?_⟩
        · rw [decode_ascii s pos hp ha] at hrd
          simp only [Prod.mk.injEq] at hrd
          omega
        · have := (decode_high s pos hp ha).1
          rw [hrd] at this
          exact this
      have HR := Lib.hid hrd
      clear hrd
      by_cases hl : 97 ≤ r ∧ r ≤ 122
      · obtain ⟨hl1, hl2⟩ := hl
        go_wp2_with (go_at_call 123; refine (letter_yes _ _ (by omega) (by omega)).mono ?_; rintro e w' ⟨rfl, rfl⟩)
        go_roundw
        case rel =>
          refine ⟨pos + d, rfl, ?_, ?_⟩
          · obtain ⟨a1, a2⟩ := hA.out
            have hlt : s[pos].toNat < 128 := by rcases Nat.lt_or_ge s[pos].toNat 128 with h | h; exact h; have := a2 h; omega
            obtain ⟨a3, a4⟩ := a1 hlt
            rw [a4, okTo_succ s pos hp]
            have hq : isLetter s[pos] = true := (isLetter_nat _).2 (by omega)
            exact ⟨HO.out, letter_is _ hq, fun _ => hq⟩
          · obtain ⟨a1, a2⟩ := hA.out
            have hlt : s[pos].toNat < 128 := by rcases Nat.lt_or_ge s[pos].toNat 128 with h | h; exact h; have := a2 h; omega
            omega
        case measure => simp; omega
      · have hl' : (r : Int) < 97 ∨ 122 < (r : Int) := by omega
        have HL := Lib.hid hl
        clear hl
        have HL' := Lib.hid hl'
        clear hl'
        by_cases h0 : pos = 0
        · subst h0
          go_wp2_with (go_at_call 123; refine (letter_no _ _ HL'.out).mono ?_; rintro e w' ⟨rfl, rfl⟩)
          go_ret
          rw [isName_no s 0 hp (fun h => ?_)]
          · exact ⟨rfl, (Below.refl _ _).alloc (Nat.le_refl _) _⟩
          · have := (isLetter_nat _).1 (h.2 rfl)
            have := hA.out.1
            have := HL.out
            omega
        · have hb0 : ((pos : Int) == 0) = false := by simp; omega
          by_cases hd : 48 ≤ r ∧ r ≤ 57
          · obtain ⟨hd1, hd2⟩ := hd
            go_wp2_with (go_at_call 123; refine (letter_no _ _ HL'.out).mono ?_; rintro e w' ⟨rfl, rfl⟩)
            go_roundw
            case rel =>
              obtain ⟨a1, a2⟩ := hA.out
              have hlt : s[pos].toNat < 128 := by rcases Nat.lt_or_ge s[pos].toNat 128 with h | h; exact h; have := a2 h; omega
              obtain ⟨a3, a4⟩ := a1 hlt
              refine ⟨pos + d, rfl, ?_, by omega⟩
              rw [a4, okTo_succ s pos hp]
              exact ⟨HO.out, (isNameByte_nat _).2 (by omega), fun h => absurd h h0⟩
            case measure => simp; omega
          · by_cases h45 : r = 45
            · subst h45
              go_wp2_with (go_at_call 123; refine (letter_no _ _ HL'.out).mono ?_; rintro e w' ⟨rfl, rfl⟩)
              go_roundw
              case rel =>
                obtain ⟨a1, a2⟩ := hA.out
                have hlt : s[pos].toNat < 128 := by rcases Nat.lt_or_ge s[pos].toNat 128 with h | h; exact h; have := a2 h; omega
                obtain ⟨a3, a4⟩ := a1 hlt
                refine ⟨pos + d, rfl, ?_, by omega⟩
                rw [a4, okTo_succ s pos hp]
                exact ⟨HO.out, (isNameByte_nat _).2 (by omega), fun h => absurd h h0⟩
              case measure => simp; omega
            · have hb45 : ((r : Int) != 45) = true := by simp; omega
              have hno : isName s = false := isName_no s pos hp (fun h => by
                have h1 := (isNameByte_nat _).1 h.1
                have h2 := hA.out.1
                have h3 := HL.out
                omega)
              have HN := Lib.hid hno
              clear hno
              by_cases h48 : r < 48
              · go_wp2_with (go_at_call 123; refine (letter_no _ _ HL'.out).mono ?_; rintro e w' ⟨rfl, rfl⟩)
                go_ret
                rw [HN.out]
                exact ⟨rfl, (Below.refl _ _).alloc (Nat.le_refl _) _⟩
              · have h57 : 57 < r := by omega
                go_wp2_with (go_at_call 123; refine (letter_no _ _ HL'.out).mono ?_; rintro e w' ⟨rfl, rfl⟩)
                go_ret
                rw [HN.out]
                exact ⟨rfl, (Below.refl _ _).alloc (Nat.le_refl _) _⟩
    · obtain rfl : pos = s.size := by omega
      have hnx : ∀ ty, (Instr.next (.pointer (some ⟨w.heap.size, 0, none⟩)) true ty).run Tryz.prog (w.iter s s.size) = _ := fun ty => run_next_end w s s.size ty hp
      have hbel : Below w.heap.size w (w.iter s s.size) := (Below.refl _ _).alloc (Nat.le_refl _) _
      clear hle
      go_wp2
      · go_ret
        refine ⟨?_, hbel⟩
        have h0 : s.size = 0 := by
          have hq : s.toList = [] := by assumption
          rw [ByteArray.toList_eq] at hq
          have : s.data.toList.length = 0 := by rw [hq]; rfl
          rwa [Array.length_toList] at this
        have hno : isName s = false := by
          rw [← Bool.not_eq_true, isName_iff]
          omega
        rw [hno]
        rfl
      · go_ret
        refine ⟨ret_bool (a := (!s.toList.isEmpty && decide ((s.size : Int) ≤ 16))) ?_, hbel⟩
        have hq : ¬ s.toList = [] := by assumption
        rw [Bool.eq_iff_iff, isName_iff]
        have h0 : 0 < s.size := by
          rcases Nat.eq_zero_or_pos s.size with h | h
          · refine absurd ?_ hq
            rw [ByteArray.toList_eq]
            exact List.eq_nil_of_length_eq_zero (by rw [Array.length_toList]; exact h)
          · exact h
        have ho := HO.out
        simp [hq, h0, ho]
        try omega
set_option maxRecDepth 100000 in
set_option maxHeartbeats 1000000 in
theorem refIs_calls (s : ByteArray) (w : World) (hs : s.size ≤ 140737488351232) :
    Calls Tryz.prog 80 #[.string s] w fun e w' => e = .returned (.bool (isName s)) ∧ w = w' := by
  by_cases h0 : s.size = 0
  · have HV : Hid (isName s = false) := isName_short s h0
    have hz : s.size ≤ 0 := by omega
    clear h0
    go_enter Tryz.func80, Tryz.ntmps80
    go_wp2
    go_ret
    exact ⟨ret_bool HV.out.symm, rfl⟩
  · by_cases h16 : 16 < s.size
    · have HV : Hid (isName s = false) := isName_long s h16
      go_enter Tryz.func80, Tryz.ntmps80
      go_wp2
      go_ret
      exact ⟨ret_bool HV.out.symm, rfl⟩
    · have hp : 0 < s.size := by omega
      clear h0
      obtain ⟨b, hbv⟩ : ∃ b : Nat, (s[0]'hp).toNat = b := ⟨_, rfl⟩
      have hb256 : b < 256 := by rw [← hbv]; exact UInt8.toNat_lt _
      by_cases hl : 97 ≤ b ∧ b ≤ 122
      · obtain ⟨hl1, hl2⟩ := hl
        have HL : Hid (isLetter s[0] = true) := (isLetter_nat _).2 (by omega)
        go_enter Tryz.func80, Tryz.ntmps80
        go_wp2
        go_loop [3] (fun v3 => ∃ i : Nat, v3 = .int .i64 i ∧ Hid (okTo s i) ∧ i ≤ s.size) (fun v3 => (s.size - intOf v3).toNat)
        case atStart => exact ⟨0, rfl, okTo_zero s, Nat.zero_le _⟩
        case round =>
          obtain ⟨i, rfl, HO, hi⟩ := hrel
          by_cases hlt : i < s.size
          · obtain ⟨c, hcv⟩ : ∃ c : Nat, (s[i]'hlt).toNat = c := ⟨_, rfl⟩
            have hc256 : c < 256 := by rw [← hcv]; exact UInt8.toNat_lt _
            have hgo : (97 ≤ c ∧ c ≤ 122) ∨ (48 ≤ c ∧ c ≤ 57) ∨ c = 45 → Hid (okTo s (i + 1)) := fun h => (okTo_succ s i hlt).2 ⟨HO.out, (isNameByte_nat _).2 (by omega), fun e => by subst e; exact HL.out⟩
            have hno : ¬ ((97 ≤ c ∧ c ≤ 122) ∨ (48 ≤ c ∧ c ≤ 57) ∨ c = 45) → Hid (isName s = false) := fun h => isName_no s i hlt (fun hh => h (by have := (isNameByte_nat _).1 hh.1; omega))
            have HGO := Lib.hid hgo
            have HNO := Lib.hid hno
            clear hgo hno
            obtain h | h | h | h : (97 ≤ c ∧ c ≤ 122) ∨ (48 ≤ c ∧ c ≤ 57) ∨ (45 ≤ c ∧ c ≤ 45) ∨ ((c < 48 ∧ c ≠ 45) ∨ (57 < c ∧ c < 97) ∨ 122 < c) := by omega
            · have HN := HGO.out (.inl h)
              obtain ⟨h1, h2⟩ := h
              go_wp2
              exact ⟨⟨i + 1, by go_num, HN, by omega⟩, by simp [intOf]; omega⟩
            · have HN := HGO.out (.inr (.inl h))
              obtain ⟨h1, h2⟩ := h
              go_wp2
              exact ⟨⟨i + 1, by go_num, HN, by omega⟩, by simp [intOf]; omega⟩
            · have HN := HGO.out (.inr (.inr (by omega)))
              obtain ⟨h1, h2⟩ := h
              have h3 : ((c : Int) != 45) = false := by simp; omega
              go_wp2
              exact ⟨⟨i + 1, by go_num, HN, by omega⟩, by simp [intOf]; omega⟩
            · have HN := HNO.out (by omega)
              have h3 : ((c : Int) != 45) = true := by simp; omega
              obtain ⟨h1, _⟩ | ⟨h1, h2⟩ | h1 := h
              all_goals
                go_wp2
                go_ret
                exact ⟨ret_bool HN.out.symm, rfl⟩
          · obtain rfl : i = s.size := by omega
            have HV : Hid (isName s = true) := (isName_iff s).2 ⟨hp, by omega, HO.out⟩
            go_wp2
            go_ret
            exact ⟨ret_bool HV.out.symm, rfl⟩
      · have HV : Hid (isName s = false) := isName_no s 0 hp (fun h => hl (by have := (isLetter_nat _).1 (h.2 rfl); omega))
        obtain hl | ⟨hl0, hl⟩ : b < 97 ∨ 97 ≤ b ∧ 122 < b := by omega
        all_goals
          go_enter Tryz.func80, Tryz.ntmps80
          go_wp2
          go_ret
          exact ⟨ret_bool HV.out.symm, rfl⟩
end Go.Proofs.YtbpfcjdjhponaaaGreat
namespace Go.Proofs
open Go.Shelf
def Tryz.lays106_ren : Go.Shelf.Ren := ⟨fun | 106 => 168 | 213 => 181 | 265 => 194 | n => n, fun | 9 => 9 | 3 => 3 | n => n, fun | n => n⟩
theorem Tryz.lays106 : Go.Proofs.Lays.n106 Tryz.prog Tryz.lays106_ren := {
  mixed := by kernel_rfl
  f106 := Tryz.func168.trans (congrArg some (by kernel_rfl))
  f213 := Tryz.func181.trans (congrArg some (by kernel_rfl))
  f265 := Tryz.func194.trans (congrArg some (by kernel_rfl))
  t3 := Tryz.underlying3
  a3 := Tryz.isAgg3
  z3 := Tryz.sizeOf3
  v3 := Tryz.zeroValue3
  t9 := Tryz.underlying9
  a9 := Tryz.isAgg9
  z9 := Tryz.sizeOf9
  v9 := Tryz.zeroValue9 }
open Go.RowKit in
theorem Tryz.strings_Compare (a b : ByteArray) (w : World) :
    Calls Tryz.prog 168 #[.string a, .string b] w fun e w' => e = .returned (.int .i64 (Lib.compareBytes a.data.toList b.data.toList)) ∧ w' = w := Any.strings_Compare Tryz.lays106 a b w
def Tryz.lays122_ren : Go.Shelf.Ren := ⟨fun | 122 => 167 | 215 => 180 | n => n, fun | 3 => 3 | 4 => 4 | n => n, fun | n => n⟩
theorem Tryz.lays122 : Go.Proofs.Lays.n122 Tryz.prog Tryz.lays122_ren := {
  mixed := by kernel_rfl
  f122 := Tryz.func167.trans (congrArg some (by kernel_rfl))
  f215 := Tryz.func180.trans (congrArg some (by kernel_rfl))
  t3 := Tryz.underlying3
  a3 := Tryz.isAgg3
  z3 := Tryz.sizeOf3
  v3 := Tryz.zeroValue3
  t4 := Tryz.underlying4
  a4 := Tryz.isAgg4
  z4 := Tryz.sizeOf4
  v4 := Tryz.zeroValue4 }
open Go.RowKit in
theorem Tryz.cmp_Compare_int (x y : Int) (w : World) :
    Calls Tryz.prog 167 #[.int .i64 x, .int .i64 y] w fun e w' => e = .returned (.int .i64 (Lib.compareInt x y)) ∧ w' = w := Any.cmp_Compare_int Tryz.lays122 x y w
def Tryz.lays194_ren : Go.Shelf.Ren := ⟨fun | 194 => 130 | n => n, fun | 31 => 51 | 9 => 9 | 3 => 3 | 4 => 4 | 0 => 0 | n => n, fun | n => n⟩
theorem Tryz.lays194 : Go.Proofs.Lays.n194 Tryz.prog Tryz.lays194_ren := {
  mixed := by kernel_rfl
  f194 := Tryz.func130.trans (congrArg some (by kernel_rfl))
  t0 := Tryz.underlying0
  a0 := Tryz.isAgg0
  z0 := Tryz.sizeOf0
  v0 := Tryz.zeroValue0
  t3 := Tryz.underlying3
  a3 := Tryz.isAgg3
  z3 := Tryz.sizeOf3
  v3 := Tryz.zeroValue3
  t4 := Tryz.underlying4
  a4 := Tryz.isAgg4
  z4 := Tryz.sizeOf4
  v4 := Tryz.zeroValue4
  t9 := Tryz.underlying9
  a9 := Tryz.isAgg9
  z9 := Tryz.sizeOf9
  v9 := Tryz.zeroValue9
  t31 := Tryz.underlying51
  a31 := Tryz.isAgg51
  z31 := Tryz.sizeOf51
  v31 := Tryz.zeroValue51 }
open Go.RowKit Go.Lib Go.Sort in
theorem Tryz.slices_Compact_string (blk off cap : Nat) (zs : List (List UInt8)) (w : World) (hH : Holds encStr w blk off zs.toArray) (hsz : zs.length ≤ 9223372036854775807) (hcap : zs.length ≤ cap) :
    Calls Tryz.prog 130 #[.slice (some ⟨blk, off, none⟩) zs.length cap] w fun e w' => e = .returned (.slice (some ⟨blk, off, none⟩) (Lib.compact zs).length cap) ∧ ∃ q, w' = putRow encStr (Sort.ahead w q) blk off (Lib.compact zs ++ List.replicate (zs.length - (Lib.compact zs).length) []).toArray := Any.slices_Compact_string Tryz.lays194 blk off cap zs w hH hsz hcap
open Go.RowKit Go.Lib Go.Sort in
theorem Tryz.slices_Compact_string_empty (a : Option Addr) (cap : Nat) (w : World) :
    Calls Tryz.prog 130 #[.slice a 0 cap] w fun e w' => e = .returned (.slice a 0 cap) ∧ w' = w := Any.slices_Compact_string_empty Tryz.lays194 a cap w
def Tryz.laysSlF6_f129_ren : Go.Shelf.Ren := ⟨fun | 6 => 129 | 15 => 171 | 14 => 170 | 28 => 190 | 29 => 191 | 20 => 182 | 21 => 183 | 22 => 184 | 23 => 185 | 24 => 186 | 25 => 187 | 26 => 188 | 27 => 189 | 46 => 195 | 47 => 196 | 48 => 197 | 49 => 198 | 50 => 199 | 57 => 201 | n => n, fun | 22 => 51 | 24 => 9 | 25 => 167 | 3 => 3 | 39 => 129 | 0 => 0 | 53 => 127 | 55 => 133 | 4 => 4 | 46 => 221 | 45 => 220 | 50 => 135 | 5 => 5 | 9 => 9 | 66 => 229 | 70 => 137 | 76 => 235 | 77 => 236 | n => n, fun | n => n⟩
theorem Tryz.laysSlF6_f129 : Go.Proofs.SlLaysF.n6 Tryz.prog Tryz.laysSlF6_f129_ren := {
  mixed := by kernel_rfl
  f6 := ⟨Tryz.f129.name, by decide, Tryz.func129.trans (congrArg some (by kernel_rfl))⟩
  f14 := ⟨Tryz.f170.name, by decide, Tryz.func170.trans (congrArg some (by kernel_rfl))⟩
  f15 := Tryz.func171.trans (congrArg some (by kernel_rfl))
  f20 := ⟨Tryz.f182.name, by decide, Tryz.func182.trans (congrArg some (by kernel_rfl))⟩
  f21 := ⟨Tryz.f183.name, by decide, Tryz.func183.trans (congrArg some (by kernel_rfl))⟩
  f22 := ⟨Tryz.f184.name, by decide, Tryz.func184.trans (congrArg some (by kernel_rfl))⟩
  f23 := ⟨Tryz.f185.name, by decide, Tryz.func185.trans (congrArg some (by kernel_rfl))⟩
  f24 := ⟨Tryz.f186.name, by decide, Tryz.func186.trans (congrArg some (by kernel_rfl))⟩
  f25 := ⟨Tryz.f187.name, by decide, Tryz.func187.trans (congrArg some (by kernel_rfl))⟩
  f26 := ⟨Tryz.f188.name, by decide, Tryz.func188.trans (congrArg some (by kernel_rfl))⟩
  f27 := ⟨Tryz.f189.name, by decide, Tryz.func189.trans (congrArg some (by kernel_rfl))⟩
  f28 := Tryz.func190.trans (congrArg some (by kernel_rfl))
  f29 := Tryz.func191.trans (congrArg some (by kernel_rfl))
  f46 := ⟨Tryz.f195.name, by decide, Tryz.func195.trans (congrArg some (by kernel_rfl))⟩
  f47 := Tryz.func196.trans (congrArg some (by kernel_rfl))
  f48 := Tryz.func197.trans (congrArg some (by kernel_rfl))
  f49 := ⟨Tryz.f198.name, by decide, Tryz.func198.trans (congrArg some (by kernel_rfl))⟩
  f50 := ⟨Tryz.f199.name, by decide, Tryz.func199.trans (congrArg some (by kernel_rfl))⟩
  f57 := ⟨Tryz.f201.name, by decide, Tryz.func201.trans (congrArg some (by kernel_rfl))⟩
  t0 := Tryz.underlying0
  a0 := Tryz.isAgg0
  z0 := Tryz.sizeOf0
  v0 := Tryz.zeroValue0
  t3 := Tryz.underlying3
  a3 := Tryz.isAgg3
  z3 := Tryz.sizeOf3
  v3 := Tryz.zeroValue3
  t4 := Tryz.underlying4
  a4 := Tryz.isAgg4
  z4 := Tryz.sizeOf4
  v4 := Tryz.zeroValue4
  t5 := Tryz.underlying5
  a5 := Tryz.isAgg5
  z5 := Tryz.sizeOf5
  v5 := Tryz.zeroValue5
  t9 := Tryz.underlying9
  a9 := Tryz.isAgg9
  z9 := Tryz.sizeOf9
  v9 := Tryz.zeroValue9
  t22 := Tryz.underlying51
  a22 := Tryz.isAgg51
  z22 := Tryz.sizeOf51
  v22 := Tryz.zeroValue51
  a24 := Tryz.isAgg9
  z24 := Tryz.sizeOf9
  t25 := Tryz.underlying167
  a25 := Tryz.isAgg167
  z25 := Tryz.sizeOf167
  v25 := Tryz.zeroValue167
  t39 := Tryz.underlying129
  a39 := Tryz.isAgg129
  z39 := Tryz.sizeOf129
  v39 := Tryz.zeroValue129
  t45 := Tryz.underlying220
  a45 := Tryz.isAgg220
  z45 := Tryz.sizeOf220
  v45 := Tryz.zeroValue220
  t46 := Tryz.underlying221
  a46 := Tryz.isAgg221
  z46 := Tryz.sizeOf221
  v46 := Tryz.zeroValue221
  t50 := Tryz.underlying135
  a50 := Tryz.isAgg135
  z50 := Tryz.sizeOf135
  v50 := Tryz.zeroValue135
  t53 := Tryz.underlying127
  a53 := Tryz.isAgg127
  z53 := Tryz.sizeOf127
  v53 := Tryz.zeroValue127
  t55 := Tryz.underlying133
  a55 := Tryz.isAgg133
  z55 := Tryz.sizeOf133
  v55 := Tryz.zeroValue133
  t66 := Tryz.underlying229
  a66 := Tryz.isAgg229
  z66 := Tryz.sizeOf229
  v66 := Tryz.zeroValue229
  t70 := Tryz.underlying137
  a70 := Tryz.isAgg137
  z70 := Tryz.sizeOf137
  v70 := Tryz.zeroValue137
  t76 := Tryz.underlying235
  a76 := Tryz.isAgg235
  z76 := Tryz.sizeOf235
  v76 := Tryz.zeroValue235
  t77 := Tryz.underlying236
  a77 := Tryz.isAgg236
  z77 := Tryz.sizeOf236
  v77 := Tryz.zeroValue236 }
open Go.RowKit Go.Lib Go.Sort in
theorem Tryz.slices_SortFunc {α : Type} [Inhabited α] (enc : α → Value) (h1 : OneCell enc) (cf : α → α → Int) (hO : SWO (ltOf cf)) (g : Nat) (cb : Array Value) (blk off cap : Nat) (d : Array α) (w : World) (eg : ∀ args w, (callFunc g args).run Tryz.prog w = .ok (.enter g args) w) (hcmp : CmpLays1 Tryz.prog g cb enc cf blk off d.size w) (hH : Holds enc w blk off d) (hblk : blk < w.heap.size) (hsz : d.size < 4611686018427387904) :
    Calls Tryz.prog 129 #[.slice (some ⟨blk, off, none⟩) d.size cap, .func (.func g) #[] cb] w fun e w' =>
      e = .returned (.tuple #[]) ∧ ∃ d' n os, PermIn 0 d.size d d' ∧ SortedIn (ltOf cf) 0 d.size d' ∧ w' = sortWorld enc w blk off n d' os := Any.slices_SortFunc Tryz.laysSlF6_f129 enc h1 cf hO g cb blk off cap d w eg hcmp hH hblk hsz
def Tryz.laysSlF06_f129_ren : Go.Shelf.Ren := ⟨fun | 6 => 129 | 15 => 171 | 14 => 170 | 28 => 190 | 29 => 191 | 20 => 182 | 21 => 183 | 22 => 184 | 23 => 185 | 24 => 186 | 25 => 187 | 26 => 188 | 27 => 189 | 46 => 195 | 47 => 196 | 48 => 197 | 49 => 198 | 50 => 199 | 57 => 201 | n => n, fun | 22 => 51 | 24 => 9 | 25 => 167 | 3 => 3 | 39 => 129 | 0 => 0 | 53 => 127 | 55 => 133 | 4 => 4 | 46 => 221 | 45 => 220 | 50 => 135 | 5 => 5 | 9 => 9 | 66 => 229 | 70 => 137 | 76 => 235 | 77 => 236 | n => n, fun | n => n⟩
theorem Tryz.laysSlF06_f129 : Go.Proofs.SlLaysF0.n6 Tryz.prog Tryz.laysSlF06_f129_ren := {
  mixed := by kernel_rfl
  f6 := ⟨Tryz.f129.name, by decide, Tryz.func129.trans (congrArg some (by kernel_rfl))⟩
  f14 := ⟨Tryz.f170.name, by decide, Tryz.func170.trans (congrArg some (by kernel_rfl))⟩
  f15 := Tryz.func171.trans (congrArg some (by kernel_rfl))
  f20 := ⟨Tryz.f182.name, by decide, Tryz.func182.trans (congrArg some (by kernel_rfl))⟩
  f21 := ⟨Tryz.f183.name, by decide, Tryz.func183.trans (congrArg some (by kernel_rfl))⟩
  f22 := ⟨Tryz.f184.name, by decide, Tryz.func184.trans (congrArg some (by kernel_rfl))⟩
  f23 := ⟨Tryz.f185.name, by decide, Tryz.func185.trans (congrArg some (by kernel_rfl))⟩
  f24 := ⟨Tryz.f186.name, by decide, Tryz.func186.trans (congrArg some (by kernel_rfl))⟩
  f25 := ⟨Tryz.f187.name, by decide, Tryz.func187.trans (congrArg some (by kernel_rfl))⟩
  f26 := ⟨Tryz.f188.name, by decide, Tryz.func188.trans (congrArg some (by kernel_rfl))⟩
  f27 := ⟨Tryz.f189.name, by decide, Tryz.func189.trans (congrArg some (by kernel_rfl))⟩
  f28 := Tryz.func190.trans (congrArg some (by kernel_rfl))
  f29 := Tryz.func191.trans (congrArg some (by kernel_rfl))
  f46 := ⟨Tryz.f195.name, by decide, Tryz.func195.trans (congrArg some (by kernel_rfl))⟩
  f47 := Tryz.func196.trans (congrArg some (by kernel_rfl))
  f48 := Tryz.func197.trans (congrArg some (by kernel_rfl))
  f49 := ⟨Tryz.f198.name, by decide, Tryz.func198.trans (congrArg some (by kernel_rfl))⟩
  f50 := ⟨Tryz.f199.name, by decide, Tryz.func199.trans (congrArg some (by kernel_rfl))⟩
  f57 := ⟨Tryz.f201.name, by decide, Tryz.func201.trans (congrArg some (by kernel_rfl))⟩
  t0 := Tryz.underlying0
  a0 := Tryz.isAgg0
  z0 := Tryz.sizeOf0
  v0 := Tryz.zeroValue0
  t3 := Tryz.underlying3
  a3 := Tryz.isAgg3
  z3 := Tryz.sizeOf3
  v3 := Tryz.zeroValue3
  t4 := Tryz.underlying4
  a4 := Tryz.isAgg4
  z4 := Tryz.sizeOf4
  v4 := Tryz.zeroValue4
  t5 := Tryz.underlying5
  a5 := Tryz.isAgg5
  z5 := Tryz.sizeOf5
  v5 := Tryz.zeroValue5
  t9 := Tryz.underlying9
  a9 := Tryz.isAgg9
  z9 := Tryz.sizeOf9
  v9 := Tryz.zeroValue9
  t22 := Tryz.underlying51
  a22 := Tryz.isAgg51
  z22 := Tryz.sizeOf51
  v22 := Tryz.zeroValue51
  t25 := Tryz.underlying167
  a25 := Tryz.isAgg167
  z25 := Tryz.sizeOf167
  v25 := Tryz.zeroValue167
  t39 := Tryz.underlying129
  a39 := Tryz.isAgg129
  z39 := Tryz.sizeOf129
  v39 := Tryz.zeroValue129
  t45 := Tryz.underlying220
  a45 := Tryz.isAgg220
  z45 := Tryz.sizeOf220
  v45 := Tryz.zeroValue220
  t46 := Tryz.underlying221
  a46 := Tryz.isAgg221
  z46 := Tryz.sizeOf221
  v46 := Tryz.zeroValue221
  t50 := Tryz.underlying135
  a50 := Tryz.isAgg135
  z50 := Tryz.sizeOf135
  v50 := Tryz.zeroValue135
  t53 := Tryz.underlying127
  a53 := Tryz.isAgg127
  z53 := Tryz.sizeOf127
  v53 := Tryz.zeroValue127
  t55 := Tryz.underlying133
  a55 := Tryz.isAgg133
  z55 := Tryz.sizeOf133
  v55 := Tryz.zeroValue133
  t66 := Tryz.underlying229
  a66 := Tryz.isAgg229
  z66 := Tryz.sizeOf229
  v66 := Tryz.zeroValue229
  t70 := Tryz.underlying137
  a70 := Tryz.isAgg137
  z70 := Tryz.sizeOf137
  v70 := Tryz.zeroValue137
  t76 := Tryz.underlying235
  a76 := Tryz.isAgg235
  z76 := Tryz.sizeOf235
  v76 := Tryz.zeroValue235
  t77 := Tryz.underlying236
  a77 := Tryz.isAgg236
  z77 := Tryz.sizeOf236
  v77 := Tryz.zeroValue236 }
open Go.RowKit Go.Lib Go.Sort in
theorem Tryz.slices_SortFunc_none {α : Type} [Inhabited α] (p : Option Addr) (cap : Nat) (fv : Value) (w : World) :
    Calls Tryz.prog 129 #[.slice p 0 cap, fv] w fun e w' => e = .returned (.tuple #[]) ∧ w' = w := AnyF.slices_SortFunc_none Tryz.laysSlF06_f129 p cap fv w
end Go.Proofs
namespace Go.Proofs.YtbpfcjdjhponaaaGreat
namespace Sp
theorem ltL_irrefl : ∀ l : List UInt8, ltL l l = false
  | [] => rfl
  | a :: l => by simp [ltL, ltL_irrefl l]
theorem ltL_trans : ∀ x y z : List UInt8, ltL x y = true → ltL y z = true → ltL x z = true
  | _, [], [], _, h => by simp [ltL] at h
  | _, _ :: _, [], _, h => by simp [ltL] at h
  | [], [], _ :: _, h, _ => by simp [ltL] at h
  | _ :: _, [], _ :: _, h, _ => by simp [ltL] at h
  | [], _ :: _, _ :: _, _, _ => rfl
  | a :: x, b :: y, c :: z, h1, h2 => by
    simp only [ltL, Bool.or_eq_true, Bool.and_eq_true, decide_eq_true_eq, beq_iff_eq] at h1 h2 ⊢
    rcases h1 with h1 | ⟨rfl, h1⟩
    · rcases h2 with h2 | ⟨rfl, h2⟩
      · exact .inl (UInt8.lt_trans h1 h2)
      · exact .inl h1
    · rcases h2 with h2 | ⟨rfl, h2⟩
      · exact .inl h2
      · exact .inr ⟨rfl, ltL_trans x y z h1 h2⟩
theorem ltL_total : ∀ x y : List UInt8, x ≠ y → ltL x y = true ∨ ltL y x = true
  | [], [], h => absurd rfl h
  | [], _ :: _, _ => .inl rfl
  | _ :: _, [], _ => .inr rfl
  | a :: x, b :: y, h => by
    simp only [ltL, Bool.or_eq_true, Bool.and_eq_true, decide_eq_true_eq, beq_iff_eq]
    by_cases e : a = b
    · subst e
      have hn : x ≠ y := fun e => h (by rw [e])
      rcases ltL_total x y hn with h | h
      · exact .inl (.inr ⟨rfl, h⟩)
      · exact .inr (.inr ⟨rfl, h⟩)
    · rcases UInt8.lt_or_lt_of_ne e with h | h
      · exact .inl (.inl h)
      · exact .inr (.inl h)
theorem bytes_ext {s t : ByteArray} (h : s.data.toList = t.data.toList) : s = t := by
  cases s; cases t; simp only [Array.toList_inj] at h; rw [h]
theorem less_irrefl (a : ByteArray) : less a a = false := by simp [less, ltL_irrefl]
theorem less_trans (a b c : ByteArray) (h1 : less a b = true) (h2 : less b c = true) : less a c = true := by
  simp only [less, Bool.or_eq_true, Bool.and_eq_true, decide_eq_true_eq, beq_iff_eq] at h1 h2 ⊢
  rcases h1 with h1 | ⟨e1, h1⟩ <;> rcases h2 with h2 | ⟨e2, h2⟩
  · exact .inl (by omega)
  · exact .inl (by omega)
  · exact .inl (by omega)
  · exact .inr ⟨by omega, ltL_trans _ _ _ h1 h2⟩
theorem less_total (a b : ByteArray) (h : a ≠ b) : less a b = true ∨ less b a = true := by
  simp only [less, Bool.or_eq_true, Bool.and_eq_true, decide_eq_true_eq, beq_iff_eq]
  rcases Nat.lt_trichotomy a.size b.size with h1 | h1 | h1
  · exact .inl (.inl h1)
  · rcases ltL_total a.data.toList b.data.toList (fun e => h (bytes_ext e)) with h2 | h2
    · exact .inl (.inr ⟨h1, h2⟩)
    · exact .inr (.inr ⟨h1.symm, h2⟩)
  · exact .inr (.inl h1)
theorem less_asymm (a b : ByteArray) (h : less a b = true) : less b a = false := by
  rw [← Bool.not_eq_true]
  intro h2
  have := less_trans a b a h h2
  rw [less_irrefl] at this
  cases this
theorem not_less_iff (a b : ByteArray) : less a b = false ↔ (a = b ∨ less b a = true) := by
  constructor
  · intro h
    by_cases e : a = b
    · exact .inl e
    · rcases less_total a b e with h2 | h2
      · rw [h] at h2; cases h2
      · exact .inr h2
  · rintro (rfl | h)
    · exact less_irrefl a
    · exact less_asymm b a h
def Sorted (l : List ByteArray) : Prop := l.Pairwise fun a b => less a b = true
theorem sorted_ext : ∀ l m : List ByteArray, Sorted l → Sorted m → (∀ x, x ∈ l ↔ x ∈ m) → l = m
  | [], [], _, _, _ => rfl
  | [], b :: m, _, _, h => absurd ((h b).2 List.mem_cons_self) (by simp)
  | a :: l, [], _, _, h => absurd ((h a).1 List.mem_cons_self) (by simp)
  | a :: l, b :: m, hl, hm, h => by
    obtain ⟨ha, hl'⟩ := List.pairwise_cons.1 hl
    obtain ⟨hb, hm'⟩ := List.pairwise_cons.1 hm
    have hab : a = b := by
      rcases List.mem_cons.1 ((h a).1 List.mem_cons_self) with e | e
      · exact e
      · rcases List.mem_cons.1 ((h b).2 List.mem_cons_self) with e' | e'
        · exact e'.symm
        · have h1 := hb a e
          have h2 := less_asymm _ _ (ha b e')
          rw [h1] at h2
          cases h2
    subst hab
    congr 1
    refine sorted_ext l m hl' hm' fun x => ?_
    have hx := h x
    simp only [List.mem_cons] at hx
    constructor
    · intro hxl
      rcases hx.1 (.inr hxl) with e | e
      · subst e
        have := ha _ hxl
        rw [less_irrefl] at this
        cases this
      · exact e
    · intro hxm
      rcases hx.2 (.inr hxm) with e | e
      · subst e
        have := hb _ hxm
        rw [less_irrefl] at this
        cases this
      · exact e
def insS (l : List ByteArray) (s : ByteArray) : List ByteArray :=
  let p := l.takeWhile fun x => less x s
  let q := l.dropWhile fun x => less x s
  if q.head? = some s then l else p ++ s :: q
def mergeS (a b : List ByteArray) : List ByteArray := (a ++ b).foldl insS []
theorem insS_mem (l : List ByteArray) (s x : ByteArray) : x ∈ insS l s ↔ x = s ∨ x ∈ l := by
  unfold insS
  have hl : l.takeWhile (fun x => less x s) ++ l.dropWhile (fun x => less x s) = l := List.takeWhile_append_dropWhile
  simp only
  split
  · rename_i h
    constructor
    · exact .inr
    · rintro (rfl | h')
      · rw [← hl, List.mem_append]
        exact .inr (List.mem_of_mem_head? (by rw [h]; rfl))
      · exact h'
  · rw [List.mem_append, List.mem_cons]
    conv => rhs; rw [← hl, List.mem_append]
    constructor
    · rintro (h | h | h)
      · exact .inr (.inl h)
      · exact .inl h
      · exact .inr (.inr h)
    · rintro (h | h | h)
      · exact .inr (.inl h)
      · exact .inl h
      · exact .inr (.inr h)
theorem dropWhile_head {α : Type} (p : α → Bool) : ∀ (l : List α) (x : α), (l.dropWhile p).head? = some x → p x = false
  | [], _, h => by simp at h
  | a :: l, x, h => by
    rw [List.dropWhile_cons] at h
    split at h
    · exact dropWhile_head p l x h
    · rename_i hp
      simp only [List.head?_cons, Option.some.injEq] at h
      subst h
      simpa using hp
theorem takeWhile_all {α : Type} (p : α → Bool) : ∀ (l : List α) (x : α), x ∈ l.takeWhile p → p x = true
  | a :: l, x, h => by
    rw [List.takeWhile_cons] at h
    split at h
    · rename_i hp
      rcases List.mem_cons.1 h with e | e
      · rw [e]; exact hp
      · exact takeWhile_all p l x e
    · cases h
theorem insS_sorted (l : List ByteArray) (s : ByteArray) (h : Sorted l) : Sorted (insS l s) := by
  unfold insS
  have hl : l.takeWhile (fun x => less x s) ++ l.dropWhile (fun x => less x s) = l := List.takeWhile_append_dropWhile
  simp only
  split
  · exact h
  · rename_i hne
    rw [Sorted, ← hl, List.pairwise_append] at h
    obtain ⟨h1, h2, h3⟩ := h
    rw [Sorted, List.pairwise_append]
    have hq : ∀ y ∈ l.dropWhile (fun x => less x s), less s y = true := by
      cases hd : l.dropWhile (fun x => less x s) with
      | nil => intro y hy; cases hy
      | cons z q =>
        rw [hd] at h2 hne
        have hz := dropWhile_head (fun x => less x s) l z (by rw [hd]; rfl)
        have hzs : less s z = true := by
          rcases (not_less_iff z s).1 hz with e | e
          · subst e; simp at hne
          · exact e
        intro y hy
        rcases List.mem_cons.1 hy with e | e
        · rw [e]; exact hzs
        · exact less_trans _ _ _ hzs ((List.pairwise_cons.1 h2).1 y e)
    refine ⟨h1, List.pairwise_cons.2 ⟨hq, h2⟩, fun a ha b hb => ?_⟩
    have has := takeWhile_all _ l a ha
    rcases List.mem_cons.1 hb with e | e
    · rw [e]; exact has
    · exact less_trans _ _ _ has (hq b e)
theorem fold_mem : ∀ (m l : List ByteArray) (x : ByteArray), x ∈ m.foldl insS l ↔ x ∈ l ∨ x ∈ m
  | [], l, x => by simp
  | s :: m, l, x => by
    rw [List.foldl_cons, fold_mem m, insS_mem, List.mem_cons]
    constructor
    · rintro ((h | h) | h)
      · exact .inr (.inl h)
      · exact .inl h
      · exact .inr (.inr h)
    · rintro (h | h | h)
      · exact .inl (.inr h)
      · exact .inl (.inl h)
      · exact .inr h
theorem fold_sorted : ∀ (m l : List ByteArray), Sorted l → Sorted (m.foldl insS l)
  | [], _, h => h
  | s :: m, l, h => fold_sorted m _ (insS_sorted l s h)
theorem mergeS_sorted (a b : List ByteArray) : Sorted (mergeS a b) := fold_sorted _ _ List.Pairwise.nil
theorem mergeS_mem (a b : List ByteArray) (x : ByteArray) : x ∈ mergeS a b ↔ x ∈ a ∨ x ∈ b := by
  unfold mergeS
  rw [fold_mem, List.mem_append]
  simp
theorem mergeS_eq (a b l : List ByteArray) (h : Sorted l) (hm : ∀ x, x ∈ l ↔ x ∈ a ∨ x ∈ b) : mergeS a b = l :=
  sorted_ext _ _ (mergeS_sorted a b) h fun x => (mergeS_mem a b x).trans (hm x).symm
theorem insS_len (l : List ByteArray) (s : ByteArray) : (insS l s).length ≤ l.length + 1 := by
  unfold insS
  simp only
  split
  · omega
  · have hl : l.takeWhile (fun x => less x s) ++ l.dropWhile (fun x => less x s) = l := List.takeWhile_append_dropWhile
    have := congrArg List.length hl
    rw [List.length_append] at this
    simp only [List.length_append, List.length_cons]
    omega
theorem fold_len : ∀ (m l : List ByteArray), (m.foldl insS l).length ≤ l.length + m.length
  | [], l => by simp
  | s :: m, l => by
    rw [List.foldl_cons]
    have h1 := fold_len m (insS l s)
    have h2 := insS_len l s
    simp only [List.length_cons]
    omega
theorem mergeS_len (a b : List ByteArray) : (mergeS a b).length ≤ a.length + b.length := by
  have := fold_len (a ++ b) []
  rw [List.length_append] at this
  simp only [List.length_nil, Nat.zero_add] at this
  exact this
end Sp
end Go.Proofs.YtbpfcjdjhponaaaGreat
namespace Go.Proofs.YtbpfcjdjhponaaaGreat
open Go.RowKit Sp
def enI (x : Int) : List Value := [.int .i64 x]
def enS (s : ByteArray) : List Value := [.string s]
theorem enI_len (x : Int) : (enI x).length = 1 := rfl
theorem enS_len (x : ByteArray) : (enS x).length = 1 := rfl
theorem enS_one (x : ByteArray) : ∀ u ∈ enS x, u.oneCell' = true := fun u hu => by rw [enS, List.mem_singleton] at hu; rw [hu]; rfl
theorem bytesLess_eq : ∀ x y : List UInt8, Op.bytesLess x y = ltL x y
  | [], [] => rfl
  | [], _ :: _ => rfl
  | _ :: _, [] => rfl
  | a :: x, b :: y => by simp only [Op.bytesLess, ltL, bytesLess_eq x y]
theorem bytesLess_less (a b : ByteArray) : Op.bytesLess a.toList b.toList = ltL a.data.toList b.data.toList := by
  rw [ByteArray.toList_eq, ByteArray.toList_eq, bytesLess_eq]
theorem compareBytes_neg : ∀ x y : List UInt8, (Lib.compareBytes x y < 0) = (ltL x y = true)
  | [], [] => by simp [Lib.compareBytes, ltL]
  | [], _ :: _ => by simp [Lib.compareBytes, ltL]
  | _ :: _, [] => by simp [Lib.compareBytes, ltL]
  | a :: x, b :: y => by
    simp only [Lib.compareBytes, ltL]
    by_cases h : a < b
    · rw [if_pos h]; simp [h]
    · rw [if_neg h]
      by_cases h2 : b < a
      · rw [if_pos h2]
        have hne : (a == b) = false := by
          rw [beq_eq_false_iff_ne]
          rintro rfl
          exact UInt8.lt_irrefl _ h2
        simp [h, hne]
      · rw [if_neg h2]
        have he : a = b := by
          by_cases e : a = b
          · exact e
          · rcases UInt8.lt_or_lt_of_ne e with e | e
            · exact absurd e h
            · exact absurd e h2
        subst he
        simp [compareBytes_neg x y]
def cmpS (a b : ByteArray) : Int := if Lib.compareInt a.size b.size ≠ 0 then Lib.compareInt a.size b.size else Lib.compareBytes a.data.toList b.data.toList
theorem cmpS_neg (a b : ByteArray) : decide (cmpS a b < 0) = less a b := by
  unfold cmpS less Lib.compareInt
  rcases Nat.lt_trichotomy a.size b.size with h | h | h
  · simp [h]
  · simp [h, compareBytes_neg]
  · have h1 : ¬ a.size < b.size := by omega
    have h2 : ¬ a.size = b.size := by omega
    have h3 : ¬ ((a.size : Int) < b.size) := by omega
    have h4 : ((b.size : Int) < a.size) := by omega
    simp [h1, h2, h4]
def orL : List Int → Int
  | [] => 0
  | x :: l => if x ≠ 0 then x else orL l
theorem orL_two (x y : Int) : orL [x, y] = if x ≠ 0 then x else y := by
  by_cases h : x = 0 <;> by_cases h2 : y = 0 <;> simp [orL, h, h2]
theorem orL_drop (xs : List Int) (k : Nat) (h : k < xs.length) : orL (xs.drop k) = if xs[k] ≠ 0 then xs[k] else orL (xs.drop (k + 1)) := by
  rw [List.drop_eq_getElem_cons h]; rfl
set_option maxRecDepth 100000 in
theorem cmpOr_calls (A : Option Addr) (n c : Nat) (xs : List Int) (w : World) (h : Row enI 1 w (.slice A n c) xs) (hn : n ≤ 100) :
    Calls Tryz.prog 166 #[.slice A n c] w fun e w' => e = .returned (.int .i64 (orL xs)) ∧ w = w' := by
  have hl := h.len_eq
  have HL := Lib.hid hl
  clear hl
  go_enter Tryz.func166, Tryz.ntmps166
  go_wp2
  go_loop [8] (fun v8 => ∃ k : Nat, v8 = .int .i64 k ∧ k ≤ n ∧ Hid (orL (xs.drop k) = orL xs)) (fun v8 => (n - intOf v8).toNat)
  case atStart => exact ⟨0, rfl, Nat.zero_le _, by show _ = _; rw [List.drop_zero]⟩
  case round =>
    obtain ⟨k, rfl, hk, HF⟩ := hrel
    by_cases hlt : k < n
    · have hk' : k < xs.length := by have := HL.out; omega
      obtain ⟨ad, rfl, hc⟩ := h.get1 (f := Value.int .i64) k hk'
      have hd := orL_drop xs k hk'
      obtain ⟨x, hx⟩ : ∃ x, xs[k] = x := ⟨_, rfl⟩
      rw [hx] at hc hd
      clear hx
      rw [HF.out] at hd
      by_cases h0 : x = 0
      · have hb : (x != 0) = false := by simp [h0]
        have HF2 : Hid (orL (xs.drop (k + 1)) = orL xs) := by rw [hd, if_neg (by simp [h0])]; rfl
        clear h0 hd
        go_wp2
        go_round
        case rel => exact ⟨k + 1, by go_num, by omega, HF2⟩
        case measure => simp [intOf]; omega
      · have hb : (x != 0) = true := by simp [h0]
        have HF2 : Hid (orL xs = x) := by rw [hd, if_pos h0]; rfl
        clear h0 hd
        go_wp2
        go_ret
        exact ⟨ret_int HF2.out.symm, rfl⟩
    · have HF2 : Hid (orL xs = 0) := by
        have := HF.out
        rw [List.drop_eq_nil_of_le (by have := HL.out; omega)] at this
        exact this.symm
      go_wp2
      go_ret
      exact ⟨ret_int HF2.out.symm, rfl⟩
set_option maxRecDepth 100000 in
theorem compare_exact (a b : ByteArray) (w : World) :
    Calls Tryz.prog 126 #[.string a, .string b] w fun e w' => e = .returned (.int .i64 (cmpS a b)) ∧ ∃ o, w' = w.alloc o := by
  have hfin : orL [Lib.compareInt a.size b.size, Lib.compareBytes a.data.toList b.data.toList] = cmpS a b := by
    unfold cmpS
    exact orL_two _ _
  have HF := Lib.hid hfin
  clear hfin
  go_enter Tryz.func126, Tryz.ntmps126
  go_wp2_with fail
  refine (Tryz.cmp_Compare_int _ _ _).mono ?_
  rintro e w1 ⟨rfl, rfl⟩
  go_wp2_with fail
  refine (Tryz.strings_Compare _ _ _).mono ?_
  rintro e w1 ⟨rfl, rfl⟩
  go_wp2_with fail
  refine (cmpOr_calls _ 2 2 [Lib.compareInt a.size b.size, Lib.compareBytes a.data.toList b.data.toList] _ (Own.lit (base := 0) enI_len w1 _ _ 2 rfl rfl (Nat.zero_le _) (by omega)).row (by omega)).mono ?_
  rintro e w2 ⟨rfl, rfl⟩
  go_wp2
  go_ret
  exact ⟨ret_int HF.out, _, rfl⟩
theorem compare_calls (a b : ByteArray) (w : World) :
    Calls Tryz.prog 126 #[.string a, .string b] w fun e w' => e = .returned (.int .i64 (cmpS a b)) ∧ Below w.heap.size w w' :=
  (compare_exact a b w).mono fun _ _ ⟨he, o, hw⟩ => ⟨he, by rw [hw]; exact (Below.refl _ _).alloc (Nat.le_refl _) _⟩
set_option maxRecDepth 100000 in
theorem Less_calls (a b : ByteArray) (w : World) :
    Calls Tryz.prog 76 #[.string a, .string b] w fun e w' => e = .returned (.bool (less a b)) ∧ Below w.heap.size w w' := by
  go_enter Tryz.func76, Tryz.ntmps76
  go_wp2_with fail
  refine (compare_calls a b _).mono ?_
  rintro e w1 ⟨rfl, hb1⟩
  go_wp2
  go_ret
  exact ⟨ret_bool (cmpS_neg a b), hb1⟩
set_option maxRecDepth 100000 in
theorem refLess_calls (a b : ByteArray) (w : World) :
    Calls Tryz.prog 131 #[.string a, .string b] w fun e w' => e = .returned (.bool (less a b)) ∧ w = w' := by
  have hl := bytesLess_less a b
  have HL := Lib.hid hl
  clear hl
  rcases Nat.lt_trichotomy a.size b.size with h | h | h
  · go_enter Tryz.func131, Tryz.ntmps131
    go_wp2
    go_ret
    exact ⟨ret_bool (a := true) (by simp [less, h]), rfl⟩
  · have h1 : ¬ a.size < b.size := by omega
    have hb1 : ((a.size : Int) == b.size) = true := by simp [h]
    have H := Lib.hid h
    clear h
    go_enter Tryz.func131, Tryz.ntmps131
    go_wp2
    go_ret
    refine ⟨ret_bool (a := Op.bytesLess a.toList b.toList) ?_, rfl⟩
    rw [HL.out]
    simp [less, H.out]
  · have h1 : ¬ a.size < b.size := by omega
    have hb1 : ((a.size : Int) == b.size) = false := by simp; omega
    go_enter Tryz.func131, Tryz.ntmps131
    go_wp2
    go_ret
    refine ⟨ret_bool (a := false) ?_, rfl⟩
    have h2 : ¬ a.size = b.size := by omega
    simp [less, h1, h2]
end Go.Proofs.YtbpfcjdjhponaaaGreat
namespace Go.Proofs.YtbpfcjdjhponaaaGreat
namespace Sp
structure SOrd {K : Type} (lt : K → K → Bool) : Prop where
  irr : ∀ a, lt a a = false
  tr : ∀ a b c, lt a b = true → lt b c = true → lt a c = true
  tri : ∀ a b, a ≠ b → lt a b = true ∨ lt b a = true
section
variable {α K : Type} {key : α → K} {lt : K → K → Bool}
theorem SOrd.asymm (O : SOrd lt) {a b : K} (h : lt a b = true) : lt b a = false := by
  rw [← Bool.not_eq_true]
  intro h2
  have := O.tr a b a h h2
  rw [O.irr] at this
  cases this
theorem SOrd.ne (O : SOrd lt) {a b : K} (h : lt a b = true) : a ≠ b := by
  rintro rfl
  rw [O.irr] at h
  cases h
def InOrd (key : α → K) (lt : K → K → Bool) (l : List α) : Prop := l.Pairwise fun a b => lt (key a) (key b) = true
theorem ord_ext (O : SOrd lt) : ∀ l m : List α, InOrd key lt l → InOrd key lt m → (∀ x, x ∈ l ↔ x ∈ m) → l = m
  | [], [], _, _, _ => rfl
  | [], b :: m, _, _, h => absurd ((h b).2 List.mem_cons_self) (by simp)
  | a :: l, [], _, _, h => absurd ((h a).1 List.mem_cons_self) (by simp)
  | a :: l, b :: m, hl, hm, h => by
    obtain ⟨ha, hl'⟩ := List.pairwise_cons.1 hl
    obtain ⟨hb, hm'⟩ := List.pairwise_cons.1 hm
    have hab : a = b := by
      rcases List.mem_cons.1 ((h a).1 List.mem_cons_self) with e | e
      · exact e
      · rcases List.mem_cons.1 ((h b).2 List.mem_cons_self) with e' | e'
        · exact e'.symm
        · have h1 := hb a e
          have h2 := O.asymm (ha b e')
          rw [h1] at h2
          cases h2
    subst hab
    congr 1
    refine ord_ext O l m hl' hm' fun x => ?_
    have hx := h x
    simp only [List.mem_cons] at hx
    constructor
    · intro hxl
      rcases hx.1 (.inr hxl) with e | e
      · subst e
        exact absurd rfl (O.ne (ha _ hxl))
      · exact e
    · intro hxm
      rcases hx.2 (.inr hxm) with e | e
      · subst e
        exact absurd rfl (O.ne (hb _ hxm))
      · exact e
theorem ord_key (O : SOrd lt) {l : List α} (h : InOrd key lt l) {x y : α} (hx : x ∈ l) (hy : y ∈ l) (e : key x = key y) : x = y := by
  induction l with
  | nil => cases hx
  | cons a l ih =>
    obtain ⟨ha, hl⟩ := List.pairwise_cons.1 h
    rcases List.mem_cons.1 hx with e1 | h1
    · rcases List.mem_cons.1 hy with e2 | h2
      · rw [e1, e2]
      · subst e1; exact absurd e (O.ne (ha y h2))
    · rcases List.mem_cons.1 hy with e2 | h2
      · subst e2; exact absurd e.symm (O.ne (ha x h1))
      · exact ih hl h1 h2
theorem ord_of_adj (O : SOrd lt) : ∀ l : List α, (∀ i (h : i + 1 < l.length), lt (key l[i]) (key l[i + 1]) = true) → InOrd key lt l
  | [], _ => List.Pairwise.nil
  | [a], _ => List.pairwise_singleton _ _
  | a :: b :: l, h => by
    have ih := ord_of_adj O (b :: l) (fun i hi => h (i + 1) (by simp only [List.length_cons] at hi ⊢; omega))
    have hab : lt (key a) (key b) = true := h 0 (by simp)
    refine List.pairwise_cons.2 ⟨fun y hy => ?_, ih⟩
    rcases List.mem_cons.1 hy with rfl | hy
    · exact hab
    · exact O.tr _ _ _ hab ((List.pairwise_cons.1 ih).1 y hy)
theorem adj_of_ord {l : List α} (h : InOrd key lt l) (i : Nat) (hi : i + 1 < l.length) : lt (key l[i]) (key l[i + 1]) = true :=
  List.pairwise_iff_getElem.1 h i (i + 1) (by omega) hi (by omega)
theorem ord_filter {l : List α} (p : α → Bool) (h : InOrd key lt l) : InOrd key lt (l.filter p) := List.Pairwise.filter p h
variable [DecidableEq K]
def getK (key : α → K) (l : List α) (k : K) : Option α := l.find? fun x => decide (key x = k)
def delK (key : α → K) (l : List α) (k : K) : List α := l.filter fun x => !decide (key x = k)
def insK (key : α → K) (lt : K → K → Bool) (l : List α) (x : α) : List α := l.takeWhile (fun y => lt (key y) (key x)) ++ x :: l.dropWhile (fun y => lt (key y) (key x))
def putK (key : α → K) (lt : K → K → Bool) (l : List α) (x : α) : List α := insK key lt (delK key l (key x)) x
theorem getK_mem {l : List α} {k : K} {x : α} (h : getK key l k = some x) : x ∈ l ∧ key x = k :=
  ⟨List.mem_of_find?_eq_some h, of_decide_eq_true (List.find?_some (p := fun x => decide (key x = k)) h)⟩
theorem getK_none {l : List α} {k : K} : getK key l k = none ↔ ∀ x ∈ l, key x ≠ k := by
  unfold getK
  rw [List.find?_eq_none]
  simp
theorem getK_of_mem (O : SOrd lt) {l : List α} (h : InOrd key lt l) {x : α} (hx : x ∈ l) : getK key l (key x) = some x := by
  cases hg : getK key l (key x) with
  | none => exact absurd rfl (getK_none.1 hg x hx)
  | some y =>
    obtain ⟨h1, h2⟩ := getK_mem hg
    rw [ord_key O h h1 hx h2]
theorem getK_iff (O : SOrd lt) {l : List α} (h : InOrd key lt l) (k : K) (x : α) : getK key l k = some x ↔ x ∈ l ∧ key x = k :=
  ⟨getK_mem, fun ⟨h1, h2⟩ => by rw [← h2]; exact getK_of_mem O h h1⟩
theorem get_ext (O : SOrd lt) {l m : List α} (hl : InOrd key lt l) (hm : InOrd key lt m) (h : ∀ k, getK key l k = getK key m k) : l = m := by
  refine ord_ext O l m hl hm fun x => ?_
  constructor
  · intro hx
    have := getK_of_mem O hl hx
    rw [h] at this
    exact (getK_mem this).1
  · intro hx
    have := getK_of_mem O hm hx
    rw [← h] at this
    exact (getK_mem this).1
theorem delK_ord {l : List α} (h : InOrd key lt l) (k : K) : InOrd key lt (delK key l k) := List.Pairwise.filter _ h
theorem delK_mem {l : List α} {k : K} {x : α} : x ∈ delK key l k ↔ x ∈ l ∧ key x ≠ k := by
  unfold delK
  rw [List.mem_filter]
  simp
theorem getK_delK {l : List α} (k k' : K) : getK key (delK key l k) k' = if k' = k then none else getK key l k' := by
  induction l with
  | nil => unfold delK getK; simp
  | cons a l ih =>
    unfold delK getK at ih ⊢
    rw [List.filter_cons, List.find?_cons]
    by_cases h1 : key a = k
    · rw [if_neg (by simp [h1]), ih]
      by_cases h2 : k' = k
      · rw [if_pos h2, if_pos h2]
      · rw [if_neg h2, if_neg h2, decide_eq_false (fun e => h2 (e.symm.trans h1))]
    · rw [if_pos (by simp [h1]), List.find?_cons, ih]
      by_cases h3 : key a = k'
      · rw [decide_eq_true h3]
        simp only
        rw [if_neg (fun e => h1 (h3.trans e))]
      · rw [decide_eq_false h3]
theorem delK_none {l : List α} {k : K} (h : getK key l k = none) : delK key l k = l := by
  unfold delK
  rw [List.filter_eq_self]
  intro x hx
  simpa using getK_none.1 h x hx
theorem tw_dw (l : List α) (p : α → Bool) : l.takeWhile p ++ l.dropWhile p = l := List.takeWhile_append_dropWhile
theorem take_tw (p : α → Bool) : ∀ l : List α, l.take (l.takeWhile p).length = l.takeWhile p
  | [] => rfl
  | a :: l => by
    rw [List.takeWhile_cons]
    split
    · rw [List.length_cons, List.take_succ_cons, take_tw p l]
    · rfl
theorem drop_tw (p : α → Bool) : ∀ l : List α, l.drop (l.takeWhile p).length = l.dropWhile p
  | [] => rfl
  | a :: l => by
    rw [List.takeWhile_cons, List.dropWhile_cons]
    split
    · rw [List.length_cons, List.drop_succ_cons, drop_tw p l]
    · rfl
theorem insK_mem {l : List α} {x y : α} : y ∈ insK key lt l x ↔ y = x ∨ y ∈ l := by
  unfold insK
  rw [List.mem_append, List.mem_cons]
  conv => rhs; rw [← tw_dw l (fun y => lt (key y) (key x)), List.mem_append]
  constructor
  · rintro (h | h | h)
    · exact .inr (.inl h)
    · exact .inl h
    · exact .inr (.inr h)
  · rintro (h | h | h)
    · exact .inr (.inl h)
    · exact .inl h
    · exact .inr (.inr h)
theorem insK_ord (O : SOrd lt) {l : List α} (h : InOrd key lt l) (x : α) (hx : ∀ y ∈ l, key y ≠ key x) : InOrd key lt (insK key lt l x) := by
  have hl := tw_dw l (fun y => lt (key y) (key x))
  unfold insK InOrd
  have h' := h
  rw [InOrd, ← hl, List.pairwise_append] at h'
  obtain ⟨h1, h2, h3⟩ := h'
  rw [List.pairwise_append]
  have hq : ∀ y ∈ l.dropWhile (fun y => lt (key y) (key x)), lt (key x) (key y) = true := by
    cases hd : l.dropWhile (fun y => lt (key y) (key x)) with
    | nil => intro y hy; cases hy
    | cons z q =>
      rw [hd] at h2
      have hz : lt (key z) (key x) = false := dropWhile_head (fun y => lt (key y) (key x)) l z (by rw [hd]; rfl)
      have hzl : z ∈ l := by rw [← hl, hd]; exact List.mem_append_right _ List.mem_cons_self
      have hxz : lt (key x) (key z) = true := by
        rcases O.tri (key z) (key x) (hx z hzl) with e | e
        · rw [hz] at e; cases e
        · exact e
      intro y hy
      rcases List.mem_cons.1 hy with rfl | hy
      · exact hxz
      · exact O.tr _ _ _ hxz ((List.pairwise_cons.1 h2).1 y hy)
  refine ⟨h1, List.pairwise_cons.2 ⟨hq, h2⟩, fun a ha b hb => ?_⟩
  have hax : lt (key a) (key x) = true := takeWhile_all _ l a ha
  rcases List.mem_cons.1 hb with rfl | hb
  · exact hax
  · exact O.tr _ _ _ hax (hq b hb)
theorem getK_insK (O : SOrd lt) {l : List α} (h : InOrd key lt l) (x : α) (hx : ∀ y ∈ l, key y ≠ key x) (k : K) : getK key (insK key lt l x) k = if k = key x then some x else getK key l k := by
  have ho := insK_ord O h x hx
  by_cases hk : k = key x
  · subst hk
    rw [if_pos rfl]
    exact getK_of_mem O ho (insK_mem.2 (.inl rfl))
  · rw [if_neg hk]
    cases hg : getK key l k with
    | none =>
      rw [getK_none] at hg ⊢
      intro y hy
      rcases insK_mem.1 hy with rfl | hy
      · exact fun e => hk e.symm
      · exact hg y hy
    | some y =>
      obtain ⟨h1, h2⟩ := getK_mem hg
      rw [getK_iff O ho]
      exact ⟨insK_mem.2 (.inr h1), h2⟩
theorem putK_ord (O : SOrd lt) {l : List α} (h : InOrd key lt l) (x : α) : InOrd key lt (putK key lt l x) :=
  insK_ord O (delK_ord h _) x fun _ hy => (delK_mem.1 hy).2
theorem getK_putK (O : SOrd lt) {l : List α} (h : InOrd key lt l) (x : α) (k : K) : getK key (putK key lt l x) k = if k = key x then some x else getK key l k := by
  unfold putK
  rw [getK_insK O (delK_ord h _) x (fun _ hy => (delK_mem.1 hy).2), getK_delK]
  by_cases hk : k = key x
  · rw [if_pos hk, if_pos hk]
  · rw [if_neg hk, if_neg hk, if_neg hk]
theorem putK_mem {l : List α} {x y : α} : y ∈ putK key lt l x ↔ y = x ∨ (y ∈ l ∧ key y ≠ key x) := by
  unfold putK
  rw [insK_mem, delK_mem]
theorem insK_len (l : List α) (x : α) : (insK key lt l x).length = l.length + 1 := by
  have := congrArg List.length (tw_dw l (fun y => lt (key y) (key x)))
  rw [List.length_append] at this
  unfold insK
  rw [List.length_append, List.length_cons]
  omega
theorem delK_len (O : SOrd lt) {l : List α} (h : InOrd key lt l) {x : α} (hx : x ∈ l) : (delK key l (key x)).length + 1 = l.length := by
  induction l with
  | nil => cases hx
  | cons a l ih =>
    obtain ⟨ha, hl⟩ := List.pairwise_cons.1 h
    unfold delK at ih ⊢
    rw [List.filter_cons]
    rcases List.mem_cons.1 hx with rfl | hx
    · rw [if_neg (by simp), List.length_cons]
      have : l.filter (fun y => !decide (key y = key x)) = l := by
        rw [List.filter_eq_self]
        intro y hy
        have := (O.ne (ha y hy)).symm
        simpa using this
      rw [this]
    · have hne : key a ≠ key x := O.ne (ha x hx)
      rw [if_pos (by simp [hne]), List.length_cons, List.length_cons, ih hl hx]
theorem set_putK (O : SOrd lt) {l : List α} (h : InOrd key lt l) (i : Nat) (hi : i < l.length) (x : α) (hx : key l[i] = key x) : l.set i x = putK key lt l x := by
  have ho : InOrd key lt (l.set i x) := by
    have h := List.pairwise_iff_getElem.1 h
    refine List.pairwise_iff_getElem.2 ?_
    intro a b ha hb hab
    rw [List.length_set] at ha hb
    rw [List.getElem_set, List.getElem_set]
    have := h a b ha hb hab
    by_cases e1 : i = a
    · subst e1
      rw [if_pos rfl, if_neg (by omega), ← hx]
      exact this
    · rw [if_neg e1]
      by_cases e2 : i = b
      · subst e2
        rw [if_pos rfl, ← hx]
        exact this
      · rw [if_neg e2]
        exact this
  refine ord_ext O _ _ ho (putK_ord O h x) fun y => ?_
  rw [putK_mem]
  constructor
  · intro hy
    obtain ⟨j, hj, rfl⟩ := List.getElem_of_mem hy
    rw [List.length_set] at hj
    rw [List.getElem_set]
    by_cases e : i = j
    · rw [if_pos e]; exact .inl rfl
    · rw [if_neg e]
      refine .inr ⟨List.getElem_mem _, fun he => ?_⟩
      have hp := List.pairwise_iff_getElem.1 h
      rcases Nat.lt_or_gt_of_ne e with hlt | hlt
      · exact O.ne (hp i j hi hj hlt) (hx.trans he.symm)
      · exact O.ne (hp j i hj hi hlt) (he.trans hx.symm)
  · rintro (rfl | ⟨hy, hne⟩)
    · exact List.mem_iff_getElem.2 ⟨i, by rw [List.length_set]; exact hi, by rw [List.getElem_set, if_pos rfl]⟩
    · obtain ⟨j, hj, rfl⟩ := List.getElem_of_mem hy
      have hij : i ≠ j := fun e => hne (by subst e; exact hx)
      exact List.mem_iff_getElem.2 ⟨j, by rw [List.length_set]; exact hj, by rw [List.getElem_set, if_neg hij]⟩
theorem erase_delK (O : SOrd lt) {l : List α} (h : InOrd key lt l) (i : Nat) (hi : i < l.length) : l.take i ++ l.drop (i + 1) = delK key l (key l[i]) := by
  have ho : InOrd key lt (l.take i ++ l.drop (i + 1)) := by
    have : (l.take i ++ l.drop (i + 1)).Sublist l := by
      have h1 : l = l.take i ++ l.drop i := (List.take_append_drop i l).symm
      conv => rhs; rw [h1]
      exact List.Sublist.append (List.Sublist.refl _) (by rw [← List.getElem_cons_drop hi]; exact List.sublist_cons_self _ _)
    exact List.Pairwise.sublist this h
  refine ord_ext O _ _ ho (delK_ord h _) fun y => ?_
  have hp := List.pairwise_iff_getElem.1 h
  rw [delK_mem, List.mem_append]
  constructor
  · rintro (hy | hy)
    · obtain ⟨j, hj, rfl⟩ := List.getElem_of_mem hy
      rw [List.length_take] at hj
      rw [List.getElem_take]
      exact ⟨List.getElem_mem _, O.ne (hp j i (by omega) hi (by omega))⟩
    · obtain ⟨j, hj, rfl⟩ := List.getElem_of_mem hy
      rw [List.length_drop] at hj
      rw [List.getElem_drop]
      exact ⟨List.getElem_mem _, fun e => O.ne (hp i (i + 1 + j) hi (by omega) (by omega)) e.symm⟩
  · rintro ⟨hy, hne⟩
    obtain ⟨j, hj, rfl⟩ := List.getElem_of_mem hy
    rcases Nat.lt_trichotomy j i with e | e | e
    · exact .inl (List.mem_iff_getElem.2 ⟨j, by rw [List.length_take]; omega, by rw [List.getElem_take]⟩)
    · subst e; exact absurd rfl hne
    · refine .inr (List.mem_iff_getElem.2 ⟨j - (i + 1), by rw [List.length_drop]; omega, ?_⟩)
      rw [List.getElem_drop]
      congr 1
      omega
end
def idxI : Option Nat → Int
  | some i => (i : Int)
  | none => -1
theorem idx_at {α : Type} (p : α → Bool) (l : List α) (i : Nat) (hi : i < l.length) (h : ∀ j (hj : j < l.length), j < i → p l[j] = false) (hp : p l[i] = true) : l.findIdx? p = some i := by
  rw [List.findIdx?_eq_some_iff_getElem]
  exact ⟨hi, hp, fun j hj => by rw [h j (by omega) hj]; decide⟩
theorem idx_no {α : Type} (p : α → Bool) (l : List α) (h : ∀ j (hj : j < l.length), p l[j] = false) : l.findIdx? p = none := by
  rw [List.findIdx?_eq_none_iff]
  intro x hx
  obtain ⟨j, hj, rfl⟩ := List.getElem_of_mem hx
  exact h j hj
theorem idx_any {α : Type} (p : α → Bool) (l : List α) : decide (0 ≤ idxI (l.findIdx? p)) = l.any p := by
  cases h : l.findIdx? p with
  | none =>
    rw [List.findIdx?_eq_none_iff] at h
    have : l.any p = false := by rw [List.any_eq_false]; intro x hx; rw [h x hx]; decide
    rw [this]; rfl
  | some i =>
    obtain ⟨hi, h1, _⟩ := List.findIdx?_eq_some_iff_getElem.1 h
    have : l.any p = true := List.any_eq_true.2 ⟨l[i], List.getElem_mem _, h1⟩
    rw [this]
    exact decide_eq_true (by show (0 : Int) ≤ (i : Int); omega)
theorem less_ord : SOrd less := ⟨less_irrefl, less_trans, less_total⟩
end Sp
end Go.Proofs.YtbpfcjdjhponaaaGreat
namespace Go.Proofs.YtbpfcjdjhponaaaGreat
namespace Sp
def getL : List UInt8 → Nat → Nat → Option (Option (Nat × Nat))
  | [], _, _ => none
  | b :: l, i, n =>
    if i = 9 ∧ 1 < b.toNat then some none
    else if 128 ≤ b.toNat then getL l (i + 1) (n + b.toNat % 128 * 128 ^ i)
    else if b.toNat = 0 ∧ 0 < i then some none
    else some (some (n + b.toNat % 128 * 128 ^ i, i + 1))
def getR (a : Int) : Option (Option (Nat × Nat)) → Nat × Int × Int
  | none => (0, 0, 2)
  | some none => (0, 0, 3)
  | some (some (n, k)) => (n, a + k, 0)
def getV (s : ByteArray) (a : Int) : Nat × Int × Int :=
  if a < 0 ∨ (s.size : Int) < a then (0, 0, 1) else getR a (getL (s.data.toList.drop a.toNat) 0 0)
def GetAt (s : ByteArray) (m i n p : Nat) : Prop :=
  i ≤ 9 ∧ m + i ≤ s.size ∧ n < 128 ^ i ∧ p = 128 ^ i ∧ getL (s.data.toList.drop (m + i)) i n = getL (s.data.toList.drop m) 0 0
theorem GetAt.start (s : ByteArray) (m : Nat) (h : m ≤ s.size) : GetAt s m 0 0 1 := ⟨by omega, h, by simp, rfl, rfl⟩
theorem drop_cons (s : ByteArray) (m : Nat) (h : m < s.size) : s.data.toList.drop m = s[m] :: s.data.toList.drop (m + 1) := by
  have hl : m < s.data.toList.length := by rw [Array.length_toList]; exact h
  rw [List.drop_eq_getElem_cons hl]
  rfl
theorem getV_in (s : ByteArray) (m : Nat) (h : m ≤ s.size) : getV s m = getR m (getL (s.data.toList.drop m) 0 0) := by
  unfold getV
  rw [if_neg (by omega), Int.toNat_natCast]
theorem GetAt.done {s : ByteArray} {m i n p : Nat} (h : GetAt s m i n p) (hl : m + i < s.size) (hb : s[m + i].toNat < 128) (h9 : i = 9 → s[m + i].toNat ≤ 1) (h0 : s[m + i].toNat = 0 → i = 0) :
    getV s m = (n + s[m + i].toNat % 128 * p, (m : Int) + (i + 1 : Nat), 0) := by
  obtain ⟨hi, hm, hn, rfl, hg⟩ := h
  rw [getV_in s m (by omega), ← hg, drop_cons s _ hl, getL, if_neg (by omega), if_neg (by omega), if_neg (by omega)]
  rfl
end Sp
end Go.Proofs.YtbpfcjdjhponaaaGreat
namespace Go.Proofs.YtbpfcjdjhponaaaGreat
open Go.RowKit Sp
theorem info_u8 : (Tryz.prog.info? 5).map (fun i => (i.zero, i.size, i.bytes)) = some (some (.int .u8 0), 1, 1) := by kernel_rfl
end Go.Proofs.YtbpfcjdjhponaaaGreat
namespace Go.Proofs.YtbpfcjdjhponaaaGreat
open Go.RowKit Sp
end Go.Proofs.YtbpfcjdjhponaaaGreat
namespace Go.Proofs.YtbpfcjdjhponaaaGreat
open Go.RowKit Sp
end Go.Proofs.YtbpfcjdjhponaaaGreat
namespace Go.Proofs.YtbpfcjdjhponaaaGreat
open Go.RowKit
namespace Sp
end Sp
end Go.Proofs.YtbpfcjdjhponaaaGreat
