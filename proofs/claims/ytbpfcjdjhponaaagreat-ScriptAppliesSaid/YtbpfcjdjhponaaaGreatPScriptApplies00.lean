import Derived.Below
import Derived.Deep.Draws
import Derived.Deep.AppendLies
import Derived.Maps.AppendAt
import Derived.OwnWalk
import Derived.Laws.BytesArg
import Derived.Laws.MakeOwn
import Derived.Laws.OwnMore
import Derived.Lib.ConvBytes
import Derived.WalkKit
import Derived.WalkLawsBesides
import Derived.WalkSpells
import Derived.Lib.Hide
import Derived.Lib.AppendStr
import Derived.Laws.CopyOwn
import Derived.Test.YtbpfcjdjhponaaaGreatProg
import Derived.Lib.OthersKept
import Derived.Shelf.Strings.Builder1
import Derived.Shelf.Small.Bits
import Derived.Shelf.Small.Strs
import Derived.Shelf.Small.Wraps
import Derived.Shelf.Strings.BuilderF
import Derived.Shelf.Strings.BuilderK
import Derived.Shelf.Strconv.Itoa0
import Derived.Shelf.Strings.BuilderCap
import Derived.Shelf.Slices.CompactS
import Derived.Ground.Names2Prog
import Derived.Shelf.Slices.SearchI
import Derived.Shelf.Slices.Cells
import Derived.Ground.SlsfProg
import Derived.Shelf.SlSortCmp.Insertion
import Derived.Shelf.SlSortCmp.SiftDown1
import Derived.Shelf.SlSortCmp.HeapSort1
import Derived.Shelf.SlSortCmp.Insertion1
import Derived.Shelf.SlSortCmp.Median1
import Derived.Shelf.SlSortCmp.Pivot1
import Derived.Shelf.SlSortCmp.ReverseRange1
import Derived.Shelf.SlSortCmp.PartialInsertion1
import Derived.Shelf.SlSortCmp.PartitionEqual1
import Derived.Shelf.SlSortCmp.Partition1
import Derived.Shelf.SlSortCmp.Pdq1
import Derived.Shelf.SlSortCmp.Whole1
import Derived.Shelf.SlSortCmp.NoneTotal
import Derived.WalkMore
import Derived.ScopeJumps
import Derived.Laws.Bits64b
set_option linter.unusedSectionVars false
namespace Go.Proofs.YtbpfcjdjhponaaaGreat
namespace Sp
def isLetter (c : UInt8) : Bool := 97 ≤ c && c ≤ 122
def isNameByte (c : UInt8) : Bool := isLetter c || (48 ≤ c && c ≤ 57) || c == 45
def nameL : List UInt8 → Bool
  | [] => false
  | c :: l => isLetter c && l.all isNameByte && decide (l.length < 16)
def isName (s : ByteArray) : Bool := nameL s.data.toList
theorem letter_is (c : UInt8) (h : isLetter c = true) : isNameByte c = true := by simp [isNameByte, h]
def okTo (s : ByteArray) (k : Nat) : Prop := ∀ j (h : j < s.size), j < k → isNameByte s[j] = true ∧ (j = 0 → isLetter s[j] = true)
theorem okTo_zero (s : ByteArray) : okTo s 0 := fun _ _ h => absurd h (by omega)
theorem okTo_succ (s : ByteArray) (k : Nat) (h : k < s.size) : okTo s (k + 1) ↔ okTo s k ∧ isNameByte s[k] = true ∧ (k = 0 → isLetter s[k] = true) := by
  constructor
  · intro o
    exact ⟨fun j hj hk => o j hj (by omega), o k h (by omega)⟩
  · rintro ⟨o, h1, h2⟩ j hj hk
    rcases Nat.lt_or_ge j k with hlt | hge
    · exact o j hj hlt
    · obtain rfl : j = k := by omega
      exact ⟨h1, h2⟩
theorem isName_iff (s : ByteArray) : isName s = true ↔ 0 < s.size ∧ s.size ≤ 16 ∧ okTo s s.size := by
  have hs : s.size = s.data.toList.length := by rw [Array.length_toList]; rfl
  have hg : ∀ j (h : j < s.size), s[j] = s.data.toList[j]'(by omega) := fun j h => rfl
  unfold isName okTo
  cases hl : s.data.toList with
  | nil =>
    rw [hl] at hs
    simp only [List.length_nil] at hs
    exact ⟨fun h => (by cases h), fun h => absurd h.1 (by omega)⟩
  | cons c l =>
    rw [hl] at hs
    simp only [List.length_cons] at hs
    have h0 : s[0]'(by omega) = c := by rw [hg]; simp [hl]
    have hs1 : ∀ j (h : j < l.length), s[j + 1]'(by omega) = l[j] := fun j h => by rw [hg]; simp [hl]
    simp only [nameL, Bool.and_eq_true, List.all_eq_true, decide_eq_true_eq]
    constructor
    · rintro ⟨⟨a, b⟩, d⟩
      refine ⟨by omega, by omega, fun j hj _ => ?_⟩
      cases j with
      | zero => rw [h0]; exact ⟨letter_is _ a, fun _ => a⟩
      | succ j => rw [hs1 j (by omega)]; exact ⟨b _ (List.getElem_mem _), fun h => absurd h (by omega)⟩
    · rintro ⟨_, a, b⟩
      refine ⟨⟨?_, fun x hx => ?_⟩, by omega⟩
      · have := (b 0 (by omega) (by omega)).2 rfl; rwa [h0] at this
      · obtain ⟨j, hj, rfl⟩ := List.getElem_of_mem hx
        have := (b (j + 1) (by omega) (by omega)).1; rwa [hs1 j hj] at this
theorem isName_short (s : ByteArray) (h : s.size = 0) : isName s = false := by rw [← Bool.not_eq_true, isName_iff]; omega
theorem isName_long (s : ByteArray) (h : 16 < s.size) : isName s = false := by rw [← Bool.not_eq_true, isName_iff]; omega
theorem isName_no (s : ByteArray) (pos : Nat) (h : pos < s.size) (hn : ¬ (isNameByte s[pos] = true ∧ (pos = 0 → isLetter s[pos] = true))) : isName s = false := by
  rw [← Bool.not_eq_true, isName_iff]
  rintro ⟨_, _, o⟩
  exact hn (o pos h h)
theorem isLetter_nat (c : UInt8) : isLetter c = true ↔ 97 ≤ c.toNat ∧ c.toNat ≤ 122 := by
  simp [isLetter, UInt8.le_iff_toNat_le]
theorem isNameByte_nat (c : UInt8) : isNameByte c = true ↔ (97 ≤ c.toNat ∧ c.toNat ≤ 122) ∨ (48 ≤ c.toNat ∧ c.toNat ≤ 57) ∨ c.toNat = 45 := by
  simp [isNameByte, isLetter, UInt8.le_iff_toNat_le, ← UInt8.toNat_inj, or_assoc]
def lower (c : UInt8) : UInt8 := if 65 ≤ c.toNat ∧ c.toNat ≤ 90 then c + 32 else c
def foldS (s : ByteArray) : ByteArray := ⟨(s.data.toList.map lower).toArray⟩
def foldV (s : ByteArray) : ByteArray × Bool := if isName (foldS s) then (foldS s, true) else (⟨#[]⟩, false)
def ltL : List UInt8 → List UInt8 → Bool
  | [], [] => false
  | [], _ :: _ => true
  | _ :: _, [] => false
  | a :: l, b :: m => a < b || (a == b && ltL l m)
def less (a b : ByteArray) : Bool := a.size < b.size || (a.size == b.size && ltL a.data.toList b.data.toList)
end Sp
end Go.Proofs.YtbpfcjdjhponaaaGreat
namespace Go.Proofs.YtbpfcjdjhponaaaGreat
open Go.RowKit
theorem ret_bool {a b : Bool} (h : a = b) : Ending.returned (.bool a) = .returned (.bool b) := by rw [h]
theorem ret_int {k : IntKind} {a b : Int} (h : a = b) : Ending.returned (.int k a) = .returned (.int k b) := by rw [h]
theorem ret_str {a b : ByteArray} (h : a = b) : Ending.returned (.string a) = .returned (.string b) := by rw [h]
theorem val_int {k : IntKind} {a b : Int} (h : a = b) : Value.int k a = .int k b := by rw [h]
theorem ret3 {a a' b b' c c' : Value} (h1 : a = a') (h2 : b = b') (h3 : c = c') : Ending.returned (.tuple #[a, b, c]) = .returned (.tuple #[a', b', c']) := by rw [h1, h2, h3]
theorem re_ {P : Program} {f : FuncId} {args : Array Value} {w : World} {v v' : Ending} {R : World → Prop} (h : Calls P f args w fun e w' => e = v ∧ R w') (hv : v = v') : Calls P f args w fun e w' => e = v' ∧ R w' := by rw [← hv]; exact h
theorem size_eq_length (s : ByteArray) : s.size = s.data.toList.length := by rw [Array.length_toList]; rfl
theorem toList_nil_iff (s : ByteArray) : s.toList = [] ↔ s.size = 0 := by
  rw [ByteArray.toList_eq, size_eq_length, List.length_eq_zero_iff]
theorem toList_inj {s t : ByteArray} : s.data.toList = t.data.toList ↔ s = t :=
  ⟨fun h => by cases s; cases t; simp only [Array.toList_inj] at h; rw [h], fun h => by rw [h]⟩
theorem toList_inj' {s t : ByteArray} : s.toList = t.toList ↔ s = t := by rw [ByteArray.toList_eq, ByteArray.toList_eq, toList_inj]
theorem ofList_toList (s : ByteArray) : (⟨s.data.toList.toArray⟩ : ByteArray) = s := by cases s; simp
theorem data_ofList (l : List UInt8) : (⟨l.toArray⟩ : ByteArray).data.toList = l := by simp
theorem size_ofList (l : List UInt8) : (⟨l.toArray⟩ : ByteArray).size = l.length := by simp [ByteArray.size]
theorem below_drewN {B : Nat} {a w : World} (h : Below B a w) (n : Nat) : Below B a (w.drewN n) := ⟨h.os, h.tape, h.output, h.size, h.block⟩
theorem below_call {w w1 w2 : World} (h : Below w.heap.size w w1) (k : Below w1.heap.size w1 w2) : Below w.heap.size w w2 := h.trans (k.mono h.size)
theorem below_then {B : Nat} {w w1 w2 : World} (h : Below B w w1) (hB : B ≤ w1.heap.size) (k : Below w1.heap.size w1 w2) : Below B w w2 := h.trans (k.mono hB)
theorem cell_below {w w1 : World} (h : Below w.heap.size w w1) {a : Addr} {v : Value} (hc : w.cell? a = some v) : w1.cell? a = some v := (h.cell (World.block_lt_of_cell? w a hc)).trans hc
theorem grown_of_below {w w1 : World} (h : Below w.heap.size w w1) (row : Option Nat) : w.grownBy w1 row := ⟨h.os, h.tape, h.output, h.size, fun i hi _ => h.block i hi⟩
theorem add_plain (g j : Nat) : (⟨g, 0, none⟩ : Addr).add j = ⟨g, j, none⟩ := by unfold Addr.add; split <;> simp_all
theorem add_add (a : Addr) (i j : Nat) : (a.add i).add j = a.add (i + j) := by
  unfold Addr.add
  by_cases hi : i = 0 <;> by_cases hj : j = 0 <;> simp [hi, hj, Nat.add_assoc]
theorem add_block (a : Addr) (n : Nat) : (a.add n).block = a.block := by unfold Addr.add; split <;> rfl
section
variable {α : Type}
def Own (enc : α → List Value) (k : Nat) (e : TypeId) (w : World) (base : Nat) (v : Value) (xs : List α) : Prop := w.ownsRow base e k v xs.length (xs.flatMap enc)
def Row (enc : α → List Value) (k : Nat) (w : World) (v : Value) (xs : List α) : Prop :=
  ∃ A c, v = .slice A xs.length c ∧ xs.length ≤ c ∧ c ≤ maxLen ∧ (xs.flatMap enc).length = xs.length * k ∧ (0 < xs.length → ∃ ad, A = some ad ∧ ∀ j u, (xs.flatMap enc)[j]? = some u → w.cell? (ad.add j) = some u)
variable {enc : α → List Value} {k : Nat} {e : TypeId} {w w1 : World} {base : Nat} {v : Value} {xs : List α}
theorem Own.nil (enc : α → List Value) (k : Nat) (e : TypeId) (w : World) (base : Nat) : Own enc k e w base (.slice none 0 0) [] := World.ownsRow_nil w base e k
theorem Own.kept {row : Option Nat} (h : Own enc k e w base v xs) (hg : w.grownBy w1 row) (hne : v.ownBlock = none ∨ v.ownBlock ≠ row) : Own enc k e w1 base v xs := World.ownsRow.kept h hg hne
theorem Own.below (h : Own enc k e w base v xs) (hb : Below w.heap.size w w1) : Own enc k e w1 base v xs := h.kept (grown_of_below hb none) (by cases v.ownBlock <;> simp)
theorem Own.alloc (h : Own enc k e w base v xs) (o : Obj) : Own enc k e (w.alloc o) base v xs := World.ownsRow.alloc h o
theorem Own.drewN (h : Own enc k e w base v xs) (n : Nat) : Own enc k e (w.drewN n) base v xs := h
theorem Own.base_le (h : Own enc k e w base v xs) (g : Nat) (hg : v.ownBlock = some g) : base ≤ g := (World.ownsRow.lt h g hg).1
theorem Own.lower {base' : Nat} (h : Own enc k e w base v xs) (hb : base' ≤ base) : Own enc k e w base' v xs := by
  obtain ⟨h1, h2⟩ := h
  refine ⟨h1, ?_⟩
  rcases h2 with h2 | ⟨g, cap, cur, rfl, hg, r⟩
  · exact .inl h2
  · exact .inr ⟨g, cap, cur, rfl, by omega, r⟩
theorem Own.slice (h : Own enc k e w base v xs) : ∃ A c, v = .slice A xs.length c ∧ xs.length ≤ c := by
  rcases h.2 with ⟨rfl, h0⟩ | ⟨g, cap, cur, rfl, _, _, h1, _⟩
  · exact ⟨none, 0, by rw [h0], by omega⟩
  · exact ⟨_, cap, rfl, h1⟩
theorem Own.row (h : Own enc k e w base v xs) : Row enc k w v xs := by
  rcases h.2 with ⟨rfl, h0⟩ | ⟨g, cap, cur, rfl, _, _, h1, h2, _⟩
  · exact ⟨none, 0, by rw [h0], by omega, by simp [maxLen], h.1, fun hp => absurd hp (by omega)⟩
  · exact ⟨_, cap, rfl, h1, h2, h.1, fun _ => ⟨_, rfl, fun j u hu => World.ownsRow.cells h (g := g) rfl j u hu⟩⟩
theorem Row.nil (enc : α → List Value) (k : Nat) (w : World) : Row enc k w (.slice none 0 0) [] := ⟨none, 0, rfl, by simp, by simp [maxLen], by simp, fun h => by simp at h⟩
theorem Row.empty (enc : α → List Value) (k : Nat) (w : World) (A : Option Addr) (c : Nat) (hc : c ≤ 9223372036854775807) : Row enc k w (.slice A 0 c) [] := ⟨A, c, rfl, by simp, by simpa [maxLen] using hc, by simp, fun h => by simp at h⟩
theorem Row.below (h : Row enc k w v xs) (hb : Below w.heap.size w w1) : Row enc k w1 v xs := by
  obtain ⟨A, c, rfl, h1, h2, h3, h4⟩ := h
  refine ⟨A, c, rfl, h1, h2, h3, fun hp => ?_⟩
  obtain ⟨ad, e, hc⟩ := h4 hp
  exact ⟨ad, e, fun j u hu => cell_below hb (hc j u hu)⟩
theorem Row.grown {row : Option Nat} (h : Row enc k w v xs) (hg : w.grownBy w1 row) (hr : ∀ g, row = some g → ∀ A n c ad, v = .slice A n c → A = some ad → ad.block ≠ g) : Row enc k w1 v xs := by
  obtain ⟨A, c, rfl, h1, h2, h3, h4⟩ := h
  refine ⟨A, c, rfl, h1, h2, h3, fun hp => ?_⟩
  obtain ⟨ad, e, hc⟩ := h4 hp
  exact ⟨ad, e, fun j u hu => hg.cell (hc j u hu) (fun he => hr _ he.symm _ _ _ _ rfl e (add_block ad j).symm)⟩
theorem Row.drewN (h : Row enc k w v xs) (n : Nat) : Row enc k (w.drewN n) v xs := h
theorem Row.len (h : Row enc k w v xs) : xs.length ≤ 9223372036854775807 := by
  obtain ⟨A, c, _, h1, h2, _⟩ := h
  simp only [maxLen] at h2
  omega
theorem flat_get (hk : ∀ x, (enc x).length = k) (xs : List α) (j i : Nat) (hj : j < xs.length) (hi : i < k) : (xs.flatMap enc)[j * k + i]? = (enc xs[j])[i]? := by
  induction xs generalizing j with
  | nil => simp at hj
  | cons x xs ih =>
    rw [List.flatMap_cons]
    cases j with
    | zero => simp only [Nat.zero_mul, Nat.zero_add, List.getElem_cons_zero]; rw [List.getElem?_append_left (by rw [hk]; exact hi)]
    | succ j =>
      have hj' : j < xs.length := by simpa using hj
      rw [Nat.succ_mul, List.getElem?_append_right (by rw [hk]; omega), hk, show j * k + k + i - k = j * k + i by omega, ih j hj']
      simp
theorem flat_length (hk : ∀ x, (enc x).length = k) (xs : List α) : (xs.flatMap enc).length = xs.length * k := by
  induction xs with
  | nil => simp
  | cons x xs ih => rw [List.flatMap_cons, List.length_append, ih, hk, List.length_cons, Nat.succ_mul]; omega
theorem Row.get {A : Option Addr} {n c : Nat} (h : Row enc k w (.slice A n c) xs) (hk : ∀ x, (enc x).length = k) (j : Nat) (hj : j < xs.length) :
    ∃ ad, A = some ad ∧ ∀ i, i < k → w.cell? ((ad.add (j * k)).add i) = (enc xs[j])[i]? := by
  obtain ⟨A', c', he, h1, h2, h3, h4⟩ := h
  injection he with e1 e2 e3
  subst e1
  obtain ⟨ad, rfl, hc⟩ := h4 (by omega)
  refine ⟨ad, rfl, fun i hi => ?_⟩
  have hf := flat_get (enc := enc) hk xs j i hj hi
  have hl : i < (enc xs[j]).length := by rw [hk]; exact hi
  rw [List.getElem?_eq_getElem hl] at hf ⊢
  rw [add_add]
  exact hc _ _ hf
theorem Row.len_eq {A : Option Addr} {n c : Nat} (h : Row enc k w (.slice A n c) xs) : n = xs.length := by
  obtain ⟨A', c', he, _⟩ := h
  injection he
theorem Row.get1 {A : Option Addr} {n c : Nat} {f : α → Value} (h : Row (fun x => [f x]) 1 w (.slice A n c) xs) (j : Nat) (hj : j < xs.length) : ∃ ad, A = some ad ∧ w.cell? (ad.add j) = some (f xs[j]) := by
  obtain ⟨ad, e, hc⟩ := h.get (fun _ => rfl) j hj
  refine ⟨ad, e, ?_⟩
  have := hc 0 (by omega)
  rw [add_add] at this
  simpa using this
end
theorem Row.take {α : Type} {enc : α → List Value} {k : Nat} {w : World} {A : Option Addr} {n c : Nat} {xs : List α} (h : Row enc k w (.slice A n c) xs) (hk : ∀ x, (enc x).length = k) (i : Nat) (hi : i ≤ n) : Row enc k w (.slice A i c) (xs.take i) := by
  have hl := h.len_eq
  obtain ⟨A', c', he, h1, h2, h3, h4⟩ := h
  injection he with e1 e2 e3
  subst e1 e3
  have hti : (xs.take i).length = i := by rw [List.length_take]; omega
  refine ⟨A, c, by rw [hti], by omega, h2, flat_length hk _, fun hp => ?_⟩
  obtain ⟨ad, e, hc⟩ := h4 (by omega)
  refine ⟨ad, e, fun j u hu => hc j u ?_⟩
  have hx : xs.flatMap enc = (xs.take i).flatMap enc ++ (xs.drop i).flatMap enc := by rw [← List.flatMap_append, List.take_append_drop]
  rw [hx, List.getElem?_append_left (List.getElem?_eq_some_iff.1 hu).1]
  exact hu
theorem Row.drop {α : Type} {enc : α → List Value} {k : Nat} {w : World} {A : Option Addr} {n c : Nat} {xs : List α} (h : Row enc k w (.slice A n c) xs) (hk : ∀ x, (enc x).length = k) (i : Nat) (hi : i ≤ n) :
    Row enc k w (.slice (if c = i then A else A.map (·.add (i * k))) (n - i) (c - i)) (xs.drop i) := by
  have hl := h.len_eq
  obtain ⟨A', c', he, h1, h2, h3, h4⟩ := h
  injection he with e1 e2 e3
  subst e1 e3
  have hti : (xs.drop i).length = n - i := by rw [List.length_drop]; omega
  refine ⟨_, c - i, by rw [hti], by omega, by omega, flat_length hk _, fun hp => ?_⟩
  obtain ⟨ad, e, hc⟩ := h4 (by omega)
  rw [if_neg (by omega), e]
  refine ⟨_, rfl, fun j u hu => ?_⟩
  rw [add_add]
  refine hc _ u ?_
  have hx : xs.flatMap enc = (xs.take i).flatMap enc ++ (xs.drop i).flatMap enc := by rw [← List.flatMap_append, List.take_append_drop]
  have hl2 : ((xs.take i).flatMap enc).length = i * k := by rw [flat_length hk, List.length_take]; congr 1; omega
  rw [hx, List.getElem?_append_right (by omega), hl2, show i * k + j - i * k = j by omega]
  exact hu
theorem Own.lit {α : Type} {enc : α → List Value} {k : Nat} {e : TypeId} {base : Nat} (hk : ∀ x, (enc x).length = k) (W : World) (xs : List α) (cs : Array Value) (n : Nat) (hcs : cs.toList = xs.flatMap enc) (hn : n = xs.length) (hb : base ≤ W.heap.size) (hm : n ≤ 9223372036854775807) :
    Own enc k e (W.alloc (.cells cs e)) base (.slice (some ⟨W.heap.size, 0, none⟩) n n) xs := by
  subst hn
  have h := World.ownsRow_lit (base := base) (e := e) (size := k) W cs xs.length hb (by simpa [maxLen] using hm) (by rw [← Array.length_toList, hcs, flat_length hk])
  unfold Own
  rw [← hcs]
  exact h
section
variable {P : Program} {ops : Array Oper} {rest : List Oper} {o : Oper} {a : Act} {Q : Exit → Act → World → Prop} {α : Type} {enc : α → List Value}
theorem Own.append {w0 W : World} (base : Nat) (hgd : o.guard = none) (s x : Operand) (t e : TypeId) (z : Value) (k bytes : Nat)
    (ho : o.op = .call { callee := .builtin .append, args := #[s, x], argTypes := #[t, t] })
    (ht : P.underlying t = some (.slice e)) (hinfo : (P.info? e).map (fun i => (i.zero, i.size, i.bytes)) = some (some z, k, bytes)) (hz : z.cells.size = k) (hs0 : 0 < k)
    (v : Value) (xs : List α) (p : α) (cs : List Value) (hs : a.eval s = v) (hx : a.eval x = .slice (some ⟨W.heap.size, 0, none⟩) 1 1) (hp : enc p = cs) (hcs : cs.length = k) (h1 : ∀ u ∈ cs, u.oneCell' = true)
    (HO : Own enc k e W base v xs) (HB : Below base w0 W) (hbase : base ≤ W.heap.size) (hl : (xs.length + 1) * bytes ≤ 140737488355328) (hl2 : xs.length + 1 ≤ 140737488355328)
    (h : ∀ v1 w1, Own enc k e w1 base v1 (xs ++ [p]) → Below base w0 w1 → W.grownBy w1 v.ownBlock → (v1.ownBlock = v.ownBlock ∨ ∃ b, v1.ownBlock = some b ∧ W.heap.size ≤ b) → wpList P ops Q rest (a.put o.dst v1) w1) :
    wpList P ops Q (o :: rest) a (W.alloc (.cells cs.toArray e)) := by
  obtain ⟨i0, hi, hzz⟩ := Option.map_eq_some_iff.1 hinfo
  simp only [Prod.mk.injEq] at hzz
  obtain ⟨hz0, hz1, hz2⟩ := hzz
  refine wpList_append_own_at (W.alloc (.cells cs.toArray e)) hgd s x t ho base e i0 z k bytes ht hi hz0 hz1 hz2 hz hs0 v xs.length _ hs (HO.alloc _) ⟨W.heap.size, 0, none⟩ 1 1 cs hx (by rw [hcs]; simp)
    (by simpa using World.news_of_block (cs := cs.toArray) (t := e) (fr := (0, 0)) (heap_alloc_new W (.cells cs.toArray e))) h1 (by simp only [maxLen]; omega) hl (by simp; omega) ?_
  intro v1 w1 hown hg _ hat
  refine h v1 w1 ?_ ((HB.alloc hbase _).grown hg (by simp; omega) (HO.base_le)) (World.grownBy.trans (World.grownBy_alloc W _ _) hg) ?_
  · unfold Own
    rw [List.flatMap_append, List.length_append]
    simpa [hp] using hown
  · rcases hat with hat | hat
    · exact .inl hat
    · exact .inr ⟨_, hat, by simp⟩
theorem Own.appendRow {w0 W : World} (base : Nat) (hgd : o.guard = none) (s x : Operand) (t e : TypeId) (z : Value) (k bytes : Nat)
    (ho : o.op = .call { callee := .builtin .append, args := #[s, x], argTypes := #[t, t] })
    (ht : P.underlying t = some (.slice e)) (hinfo : (P.info? e).map (fun i => (i.zero, i.size, i.bytes)) = some (some z, k, bytes)) (hz : z.cells.size = k) (hs0 : 0 < k)
    (v u : Value) (xs ys : List α) (hs : a.eval s = v) (hx : a.eval x = u) (h1 : ∀ y, ∀ u ∈ enc y, u.oneCell' = true)
    (HO : Own enc k e W base v xs) (HR : Row enc k W u ys) (HB : Below base w0 W) (hbase : base ≤ W.heap.size) (hl : (xs.length + ys.length) * bytes ≤ 140737488355328) (hl2 : xs.length + ys.length ≤ 140737488355328)
    (h : ∀ v1 w1, Own enc k e w1 base v1 (xs ++ ys) → Below base w0 w1 → W.grownBy w1 v.ownBlock → (v1.ownBlock = v.ownBlock ∨ ∃ b, v1.ownBlock = some b ∧ W.heap.size ≤ b) → wpList P ops Q rest (a.put o.dst v1) w1) :
    wpList P ops Q (o :: rest) a W := by
  obtain ⟨i0, hi, hzz⟩ := Option.map_eq_some_iff.1 hinfo
  simp only [Prod.mk.injEq] at hzz
  obtain ⟨hz0, hz1, hz2⟩ := hzz
  obtain ⟨A, c, rfl, r1, r2, r3, r4⟩ := HR
  rcases A with _ | ad
  · have hm : ys = [] := by
      rcases Nat.eq_zero_or_pos ys.length with h0 | h0
      · exact List.eq_nil_of_length_eq_zero h0
      · obtain ⟨ad, h, _⟩ := r4 h0
        cases h
    subst hm
    have hrun : (Builtin.append_ #[t, t] o.type #[v, .slice none 0 c]).run P W = .ok v W := by
      rcases HO.2 with ⟨rfl, _⟩ | ⟨g, cap, cur, rfl, _, _, hnc, _⟩
      · simp [Builtin.append_, run_underlying ht, sizeOf, typeInfo, hi, Builtin.lenOf, Builtin.firstCells]
      · simp [Builtin.append_, run_underlying ht, sizeOf, typeInfo, hi, Builtin.lenOf, Builtin.firstCells, hnc, storeCells]
    refine wpList_plain hgd fun _ hK => ?_
    unfold Oper.wp execOp
    simp only [ho, resolve, invoke, builtin, Sem.run_bind, Sem.run_pure, Result.andThen_ok, List.map_toArray, List.map_cons, List.map_nil, hs, hx, List.length_nil, hrun]
    exact hK _ _ (h v W (by simpa using HO) HB (World.grownBy.refl W _) (.inl rfl))
  · have hcells : ∀ j u, (ys.flatMap enc)[j]? = some u → W.cell? (ad.add j) = some u := by
      intro j u hu
      rcases Nat.eq_zero_or_pos ys.length with h0 | h0
      · rw [List.eq_nil_of_length_eq_zero h0] at hu
        simp at hu
      · obtain ⟨ad', h, hc⟩ := r4 h0
        injection h with h
        subst h
        exact hc j u hu
    refine wpList_append_own_at W hgd s x t ho base e i0 z k bytes ht hi hz0 hz1 hz2 hz hs0 v xs.length _ hs HO ad ys.length c (ys.flatMap enc) hx r3 hcells
      (fun u hu => by obtain ⟨y, _, hy⟩ := List.mem_flatMap.1 hu; exact h1 y u hy) (by simp only [maxLen]; omega) hl hbase ?_
    intro v1 w1 hown hg _ hat
    refine h v1 w1 ?_ (HB.grown hg hbase HO.base_le) hg ?_
    · unfold Own
      rw [List.flatMap_append, List.length_append]
      exact hown
    · rcases hat with hat | hat
      · exact .inl hat
      · exact .inr ⟨_, hat, Nat.le_refl _⟩
end
def enB (b : UInt8) : List Value := [.int .u8 b.toNat]
theorem enB_len (x : UInt8) : (enB x).length = 1 := rfl
def strOf (l : List UInt8) : ByteArray := ⟨l.toArray⟩
theorem strOf_size (l : List UInt8) : (strOf l).size = l.length := size_ofList l
theorem strOf_list (l : List UInt8) : (strOf l).data.toList = l := data_ofList l
theorem strOf_toList (s : ByteArray) : strOf s.data.toList = s := ofList_toList s
theorem strOf_append (a b : List UInt8) : strOf a ++ strOf b = strOf (a ++ b) := by
  rw [← toList_inj, strOf_list]
  simp [ByteArray.data_append, strOf]
theorem data_append (a b : ByteArray) : (a ++ b).data.toList = a.data.toList ++ b.data.toList := by simp [ByteArray.data_append]
theorem append_strOf (a b : ByteArray) : a ++ b = strOf (a.data.toList ++ b.data.toList) := by rw [← strOf_append, strOf_toList, strOf_toList]
theorem enB_flat (l : List UInt8) : l.flatMap enB = l.map fun b => .int .u8 b.toNat := by
  induction l with
  | nil => rfl
  | cons b l ih => rw [List.flatMap_cons, ih]; rfl
theorem strOf_nums (l : List UInt8) : strOfNums (l.map fun b => (b.toNat : Int)) = strOf l := by
  rw [← toList_inj, strOfNums_data, strOf_list, List.map_map]
  conv => rhs; rw [← List.map_id l]
  refine List.map_congr_left fun b _ => ?_
  simp
theorem Row.string {P : Program} {w : World} {src dst e : TypeId} {v : Value} {l : List UInt8} (hs : P.underlying src = some (.slice e)) (he : P.underlying e = some (.int .u8)) (hd : P.underlying dst = some .string)
    (h : Row enB 1 w v l) : (convert src dst v).run P w = .ok (.string (strOf l)) w := by
  obtain ⟨A, c, rfl, h1, h2, h3, h4⟩ := h
  rcases A with _ | ad
  · have hm : l = [] := by
      rcases Nat.eq_zero_or_pos l.length with h0 | h0
      · exact List.eq_nil_of_length_eq_zero h0
      · obtain ⟨ad, h, _⟩ := h4 h0
        cases h
    subst hm
    exact run_convert_bytes_nil w src e hs he _ _ dst hd
  · have hcells : ∀ j u, ((l.map fun b => (b.toNat : Int)).map (Value.int .u8))[j]? = some u → w.cell? (ad.add j) = some u := by
      intro j u hu
      rcases Nat.eq_zero_or_pos l.length with h0 | h0
      · rw [List.eq_nil_of_length_eq_zero h0] at hu
        simp at hu
      · obtain ⟨ad', h, hc⟩ := h4 h0
        injection h with h
        subst h
        refine hc j u ?_
        rw [enB_flat, ← hu, List.map_map]
        rfl
    have hl := run_loadCells_list (P := P) w ad ((l.map fun b => (b.toNat : Int)).map (Value.int .u8)) hcells
    rw [List.length_map, List.length_map] at hl
    rw [run_convert_bytes_string w src dst e _ l.length c hs he hd, run_bytesToString w _ l.length c (l.map fun b => (b.toNat : Int)) hl, foldl_push_bytes, ← strOf_nums]
    simp [strOfNums, ByteArray.empty, ByteArray.emptyWithCapacity]
    rfl
def TextRow (e : TypeId) (w : World) (k : Nat) (s : ByteArray) : Prop :=
  ∃ cs : Array Value, w.heap[k]? = some (.cells cs e (cs.size, cs.size + 1)) ∧ s.size ≤ cs.size ∧ cs.size ≤ maxLen ∧ ∀ j (h : j < s.size), cs[j]? = some (.int .u8 s[j].toNat)
theorem TextRow.new (e : TypeId) (w : World) (s : ByteArray) (hs : s.size ≤ maxLen) : TextRow e (Lib.bytesWorld w e s) w.heap.size s := by
  have h1 := grownCap_ge w s.size 0 e
  have h2 := grownCap_le_maxLen w s.size 0 e hs
  have h3 : (Lib.bytesCells w e s).size = s.size + (grownCap w s.size 0 e - s.size) := by
    simp [Lib.bytesCells]
  refine ⟨_, Lib.bytesWorld_at_new w e s, by omega, by omega, fun j h => ?_⟩
  · have h1 := Lib.bytesWorld_cell w e s j h
    rw [World.cell?, Lib.bytesWorld_at_new] at h1
    have h2 : s.data.toList.getD j 0 = s[j] := by
      have hl : j < s.data.toList.length := by rw [← size_eq_length]; exact h
      rw [List.getD_eq_getElem?_getD, List.getElem?_eq_getElem hl]
      rfl
    rw [h2] at h1
    exact h1
theorem TextRow.keep {e : TypeId} {w w' : World} {k : Nat} {s : ByteArray} (h : TextRow e w k s) (hk : w'.heap[k]? = w.heap[k]?) : TextRow e w' k s := by
  obtain ⟨cs, h1, h2⟩ := h
  exact ⟨cs, hk.trans h1, h2⟩
theorem TextRow.cell {e : TypeId} {w : World} {k : Nat} {s : ByteArray} (h : TextRow e w k s) (j : Nat) (hj : j < s.size) : w.cell? ⟨k, j, none⟩ = some (.int .u8 s[j].toNat) := by
  obtain ⟨cs, h1, _, _, h4⟩ := h
  rw [World.cell?, h1]
  exact h4 j hj
theorem TextRow.lt {e : TypeId} {w : World} {k : Nat} {s : ByteArray} (h : TextRow e w k s) : k < w.heap.size := by
  obtain ⟨cs, h1, _⟩ := h
  exact (Array.getElem?_eq_some_iff.1 h1).1
def BytesAt (e : TypeId) (w : World) (k : Nat) (l : List UInt8) : Prop :=
  ∃ cs : Array Value, w.heap[k]? = some (.cells cs e (cs.size, cs.size + 1)) ∧ l.length ≤ cs.size ∧ ∀ j (h : j < l.length), cs[j]? = some (.int .u8 l[j].toNat)
theorem TextRow.bytes {e : TypeId} {w : World} {k : Nat} {s : ByteArray} (h : TextRow e w k s) : BytesAt e w k s.data.toList := by
  obtain ⟨cs, h1, h2, h3, h4⟩ := h
  exact ⟨cs, h1, by rw [← size_eq_length]; exact h2, fun j hj => h4 j (by rw [size_eq_length]; exact hj)⟩
theorem BytesAt.cell {e : TypeId} {w : World} {k : Nat} {l : List UInt8} (h : BytesAt e w k l) (j : Nat) (hj : j < l.length) : w.cell? ⟨k, j, none⟩ = some (.int .u8 l[j].toNat) := by
  obtain ⟨cs, h1, _, h4⟩ := h
  rw [World.cell?, h1]
  exact h4 j hj
theorem BytesAt.free {e : TypeId} {w : World} {k : Nat} {l : List UInt8} (h : BytesAt e w k l) (j : Nat) (hj : j < l.length) : w.frozen? ⟨k, j, none⟩ = false := by
  obtain ⟨cs, h1, h2, _⟩ := h
  simp [World.frozen?, h1]
  omega
theorem BytesAt.keep {e : TypeId} {w w' : World} {k : Nat} {l : List UInt8} (h : BytesAt e w k l) (hk : w'.heap[k]? = w.heap[k]?) : BytesAt e w' k l := by
  obtain ⟨cs, h1, h2⟩ := h
  exact ⟨cs, hk.trans h1, h2⟩
theorem BytesAt.lt {e : TypeId} {w : World} {k : Nat} {l : List UInt8} (h : BytesAt e w k l) : k < w.heap.size := by
  obtain ⟨cs, h1, _⟩ := h
  exact (Array.getElem?_eq_some_iff.1 h1).1
theorem BytesAt.set {e : TypeId} {w : World} {k : Nat} {l : List UInt8} (h : BytesAt e w k l) (j : Nat) (b : UInt8) : BytesAt e (w.setCell ⟨k, j, none⟩ (.int .u8 b.toNat)) k (l.set j b) := by
  obtain ⟨cs, h1, h2, h3⟩ := h
  refine ⟨cs.setIfInBounds j (.int .u8 b.toNat), ?_, by simpa using h2, fun i hi => ?_⟩
  · simp [World.setCell, Array.getElem?_modify, h1]
  · have hi' : i < l.length := by simpa using hi
    rw [Array.getElem?_setIfInBounds, List.getElem_set]
    by_cases e : j = i
    · subst e
      rw [if_pos rfl, if_pos rfl, if_pos (by omega)]
    · rw [if_neg e, if_neg e]
      exact h3 i hi'
theorem BytesAt.row {e : TypeId} {w : World} {k c : Nat} {l : List UInt8} (h : BytesAt e w k l) (hc : l.length ≤ c) (hm : c ≤ maxLen) : Row enB 1 w (.slice (some ⟨k, 0, none⟩) l.length c) l := by
  refine ⟨_, c, rfl, hc, hm, flat_length enB_len l, fun _ => ⟨_, rfl, fun j u hu => ?_⟩⟩
  rw [enB_flat] at hu
  have hj : j < l.length := by
    rcases Nat.lt_or_ge j l.length with h | h
    · exact h
    · rw [List.getElem?_eq_none (by simpa using h)] at hu; cases hu
  rw [List.getElem?_eq_getElem (by simpa using hj)] at hu
  rw [add_plain, h.cell j hj]
  simpa using hu
theorem below_bytes {B : Nat} {a w : World} (h : Below B a w) (hB : B ≤ w.heap.size) (e : TypeId) (s : ByteArray) : Below B a (Lib.bytesWorld w e s) :=
  h.trans ⟨rfl, rfl, rfl, by rw [Lib.bytesWorld_size]; omega, fun k hk => Lib.bytesWorld_at_old w e s k (by omega)⟩
def KeepsMarked (b n : Nat) (w w' : World) : Prop := ∀ k cs t fz, k ≠ b → w.heap[k]? = some (.cells cs t fz) → n < fz.2 → w'.heap[k]? = w.heap[k]?
end Go.Proofs.YtbpfcjdjhponaaaGreat
namespace Go.Proofs.YtbpfcjdjhponaaaGreat
open Go.RowKit Sp
theorem letter_calls (r : Int) (w : World) :
    Calls Tryz.prog 123 #[.int .i32 r] w fun e w' => e = .returned (.bool (decide (97 ≤ r) && decide (r ≤ 122))) ∧ w = w' := by
  by_cases h1 : 97 ≤ r <;> by_cases h2 : r ≤ 122
  all_goals
    go_enter Tryz.func123, Tryz.ntmps123
    go_wp2
    go_ret
    exact ⟨by simp [h1, h2], rfl⟩
theorem width_pos (s : ByteArray) (pos : Nat) (h : pos < s.size) : 1 ≤ (Utf8.decode s pos).2 := by
  by_cases ha : (s[pos]'h).toNat < 128
  · rw [decode_ascii s pos h ha]
    exact Nat.le_refl _
  · exact (decode_high s pos h (by omega)).2
theorem letter_yes (r : Int) (w : World) (h1 : 97 ≤ r) (h2 : r ≤ 122) :
    Calls Tryz.prog 123 #[.int .i32 r] w fun e w' => e = .returned (.bool true) ∧ w = w' :=
  (letter_calls r w).mono fun _ _ ⟨he, hw⟩ => ⟨by rw [he]; simp [h1, h2], hw⟩
theorem letter_no (r : Int) (w : World) (h : r < 97 ∨ 122 < r) :
    Calls Tryz.prog 123 #[.int .i32 r] w fun e w' => e = .returned (.bool false) ∧ w = w' :=
  (letter_calls r w).mono fun _ _ ⟨he, hw⟩ => ⟨by rw [he]; congr 2; simp; omega, hw⟩
set_option maxHeartbeats 1000000 in
theorem Is_calls (s : ByteArray) (w : World) (hs : s.size ≤ 140737488351232) :
    Calls Tryz.prog 74 #[.string s] w fun e w' => e = .returned (.bool (isName s)) ∧ Below w.heap.size w w' := by
  go_enter Tryz.func74, Tryz.ntmps74
  go_wp2
  go_loopw [] (fun wr => ∃ pos, wr = w.iter s pos ∧ okTo s pos ∧ pos ≤ s.size) (fun wr => s.size - wr.iterPos w.heap.size)
  case atStart => exact ⟨0, rfl, okTo_zero s, Nat.zero_le _⟩
  case round =>
    obtain ⟨pos, rfl, ho, hle⟩ := hrel
    have HO := Lib.hid ho
    clear ho
    by_cases hp : pos < s.size
    · obtain ⟨r, d, hrd⟩ : ∃ r d, Utf8.decode s pos = (r, d) := ⟨_, _, rfl⟩
      have hwd := width_pos s pos hp
      rw [hrd] at hwd
      simp only at hwd
      have hnx : ∀ ty, (Instr.next (.pointer (some ⟨w.heap.size, 0, none⟩)) true ty).run Tryz.prog (w.iter s pos) = .ok (.tuple #[.bool true, .int .i64 pos, .int .i32 r]) (w.iter s (pos + d)) := fun ty => by rw [run_next_any w s pos ty hp, hrd]
      have hA : Hid ((s[pos].toNat < 128 → r = s[pos].toNat ∧ d = 1) ∧ (128 ≤ s[pos].toNat → 128 ≤ r)) := by
        refine Lib.hid ⟨fun ha => ?_, fun ha => ?_⟩
        · rw [decode_ascii s pos hp ha] at hrd
          simp only [Prod.mk.injEq] at hrd
          omega
        · have := (decode_high s pos hp ha).1
          rw [hrd] at this
          exact this
      have HR := Lib.hid hrd
      clear hrd
      by_cases hl : 97 ≤ r ∧ r ≤ 122
      · obtain ⟨hl1, hl2⟩ := hl
        go_wp2_with (go_at_call 123; refine (letter_yes _ _ (by omega) (by omega)).mono ?_; rintro e w' ⟨rfl, rfl⟩)
        go_roundw
        case rel =>
          refine ⟨pos + d, rfl, ?_, ?_⟩
          · obtain ⟨a1, a2⟩ := hA.out
            have hlt : s[pos].toNat < 128 := by rcases Nat.lt_or_ge s[pos].toNat 128 with h | h; exact h; have := a2 h; omega
            obtain ⟨a3, a4⟩ := a1 hlt
            rw [a4, okTo_succ s pos hp]
            have hq : isLetter s[pos] = true := (isLetter_nat _).2 (by omega)
            exact ⟨HO.out, letter_is _ hq, fun _ => hq⟩
          · obtain ⟨a1, a2⟩ := hA.out
            have hlt : s[pos].toNat < 128 := by rcases Nat.lt_or_ge s[pos].toNat 128 with h | h; exact h; have := a2 h; omega
            omega
        case measure => simp; omega
      · have hl' : (r : Int) < 97 ∨ 122 < (r : Int) := by omega
        have HL := Lib.hid hl
        clear hl
        have HL' := Lib.hid hl'
        clear hl'
        by_cases h0 : pos = 0
        · subst h0
          go_wp2_with (go_at_call 123; refine (letter_no _ _ HL'.out).mono ?_; rintro e w' ⟨rfl, rfl⟩)
          go_ret
          rw [isName_no s 0 hp (fun h => ?_)]
          · exact ⟨rfl, (Below.refl _ _).alloc (Nat.le_refl _) _⟩
          · have := (isLetter_nat _).1 (h.2 rfl)
            have := hA.out.1
            have := HL.out
            omega
        · have hb0 : ((pos : Int) == 0) = false := by simp; omega
          by_cases hd : 48 ≤ r ∧ r ≤ 57
          · obtain ⟨hd1, hd2⟩ := hd
            go_wp2_with (go_at_call 123; refine (letter_no _ _ HL'.out).mono ?_; rintro e w' ⟨rfl, rfl⟩)
            go_roundw
            case rel =>
              obtain ⟨a1, a2⟩ := hA.out
              have hlt : s[pos].toNat < 128 := by rcases Nat.lt_or_ge s[pos].toNat 128 with h | h; exact h; have := a2 h; omega
              obtain ⟨a3, a4⟩ := a1 hlt
              refine ⟨pos + d, rfl, ?_, by omega⟩
              rw [a4, okTo_succ s pos hp]
              exact ⟨HO.out, (isNameByte_nat _).2 (by omega), fun h => absurd h h0⟩
            case measure => simp; omega
          · by_cases h45 : r = 45
            · subst h45
              go_wp2_with (go_at_call 123; refine (letter_no _ _ HL'.out).mono ?_; rintro e w' ⟨rfl, rfl⟩)
              go_roundw
              case rel =>
                obtain ⟨a1, a2⟩ := hA.out
                have hlt : s[pos].toNat < 128 := by rcases Nat.lt_or_ge s[pos].toNat 128 with h | h; exact h; have := a2 h; omega
                obtain ⟨a3, a4⟩ := a1 hlt
                refine ⟨pos + d, rfl, ?_, by omega⟩
                rw [a4, okTo_succ s pos hp]
                exact ⟨HO.out, (isNameByte_nat _).2 (by omega), fun h => absurd h h0⟩
              case measure => simp; omega
            · have hb45 : ((r : Int) != 45) = true := by simp; omega
              have hno : isName s = false := isName_no s pos hp (fun h => by
                have h1 := (isNameByte_nat _).1 h.1
                have h2 := hA.out.1
                have h3 := HL.out
                omega)
              have HN := Lib.hid hno
              clear hno
              by_cases h48 : r < 48
              · go_wp2_with (go_at_call 123; refine (letter_no _ _ HL'.out).mono ?_; rintro e w' ⟨rfl, rfl⟩)
                go_ret
                rw [HN.out]
                exact ⟨rfl, (Below.refl _ _).alloc (Nat.le_refl _) _⟩
              · have h57 : 57 < r := by omega
                go_wp2_with (go_at_call 123; refine (letter_no _ _ HL'.out).mono ?_; rintro e w' ⟨rfl, rfl⟩)
                go_ret
                rw [HN.out]
                exact ⟨rfl, (Below.refl _ _).alloc (Nat.le_refl _) _⟩
    · obtain rfl : pos = s.size := by omega
      have hnx : ∀ ty, (Instr.next (.pointer (some ⟨w.heap.size, 0, none⟩)) true ty).run Tryz.prog (w.iter s s.size) = _ := fun ty => run_next_end w s s.size ty hp
      have hbel : Below w.heap.size w (w.iter s s.size) := (Below.refl _ _).alloc (Nat.le_refl _) _
      clear hle
      go_wp2
      · go_ret
        refine ⟨?_, hbel⟩
        have h0 : s.size = 0 := by
          have hq : s.toList = [] := by assumption
          rw [ByteArray.toList_eq] at hq
          have : s.data.toList.length = 0 := by rw [hq]; rfl
          rwa [Array.length_toList] at this
        have hno : isName s = false := by
          rw [← Bool.not_eq_true, isName_iff]
          omega
        rw [hno]
        rfl
      · go_ret
        refine ⟨ret_bool (a := (!s.toList.isEmpty && decide ((s.size : Int) ≤ 16))) ?_, hbel⟩
        have hq : ¬ s.toList = [] := by assumption
        rw [Bool.eq_iff_iff, isName_iff]
        have h0 : 0 < s.size := by
          rcases Nat.eq_zero_or_pos s.size with h | h
          · refine absurd ?_ hq
            rw [ByteArray.toList_eq]
            exact List.eq_nil_of_length_eq_zero (by rw [Array.length_toList]; exact h)
          · exact h
        have ho := HO.out
        simp [hq, h0, ho]
        try omega
set_option maxRecDepth 100000 in
set_option maxHeartbeats 1000000 in
theorem refIs_calls (s : ByteArray) (w : World) (hs : s.size ≤ 140737488351232) :
    Calls Tryz.prog 80 #[.string s] w fun e w' => e = .returned (.bool (isName s)) ∧ w = w' := by
  by_cases h0 : s.size = 0
  · have HV : Hid (isName s = false) := isName_short s h0
    have hz : s.size ≤ 0 := by omega
    clear h0
    go_enter Tryz.func80, Tryz.ntmps80
    go_wp2
    go_ret
    exact ⟨ret_bool HV.out.symm, rfl⟩
  · by_cases h16 : 16 < s.size
    · have HV : Hid (isName s = false) := isName_long s h16
      go_enter Tryz.func80, Tryz.ntmps80
      go_wp2
      go_ret
      exact ⟨ret_bool HV.out.symm, rfl⟩
    · have hp : 0 < s.size := by omega
      clear h0
      obtain ⟨b, hbv⟩ : ∃ b : Nat, (s[0]'hp).toNat = b := ⟨_, rfl⟩
      have hb256 : b < 256 := by rw [← hbv]; exact UInt8.toNat_lt _
      by_cases hl : 97 ≤ b ∧ b ≤ 122
      · obtain ⟨hl1, hl2⟩ := hl
        have HL : Hid (isLetter s[0] = true) := (isLetter_nat _).2 (by omega)
        go_enter Tryz.func80, Tryz.ntmps80
        go_wp2
        go_loop [3] (fun v3 => ∃ i : Nat, v3 = .int .i64 i ∧ Hid (okTo s i) ∧ i ≤ s.size) (fun v3 => (s.size - intOf v3).toNat)
        case atStart => exact ⟨0, rfl, okTo_zero s, Nat.zero_le _⟩
        case round =>
          obtain ⟨i, rfl, HO, hi⟩ := hrel
          by_cases hlt : i < s.size
          · obtain ⟨c, hcv⟩ : ∃ c : Nat, (s[i]'hlt).toNat = c := ⟨_, rfl⟩
            have hc256 : c < 256 := by rw [← hcv]; exact UInt8.toNat_lt _
            have hgo : (97 ≤ c ∧ c ≤ 122) ∨ (48 ≤ c ∧ c ≤ 57) ∨ c = 45 → Hid (okTo s (i + 1)) := fun h => (okTo_succ s i hlt).2 ⟨HO.out, (isNameByte_nat _).2 (by omega), fun e => by subst e; exact HL.out⟩
            have hno : ¬ ((97 ≤ c ∧ c ≤ 122) ∨ (48 ≤ c ∧ c ≤ 57) ∨ c = 45) → Hid (isName s = false) := fun h => isName_no s i hlt (fun hh => h (by have := (isNameByte_nat _).1 hh.1; omega))
            have HGO := Lib.hid hgo
            have HNO := Lib.hid hno
            clear hgo hno
            obtain h | h | h | h : (97 ≤ c ∧ c ≤ 122) ∨ (48 ≤ c ∧ c ≤ 57) ∨ (45 ≤ c ∧ c ≤ 45) ∨ ((c < 48 ∧ c ≠ 45) ∨ (57 < c ∧ c < 97) ∨ 122 < c) := by omega
            · have HN := HGO.out (.inl h)
              obtain ⟨h1, h2⟩ := h
              go_wp2
              exact ⟨⟨i + 1, by go_num, HN, by omega⟩, by simp [intOf]; omega⟩
            · have HN := HGO.out (.inr (.inl h))
              obtain ⟨h1, h2⟩ := h
              go_wp2
              exact ⟨⟨i + 1, by go_num, HN, by omega⟩, by simp [intOf]; omega⟩
            · have HN := HGO.out (.inr (.inr (by omega)))
              obtain ⟨h1, h2⟩ := h
              have h3 : ((c : Int) != 45) = false := by simp; omega
              go_wp2
              exact ⟨⟨i + 1, by go_num, HN, by omega⟩, by simp [intOf]; omega⟩
            · have HN := HNO.out (by omega)
              have h3 : ((c : Int) != 45) = true := by simp; omega
              obtain ⟨h1, _⟩ | ⟨h1, h2⟩ | h1 := h
              all_goals
                go_wp2
                go_ret
                exact ⟨ret_bool HN.out.symm, rfl⟩
          · obtain rfl : i = s.size := by omega
            have HV : Hid (isName s = true) := (isName_iff s).2 ⟨hp, by omega, HO.out⟩
            go_wp2
            go_ret
            exact ⟨ret_bool HV.out.symm, rfl⟩
      · have HV : Hid (isName s = false) := isName_no s 0 hp (fun h => hl (by have := (isLetter_nat _).1 (h.2 rfl); omega))
        obtain hl | ⟨hl0, hl⟩ : b < 97 ∨ 97 ≤ b ∧ 122 < b := by omega
        all_goals
          go_enter Tryz.func80, Tryz.ntmps80
          go_wp2
          go_ret
          exact ⟨ret_bool HV.out.symm, rfl⟩
end Go.Proofs.YtbpfcjdjhponaaaGreat
namespace Go.Proofs
open Go.Shelf
def Tryz.lays169_ren : Go.Shelf.Ren := ⟨fun | 169 => 51 | n => n, fun | 70 => 79 | 9 => 9 | 0 => 0 | 72 => 82 | 37 => 80 | 127 => 134 | 3 => 3 | 5 => 5 | n => n, fun | n => n⟩
theorem Tryz.lays169 : Go.Proofs.Lays.n169 Tryz.prog Tryz.lays169_ren := {
  mixed := by kernel_rfl
  f169 := Tryz.func51.trans (congrArg some (by kernel_rfl))
  t0 := Tryz.underlying0
  a0 := Tryz.isAgg0
  z0 := Tryz.sizeOf0
  v0 := Tryz.zeroValue0
  t3 := Tryz.underlying3
  a3 := Tryz.isAgg3
  z3 := Tryz.sizeOf3
  v3 := Tryz.zeroValue3
  t9 := Tryz.underlying9
  a9 := Tryz.isAgg9
  z9 := Tryz.sizeOf9
  v9 := Tryz.zeroValue9
  t37 := Tryz.underlying80
  a37 := Tryz.isAgg80
  z37 := Tryz.sizeOf80
  v37 := Tryz.zeroValue80
  t70 := Tryz.underlying79
  a70 := Tryz.isAgg79
  z70 := Tryz.sizeOf79
  v70 := Tryz.zeroValue79
  t72 := Tryz.underlying82
  a72 := Tryz.isAgg82
  z72 := Tryz.sizeOf82
  v72 := Tryz.zeroValue82
  t127 := Tryz.underlying134
  a127 := Tryz.isAgg134
  z127 := Tryz.sizeOf134
  v127 := Tryz.zeroValue134 }
theorem Tryz.Builder_Extra_169 : Builder.Extra Tryz.prog Tryz.lays169_ren := {
  sizeBuilder := by kernel_rfl
  liesBuilder := by kernel_rfl
  t5 := Tryz.underlying5
  a5 := Tryz.isAgg5
  z5 := Tryz.sizeOf5
  v5 := Tryz.zeroValue5
  infoByte := by kernel_rfl
  cellsByte := by kernel_rfl
  sizeByte := by kernel_rfl
  neB5 := by decide }
def Tryz.lays106_ren : Go.Shelf.Ren := ⟨fun | 106 => 168 | 213 => 181 | 265 => 194 | n => n, fun | 9 => 9 | 3 => 3 | n => n, fun | n => n⟩
theorem Tryz.lays106 : Go.Proofs.Lays.n106 Tryz.prog Tryz.lays106_ren := {
  mixed := by kernel_rfl
  f106 := Tryz.func168.trans (congrArg some (by kernel_rfl))
  f213 := Tryz.func181.trans (congrArg some (by kernel_rfl))
  f265 := Tryz.func194.trans (congrArg some (by kernel_rfl))
  t3 := Tryz.underlying3
  a3 := Tryz.isAgg3
  z3 := Tryz.sizeOf3
  v3 := Tryz.zeroValue3
  t9 := Tryz.underlying9
  a9 := Tryz.isAgg9
  z9 := Tryz.sizeOf9
  v9 := Tryz.zeroValue9 }
open Go.RowKit in
theorem Tryz.strings_Compare (a b : ByteArray) (w : World) :
    Calls Tryz.prog 168 #[.string a, .string b] w fun e w' => e = .returned (.int .i64 (Lib.compareBytes a.data.toList b.data.toList)) ∧ w' = w := Any.strings_Compare Tryz.lays106 a b w
def Tryz.lays122_ren : Go.Shelf.Ren := ⟨fun | 122 => 167 | 215 => 180 | n => n, fun | 3 => 3 | 4 => 4 | n => n, fun | n => n⟩
theorem Tryz.lays122 : Go.Proofs.Lays.n122 Tryz.prog Tryz.lays122_ren := {
  mixed := by kernel_rfl
  f122 := Tryz.func167.trans (congrArg some (by kernel_rfl))
  f215 := Tryz.func180.trans (congrArg some (by kernel_rfl))
  t3 := Tryz.underlying3
  a3 := Tryz.isAgg3
  z3 := Tryz.sizeOf3
  v3 := Tryz.zeroValue3
  t4 := Tryz.underlying4
  a4 := Tryz.isAgg4
  z4 := Tryz.sizeOf4
  v4 := Tryz.zeroValue4 }
open Go.RowKit in
theorem Tryz.cmp_Compare_int (x y : Int) (w : World) :
    Calls Tryz.prog 167 #[.int .i64 x, .int .i64 y] w fun e w' => e = .returned (.int .i64 (Lib.compareInt x y)) ∧ w' = w := Any.cmp_Compare_int Tryz.lays122 x y w
open Go.RowKit in
theorem Tryz.Builder_String_any_k (B b : Nat) (l : List UInt8) (w : World) (h : Lib.IsBuilderF 82 5 B b (Lib.byteCells l) w) (hBw : B ≤ w.heap.size) :
    Calls Tryz.prog 51 #[.pointer (some ⟨b, 0, none⟩)] w fun e w' => e = .returned (.string ⟨l.toArray⟩) ∧ (Lib.IsBuilderF 82 5 B b (Lib.byteCells l) w' ∧ Below B w w' ∧ Lib.OthersKept 5 (some b) w w') := Any.Builder_String_any_k Tryz.lays169 Tryz.Builder_Extra_169 B b l w h hBw
end Go.Proofs
namespace Go.Proofs.YtbpfcjdjhponaaaGreat
namespace Sp
theorem ltL_irrefl : ∀ l : List UInt8, ltL l l = false
  | [] => rfl
  | a :: l => by simp [ltL, ltL_irrefl l]
theorem ltL_trans : ∀ x y z : List UInt8, ltL x y = true → ltL y z = true → ltL x z = true
  | _, [], [], _, h => by simp [ltL] at h
  | _, _ :: _, [], _, h => by simp [ltL] at h
  | [], [], _ :: _, h, _ => by simp [ltL] at h
  | _ :: _, [], _ :: _, h, _ => by simp [ltL] at h
  | [], _ :: _, _ :: _, _, _ => rfl
  | a :: x, b :: y, c :: z, h1, h2 => by
    simp only [ltL, Bool.or_eq_true, Bool.and_eq_true, decide_eq_true_eq, beq_iff_eq] at h1 h2 ⊢
    rcases h1 with h1 | ⟨rfl, h1⟩
    · rcases h2 with h2 | ⟨rfl, h2⟩
      · exact .inl (UInt8.lt_trans h1 h2)
      · exact .inl h1
    · rcases h2 with h2 | ⟨rfl, h2⟩
      · exact .inl h2
      · exact .inr ⟨rfl, ltL_trans x y z h1 h2⟩
theorem ltL_total : ∀ x y : List UInt8, x ≠ y → ltL x y = true ∨ ltL y x = true
  | [], [], h => absurd rfl h
  | [], _ :: _, _ => .inl rfl
  | _ :: _, [], _ => .inr rfl
  | a :: x, b :: y, h => by
    simp only [ltL, Bool.or_eq_true, Bool.and_eq_true, decide_eq_true_eq, beq_iff_eq]
    by_cases e : a = b
    · subst e
      have hn : x ≠ y := fun e => h (by rw [e])
      rcases ltL_total x y hn with h | h
      · exact .inl (.inr ⟨rfl, h⟩)
      · exact .inr (.inr ⟨rfl, h⟩)
    · rcases UInt8.lt_or_lt_of_ne e with h | h
      · exact .inl (.inl h)
      · exact .inr (.inl h)
theorem bytes_ext {s t : ByteArray} (h : s.data.toList = t.data.toList) : s = t := by
  cases s; cases t; simp only [Array.toList_inj] at h; rw [h]
theorem less_irrefl (a : ByteArray) : less a a = false := by simp [less, ltL_irrefl]
theorem less_trans (a b c : ByteArray) (h1 : less a b = true) (h2 : less b c = true) : less a c = true := by
  simp only [less, Bool.or_eq_true, Bool.and_eq_true, decide_eq_true_eq, beq_iff_eq] at h1 h2 ⊢
  rcases h1 with h1 | ⟨e1, h1⟩ <;> rcases h2 with h2 | ⟨e2, h2⟩
  · exact .inl (by omega)
  · exact .inl (by omega)
  · exact .inl (by omega)
  · exact .inr ⟨by omega, ltL_trans _ _ _ h1 h2⟩
theorem less_total (a b : ByteArray) (h : a ≠ b) : less a b = true ∨ less b a = true := by
  simp only [less, Bool.or_eq_true, Bool.and_eq_true, decide_eq_true_eq, beq_iff_eq]
  rcases Nat.lt_trichotomy a.size b.size with h1 | h1 | h1
  · exact .inl (.inl h1)
  · rcases ltL_total a.data.toList b.data.toList (fun e => h (bytes_ext e)) with h2 | h2
    · exact .inl (.inr ⟨h1, h2⟩)
    · exact .inr (.inr ⟨h1.symm, h2⟩)
  · exact .inr (.inl h1)
theorem dropWhile_head {α : Type} (p : α → Bool) : ∀ (l : List α) (x : α), (l.dropWhile p).head? = some x → p x = false
  | [], _, h => by simp at h
  | a :: l, x, h => by
    rw [List.dropWhile_cons] at h
    split at h
    · exact dropWhile_head p l x h
    · rename_i hp
      simp only [List.head?_cons, Option.some.injEq] at h
      subst h
      simpa using hp
theorem takeWhile_all {α : Type} (p : α → Bool) : ∀ (l : List α) (x : α), x ∈ l.takeWhile p → p x = true
  | a :: l, x, h => by
    rw [List.takeWhile_cons] at h
    split at h
    · rename_i hp
      rcases List.mem_cons.1 h with e | e
      · rw [e]; exact hp
      · exact takeWhile_all p l x e
    · cases h
end Sp
end Go.Proofs.YtbpfcjdjhponaaaGreat
namespace Go.Proofs.YtbpfcjdjhponaaaGreat
open Go.RowKit Sp
def enI (x : Int) : List Value := [.int .i64 x]
def enS (s : ByteArray) : List Value := [.string s]
theorem enI_len (x : Int) : (enI x).length = 1 := rfl
theorem enS_one (x : ByteArray) : ∀ u ∈ enS x, u.oneCell' = true := fun u hu => by rw [enS, List.mem_singleton] at hu; rw [hu]; rfl
theorem bytesLess_eq : ∀ x y : List UInt8, Op.bytesLess x y = ltL x y
  | [], [] => rfl
  | [], _ :: _ => rfl
  | _ :: _, [] => rfl
  | a :: x, b :: y => by simp only [Op.bytesLess, ltL, bytesLess_eq x y]
theorem bytesLess_less (a b : ByteArray) : Op.bytesLess a.toList b.toList = ltL a.data.toList b.data.toList := by
  rw [ByteArray.toList_eq, ByteArray.toList_eq, bytesLess_eq]
theorem compareBytes_neg : ∀ x y : List UInt8, (Lib.compareBytes x y < 0) = (ltL x y = true)
  | [], [] => by simp [Lib.compareBytes, ltL]
  | [], _ :: _ => by simp [Lib.compareBytes, ltL]
  | _ :: _, [] => by simp [Lib.compareBytes, ltL]
  | a :: x, b :: y => by
    simp only [Lib.compareBytes, ltL]
    by_cases h : a < b
    · rw [if_pos h]; simp [h]
    · rw [if_neg h]
      by_cases h2 : b < a
      · rw [if_pos h2]
        have hne : (a == b) = false := by
          rw [beq_eq_false_iff_ne]
          rintro rfl
          exact UInt8.lt_irrefl _ h2
        simp [h, hne]
      · rw [if_neg h2]
        have he : a = b := by
          by_cases e : a = b
          · exact e
          · rcases UInt8.lt_or_lt_of_ne e with e | e
            · exact absurd e h
            · exact absurd e h2
        subst he
        simp [compareBytes_neg x y]
def cmpS (a b : ByteArray) : Int := if Lib.compareInt a.size b.size ≠ 0 then Lib.compareInt a.size b.size else Lib.compareBytes a.data.toList b.data.toList
theorem cmpS_neg (a b : ByteArray) : decide (cmpS a b < 0) = less a b := by
  unfold cmpS less Lib.compareInt
  rcases Nat.lt_trichotomy a.size b.size with h | h | h
  · simp [h]
  · simp [h, compareBytes_neg]
  · have h1 : ¬ a.size < b.size := by omega
    have h2 : ¬ a.size = b.size := by omega
    have h3 : ¬ ((a.size : Int) < b.size) := by omega
    have h4 : ((b.size : Int) < a.size) := by omega
    simp [h1, h2, h4]
def orL : List Int → Int
  | [] => 0
  | x :: l => if x ≠ 0 then x else orL l
theorem orL_two (x y : Int) : orL [x, y] = if x ≠ 0 then x else y := by
  by_cases h : x = 0 <;> by_cases h2 : y = 0 <;> simp [orL, h, h2]
theorem orL_drop (xs : List Int) (k : Nat) (h : k < xs.length) : orL (xs.drop k) = if xs[k] ≠ 0 then xs[k] else orL (xs.drop (k + 1)) := by
  rw [List.drop_eq_getElem_cons h]; rfl
set_option maxRecDepth 100000 in
theorem cmpOr_calls (A : Option Addr) (n c : Nat) (xs : List Int) (w : World) (h : Row enI 1 w (.slice A n c) xs) (hn : n ≤ 100) :
    Calls Tryz.prog 166 #[.slice A n c] w fun e w' => e = .returned (.int .i64 (orL xs)) ∧ w = w' := by
  have hl := h.len_eq
  have HL := Lib.hid hl
  clear hl
  go_enter Tryz.func166, Tryz.ntmps166
  go_wp2
  go_loop [8] (fun v8 => ∃ k : Nat, v8 = .int .i64 k ∧ k ≤ n ∧ Hid (orL (xs.drop k) = orL xs)) (fun v8 => (n - intOf v8).toNat)
  case atStart => exact ⟨0, rfl, Nat.zero_le _, by show _ = _; rw [List.drop_zero]⟩
  case round =>
    obtain ⟨k, rfl, hk, HF⟩ := hrel
    by_cases hlt : k < n
    · have hk' : k < xs.length := by have := HL.out; omega
      obtain ⟨ad, rfl, hc⟩ := h.get1 (f := Value.int .i64) k hk'
      have hd := orL_drop xs k hk'
      obtain ⟨x, hx⟩ : ∃ x, xs[k] = x := ⟨_, rfl⟩
      rw [hx] at hc hd
      clear hx
      rw [HF.out] at hd
      by_cases h0 : x = 0
      · have hb : (x != 0) = false := by simp [h0]
        have HF2 : Hid (orL (xs.drop (k + 1)) = orL xs) := by rw [hd, if_neg (by simp [h0])]; rfl
        clear h0 hd
        go_wp2
        go_round
        case rel => exact ⟨k + 1, by go_num, by omega, HF2⟩
        case measure => simp [intOf]; omega
      · have hb : (x != 0) = true := by simp [h0]
        have HF2 : Hid (orL xs = x) := by rw [hd, if_pos h0]; rfl
        clear h0 hd
        go_wp2
        go_ret
        exact ⟨ret_int HF2.out.symm, rfl⟩
    · have HF2 : Hid (orL xs = 0) := by
        have := HF.out
        rw [List.drop_eq_nil_of_le (by have := HL.out; omega)] at this
        exact this.symm
      go_wp2
      go_ret
      exact ⟨ret_int HF2.out.symm, rfl⟩
set_option maxRecDepth 100000 in
theorem compare_exact (a b : ByteArray) (w : World) :
    Calls Tryz.prog 126 #[.string a, .string b] w fun e w' => e = .returned (.int .i64 (cmpS a b)) ∧ ∃ o, w' = w.alloc o := by
  have hfin : orL [Lib.compareInt a.size b.size, Lib.compareBytes a.data.toList b.data.toList] = cmpS a b := by
    unfold cmpS
    exact orL_two _ _
  have HF := Lib.hid hfin
  clear hfin
  go_enter Tryz.func126, Tryz.ntmps126
  go_wp2_with fail
  refine (Tryz.cmp_Compare_int _ _ _).mono ?_
  rintro e w1 ⟨rfl, rfl⟩
  go_wp2_with fail
  refine (Tryz.strings_Compare _ _ _).mono ?_
  rintro e w1 ⟨rfl, rfl⟩
  go_wp2_with fail
  refine (cmpOr_calls _ 2 2 [Lib.compareInt a.size b.size, Lib.compareBytes a.data.toList b.data.toList] _ (Own.lit (base := 0) enI_len w1 _ _ 2 rfl rfl (Nat.zero_le _) (by omega)).row (by omega)).mono ?_
  rintro e w2 ⟨rfl, rfl⟩
  go_wp2
  go_ret
  exact ⟨ret_int HF.out, _, rfl⟩
theorem compare_calls (a b : ByteArray) (w : World) :
    Calls Tryz.prog 126 #[.string a, .string b] w fun e w' => e = .returned (.int .i64 (cmpS a b)) ∧ Below w.heap.size w w' :=
  (compare_exact a b w).mono fun _ _ ⟨he, o, hw⟩ => ⟨he, by rw [hw]; exact (Below.refl _ _).alloc (Nat.le_refl _) _⟩
set_option maxRecDepth 100000 in
theorem Less_calls (a b : ByteArray) (w : World) :
    Calls Tryz.prog 76 #[.string a, .string b] w fun e w' => e = .returned (.bool (less a b)) ∧ Below w.heap.size w w' := by
  go_enter Tryz.func76, Tryz.ntmps76
  go_wp2_with fail
  refine (compare_calls a b _).mono ?_
  rintro e w1 ⟨rfl, hb1⟩
  go_wp2
  go_ret
  exact ⟨ret_bool (cmpS_neg a b), hb1⟩
set_option maxRecDepth 100000 in
theorem refLess_calls (a b : ByteArray) (w : World) :
    Calls Tryz.prog 131 #[.string a, .string b] w fun e w' => e = .returned (.bool (less a b)) ∧ w = w' := by
  have hl := bytesLess_less a b
  have HL := Lib.hid hl
  clear hl
  rcases Nat.lt_trichotomy a.size b.size with h | h | h
  · go_enter Tryz.func131, Tryz.ntmps131
    go_wp2
    go_ret
    exact ⟨ret_bool (a := true) (by simp [less, h]), rfl⟩
  · have h1 : ¬ a.size < b.size := by omega
    have hb1 : ((a.size : Int) == b.size) = true := by simp [h]
    have H := Lib.hid h
    clear h
    go_enter Tryz.func131, Tryz.ntmps131
    go_wp2
    go_ret
    refine ⟨ret_bool (a := Op.bytesLess a.toList b.toList) ?_, rfl⟩
    rw [HL.out]
    simp [less, H.out]
  · have h1 : ¬ a.size < b.size := by omega
    have hb1 : ((a.size : Int) == b.size) = false := by simp; omega
    go_enter Tryz.func131, Tryz.ntmps131
    go_wp2
    go_ret
    refine ⟨ret_bool (a := false) ?_, rfl⟩
    have h2 : ¬ a.size = b.size := by omega
    simp [less, h1, h2]
end Go.Proofs.YtbpfcjdjhponaaaGreat
namespace Go.Proofs.YtbpfcjdjhponaaaGreat
namespace Sp
structure SOrd {K : Type} (lt : K → K → Bool) : Prop where
  irr : ∀ a, lt a a = false
  tr : ∀ a b c, lt a b = true → lt b c = true → lt a c = true
  tri : ∀ a b, a ≠ b → lt a b = true ∨ lt b a = true
section
variable {α K : Type} {key : α → K} {lt : K → K → Bool}
theorem SOrd.asymm (O : SOrd lt) {a b : K} (h : lt a b = true) : lt b a = false := by
  rw [← Bool.not_eq_true]
  intro h2
  have := O.tr a b a h h2
  rw [O.irr] at this
  cases this
theorem SOrd.ne (O : SOrd lt) {a b : K} (h : lt a b = true) : a ≠ b := by
  rintro rfl
  rw [O.irr] at h
  cases h
def InOrd (key : α → K) (lt : K → K → Bool) (l : List α) : Prop := l.Pairwise fun a b => lt (key a) (key b) = true
theorem ord_ext (O : SOrd lt) : ∀ l m : List α, InOrd key lt l → InOrd key lt m → (∀ x, x ∈ l ↔ x ∈ m) → l = m
  | [], [], _, _, _ => rfl
  | [], b :: m, _, _, h => absurd ((h b).2 List.mem_cons_self) (by simp)
  | a :: l, [], _, _, h => absurd ((h a).1 List.mem_cons_self) (by simp)
  | a :: l, b :: m, hl, hm, h => by
    obtain ⟨ha, hl'⟩ := List.pairwise_cons.1 hl
    obtain ⟨hb, hm'⟩ := List.pairwise_cons.1 hm
    have hab : a = b := by
      rcases List.mem_cons.1 ((h a).1 List.mem_cons_self) with e | e
      · exact e
      · rcases List.mem_cons.1 ((h b).2 List.mem_cons_self) with e' | e'
        · exact e'.symm
        · have h1 := hb a e
          have h2 := O.asymm (ha b e')
          rw [h1] at h2
          cases h2
    subst hab
    congr 1
    refine ord_ext O l m hl' hm' fun x => ?_
    have hx := h x
    simp only [List.mem_cons] at hx
    constructor
    · intro hxl
      rcases hx.1 (.inr hxl) with e | e
      · subst e
        exact absurd rfl (O.ne (ha _ hxl))
      · exact e
    · intro hxm
      rcases hx.2 (.inr hxm) with e | e
      · subst e
        exact absurd rfl (O.ne (hb _ hxm))
      · exact e
theorem ord_key (O : SOrd lt) {l : List α} (h : InOrd key lt l) {x y : α} (hx : x ∈ l) (hy : y ∈ l) (e : key x = key y) : x = y := by
  induction l with
  | nil => cases hx
  | cons a l ih =>
    obtain ⟨ha, hl⟩ := List.pairwise_cons.1 h
    rcases List.mem_cons.1 hx with e1 | h1
    · rcases List.mem_cons.1 hy with e2 | h2
      · rw [e1, e2]
      · subst e1; exact absurd e (O.ne (ha y h2))
    · rcases List.mem_cons.1 hy with e2 | h2
      · subst e2; exact absurd e.symm (O.ne (ha x h1))
      · exact ih hl h1 h2
theorem ord_of_adj (O : SOrd lt) : ∀ l : List α, (∀ i (h : i + 1 < l.length), lt (key l[i]) (key l[i + 1]) = true) → InOrd key lt l
  | [], _ => List.Pairwise.nil
  | [a], _ => List.pairwise_singleton _ _
  | a :: b :: l, h => by
    have ih := ord_of_adj O (b :: l) (fun i hi => h (i + 1) (by simp only [List.length_cons] at hi ⊢; omega))
    have hab : lt (key a) (key b) = true := h 0 (by simp)
    refine List.pairwise_cons.2 ⟨fun y hy => ?_, ih⟩
    rcases List.mem_cons.1 hy with rfl | hy
    · exact hab
    · exact O.tr _ _ _ hab ((List.pairwise_cons.1 ih).1 y hy)
variable [DecidableEq K]
def getK (key : α → K) (l : List α) (k : K) : Option α := l.find? fun x => decide (key x = k)
def delK (key : α → K) (l : List α) (k : K) : List α := l.filter fun x => !decide (key x = k)
def insK (key : α → K) (lt : K → K → Bool) (l : List α) (x : α) : List α := l.takeWhile (fun y => lt (key y) (key x)) ++ x :: l.dropWhile (fun y => lt (key y) (key x))
def putK (key : α → K) (lt : K → K → Bool) (l : List α) (x : α) : List α := insK key lt (delK key l (key x)) x
theorem getK_mem {l : List α} {k : K} {x : α} (h : getK key l k = some x) : x ∈ l ∧ key x = k :=
  ⟨List.mem_of_find?_eq_some h, of_decide_eq_true (List.find?_some (p := fun x => decide (key x = k)) h)⟩
theorem getK_none {l : List α} {k : K} : getK key l k = none ↔ ∀ x ∈ l, key x ≠ k := by
  unfold getK
  rw [List.find?_eq_none]
  simp
theorem getK_of_mem (O : SOrd lt) {l : List α} (h : InOrd key lt l) {x : α} (hx : x ∈ l) : getK key l (key x) = some x := by
  cases hg : getK key l (key x) with
  | none => exact absurd rfl (getK_none.1 hg x hx)
  | some y =>
    obtain ⟨h1, h2⟩ := getK_mem hg
    rw [ord_key O h h1 hx h2]
theorem delK_ord {l : List α} (h : InOrd key lt l) (k : K) : InOrd key lt (delK key l k) := List.Pairwise.filter _ h
theorem delK_mem {l : List α} {k : K} {x : α} : x ∈ delK key l k ↔ x ∈ l ∧ key x ≠ k := by
  unfold delK
  rw [List.mem_filter]
  simp
theorem delK_none {l : List α} {k : K} (h : getK key l k = none) : delK key l k = l := by
  unfold delK
  rw [List.filter_eq_self]
  intro x hx
  simpa using getK_none.1 h x hx
theorem tw_dw (l : List α) (p : α → Bool) : l.takeWhile p ++ l.dropWhile p = l := List.takeWhile_append_dropWhile
theorem insK_mem {l : List α} {x y : α} : y ∈ insK key lt l x ↔ y = x ∨ y ∈ l := by
  unfold insK
  rw [List.mem_append, List.mem_cons]
  conv => rhs; rw [← tw_dw l (fun y => lt (key y) (key x)), List.mem_append]
  constructor
  · rintro (h | h | h)
    · exact .inr (.inl h)
    · exact .inl h
    · exact .inr (.inr h)
  · rintro (h | h | h)
    · exact .inr (.inl h)
    · exact .inl h
    · exact .inr (.inr h)
theorem insK_ord (O : SOrd lt) {l : List α} (h : InOrd key lt l) (x : α) (hx : ∀ y ∈ l, key y ≠ key x) : InOrd key lt (insK key lt l x) := by
  have hl := tw_dw l (fun y => lt (key y) (key x))
  unfold insK InOrd
  have h' := h
  rw [InOrd, ← hl, List.pairwise_append] at h'
  obtain ⟨h1, h2, h3⟩ := h'
  rw [List.pairwise_append]
  have hq : ∀ y ∈ l.dropWhile (fun y => lt (key y) (key x)), lt (key x) (key y) = true := by
    cases hd : l.dropWhile (fun y => lt (key y) (key x)) with
    | nil => intro y hy; cases hy
    | cons z q =>
      rw [hd] at h2
      have hz : lt (key z) (key x) = false := dropWhile_head (fun y => lt (key y) (key x)) l z (by rw [hd]; rfl)
      have hzl : z ∈ l := by rw [← hl, hd]; exact List.mem_append_right _ List.mem_cons_self
      have hxz : lt (key x) (key z) = true := by
        rcases O.tri (key z) (key x) (hx z hzl) with e | e
        · rw [hz] at e; cases e
        · exact e
      intro y hy
      rcases List.mem_cons.1 hy with rfl | hy
      · exact hxz
      · exact O.tr _ _ _ hxz ((List.pairwise_cons.1 h2).1 y hy)
  refine ⟨h1, List.pairwise_cons.2 ⟨hq, h2⟩, fun a ha b hb => ?_⟩
  have hax : lt (key a) (key x) = true := takeWhile_all _ l a ha
  rcases List.mem_cons.1 hb with rfl | hb
  · exact hax
  · exact O.tr _ _ _ hax (hq b hb)
theorem putK_ord (O : SOrd lt) {l : List α} (h : InOrd key lt l) (x : α) : InOrd key lt (putK key lt l x) :=
  insK_ord O (delK_ord h _) x fun _ hy => (delK_mem.1 hy).2
theorem putK_mem {l : List α} {x y : α} : y ∈ putK key lt l x ↔ y = x ∨ (y ∈ l ∧ key y ≠ key x) := by
  unfold putK
  rw [insK_mem, delK_mem]
theorem set_putK (O : SOrd lt) {l : List α} (h : InOrd key lt l) (i : Nat) (hi : i < l.length) (x : α) (hx : key l[i] = key x) : l.set i x = putK key lt l x := by
  have ho : InOrd key lt (l.set i x) := by
    have h := List.pairwise_iff_getElem.1 h
    refine List.pairwise_iff_getElem.2 ?_
    intro a b ha hb hab
    rw [List.length_set] at ha hb
    rw [List.getElem_set, List.getElem_set]
    have := h a b ha hb hab
    by_cases e1 : i = a
    · subst e1
      rw [if_pos rfl, if_neg (by omega), ← hx]
      exact this
    · rw [if_neg e1]
      by_cases e2 : i = b
      · subst e2
        rw [if_pos rfl, ← hx]
        exact this
      · rw [if_neg e2]
        exact this
  refine ord_ext O _ _ ho (putK_ord O h x) fun y => ?_
  rw [putK_mem]
  constructor
  · intro hy
    obtain ⟨j, hj, rfl⟩ := List.getElem_of_mem hy
    rw [List.length_set] at hj
    rw [List.getElem_set]
    by_cases e : i = j
    · rw [if_pos e]; exact .inl rfl
    · rw [if_neg e]
      refine .inr ⟨List.getElem_mem _, fun he => ?_⟩
      have hp := List.pairwise_iff_getElem.1 h
      rcases Nat.lt_or_gt_of_ne e with hlt | hlt
      · exact O.ne (hp i j hi hj hlt) (hx.trans he.symm)
      · exact O.ne (hp j i hj hi hlt) (he.trans hx.symm)
  · rintro (rfl | ⟨hy, hne⟩)
    · exact List.mem_iff_getElem.2 ⟨i, by rw [List.length_set]; exact hi, by rw [List.getElem_set, if_pos rfl]⟩
    · obtain ⟨j, hj, rfl⟩ := List.getElem_of_mem hy
      have hij : i ≠ j := fun e => hne (by subst e; exact hx)
      exact List.mem_iff_getElem.2 ⟨j, by rw [List.length_set]; exact hj, by rw [List.getElem_set, if_neg hij]⟩
end
def idxI : Option Nat → Int
  | some i => (i : Int)
  | none => -1
theorem idx_at {α : Type} (p : α → Bool) (l : List α) (i : Nat) (hi : i < l.length) (h : ∀ j (hj : j < l.length), j < i → p l[j] = false) (hp : p l[i] = true) : l.findIdx? p = some i := by
  rw [List.findIdx?_eq_some_iff_getElem]
  exact ⟨hi, hp, fun j hj => by rw [h j (by omega) hj]; decide⟩
theorem idx_no {α : Type} (p : α → Bool) (l : List α) (h : ∀ j (hj : j < l.length), p l[j] = false) : l.findIdx? p = none := by
  rw [List.findIdx?_eq_none_iff]
  intro x hx
  obtain ⟨j, hj, rfl⟩ := List.getElem_of_mem hx
  exact h j hj
theorem idx_any {α : Type} (p : α → Bool) (l : List α) : decide (0 ≤ idxI (l.findIdx? p)) = l.any p := by
  cases h : l.findIdx? p with
  | none =>
    rw [List.findIdx?_eq_none_iff] at h
    have : l.any p = false := by rw [List.any_eq_false]; intro x hx; rw [h x hx]; decide
    rw [this]; rfl
  | some i =>
    obtain ⟨hi, h1, _⟩ := List.findIdx?_eq_some_iff_getElem.1 h
    have : l.any p = true := List.any_eq_true.2 ⟨l[i], List.getElem_mem _, h1⟩
    rw [this]
    exact decide_eq_true (by show (0 : Int) ≤ (i : Int); omega)
end Sp
end Go.Proofs.YtbpfcjdjhponaaaGreat
namespace Go.Proofs.YtbpfcjdjhponaaaGreat
namespace Sp
def putV (n : Nat) : List UInt8 := if n < 128 then [UInt8.ofNat n] else UInt8.ofNat (n % 128 + 128) :: putV (n / 128)
termination_by n
theorem putV_small {n : Nat} (h : n < 128) : putV n = [UInt8.ofNat n] := by rw [putV, if_pos h]
theorem putV_big {n : Nat} (h : 128 ≤ n) : putV n = UInt8.ofNat (n % 128 + 128) :: putV (n / 128) := by rw [putV, if_neg (by omega)]
def getL : List UInt8 → Nat → Nat → Option (Option (Nat × Nat))
  | [], _, _ => none
  | b :: l, i, n =>
    if i = 9 ∧ 1 < b.toNat then some none
    else if 128 ≤ b.toNat then getL l (i + 1) (n + b.toNat % 128 * 128 ^ i)
    else if b.toNat = 0 ∧ 0 < i then some none
    else some (some (n + b.toNat % 128 * 128 ^ i, i + 1))
def getR (a : Int) : Option (Option (Nat × Nat)) → Nat × Int × Int
  | none => (0, 0, 2)
  | some none => (0, 0, 3)
  | some (some (n, k)) => (n, a + k, 0)
def getV (s : ByteArray) (a : Int) : Nat × Int × Int :=
  if a < 0 ∨ (s.size : Int) < a then (0, 0, 1) else getR a (getL (s.data.toList.drop a.toNat) 0 0)
def GetAt (s : ByteArray) (m i n p : Nat) : Prop :=
  i ≤ 9 ∧ m + i ≤ s.size ∧ n < 128 ^ i ∧ p = 128 ^ i ∧ getL (s.data.toList.drop (m + i)) i n = getL (s.data.toList.drop m) 0 0
theorem GetAt.start (s : ByteArray) (m : Nat) (h : m ≤ s.size) : GetAt s m 0 0 1 := ⟨by omega, h, by simp, rfl, rfl⟩
theorem drop_cons (s : ByteArray) (m : Nat) (h : m < s.size) : s.data.toList.drop m = s[m] :: s.data.toList.drop (m + 1) := by
  have hl : m < s.data.toList.length := by rw [Array.length_toList]; exact h
  rw [List.drop_eq_getElem_cons hl]
  rfl
theorem drop_end (s : ByteArray) (m : Nat) (h : s.size ≤ m) : s.data.toList.drop m = [] := by
  rw [List.drop_eq_nil_iff, Array.length_toList]; exact h
theorem getV_in (s : ByteArray) (m : Nat) (h : m ≤ s.size) : getV s m = getR m (getL (s.data.toList.drop m) 0 0) := by
  unfold getV
  rw [if_neg (by omega), Int.toNat_natCast]
theorem getV_out (s : ByteArray) (a : Int) (h : a < 0 ∨ (s.size : Int) < a) : getV s a = (0, 0, 1) := by
  unfold getV
  rw [if_pos h]
theorem GetAt.p_le {s : ByteArray} {m i n p : Nat} (h : GetAt s m i n p) : p ≤ 9223372036854775808 := by
  obtain ⟨hi, _, _, rfl, _⟩ := h
  have : (128 : Nat) ^ i ≤ 128 ^ 9 := Nat.pow_le_pow_right (by omega) hi
  have h9 : (128 : Nat) ^ 9 = 9223372036854775808 := by decide
  omega
theorem GetAt.cut {s : ByteArray} {m i n p : Nat} (h : GetAt s m i n p) (he : s.size ≤ m + i) : getV s m = (0, 0, 2) := by
  obtain ⟨hi, hm, hn, hp, hg⟩ := h
  rw [getV_in s m (by omega), ← hg, drop_end s _ he]
  rfl
theorem GetAt.form1 {s : ByteArray} {m n p : Nat} (h : GetAt s m 9 n p) (hl : m + 9 < s.size) (hb : 1 < s[m + 9].toNat) : getV s m = (0, 0, 3) := by
  obtain ⟨hi, hm, hn, hp, hg⟩ := h
  rw [getV_in s m (by omega), ← hg, drop_cons s _ hl, getL, if_pos ⟨rfl, hb⟩]
  rfl
theorem GetAt.form0 {s : ByteArray} {m i n p : Nat} (h : GetAt s m i n p) (hl : m + i < s.size) (hb : s[m + i].toNat = 0) (h0 : 0 < i) : getV s m = (0, 0, 3) := by
  obtain ⟨hi, hm, hn, hp, hg⟩ := h
  rw [getV_in s m (by omega), ← hg, drop_cons s _ hl, getL, if_neg (by omega), if_neg (by omega), if_pos ⟨hb, h0⟩]
  rfl
theorem GetAt.more {s : ByteArray} {m i n p : Nat} (h : GetAt s m i n p) (hl : m + i < s.size) (hb : 128 ≤ s[m + i].toNat) (h9 : i ≠ 9) : GetAt s m (i + 1) (n + s[m + i].toNat % 128 * p) (p * 128) := by
  obtain ⟨hi, hm, hn, rfl, hg⟩ := h
  refine ⟨by omega, by omega, ?_, by rw [Nat.pow_succ], ?_⟩
  · rw [Nat.pow_succ]
    have : s[m + i].toNat % 128 * 128 ^ i ≤ 127 * 128 ^ i := Nat.mul_le_mul_right _ (by omega)
    omega
  · rw [← hg, drop_cons s _ hl, getL, if_neg (by omega), if_pos hb]
    rfl
theorem GetAt.done {s : ByteArray} {m i n p : Nat} (h : GetAt s m i n p) (hl : m + i < s.size) (hb : s[m + i].toNat < 128) (h9 : i = 9 → s[m + i].toNat ≤ 1) (h0 : s[m + i].toNat = 0 → i = 0) :
    getV s m = (n + s[m + i].toNat % 128 * p, (m : Int) + (i + 1 : Nat), 0) := by
  obtain ⟨hi, hm, hn, rfl, hg⟩ := h
  rw [getV_in s m (by omega), ← hg, drop_cons s _ hl, getL, if_neg (by omega), if_neg (by omega), if_neg (by omega)]
  rfl
theorem GetAt.sum_lt {s : ByteArray} {m i n p : Nat} (h : GetAt s m i n p) (b : Nat) (hb : i = 9 → b ≤ 1) : n + b % 128 * p < 18446744073709551616 := by
  have hp := h.p_le
  obtain ⟨hi, hm, hn, rfl, hg⟩ := h
  rcases Nat.lt_or_ge i 9 with h8 | h9
  · have : (128 : Nat) ^ i ≤ 128 ^ 8 := Nat.pow_le_pow_right (by omega) (by omega)
    have h9 : (128 : Nat) ^ 8 = 72057594037927936 := by decide
    have : b % 128 * 128 ^ i ≤ 127 * 128 ^ i := Nat.mul_le_mul_right _ (by omega)
    omega
  · obtain rfl : i = 9 := by omega
    have h9 : (128 : Nat) ^ 9 = 9223372036854775808 := by decide
    have := hb rfl
    have : b % 128 * 128 ^ 9 ≤ 1 * 128 ^ 9 := Nat.mul_le_mul_right _ (by omega)
    omega
def textV (s : ByteArray) : ByteArray := ⟨(putV s.size ++ s.data.toList).toArray⟩
def takeV (s : ByteArray) (a : Int) (most : Int) : ByteArray × Int × Int :=
  let g := getV s a
  if g.2.2 ≠ 0 then (⟨#[]⟩, 0, g.2.2)
  else if most < 0 ∨ most < g.1 then (⟨#[]⟩, 0, 3)
  else if s.size < g.2.1.toNat + g.1 then (⟨#[]⟩, 0, 2)
  else (s.extract g.2.1.toNat (g.2.1.toNat + g.1), g.2.1 + g.1, 0)
def takeN (s : ByteArray) (a : Int) : ByteArray × Int × Int :=
  let t := takeV s a 16
  if t.2.2 ≠ 0 then (⟨#[]⟩, 0, t.2.2) else if isName t.1 then t else (⟨#[]⟩, 0, 3)
end Sp
end Go.Proofs.YtbpfcjdjhponaaaGreat
namespace Go.Proofs.YtbpfcjdjhponaaaGreat
open Go.RowKit Sp
theorem info_u8 : (Tryz.prog.info? 5).map (fun i => (i.zero, i.size, i.bytes)) = some (some (.int .u8 0), 1, 1) := by kernel_rfl
def lim64 : Nat := 18446744073709551616
theorem or128 (m : Nat) (h : m < 256) : bits .or .u8 (m : Int) 128 = ((m % 128 + 128 : Nat) : Int) := by
  have key : ∀ m : Fin 256, bits .or .u8 ((m : Nat) : Int) 128 = (((m : Nat) % 128 + 128 : Nat) : Int) := by decide +kernel
  exact key ⟨m, h⟩
theorem enB_nat (m : Nat) (h : m < 256) : enB (UInt8.ofNat m) = [.int .u8 (m : Int)] := by
  have : (UInt8.ofNat m).toNat = m := by simp; omega
  simp [enB, this]
theorem putV_len_pos (n : Nat) : 0 < (putV n).length := by
  rw [putV]; split <;> simp
theorem putV_len (n : Nat) (hn : n < 18446744073709551616) : (putV n).length ≤ 10 := by
  have key : ∀ k n : Nat, n < 128 ^ (k + 1) → (putV n).length ≤ k + 1 := by
    intro k
    induction k with
    | zero => intro n hn; rw [putV_small (by omega)]; simp
    | succ k ih =>
      intro n hn
      by_cases h : n < 128
      · rw [putV_small h]; simp
      · rw [putV_big (by omega)]
        have : n / 128 < 128 ^ (k + 1) := by rw [Nat.pow_succ] at hn; omega
        have := ih (n / 128) this
        simp; omega
  exact key 9 n (by omega)
set_option maxHeartbeats 1000000 in
set_option maxRecDepth 100000 in
theorem varPut_calls (n : Nat) (w : World) (hn : n < lim64) :
    Calls Tryz.prog 91 #[.int .u64 n] w fun e w' => e = .returned (.string (strOf (putV n))) ∧ Below w.heap.size w w' := by
  have HN := Lib.hid hn
  clear hn
  go_enter Tryz.func91, Tryz.ntmps91
  go_wp2
  go_loopw [0, 3] (fun v0 v3 wr => ∃ (m : Nat) (acc : List UInt8), v0 = .int .u64 m ∧ Own enB 1 5 wr w.heap.size v3 acc ∧ Below w.heap.size w wr ∧ acc ++ putV m = putV n ∧ m ≤ n) (fun v0 _ _ => (intOf v0).toNat)
  case atStart => exact ⟨n, [], rfl, Own.nil _ _ _ _ _, Below.refl _ _, rfl, Nat.le_refl _⟩
  case round =>
    obtain ⟨m, acc, rfl, hO, hB, hacc, hm⟩ := hrel
    have HA := Lib.hid hacc
    have hlen : acc.length + (putV m).length ≤ 10 := by
      rw [← List.length_append, hacc]
      exact putV_len n (by have := HN.out; unfold lim64 at this; exact this)
    have hpos := putV_len_pos m
    clear hacc
    by_cases h128 : 128 ≤ m
    · have hcs : enB (UInt8.ofNat (m % 128 + 128)) = [.int .u8 (bits .or .u8 ((m : Int) % 256) 128)] := by
        rw [enB_nat _ (by omega)]
        have := or128 (m % 256) (by omega)
        rw [Int.natCast_emod] at this
        have h2 : ((256 : Nat) : Int) = 256 := rfl
        rw [h2] at this
        rw [this]
        congr 4
        omega
      have HC := Lib.hid hcs
      clear hcs
      go_wp2_with (at_builtin; refine Own.append (w0 := w) w.heap.size rfl (.tmp 8) (.tmp 12) 80 5 (.int .u8 0) 1 1 rfl Tryz.underlying80 info_u8 rfl (by decide) u3 acc (UInt8.ofNat (m % 128 + 128)) [.int .u8 (bits .or .u8 ((m : Int) % 256) 128)] rfl rfl HC.out rfl (by simp [Value.oneCell']) hO hB hB.size (by omega) (by omega) ?_; intro v1 w1 hO1 hB1 _ _)
      go_roundw
      case rel =>
        refine ⟨m / 128, _, by go_num, hO1, hB1, ?_, by omega⟩
        rw [← HA.out, putV_big h128, List.append_assoc]
        rfl
      case measure => simp [intOf]; omega
    · have hcs : enB (UInt8.ofNat m) = [.int .u8 (m : Int)] := enB_nat _ (by omega)
      have HC := Lib.hid hcs
      clear hcs
      go_wp2_with (at_builtin; refine Own.append (w0 := w) w.heap.size rfl (.tmp 14) (.tmp 17) 80 5 (.int .u8 0) 1 1 rfl Tryz.underlying80 info_u8 rfl (by decide) u3 acc (UInt8.ofNat m) [.int .u8 (m : Int)] rfl rfl HC.out rfl (by simp [Value.oneCell']) hO hB hB.size (by omega) (by omega) ?_; intro v1 w1 hO1 hB1 _ _; have hcv := hO1.row.string (P := Tryz.prog) Tryz.underlying80 Tryz.underlying5 Tryz.underlying9)
      go_ret
      refine ⟨ret_str (b := strOf (putV n)) ?_, hB1⟩
      rw [← HA.out, putV_small (by omega)]
end Go.Proofs.YtbpfcjdjhponaaaGreat
namespace Go.Proofs.YtbpfcjdjhponaaaGreat
open Go.RowKit Sp
theorem andNot128 (m : Nat) (h : m < 256) : bits .andNot .u8 (m : Int) 128 = ((m % 128 : Nat) : Int) := by
  have key : ∀ m : Fin 256, bits .andNot .u8 ((m : Nat) : Int) 128 = (((m : Nat) % 128 : Nat) : Int) := by decide +kernel
  exact key ⟨m, h⟩
theorem pow_word (i : Nat) : ((2 : Int) ^ (7 * i)) = ((128 ^ i : Nat) : Int) := by
  rw [show (128 : Nat) = 2 ^ 7 by decide, ← Nat.pow_mul]
  simp
theorem sum_lt9 (n b i : Nat) (hn : n < 128 ^ i) (hi : i ≤ 9) (h9 : i = 9 → b ≤ 1) : n + b % 128 * 128 ^ i < 18446744073709551616 := by
  rcases Nat.lt_or_ge i 9 with h8 | h9'
  · have : (128 : Nat) ^ i ≤ 128 ^ 8 := Nat.pow_le_pow_right (by omega) (by omega)
    have h9 : (128 : Nat) ^ 8 = 72057594037927936 := by decide
    have : b % 128 * 128 ^ i ≤ 127 * 128 ^ i := Nat.mul_le_mul_right _ (by omega)
    omega
  · obtain rfl : i = 9 := by omega
    have h9'' : (128 : Nat) ^ 9 = 9223372036854775808 := by decide
    have := h9 rfl
    have : b % 128 * 128 ^ 9 ≤ 1 * 128 ^ 9 := Nat.mul_le_mul_right _ (by omega)
    omega
theorem or_word (n b i : Nat) (hn : n < 128 ^ i) (hi : i ≤ 9) (hb : b < 256) (h9 : i = 9 → b ≤ 1) (x q : Int) (hx : x = (b : Int)) (hq : q = ((128 ^ i : Nat) : Int)) :
    bits .or .u64 (n : Int) (IntKind.u64.wrap (IntKind.u64.wrap (bits .andNot .u8 x 128) * q)) = ((n + b % 128 * 128 ^ i : Nat) : Int) := by
  subst hx hq
  have h0 := sum_lt9 n b i hn hi h9
  rw [andNot128 b hb, IntKind.wrap_u64, IntKind.wrap_u64]
  have e1 : ((b % 128 : Nat) : Int) % 18446744073709551616 = ((b % 128 : Nat) : Int) := by omega
  rw [e1, ← Int.natCast_mul]
  have e2 : ((b % 128 * 128 ^ i : Nat) : Int) % 18446744073709551616 = ((b % 128 * 128 ^ i : Nat) : Int) := by
    generalize b % 128 * 128 ^ i = q at *
    omega
  rw [e2, bits_or_u64_nat _ _ (by omega) (by omega)]
  congr 1
  have hp : (128 : Nat) ^ i = 2 ^ (7 * i) := by rw [show (128 : Nat) = 2 ^ 7 by decide, ← Nat.pow_mul]
  rw [hp] at hn ⊢
  rw [Nat.or_comm, Nat.mul_comm (b % 128), ← Nat.two_pow_add_eq_or_of_lt hn, Nat.add_comm]
def GetRel (s : ByteArray) (m : Nat) (w : World) (a' : Act) (w' : World) : Prop :=
  w = w' ∧ ∃ (i n : Nat) (u9 u10 u11 u12 u13 u14 u15 u16 u17 u18 u19 u20 u21 u22 u23 u24 u25 u26 u27 u28 u29 u30 u31 u32 u33 u34 u35 u36 u37 u38 u39 u40 u41 u42 u43 u44 u45 u46 : Value), a' = { tmps := #[.string s, .int .i64 m, undef, undef, .int .u64 0, .int .i64 0, .int .i64 0, .int .u64 n, .int .i64 i, u9, u10, u11, u12, u13, u14, u15, u16, u17, u18, u19, u20, u21, u22, u23, u24, u25, u26, u27, u28, u29, u30, u31, u32, u33, u34, u35, u36, u37, u38, u39, u40, u41, u42, u43, u44, u45, u46, undef, undef, undef, undef, undef, undef, undef, undef, undef, undef], defers := [] } ∧ Hid (GetAt s m i n (128 ^ i)) ∧ i ≤ 9
set_option maxHeartbeats 2000000 in
set_option maxRecDepth 100000 in
theorem varGet_calls (s : ByteArray) (a : Int) (w : World) (hs : s.size ≤ 140737488351232) :
    Calls Tryz.prog 134 #[.string s, .int .i64 a] w fun e w' => e = .returned (.tuple #[.int .u64 (getV s a).1, .int .i64 (getV s a).2.1, .int .i64 (getV s a).2.2]) ∧ w = w' := by
  by_cases ho : a < 0 ∨ (s.size : Int) < a
  · have HV : Hid (getV s a = (0, 0, 1)) := getV_out s a ho
    rcases ho with h | h
    · go_enter Tryz.func134, Tryz.ntmps134
      go_wp2
      go_step3
      go_wp2
      rw [Exit.noGoto_ret]
      go_ret3
      rw [HV.out]
      exact ⟨rfl, rfl⟩
    · have h0 : 0 ≤ a := by omega
      go_enter Tryz.func134, Tryz.ntmps134
      go_wp2
      go_step3
      go_wp2
      rw [Exit.noGoto_ret]
      go_ret3
      rw [HV.out]
      exact ⟨rfl, rfl⟩
  · obtain ⟨m, rfl⟩ := Int.eq_ofNat_of_zero_le (show 0 ≤ a by omega)
    have hm : m ≤ s.size := by omega
    clear ho
    have hb0 : decide (s.size < m) = false := by simp; omega
    go_enter Tryz.func134, Tryz.ntmps134
    go_wp2
    refine wp_scope_jumps 0 (GetRel s m w) (fun a' _ => (9 - intOf (a'.tmps.getD 8 undef)).toNat) rfl ?_ ?_
    · have HG : Hid (GetAt s m 0 0 (128 ^ 0)) := GetAt.start s m hm
      by_cases hc : s.size ≤ m
      · have HV : Hid (getV s m = (0, 0, 2)) := HG.out.cut hc
        have hc' : ((m : Int) == s.size) = true := by simp; omega
        go_wp2
        go_step3
        go_wp2
        simp only [Exit.jump]
        go_ret3
        rw [HV.out]
        exact ⟨rfl, rfl⟩
      · have hl : m < s.size := by omega
        have hc' : ((m : Int) == s.size) = false := by simp; omega
        clear hc
        obtain ⟨b, hbv⟩ : ∃ b : Nat, (s[m]'hl).toNat = b := ⟨_, rfl⟩
        have hb256 : b < 256 := by rw [← hbv]; exact UInt8.toNat_lt _
        have hf : bits .or .u64 0 (IntKind.u64.wrap (IntKind.u64.wrap (bits .andNot .u8 (b : Int) 128))) = ((0 + b % 128 * 128 ^ 0 : Nat) : Int) := by
          have := or_word 0 b 0 (by simp) (by omega) hb256 (by omega) b 1 rfl (by simp)
          rwa [Int.mul_one] at this
        have HF := Lib.hid hf
        clear hf
        by_cases h2 : 128 ≤ b
        · have HG2 : Hid (GetAt s m (0 + 1) (0 + b % 128 * 128 ^ 0) (128 ^ (0 + 1))) := by
            have := HG.out.more hl (by simp only [Nat.add_zero]; omega) (by omega)
            simp only [Nat.add_zero] at this
            rw [hbv] at this
            exact this
          go_wp2
          go_step3
          go_wp2
          go_step3
          rw [HF.out]
          exact ⟨rfl, rfl, 0 + 1, 0 + b % 128 * 128 ^ 0, _, _, _, _, _, _, _, _, _, _, _, _, _, _, _, _, _, _, _, _, _, _, _, _, _, _, _, _, _, _, _, _, _, _, _, _, _, _, rfl, HG2, by omega⟩
        · have HV : Hid (getV s m = (0 + b % 128 * 128 ^ 0, (m : Int) + (0 + 1 : Nat), 0)) := by
            have := HG.out.done hl (by simp only [Nat.add_zero]; omega) (by omega) (by omega)
            simp only [Nat.add_zero] at this
            rw [hbv] at this
            exact this
          obtain hz | hz : b ≤ 0 ∨ 1 ≤ b := by omega
          · have hf0 : bits .or .u64 0 (IntKind.u64.wrap (IntKind.u64.wrap (bits .andNot .u8 0 128))) = ((0 + b % 128 * 128 ^ 0 : Nat) : Int) := by
              have h1 := HF.out
              obtain rfl : b = 0 := by omega
              exact h1
            have HF0 := Lib.hid hf0
            clear hf0
            go_wp2
            go_step3
            go_wp2
            simp only [Exit.jump]
            go_ret3
            rw [HV.out]
            refine ⟨ret3 (val_int HF0.out) (val_int (a := (m : Int) + 1) ?_) rfl, rfl⟩
            show _ = (m : Int) + (0 + 1 : Nat)
            omega
          · go_wp2
            go_step3
            go_wp2
            simp only [Exit.jump]
            go_ret3
            rw [HV.out]
            refine ⟨ret3 (val_int HF.out) (val_int (a := (m : Int) + 1) ?_) rfl, rfl⟩
            show _ = (m : Int) + (0 + 1 : Nat)
            omega
    · rintro a' w' ⟨rfl, i, n, u9, u10, u11, u12, u13, u14, u15, u16, u17, u18, u19, u20, u21, u22, u23, u24, u25, u26, u27, u28, u29, u30, u31, u32, u33, u34, u35, u36, u37, u38, u39, u40, u41, u42, u43, u44, u45, u46, rfl, HG, hi⟩
      by_cases hc : s.size ≤ m + i
      · have HV : Hid (getV s m = (0, 0, 2)) := HG.out.cut hc
        have hc' : ((m : Int) + i == s.size) = true := by have := HG.out.2.1; simp; omega
        go_wp2
        simp only [Exit.jump]
        go_ret3
        rw [HV.out]
        exact ⟨rfl, rfl⟩
      · have hl : m + i < s.size := by omega
        have hc' : ((m : Int) + i == s.size) = false := by simp; omega
        clear hc
        obtain ⟨b, hbv⟩ : ∃ b : Nat, (s[m + i]'hl).toNat = b := ⟨_, rfl⟩
        have hb256 : b < 256 := by rw [← hbv]; exact UInt8.toNat_lt _
        by_cases h1 : i = 9 ∧ 1 < b
        · obtain ⟨rfl, h1b⟩ := h1
          have HV : Hid (getV s m = (0, 0, 3)) := HG.out.form1 hl (by omega)
          go_wp2
          simp only [Exit.jump]
          go_ret3
          rw [HV.out]
          exact ⟨rfl, rfl⟩
        · have h91 : i = 9 → b ≤ 1 := by omega
          have H91 := Lib.hid h91
          have hf : bits .or .u64 (n : Int) (IntKind.u64.wrap (IntKind.u64.wrap (bits .andNot .u8 (b : Int) 128) * 2 ^ (7 * i))) = ((n + b % 128 * 128 ^ i : Nat) : Int) :=
            or_word n b i HG.out.2.2.1 (by omega) hb256 h91 b _ rfl (pow_word i)
          have HF := Lib.hid hf
          clear h1 h91 hf
          by_cases h2 : 128 ≤ b
          · have h8 : i ≤ 8 := by
              rcases Nat.lt_or_ge i 9 with h | h
              · omega
              · have := H91.out (by omega)
                omega
            have HG2 : Hid (GetAt s m (i + 1) (n + b % 128 * 128 ^ i) (128 ^ (i + 1))) := by
              have := HG.out.more hl (by omega) (by omega)
              rw [hbv] at this
              exact this
            go_wp2
            go_step3
            rw [HF.out]
            refine ⟨rfl, ⟨rfl, i + 1, n + b % 128 * 128 ^ i, _, _, _, _, _, _, _, _, _, _, _, _, _, _, _, _, _, _, _, _, _, _, _, _, _, _, _, _, _, _, _, _, _, _, _, _, _, _, rfl, HG2, by omega⟩, ?_⟩
            simp [intOf]
            omega
          · by_cases h0 : b = 0 ∧ 0 < i
            · obtain ⟨h0b, h0i⟩ := h0
              have HV : Hid (getV s m = (0, 0, 3)) := HG.out.form0 hl (by omega) h0i
              have hz : b ≤ 0 := by omega
              clear h0b
              obtain h9 | h9 : 9 ≤ i ∨ i ≤ 8 := by omega
              all_goals
                go_wp2
                simp only [Exit.jump]
                go_ret3
                rw [HV.out]
                exact ⟨rfl, rfl⟩
            · have HV : Hid (getV s m = (n + b % 128 * 128 ^ i, (m : Int) + (i + 1 : Nat), 0)) := by
                have := HG.out.done hl (by omega) (fun e => by have := H91.out e; omega) (by omega)
                rwa [hbv] at this
              have hi0 : 1 ≤ b ∨ i = 0 := by omega
              have HI0 := Lib.hid hi0
              clear h0 hi0
              obtain ⟨h9, hz⟩ | ⟨h9, hz, hz2⟩ | ⟨h9, hz⟩ : (9 ≤ i ∧ 1 ≤ b) ∨ (i ≤ 8 ∧ b ≤ 0 ∧ i ≤ 0) ∨ (i ≤ 8 ∧ 1 ≤ b) := by have := HI0.out; omega
              have hb1 : b ≤ 1 := H91.out (by omega)
              have hf9 : bits .or .u64 (n : Int) (IntKind.u64.wrap (IntKind.u64.wrap (bits .andNot .u8 (b : Int) 128) * 9223372036854775808)) = ((n + b % 128 * 128 ^ i : Nat) : Int) := by
                have h1 := HF.out
                obtain rfl : i = 9 := by omega
                exact h1
              have HF9 := Lib.hid hf9
              clear hf9
              rotate_left
              have hf0 : bits .or .u64 (n : Int) (IntKind.u64.wrap (IntKind.u64.wrap (bits .andNot .u8 0 128) * 2 ^ (7 * i))) = ((n + b % 128 * 128 ^ i : Nat) : Int) := by
                have h1 := HF.out
                obtain rfl : b = 0 := by omega
                exact h1
              have HF0 := Lib.hid hf0
              clear hf0
              rotate_left
              rotate_left
              all_goals
                go_wp2
                simp only [Exit.jump]
                go_ret3
                rw [HV.out]
              · refine ⟨ret3 (val_int HF9.out) (val_int (a := (m : Int) + 10) ?_) rfl, rfl⟩
                show _ = (m : Int) + (i + 1 : Nat)
                omega
              · refine ⟨ret3 (val_int HF0.out) (val_int (a := (m : Int) + (i + 1)) ?_) rfl, rfl⟩
                show _ = (m : Int) + (i + 1 : Nat)
                omega
              · refine ⟨ret3 (val_int HF.out) (val_int (a := (m : Int) + (i + 1)) ?_) rfl, rfl⟩
                show _ = (m : Int) + (i + 1 : Nat)
                omega
end Go.Proofs.YtbpfcjdjhponaaaGreat
namespace Go.Proofs.YtbpfcjdjhponaaaGreat
open Go.RowKit Sp
theorem textV_eq (s : ByteArray) : strOf (putV s.size) ++ s = textV s := by
  rw [append_strOf, strOf_list]
  rfl
theorem textV_size (s : ByteArray) (hs : s.size ≤ 140737488351232) : (textV s).size ≤ s.size + 10 := by
  have h1 := putV_len s.size (by omega)
  have h2 : (textV s).size = (putV s.size).length + s.data.toList.length := by unfold textV; rw [size_ofList, List.length_append]
  rw [h2, ← size_eq_length]
  omega
set_option maxRecDepth 100000 in
theorem varText_calls (s : ByteArray) (w : World) (hs : s.size ≤ 140737488351232) :
    Calls Tryz.prog 47 #[.string s] w fun e w' => e = .returned (.string (textV s)) ∧ Below w.heap.size w w' := by
  have hw : IntKind.u64.wrap (s.size : Int) = s.size := by rw [IntKind.wrap_u64]; omega
  have hl : (strOf (putV s.size)).size ≤ 10 := by rw [strOf_size]; exact putV_len _ (by omega)
  go_enter Tryz.func47, Tryz.ntmps47
  go_wp2_with fail
  refine (varPut_calls s.size _ (by unfold lim64; omega)).mono ?_
  rintro e w' ⟨rfl, hb⟩
  go_wp2
  go_ret
  exact ⟨ret_str (textV_eq s), hb⟩
theorem getV_ok (s : ByteArray) (a : Int) (n : Nat) (to : Int) (h : getV s a = (n, to, 0)) : 0 ≤ a ∧ a < to ∧ to ≤ s.size ∧ n < 18446744073709551616 := by
  by_cases ho : a < 0 ∨ (s.size : Int) < a
  · rw [getV_out s a ho] at h
    simp at h
  · obtain ⟨m, rfl⟩ := Int.eq_ofNat_of_zero_le (show 0 ≤ a by omega)
    have hm : m ≤ s.size := by omega
    have key : ∀ k i n0 : Nat, GetAt s m i n0 (128 ^ i) → s.size - (m + i) = k → (m : Int) < to ∧ to ≤ s.size ∧ n < 18446744073709551616 := by
      intro k
      induction k using Nat.strongRecOn with
      | _ k ih =>
        intro i n0 hG hk
        rcases Nat.lt_or_ge (m + i) s.size with hl | hl
        · by_cases h1 : i = 9 ∧ 1 < s[m + i].toNat
          · obtain ⟨rfl, h1⟩ := h1
            rw [hG.form1 hl h1] at h
            simp at h
          · by_cases h2 : 128 ≤ s[m + i].toNat
            · have hi := hG.1
              have h9 : i ≠ 9 := fun e => h1 ⟨e, by omega⟩
              exact ih (s.size - (m + (i + 1))) (by omega) (i + 1) _ (by have := hG.more hl h2 h9; rwa [← Nat.pow_succ] at this) rfl
            · by_cases h3 : s[m + i].toNat = 0 ∧ 0 < i
              · rw [hG.form0 hl h3.1 h3.2] at h
                simp at h
              · have hd := hG.done hl (by omega) (by omega) (by omega)
                have hs := hG.sum_lt s[m + i].toNat (by omega)
                rw [hd] at h
                simp only [Prod.mk.injEq] at h
                omega
        · rw [hG.cut hl] at h
          simp at h
    have := key _ 0 0 (GetAt.start s m hm) rfl
    omega
theorem takeV_err (s : ByteArray) (a most : Int) (n : Nat) (to e : Int) (h : getV s a = (n, to, e)) (he : e ≠ 0) : takeV s a most = (⟨#[]⟩, 0, e) := by
  simp [takeV, h, he]
theorem takeV_form (s : ByteArray) (a most : Int) (n : Nat) (to : Int) (h : getV s a = (n, to, 0)) (hm : most < 0 ∨ most < n) : takeV s a most = (⟨#[]⟩, 0, 3) := by
  simp [takeV, h, hm]
theorem takeV_cut (s : ByteArray) (a most : Int) (n : Nat) (to : Int) (h : getV s a = (n, to, 0)) (hm : ¬ (most < 0 ∨ most < n)) (hc : s.size < to.toNat + n) : takeV s a most = (⟨#[]⟩, 0, 2) := by
  simp [takeV, h, hm, hc]
theorem takeV_ok (s : ByteArray) (a most : Int) (n : Nat) (to : Int) (h : getV s a = (n, to, 0)) (hm : ¬ (most < 0 ∨ most < n)) (hc : ¬ s.size < to.toNat + n) : takeV s a most = (s.extract to.toNat (to.toNat + n), to + n, 0) := by
  simp [takeV, h, hm, hc]
theorem varGet_is (s : ByteArray) (a : Int) (n : Nat) (to er : Int) (w : World) (hs : s.size ≤ 140737488351232) (hg : Hid (getV s a = (n, to, er))) :
    Calls Tryz.prog 134 #[.string s, .int .i64 a] w fun e w' => e = .returned (.tuple #[.int .u64 n, .int .i64 to, .int .i64 er]) ∧ w = w' := by
  have := varGet_calls s a w hs
  rwa [hg.out] at this
set_option maxRecDepth 100000 in
set_option maxHeartbeats 400000 in
theorem varTake_calls (s : ByteArray) (a most : Int) (w : World) (hs : s.size ≤ 140737488351232) (hm : most ≤ 1048576) (hm0 : -1048576 ≤ most) :
    Calls Tryz.prog 89 #[.string s, .int .i64 a, .int .i64 most] w fun e w' => e = .returned (.tuple #[.string (takeV s a most).1, .int .i64 (takeV s a most).2.1, .int .i64 (takeV s a most).2.2]) ∧ w = w' := by
  obtain ⟨n, to, er, hg⟩ : ∃ n to er, getV s a = (n, to, er) := ⟨_, _, _, rfl⟩
  by_cases he : er = 0
  · subst he
    obtain ⟨h0, h1, h2, h3⟩ := getV_ok s a n to hg
    have H3 := Lib.hid h3
    clear h3
    obtain ⟨k, rfl⟩ := Int.eq_ofNat_of_zero_le (show 0 ≤ to by omega)
    have HG := Lib.hid hg
    clear hg
    by_cases hf : most < 0 ∨ most < n
    · have HV : Hid (takeV s a most = (⟨#[]⟩, 0, 3)) := takeV_form s a most n k HG.out hf
      obtain hf | ⟨hf0, hf⟩ : most < 0 ∨ 0 ≤ most ∧ most < n := by omega
      · go_enter Tryz.func89, Tryz.ntmps89
        go_wp2_with fail
        refine (varGet_is s a n _ _ _ hs HG).mono ?_
        rintro e w' ⟨rfl, rfl⟩
        go_wp2
        go_ret3
        rw [HV.out]
        exact ⟨rfl, rfl⟩
      · have hw : IntKind.u64.wrap most = most := by rw [IntKind.wrap_u64]; omega
        go_enter Tryz.func89, Tryz.ntmps89
        go_wp2_with fail
        refine (varGet_is s a n _ _ _ hs HG).mono ?_
        rintro e w' ⟨rfl, rfl⟩
        go_wp2
        go_ret3
        rw [HV.out]
        exact ⟨rfl, rfl⟩
    · obtain ⟨hf0, hf1⟩ : 0 ≤ most ∧ (n : Int) ≤ most := by omega
      have hw : IntKind.u64.wrap most = most := by rw [IntKind.wrap_u64]; omega
      have hw2 : IntKind.u64.wrap ((s.size : Int) - k) = (s.size : Int) - k := by rw [IntKind.wrap_u64]; omega
      by_cases hc : s.size < k + n
      · have HV : Hid (takeV s a most = (⟨#[]⟩, 0, 2)) := takeV_cut s a most n k HG.out hf (by simpa using hc)
        clear hf
        go_enter Tryz.func89, Tryz.ntmps89
        go_wp2_with fail
        refine (varGet_is s a n _ _ _ hs HG).mono ?_
        rintro e w' ⟨rfl, rfl⟩
        go_wp2
        go_ret3
        rw [HV.out]
        exact ⟨rfl, rfl⟩
      · have HV : Hid (takeV s a most = (s.extract k (k + n), (k : Int) + n, 0)) := takeV_ok s a most n k HG.out hf (by simpa using hc)
        clear hf
        go_enter Tryz.func89, Tryz.ntmps89
        go_wp2_with fail
        refine (varGet_is s a n _ _ _ hs HG).mono ?_
        rintro e w' ⟨rfl, rfl⟩
        go_wp2
        go_ret3
        rw [HV.out]
        exact ⟨rfl, rfl⟩
  · have HV : Hid (takeV s a most = (⟨#[]⟩, 0, er)) := takeV_err s a most n to er hg he
    have hb : (er != 0) = true := by simpa using he
    have HG := Lib.hid hg
    clear hg
    have HE := Lib.hid he
    clear he
    go_enter Tryz.func89, Tryz.ntmps89
    go_wp2_with fail
    refine (varGet_is s a n _ _ _ hs HG).mono ?_
    rintro e w' ⟨rfl, rfl⟩
    go_wp2
    go_ret3
    rw [HV.out]
    exact ⟨rfl, rfl⟩
end Go.Proofs.YtbpfcjdjhponaaaGreat
namespace Go.Proofs.YtbpfcjdjhponaaaGreat
open Go.RowKit
namespace Sp
theorem foldS_size (s : ByteArray) : (foldS s).size = s.size := by rw [size_eq_length, size_eq_length s]; simp [foldS]
end Sp
end Go.Proofs.YtbpfcjdjhponaaaGreat
