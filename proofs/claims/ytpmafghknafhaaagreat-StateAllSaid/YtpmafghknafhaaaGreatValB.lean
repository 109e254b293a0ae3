/-
Layer 2: the sum of bytes; one step, by the program and by the document's answer.
Layer 2: the sum of a text's bytes.
A row of bytes made of a text, that is appended to.
Layer 2: a text with its sum behind it, put and taken off.
Layer 4: a value as bytes, put.
-/
import Derived.Test.YtpmafghknafhaaaGreatSpecD
import Derived.Laws.BitsLemmas
import Derived.ArgAppend
import Derived.Test.YtpmafghknafhaaaGreatWk
import Derived.Test.YtpmafghknafhaaaGreatSesA
import Derived.Deep.RegionHeld3
set_option linter.unusedVariables false
set_option linter.unusedSimpArgs false
namespace Go.Proofs.YtpmafghknafhaaaGreat
open Go.RowKit
namespace Sp
def crcBit (x : Nat) : Nat := if x % 2 = 1 then (x / 2) ^^^ 3988292384 else x / 2
def crcIter : Nat → Nat → Nat
  | 0, x => x
  | n + 1, x => crcBit (crcIter n x)
def crcStep (c b : Nat) : Nat := crcIter 8 (c ^^^ b)
theorem crcBit_lt (x : Nat) (h : x < 4294967296) : crcBit x < 4294967296 := by
  unfold crcBit
  split
  · have : (x / 2) ^^^ 3988292384 < 2 ^ 32 := Nat.xor_lt_two_pow (by omega) (by omega)
    omega
  · omega
theorem crcIter_lt (x : Nat) (h : x < 4294967296) : ∀ n, crcIter n x < 4294967296
  | 0 => h
  | n + 1 => crcBit_lt _ (crcIter_lt x h n)
theorem xor_lt32 (c b : Nat) (hc : c < 4294967296) (hb : b < 4294967296) : c ^^^ b < 4294967296 := by
  have : c ^^^ b < 2 ^ 32 := Nat.xor_lt_two_pow (by omega) (by omega)
  omega
theorem crcStep_lt (c b : Nat) (hc : c < 4294967296) (hb : b < 256) : crcStep c b < 4294967296 := crcIter_lt _ (xor_lt32 c b hc (by omega)) 8
end Sp
open Sp

theorem bits_xor_u32_nat (a b : Nat) (ha : a < 4294967296) (hb : b < 4294967296) : bits .xor .u32 (a : Int) (b : Int) = ((a ^^^ b : Nat) : Int) := by
  have hx : a ^^^ b < 2 ^ 32 := Nat.xor_lt_two_pow (by omega) (by omega)
  have h1 : (BitVec.ofInt 32 (a : Int)).toNat = a := by
    rw [BitVec.ofInt_natCast, BitVec.toNat_ofNat]; exact Nat.mod_eq_of_lt (by omega)
  have h2 : (BitVec.ofInt 32 (b : Int)).toNat = b := by
    rw [BitVec.ofInt_natCast, BitVec.toNat_ofNat]; exact Nat.mod_eq_of_lt (by omega)
  show IntKind.u32.wrap ((BitVec.ofInt 32 (a : Int) ^^^ BitVec.ofInt 32 (b : Int)).toNat : Int) = _
  rw [BitVec.toNat_xor, h1, h2, IntKind.wrap_u32]
  omega
theorem bits_and_u32_nat (a b : Nat) (ha : a < 4294967296) (hb : b < 4294967296) : bits .and .u32 (a : Int) (b : Int) = ((a &&& b : Nat) : Int) :=
  (bits_nat .u32 32 (by decide) (fun n h0 h1 => by rw [IntKind.wrap_u32]; omega) a b (by omega) (by omega)).1

theorem bit_ref (x : Nat) (h : x < 4294967296) (h2 : x % 2 = 1) : bits .xor .u32 ((x : Int) / 2) 3988292384 = ((crcBit x : Nat) : Int) := by
  have e : ((x : Int) / 2) = ((x / 2 : Nat) : Int) := by omega
  rw [e, show (3988292384 : Int) = ((3988292384 : Nat) : Int) from rfl, bits_xor_u32_nat _ _ (by omega) (by omega), crcBit, if_pos h2]
theorem bit_prog (x : Nat) (h : x < 4294967296) :
    bits .xor .u32 ((x : Int) / 2) (bits .and .u32 3988292384 (-bits .and .u32 (x : Int) 1 % 4294967296)) = ((crcBit x : Nat) : Int) := by
  have e : ((x : Int) / 2) = ((x / 2 : Nat) : Int) := by omega
  have a1 : bits .and .u32 (x : Int) 1 = ((x % 2 : Nat) : Int) := by
    rw [show (1 : Int) = ((1 : Nat) : Int) from rfl, bits_and_u32_nat _ _ h (by omega), Nat.and_one_is_mod]
  rw [e, a1, crcBit]
  by_cases h2 : x % 2 = 1
  · rw [if_pos h2, h2]
    rw [show (-((1 : Nat) : Int) % 4294967296) = ((4294967295 : Nat) : Int) from by decide, show (3988292384 : Int) = ((3988292384 : Nat) : Int) from rfl, bits_and_u32_nat _ _ (by omega) (by omega), show (3988292384 &&& 4294967295 : Nat) = 3988292384 by decide, bits_xor_u32_nat _ _ (by omega) (by omega)]
  · rw [if_neg h2, show x % 2 = 0 by omega]
    rw [show (-((0 : Nat) : Int) % 4294967296) = ((0 : Nat) : Int) from by decide, show (3988292384 : Int) = ((3988292384 : Nat) : Int) from rfl, bits_and_u32_nat _ _ (by omega) (by omega), show (3988292384 &&& 0 : Nat) = 0 by decide, bits_xor_u32_nat _ _ (by omega) (by omega), Nat.xor_zero]

end Go.Proofs.YtpmafghknafhaaaGreat
set_option linter.unusedVariables false
set_option linter.unusedSimpArgs false
namespace Go.Proofs.YtpmafghknafhaaaGreat
open Go.RowKit
namespace Sp
def crcFold (l : List UInt8) (c : Nat) : Nat := l.foldl (fun c b => crcStep c b.toNat) c
theorem crcFold_lt : ∀ (l : List UInt8) (c : Nat), c < 4294967296 → crcFold l c < 4294967296
  | [], c, h => h
  | b :: l, c, h => crcFold_lt l (crcStep c b.toNat) (crcStep_lt c b.toNat h (UInt8.toNat_lt b))
theorem crcFold_succ (l : List UInt8) (c k : Nat) (h : k < l.length) : crcFold (l.take (k + 1)) c = crcStep (crcFold (l.take k) c) (l[k]).toNat := by
  unfold crcFold
  rw [List.take_succ_eq_append_getElem h, List.foldl_append]
  rfl
def crcSum (l : List UInt8) : Nat := crcFold l 4294967295 ^^^ 4294967295
theorem crcSum_lt (l : List UInt8) : crcSum l < 4294967296 := xor_lt32 _ _ (crcFold_lt l _ (by omega)) (by omega)
end Sp
open Sp

end Go.Proofs.YtpmafghknafhaaaGreat
set_option linter.unusedVariables false
set_option linter.unusedSimpArgs false
namespace Go.Proofs.YtpmafghknafhaaaGreat
open Go.RowKit

def Buf (w : World) (base : Nat) (v : Value) (l : List UInt8) : Prop :=
  ∃ g cap, v = .slice (some ⟨g, 0, none⟩) l.length cap ∧ base ≤ g ∧ l.length ≤ cap ∧ cap ≤ maxLen ∧ g < w.heap.size ∧
    (∀ j (h : j < l.length), w.cell? ⟨g, j, none⟩ = some (.int .u8 l[j].toNat)) ∧ (∀ j, j < cap → (w.cell? ⟨g, j, none⟩).isSome = true) ∧ ∀ j, j < cap → w.frozen? ⟨g, j, none⟩ = false

theorem Buf.text (w : World) (s : ByteArray) (hs : s.size ≤ maxLen) : Buf (Lib.bytesWorld w 5 s) w.heap.size (.slice (some ⟨w.heap.size, 0, none⟩) s.size (grownCap w s.size 0 5)) s.data.toList := by
  have h1 := grownCap_ge w s.size 0 5
  have h2 := grownCap_le_maxLen w s.size 0 5 hs
  have h3 : (Lib.bytesCells w 5 s).size = s.size + (grownCap w s.size 0 5 - s.size) := by simp [Lib.bytesCells]
  have ht := TextRow.new 5 w s hs
  have hn := Lib.bytesWorld_at_new w 5 s
  refine ⟨w.heap.size, _, by rw [← size_eq_length], Nat.le_refl _, by rw [← size_eq_length]; exact h1, h2, ht.lt, fun j h => ?_, fun j h => ?_, fun j h => ?_⟩
  · exact ht.bytes.cell j h
  · simp only [World.cell?, hn]
    rw [Array.getElem?_eq_getElem (by omega)]
    rfl
  · simp only [World.frozen?, hn]
    simp only [Bool.and_eq_false_iff, decide_eq_false_iff_not]
    left
    omega
theorem Buf.below {w w1 : World} {base : Nat} {v : Value} {l : List UInt8} (h : Buf w base v l) (hb : Below w.heap.size w w1) : Buf w1 base v l := by
  obtain ⟨g, cap, rfl, h1, h2, h3, h4, h5, h6, h7⟩ := h
  have hc : ∀ j, w1.cell? ⟨g, j, none⟩ = w.cell? ⟨g, j, none⟩ := fun j => hb.cell (p := ⟨g, j, none⟩) h4
  refine ⟨g, cap, rfl, h1, h2, h3, by have := hb.size; omega, fun j hj => by rw [hc]; exact h5 j hj, fun j hj => by rw [hc]; exact h6 j hj, fun j hj => ?_⟩
  rw [hb.frozen (p := ⟨g, j, none⟩) h4]
  exact h7 j hj
theorem Buf.row {w : World} {base : Nat} {v : Value} {l : List UInt8} (h : Buf w base v l) : Row enB 1 w v l := by
  obtain ⟨g, cap, rfl, h1, h2, h3, h4, h5, h6, h7⟩ := h
  refine ⟨some ⟨g, 0, none⟩, cap, rfl, h2, h3, by rw [enB_flat]; simp, fun _ => ⟨_, rfl, fun j u hu => ?_⟩⟩
  rw [enB_flat, List.getElem?_map] at hu
  obtain ⟨b, hb, rfl⟩ := Option.map_eq_some_iff.mp hu
  obtain ⟨hj, rfl⟩ := List.getElem?_eq_some_iff.mp hb
  rw [add_plain]
  exact h5 j hj
theorem Buf.base_le {w : World} {base : Nat} {v : Value} {l : List UInt8} (h : Buf w base v l) (k : Nat) (hk : v.ownBlock = some k) : base ≤ k := by
  obtain ⟨g, cap, rfl, h1, _⟩ := h
  simp [Value.ownBlock] at hk
  omega
theorem Buf.own {w : World} {base : Nat} {v : Value} {l : List UInt8} (h : w.ownsRow base 5 1 v l.length (l.map fun b => .int .u8 b.toNat)) (hl : 0 < l.length) : Buf w base v l := by
  rcases h.2 with ⟨_, h0⟩ | ⟨g, cap, cur, rfl, hb, hg, h1, h2, h3, h4⟩
  · omega
  refine ⟨g, cap, rfl, hb, h1, h2, (Array.getElem?_eq_some_iff.1 hg).1, fun j hj => ?_, fun j hj => ?_, fun j hj => ?_⟩
  · have := World.ownsRow.cells h (g := g) rfl j (.int .u8 l[j].toNat) (by rw [List.getElem?_map, List.getElem?_eq_getElem hj]; rfl)
    rw [add_plain] at this
    exact this
  · simp only [World.cell?, hg]
    rw [Array.getElem?_eq_getElem (by omega)]
    rfl
  · simp [World.frozen?, hg]

section
variable {ops : Array Oper} {rest : List Oper} {o : Oper} {a : Act} {Q : Exit → Act → World → Prop}
theorem Buf.append {w0 W : World} (base : Nat) (hgd : o.guard = none) (s x : Operand)
    (ho : o.op = .call { callee := .builtin .append, args := #[s, x], argTypes := #[132, 132] })
    (v : Value) (l : List UInt8) (b : UInt8) (c : Value) (hc : c = .int .u8 b.toNat) (hs : a.eval s = v) (hx : a.eval x = .slice (some ⟨W.heap.size, 0, none⟩) 1 1)
    (HO : Buf W base v l) (HB : Below base w0 W) (hbase : base ≤ W.heap.size) (hl : l.length + 1 ≤ 140737488355328)
    (h : ∀ v1 w1, Buf w1 base v1 (l ++ [b]) → Below base w0 w1 → wpList Tryz.prog ops Q rest (a.put o.dst v1) w1) :
    wpList Tryz.prog ops Q (o :: rest) a (W.alloc (.cells #[c] 5)) := by
  subst hc
  obtain ⟨i0, hi, hzz⟩ := Option.map_eq_some_iff.1 info_u8
  simp only [Prod.mk.injEq] at hzz
  obtain ⟨hz0, hz1, hz2⟩ := hzz
  have HO1 : Buf (W.alloc (.cells #[.int .u8 b.toNat] 5)) base v l := HO.below ((Below.refl _ _).alloc (Nat.le_refl _) _)
  have HB1 : Below base w0 (W.alloc (.cells #[.int .u8 b.toNat] 5)) := HB.alloc hbase _
  have hsz : (W.alloc (.cells #[.int .u8 b.toNat] 5)).heap.size = W.heap.size + 1 := Array.size_push ..
  have hnew : (W.alloc (.cells #[.int .u8 b.toNat] 5)).cell? ⟨W.heap.size, 0, none⟩ = some (.int .u8 b.toNat) := by
    have := World.news_of_block (cs := #[.int .u8 b.toNat]) (t := 5) (fr := (0, 0)) (heap_alloc_new W (.cells #[.int .u8 b.toNat] 5)) 0 (.int .u8 b.toNat) (by rfl)
    rw [add_plain] at this
    exact this
  generalize W.alloc (.cells #[.int .u8 b.toNat] 5) = W1 at *
  have HO2 := HO1
  obtain ⟨g, cap, rfl, h1, h2, h3, h4, h5, h6, h7⟩ := HO1
  have hmap : (l.map fun b : UInt8 => (.int .u8 b.toNat : Value)).length = l.length * 1 := by simp
  refine wpList_append_arg W1 hgd s x _ ho 5 i0 (.int .u8 0) 1 1 Tryz.underlying132 hi hz0 hz1 hz2 rfl (by omega) g 0 l.length cap (l.map fun b => .int .u8 b.toNat) hs hmap (fun j u hu => ?_)
    ⟨W.heap.size, 0, none⟩ 1 1 [.int .u8 b.toNat] hx rfl (fun j u hu => ?_) (by simp [Value.oneCell']) (fun hr j hj => ?_) (by simp only [maxLen]; omega) (by omega) (fun hr => ?_) (fun hr v' w' hown hg => ?_)
  · rw [List.getElem?_map] at hu
    obtain ⟨x, hx, rfl⟩ := Option.map_eq_some_iff.mp hu
    obtain ⟨hj, rfl⟩ := List.getElem?_eq_some_iff.mp hx
    rw [Nat.zero_add]
    exact h5 j hj
  · cases j with
    | zero => simp at hu; subst hu; rw [add_plain]; exact hnew
    | succ j => simp at hu
  · simp at hj
    subst hj
    simp only [Nat.zero_add, Nat.mul_one, Nat.add_zero]
    exact ⟨h6 _ (by omega), h7 _ (by omega)⟩
  · simp only [Nat.zero_add, Nat.mul_one]
    refine h _ _ ⟨g, cap, by simp, h1, by simpa using hr, h3, ?_, fun j hj => ?_, fun j hj => ?_, fun j hj => ?_⟩ ?_
    · simpa [World.setCells] using h4
    · simp only [World.setCells]
      by_cases e : j = l.length
      · subst e
        rw [World.cell?_setCell_same _ _ _ (Option.some_get (h6 l.length (by omega))).symm]
        simp
      · have hj' : j < l.length := by simp at hj; omega
        rw [World.cell?_setCell_other _ _ _ _ (by intro e2; injection e2; omega), h5 j hj', List.getElem_append_left hj']
    · simp only [World.setCells]
      by_cases e : j = l.length
      · subst e
        rw [World.cell?_setCell_same _ _ _ (Option.some_get (h6 l.length (by omega))).symm]
        rfl
      · rw [World.cell?_setCell_other _ _ _ _ (by intro e2; injection e2; omega)]
        exact h6 j hj
    · rw [World.frozen?_setCells]
      exact h7 j hj
    · simp only [World.setCells]
      exact HB1.setCell (p := ⟨g, l.length, none⟩) h1 _
  · refine h v' w' ?_ (HB1.grown hg (by omega) (fun k hk => by cases hk))
    have hown2 : w'.ownsRow base 5 1 v' (l ++ [b]).length ((l ++ [b]).map fun b => .int .u8 b.toNat) := by
      have := (show Own enB 1 5 w' W1.heap.size v' (l ++ [b]) by unfold Own; rw [enB_flat]; simpa using hown).lower (base' := base) (by omega)
      unfold Own at this
      rw [enB_flat] at this
      exact this
    exact Buf.own hown2 (by simp)
end
end Go.Proofs.YtpmafghknafhaaaGreat
set_option linter.unusedVariables false
set_option linter.unusedSimpArgs false
namespace Go.Proofs.YtpmafghknafhaaaGreat
open Go.RowKit
namespace Sp
def sumL (n : Nat) : List UInt8 := [UInt8.ofNat n, UInt8.ofNat (n / 256), UInt8.ofNat (n / 65536), UInt8.ofNat (n / 16777216)]
def sealS (s : ByteArray) : ByteArray := s ++ strOf (sumL (crcSum s.data.toList))
theorem sealS_size (s : ByteArray) : (sealS s).size = s.size + 4 := by rw [sealS, ByteArray.size_append, strOf_size]; rfl
/-- The answers of 'Open'. -/
def openS (s : ByteArray) : ByteArray × Int :=
  if s.size < 4 then (⟨#[]⟩, 2) else if sealS (s.extract 0 (s.size - 4)) = s then (s.extract 0 (s.size - 4), 0) else (⟨#[]⟩, 4)
end Sp
open Sp

theorem byte_mod (n : Nat) : ((UInt8.ofNat n).toNat : Int) = (n : Int) % 256 := by simp
theorem byte_top (n : Nat) (h : n < 256) : ((UInt8.ofNat n).toNat : Int) = (n : Int) := by simp; omega

end Go.Proofs.YtpmafghknafhaaaGreat
set_option linter.unusedVariables false
set_option linter.unusedSimpArgs false
namespace Go.Proofs.YtpmafghknafhaaaGreat
open Go.RowKit
namespace Sp
def valL (a p n : Int) : List UInt8 := [UInt8.ofNat a.toNat, UInt8.ofNat (p + 128).toNat]
def putVal (a p n : Int) (t : ByteArray) : ByteArray × Bool :=
  if mayV a p n t then (strOf (valL a p n) ++ strOf (putV n.toNat) ++ textV t, true) else (⟨#[]⟩, false)
theorem mayV_iff (a p n : Int) (t : ByteArray) : mayV a p n t = true ↔ (1 ≤ a ∧ a ≤ 4 ∧ -128 ≤ p ∧ p ≤ 127 ∧ 0 ≤ n ∧ n ≤ 1099511627776 ∧ (t.size : Int) ≤ 32 ∧ oddL t.data.toList = false) := by
  unfold mayV
  simp only [Bool.and_eq_true, decide_eq_true_eq, Bool.not_eq_true']
end Sp
open Sp

theorem cell_new (w : World) (cs : Array Value) (t : TypeId) (i : Nat) (v : Value) (h : cs.toList[i]? = some v) : (w.alloc (.cells cs t)).cell? ⟨w.heap.size, i, none⟩ = some v := by
  have := World.news_of_block (cs := cs) (t := t) (fr := (0, 0)) (heap_alloc_new w (.cells cs t)) i v (by simpa using h)
  rw [add_plain] at this
  exact this
def S4 (g : Nat) (a p n : Int) (t : ByteArray) (W : World) : Prop :=
  W.cell? ⟨g, 0, none⟩ = some (.int .i64 a) ∧ W.cell? ⟨g, 1, none⟩ = some (.int .i64 p) ∧ W.cell? ⟨g, 2, none⟩ = some (.int .i64 n) ∧ W.cell? ⟨g, 3, none⟩ = some (.string t)
theorem S4.below {g : Nat} {a p n : Int} {t : ByteArray} {W W' : World} (h : S4 g a p n t W) (hb : Below W.heap.size W W') : S4 g a p n t W' :=
  ⟨cell_below hb h.1, cell_below hb h.2.1, cell_below hb h.2.2.1, cell_below hb h.2.2.2⟩
theorem S4.alloc {g : Nat} {a p n : Int} {t : ByteArray} {W : World} (h : S4 g a p n t W) (o : Obj) : S4 g a p n t (W.alloc o) := h.below ((Below.refl _ _).alloc (Nat.le_refl _) _)

theorem S4.drew {g : Nat} {a p n : Int} {t : ByteArray} {W : World} (h : S4 g a p n t W) : S4 g a p n t W.drew := h

/-- The two bytes ahead, made into a text in whatever world. -/
theorem two_bytes (x y : Int) (l : List UInt8) (q : ByteArray) (hl : Hid ([.int .u8 x, .int .u8 y] = l.map fun b : UInt8 => (.int .u8 b.toNat : Value))) (hq : Hid (strOf l = q)) (W : World) :
    (convert 132 9 (.slice (some ⟨W.heap.size, 0, none⟩) 2 2)).run Tryz.prog (W.alloc (.cells #[.int .u8 x, .int .u8 y] 5)) = .ok (.string q) (W.alloc (.cells #[.int .u8 x, .int .u8 y] 5)) := by
  have hlen : l.length = 2 := by have := congrArg List.length hl.out; simpa using this.symm
  have := (Own.lit (e := 5) (base := 0) enB_len W l #[.int .u8 x, .int .u8 y] 2 (by rw [enB_flat]; exact hl.out) hlen.symm (Nat.zero_le _) (by omega)).row
  rw [← hq.out]
  exact Row.string (P := Tryz.prog) Tryz.underlying132 Tryz.underlying5 Tryz.underlying9 this
theorem two_bytes_drew (x y : Int) (l : List UInt8) (q : ByteArray) (hl : Hid ([.int .u8 x, .int .u8 y] = l.map fun b : UInt8 => (.int .u8 b.toNat : Value))) (hq : Hid (strOf l = q)) (W : World) :
    (convert 132 9 (.slice (some ⟨W.heap.size, 0, none⟩) 2 2)).run Tryz.prog (W.alloc (.cells #[.int .u8 x, .int .u8 y] 5)).drew = .ok (.string q) (W.alloc (.cells #[.int .u8 x, .int .u8 y] 5)).drew := by
  have hlen : l.length = 2 := by have := congrArg List.length hl.out; simpa using this.symm
  have := (Own.lit (e := 5) (base := 0) enB_len W l #[.int .u8 x, .int .u8 y] 2 (by rw [enB_flat]; exact hl.out) hlen.symm (Nat.zero_le _) (by omega)).row
  rw [← hq.out]
  exact Row.string (P := Tryz.prog) (w := (W.alloc (.cells #[.int .u8 x, .int .u8 y] 5)).drew) Tryz.underlying132 Tryz.underlying5 Tryz.underlying9 this
theorem two_bytes_later (x y : Int) (l : List UInt8) (q : ByteArray) (hl : Hid ([.int .u8 x, .int .u8 y] = l.map fun b : UInt8 => (.int .u8 b.toNat : Value))) (hq : Hid (strOf l = q)) (W W' : World) (hb : Below (W.alloc (.cells #[.int .u8 x, .int .u8 y] 5)).heap.size (W.alloc (.cells #[.int .u8 x, .int .u8 y] 5)) W') :
    (convert 132 9 (.slice (some ⟨W.heap.size, 0, none⟩) 2 2)).run Tryz.prog W' = .ok (.string q) W' := by
  have hlen : l.length = 2 := by have := congrArg List.length hl.out; simpa using this.symm
  have := (Own.lit (e := 5) (base := 0) enB_len W l #[.int .u8 x, .int .u8 y] 2 (by rw [enB_flat]; exact hl.out) hlen.symm (Nat.zero_le _) (by omega)).row.below hb
  rw [← hq.out]
  exact Row.string (P := Tryz.prog) Tryz.underlying132 Tryz.underlying5 Tryz.underlying9 this
theorem undrew {W W' : World} (h : Below W.drew.heap.size W.drew W') : Below W.heap.size W W' := ⟨h.os, h.tape, h.output, h.size, h.block⟩
theorem valL_map (a p n : Int) (h0 : 1 ≤ a) (h1 : a ≤ 4) (h2 : -128 ≤ p) (h3 : p ≤ 127) :
    [.int .u8 (IntKind.u8.wrap a), .int .u8 (IntKind.u8.wrap (IntKind.i64.wrap (p + 128)))] = (valL a p n).map fun b : UInt8 => (.int .u8 b.toNat : Value) := by
  rw [IntKind.wrap_u8, IntKind.wrap_u8, IntKind.wrap_i64]
  simp only [valL, List.map_cons, List.map_nil, byte_mod]
  rw [show ((a.toNat : Nat) : Int) = a by omega, show (((p + 128).toNat : Nat) : Int) = p + 128 by omega]
  rw [show (p + 128 + 9223372036854775808) % 18446744073709551616 - 9223372036854775808 = p + 128 by omega]

theorem valL_map2 (a p n : Int) (h0 : 1 ≤ a) (h1 : a ≤ 4) (h2 : -128 ≤ p) (h3 : p ≤ 127) :
    [.int .u8 a, .int .u8 (p + 128)] = (valL a p n).map fun b : UInt8 => (.int .u8 b.toNat : Value) := by
  rw [← valL_map a p n h0 h1 h2 h3, IntKind.wrap_u8, IntKind.wrap_u8, IntKind.wrap_i64]
  rw [show (p + 128 + 9223372036854775808) % 18446744073709551616 - 9223372036854775808 = p + 128 by omega]
  rw [show a % 256 = a by omega, show (p + 128) % 256 = p + 128 by omega]

theorem refMay_is (a p n : Int) (t : ByteArray) (b : Bool) (w : World) (ht : t.size ≤ 140737488351232) (h : Hid (mayV a p n t = b)) :
    Calls Tryz.prog 99 #[.agg #[.int .i64 a, .int .i64 p, .int .i64 n, .string t]] w fun e w' => e = .returned (.bool b) ∧ Below w.heap.size w w' := re_ (refMay_calls a p n t w ht) (by rw [h.out])
theorem may_is (a p n : Int) (t : ByteArray) (b : Bool) (w : World) (ht : t.size ≤ 140737488351232) (h : Hid (mayV a p n t = b)) :
    Calls Tryz.prog 93 #[.agg #[.int .i64 a, .int .i64 p, .int .i64 n, .string t]] w fun e w' => e = .returned (.bool b) ∧ Below w.heap.size w w' := re_ (may_calls a p n t w ht) (by rw [h.out])

end Go.Proofs.YtpmafghknafhaaaGreat
