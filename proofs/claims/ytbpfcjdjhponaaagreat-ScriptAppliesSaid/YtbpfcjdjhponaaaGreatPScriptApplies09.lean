import Derived.Laws.BitsLemmas
import Derived.ArgAppend
import Derived.Deep.RegionHeld3
import Derived.Deep.QuietTactic
import Derived.BigQuiet
import Derived.Test.YtbpfcjdjhponaaaGreatPScriptApplies08
set_option linter.unusedVariables false
set_option linter.unusedSimpArgs false
namespace Go.Proofs.YtbpfcjdjhponaaaGreat
open Go.RowKit
namespace Sp
def crcBit (x : Nat) : Nat := if x % 2 = 1 then (x / 2) ^^^ 3988292384 else x / 2
def crcIter : Nat → Nat → Nat
  | 0, x => x
  | n + 1, x => crcBit (crcIter n x)
def crcStep (c b : Nat) : Nat := crcIter 8 (c ^^^ b)
theorem crcBit_lt (x : Nat) (h : x < 4294967296) : crcBit x < 4294967296 := by
  unfold crcBit
  split
  · have : (x / 2) ^^^ 3988292384 < 2 ^ 32 := Nat.xor_lt_two_pow (by omega) (by omega)
    omega
  · omega
theorem crcIter_lt (x : Nat) (h : x < 4294967296) : ∀ n, crcIter n x < 4294967296
  | 0 => h
  | n + 1 => crcBit_lt _ (crcIter_lt x h n)
theorem xor_lt32 (c b : Nat) (hc : c < 4294967296) (hb : b < 4294967296) : c ^^^ b < 4294967296 := by
  have : c ^^^ b < 2 ^ 32 := Nat.xor_lt_two_pow (by omega) (by omega)
  omega
theorem crcStep_lt (c b : Nat) (hc : c < 4294967296) (hb : b < 256) : crcStep c b < 4294967296 := crcIter_lt _ (xor_lt32 c b hc (by omega)) 8
end Sp
open Sp
theorem bits_xor_u32_nat (a b : Nat) (ha : a < 4294967296) (hb : b < 4294967296) : bits .xor .u32 (a : Int) (b : Int) = ((a ^^^ b : Nat) : Int) := by
  have hx : a ^^^ b < 2 ^ 32 := Nat.xor_lt_two_pow (by omega) (by omega)
  have h1 : (BitVec.ofInt 32 (a : Int)).toNat = a := by
    rw [BitVec.ofInt_natCast, BitVec.toNat_ofNat]; exact Nat.mod_eq_of_lt (by omega)
  have h2 : (BitVec.ofInt 32 (b : Int)).toNat = b := by
    rw [BitVec.ofInt_natCast, BitVec.toNat_ofNat]; exact Nat.mod_eq_of_lt (by omega)
  show IntKind.u32.wrap ((BitVec.ofInt 32 (a : Int) ^^^ BitVec.ofInt 32 (b : Int)).toNat : Int) = _
  rw [BitVec.toNat_xor, h1, h2, IntKind.wrap_u32]
  omega
theorem bits_and_u32_nat (a b : Nat) (ha : a < 4294967296) (hb : b < 4294967296) : bits .and .u32 (a : Int) (b : Int) = ((a &&& b : Nat) : Int) :=
  (bits_nat .u32 32 (by decide) (fun n h0 h1 => by rw [IntKind.wrap_u32]; omega) a b (by omega) (by omega)).1
theorem bit_ref (x : Nat) (h : x < 4294967296) (h2 : x % 2 = 1) : bits .xor .u32 ((x : Int) / 2) 3988292384 = ((crcBit x : Nat) : Int) := by
  have e : ((x : Int) / 2) = ((x / 2 : Nat) : Int) := by omega
  rw [e, show (3988292384 : Int) = ((3988292384 : Nat) : Int) from rfl, bits_xor_u32_nat _ _ (by omega) (by omega), crcBit, if_pos h2]
theorem bit_prog (x : Nat) (h : x < 4294967296) :
    bits .xor .u32 ((x : Int) / 2) (bits .and .u32 3988292384 (-bits .and .u32 (x : Int) 1 % 4294967296)) = ((crcBit x : Nat) : Int) := by
  have e : ((x : Int) / 2) = ((x / 2 : Nat) : Int) := by omega
  have a1 : bits .and .u32 (x : Int) 1 = ((x % 2 : Nat) : Int) := by
    rw [show (1 : Int) = ((1 : Nat) : Int) from rfl, bits_and_u32_nat _ _ h (by omega), Nat.and_one_is_mod]
  rw [e, a1, crcBit]
  by_cases h2 : x % 2 = 1
  · rw [if_pos h2, h2]
    rw [show (-((1 : Nat) : Int) % 4294967296) = ((4294967295 : Nat) : Int) from by decide, show (3988292384 : Int) = ((3988292384 : Nat) : Int) from rfl, bits_and_u32_nat _ _ (by omega) (by omega), show (3988292384 &&& 4294967295 : Nat) = 3988292384 by decide, bits_xor_u32_nat _ _ (by omega) (by omega)]
  · rw [if_neg h2, show x % 2 = 0 by omega]
    rw [show (-((0 : Nat) : Int) % 4294967296) = ((0 : Nat) : Int) from by decide, show (3988292384 : Int) = ((3988292384 : Nat) : Int) from rfl, bits_and_u32_nat _ _ (by omega) (by omega), show (3988292384 &&& 0 : Nat) = 0 by decide, bits_xor_u32_nat _ _ (by omega) (by omega), Nat.xor_zero]
set_option maxHeartbeats 1000000 in
set_option maxRecDepth 100000 in
theorem refStep_calls (c b : Nat) (w : World) (hc : c < 4294967296) (hb : b < 256) :
    Calls Tryz.prog 133 #[.int .u32 c, .int .u8 b] w fun e w' => e = .returned (.int .u32 (crcStep c b : Nat)) ∧ w = w' := by
  have hx0 : bits .xor .u32 (c : Int) (b : Int) = ((c ^^^ b : Nat) : Int) := bits_xor_u32_nat c b hc (by omega)
  have hx1 := xor_lt32 c b hc (by omega)
  have HX0 := Lib.hid hx0
  have HX1 := Lib.hid hx1
  clear hx0 hx1
  go_enter Tryz.func133, Tryz.ntmps133
  go_wp2
  go_loop [6, 5] (fun v6 v5 => ∃ i x : Nat, v6 = .int .i64 i ∧ i ≤ 8 ∧ v5 = .int .u32 x ∧ x < 4294967296 ∧ Hid (x = crcIter i (c ^^^ b))) (fun v6 _ => (8 - intOf v6).toNat)
  case atStart => exact ⟨0, c ^^^ b, rfl, by omega, val_int HX0.out, HX1.out, rfl⟩
  case round =>
    obtain ⟨i, x, rfl, hi, rfl, hx, HX⟩ := hrel
    have HN : Hid (crcBit x = crcIter (i + 1) (c ^^^ b)) := by show _ = _; rw [HX.out]; rfl
    have hlt2 := crcBit_lt x hx
    by_cases hlt : i < 8
    · by_cases h2 : x % 2 = 1
      · have HE := Lib.hid (bit_ref x hx h2)
        go_wp2
        exact ⟨⟨i + 1, crcBit x, by go_num, by omega, val_int HE.out, hlt2, HN.out⟩, by simp [intOf]; omega⟩
      · have HE : Hid (crcBit x = x / 2) := by show _ = _; rw [crcBit, if_neg h2]
        have h3 : x % 2 < 1 := by omega
        clear h2
        go_wp2
        exact ⟨⟨i + 1, crcBit x, by go_num, by omega, val_int (by rw [HE.out]; omega), hlt2, HN.out⟩, by simp [intOf]; omega⟩
    · have HE : Hid (x = crcStep c b) := by show _ = _; rw [HX.out, show i = 8 by omega]; rfl
      go_wp2
      go_ret
      exact ⟨ret_int (by rw [← HE.out]), rfl⟩
set_option maxHeartbeats 1000000 in
set_option maxRecDepth 100000 in
theorem step_calls (c b : Nat) (w : World) (hc : c < 4294967296) (hb : b < 256) :
    Calls Tryz.prog 136 #[.int .u32 c, .int .u8 b] w fun e w' => e = .returned (.int .u32 (crcStep c b : Nat)) ∧ w = w' := by
  have hx0 : bits .xor .u32 (c : Int) (b : Int) = ((c ^^^ b : Nat) : Int) := bits_xor_u32_nat c b hc (by omega)
  have hx1 := xor_lt32 c b hc (by omega)
  have HX0 := Lib.hid hx0
  have HX1 := Lib.hid hx1
  clear hx0 hx1
  go_enter Tryz.func136, Tryz.ntmps136
  go_wp2
  go_loop [10, 5] (fun v6 v5 => ∃ i x : Nat, v6 = .int .i64 i ∧ i ≤ 8 ∧ v5 = .int .u32 x ∧ x < 4294967296 ∧ Hid (x = crcIter i (c ^^^ b))) (fun v6 _ => (8 - intOf v6).toNat)
  case atStart => exact ⟨0, c ^^^ b, rfl, by omega, val_int HX0.out, HX1.out, rfl⟩
  case round =>
    obtain ⟨i, x, rfl, hi, rfl, hx, HX⟩ := hrel
    have HN : Hid (crcBit x = crcIter (i + 1) (c ^^^ b)) := by show _ = _; rw [HX.out]; rfl
    have hlt2 := crcBit_lt x hx
    by_cases hlt : i < 8
    · have HE := Lib.hid (bit_prog x hx)
      go_wp2
      exact ⟨⟨i + 1, crcBit x, by go_num, by omega, val_int HE.out, hlt2, HN.out⟩, by simp [intOf]; omega⟩
    · have HE : Hid (x = crcStep c b) := by show _ = _; rw [HX.out, show i = 8 by omega]; rfl
      go_wp2
      go_ret
      exact ⟨ret_int (by rw [← HE.out]), rfl⟩
end Go.Proofs.YtbpfcjdjhponaaaGreat
namespace Go.Proofs.YtbpfcjdjhponaaaGreat
open Go.RowKit
namespace Sp
def crcFold (l : List UInt8) (c : Nat) : Nat := l.foldl (fun c b => crcStep c b.toNat) c
theorem crcFold_lt : ∀ (l : List UInt8) (c : Nat), c < 4294967296 → crcFold l c < 4294967296
  | [], c, h => h
  | b :: l, c, h => crcFold_lt l (crcStep c b.toNat) (crcStep_lt c b.toNat h (UInt8.toNat_lt b))
theorem crcFold_succ (l : List UInt8) (c k : Nat) (h : k < l.length) : crcFold (l.take (k + 1)) c = crcStep (crcFold (l.take k) c) (l[k]).toNat := by
  unfold crcFold
  rw [List.take_succ_eq_append_getElem h, List.foldl_append]
  rfl
def crcSum (l : List UInt8) : Nat := crcFold l 4294967295 ^^^ 4294967295
theorem crcSum_lt (l : List UInt8) : crcSum l < 4294967296 := xor_lt32 _ _ (crcFold_lt l _ (by omega)) (by omega)
end Sp
open Sp
set_option maxHeartbeats 1000000 in
set_option maxRecDepth 100000 in
theorem refSum_calls (s : ByteArray) (w : World) (hs : s.size ≤ 140737488351232) :
    Calls Tryz.prog 88 #[.string s] w fun e w' => e = .returned (.int .u32 (crcSum s.data.toList : Nat)) ∧ w = w' := by
  go_enter Tryz.func88, Tryz.ntmps88
  go_wp2
  go_loop [4, 3] (fun v4 v3 => ∃ k x : Nat, v4 = .int .i64 k ∧ k ≤ s.size ∧ v3 = .int .u32 x ∧ x < 4294967296 ∧ Hid (x = crcFold (s.data.toList.take k) 4294967295)) (fun v4 _ => (s.size - intOf v4).toNat)
  case atStart => exact ⟨0, 4294967295, rfl, Nat.zero_le _, rfl, by omega, rfl⟩
  case round =>
    obtain ⟨k, x, rfl, hk, rfl, hx, HX⟩ := hrel
    by_cases hlt : k < s.size
    · have hk' : k < s.data.toList.length := by rw [← size_eq_length]; exact hlt
      obtain ⟨b, hbv⟩ : ∃ b, (s[k]'hlt).toNat = b := ⟨_, rfl⟩
      have hb : b < 256 := by rw [← hbv]; exact UInt8.toNat_lt _
      have HN : Hid (crcStep x b = crcFold (s.data.toList.take (k + 1)) 4294967295) := by
        show _ = _
        rw [crcFold_succ _ _ _ hk', ← HX.out, ← hbv]
        rfl
      have hlt2 := crcStep_lt x b hx hb
      go_wp2_with fail
      refine (refStep_calls x b _ hx hb).mono ?_
      rintro e w1 ⟨rfl, rfl⟩
      go_wp2
      exact ⟨⟨k + 1, crcStep x b, by go_num, by omega, rfl, hlt2, HN.out⟩, by simp [intOf]; omega⟩
    · have HE : Hid (x = crcFold s.data.toList 4294967295) := by
        show _ = _
        rw [HX.out, List.take_of_length_le (by rw [← size_eq_length]; omega)]
      have HF : Hid (bits .xor .u32 (x : Int) 4294967295 = ((crcSum s.data.toList : Nat) : Int)) := by
        show _ = _
        rw [show (4294967295 : Int) = ((4294967295 : Nat) : Int) from rfl, bits_xor_u32_nat _ _ hx (by omega), HE.out]
        rfl
      go_wp2
      go_ret
      exact ⟨ret_int HF.out, rfl⟩
set_option maxHeartbeats 1000000 in
set_option maxRecDepth 100000 in
theorem crcSum_calls (s : ByteArray) (w : World) (hs : s.size ≤ 140737488351232) :
    Calls Tryz.prog 92 #[.string s] w fun e w' => e = .returned (.int .u32 (crcSum s.data.toList : Nat)) ∧ Below w.heap.size w w' := by
  have kc := fun W : World => Lib.run_convert_string_bytes (P := Tryz.prog) W 9 80 5 s Tryz.underlying9 Tryz.underlying80 Tryz.underlying5
  have hmf : ∀ (fn : Fn) (first cap : Array Value) (w : World), (Instr.makeFunc fn first cap).run Tryz.prog w = .ok (.func fn first cap) w := fun _ _ _ _ => rfl
  go_enter Tryz.func92, Tryz.ntmps92
  go_wp2
  go_loopw [10, 3] (fun v4 v3 wr => ∃ k x : Nat, v4 = .int .i64 k ∧ k ≤ s.size ∧ v3 = .int .u32 x ∧ x < 4294967296 ∧ Hid (x = crcFold (s.data.toList.take k) 4294967295) ∧ TextRow 5 wr w.heap.size s ∧ Below w.heap.size w wr) (fun v4 _ _ => (s.size - intOf v4).toNat)
  case atStart => exact ⟨0, 4294967295, rfl, Nat.zero_le _, rfl, by omega, rfl, TextRow.new 5 w s (by simp only [maxLen]; omega), below_bytes (Below.refl _ _) (Nat.le_refl _) _ _⟩
  case round =>
    obtain ⟨k, x, rfl, hk, rfl, hx, HX, ht, hB⟩ := hrel
    by_cases hlt : k < s.size
    · have hk' : k < s.data.toList.length := by rw [← size_eq_length]; exact hlt
      obtain ⟨b, hbv⟩ : ∃ b, (s[k]'hlt).toNat = b := ⟨_, rfl⟩
      have hb : b < 256 := by rw [← hbv]; exact UInt8.toNat_lt _
      have hcell : wr.cell? ⟨w.heap.size, k, none⟩ = some (.int .u8 b) := by rw [ht.cell k hlt, hbv]
      have HN : Hid (crcStep x b = crcFold (s.data.toList.take (k + 1)) 4294967295) := by
        show _ = _
        rw [crcFold_succ _ _ _ hk', ← HX.out, ← hbv]
        rfl
      have hlt2 := crcStep_lt x b hx hb
      go_wp2_with (go_at_call 136; refine (step_calls x b _ hx hb).mono ?_; rintro e w1 ⟨rfl, rfl⟩)
      exact ⟨⟨k + 1, crcStep x b, by go_num, by omega, rfl, hlt2, HN.out, ht, hB⟩, by simp [intOf]; omega⟩
    · have HE : Hid (x = crcFold s.data.toList 4294967295) := by
        show _ = _
        rw [HX.out, List.take_of_length_le (by rw [← size_eq_length]; omega)]
      have HF : Hid (bits .xor .u32 (x : Int) 4294967295 = ((crcSum s.data.toList : Nat) : Int)) := by
        show _ = _
        rw [show (4294967295 : Int) = ((4294967295 : Nat) : Int) from rfl, bits_xor_u32_nat _ _ hx (by omega), HE.out]
        rfl
      go_wp2
      go_ret
      exact ⟨ret_int HF.out, hB⟩
end Go.Proofs.YtbpfcjdjhponaaaGreat
namespace Go.Proofs.YtbpfcjdjhponaaaGreat
open Go.RowKit
def Buf (w : World) (base : Nat) (v : Value) (l : List UInt8) : Prop :=
  ∃ g cap, v = .slice (some ⟨g, 0, none⟩) l.length cap ∧ base ≤ g ∧ l.length ≤ cap ∧ cap ≤ maxLen ∧ g < w.heap.size ∧
    (∀ j (h : j < l.length), w.cell? ⟨g, j, none⟩ = some (.int .u8 l[j].toNat)) ∧ (∀ j, j < cap → (w.cell? ⟨g, j, none⟩).isSome = true) ∧ ∀ j, j < cap → w.frozen? ⟨g, j, none⟩ = false
theorem Buf.text (w : World) (s : ByteArray) (hs : s.size ≤ maxLen) : Buf (Lib.bytesWorld w 5 s) w.heap.size (.slice (some ⟨w.heap.size, 0, none⟩) s.size (grownCap w s.size 0 5)) s.data.toList := by
  have h1 := grownCap_ge w s.size 0 5
  have h2 := grownCap_le_maxLen w s.size 0 5 hs
  have h3 : (Lib.bytesCells w 5 s).size = s.size + (grownCap w s.size 0 5 - s.size) := by simp [Lib.bytesCells]
  have ht := TextRow.new 5 w s hs
  have hn := Lib.bytesWorld_at_new w 5 s
  refine ⟨w.heap.size, _, by rw [← size_eq_length], Nat.le_refl _, by rw [← size_eq_length]; exact h1, h2, ht.lt, fun j h => ?_, fun j h => ?_, fun j h => ?_⟩
  · exact ht.bytes.cell j h
  · simp only [World.cell?, hn]
    rw [Array.getElem?_eq_getElem (by omega)]
    rfl
  · simp only [World.frozen?, hn]
    simp only [Bool.and_eq_false_iff, decide_eq_false_iff_not]
    left
    omega
theorem Buf.below {w w1 : World} {base : Nat} {v : Value} {l : List UInt8} (h : Buf w base v l) (hb : Below w.heap.size w w1) : Buf w1 base v l := by
  obtain ⟨g, cap, rfl, h1, h2, h3, h4, h5, h6, h7⟩ := h
  have hc : ∀ j, w1.cell? ⟨g, j, none⟩ = w.cell? ⟨g, j, none⟩ := fun j => hb.cell (p := ⟨g, j, none⟩) h4
  refine ⟨g, cap, rfl, h1, h2, h3, by have := hb.size; omega, fun j hj => by rw [hc]; exact h5 j hj, fun j hj => by rw [hc]; exact h6 j hj, fun j hj => ?_⟩
  rw [hb.frozen (p := ⟨g, j, none⟩) h4]
  exact h7 j hj
theorem Buf.row {w : World} {base : Nat} {v : Value} {l : List UInt8} (h : Buf w base v l) : Row enB 1 w v l := by
  obtain ⟨g, cap, rfl, h1, h2, h3, h4, h5, h6, h7⟩ := h
  refine ⟨some ⟨g, 0, none⟩, cap, rfl, h2, h3, by rw [enB_flat]; simp, fun _ => ⟨_, rfl, fun j u hu => ?_⟩⟩
  rw [enB_flat, List.getElem?_map] at hu
  obtain ⟨b, hb, rfl⟩ := Option.map_eq_some_iff.mp hu
  obtain ⟨hj, rfl⟩ := List.getElem?_eq_some_iff.mp hb
  rw [add_plain]
  exact h5 j hj
theorem Buf.base_le {w : World} {base : Nat} {v : Value} {l : List UInt8} (h : Buf w base v l) (k : Nat) (hk : v.ownBlock = some k) : base ≤ k := by
  obtain ⟨g, cap, rfl, h1, _⟩ := h
  simp [Value.ownBlock] at hk
  omega
theorem Buf.own {w : World} {base : Nat} {v : Value} {l : List UInt8} (h : w.ownsRow base 5 1 v l.length (l.map fun b => .int .u8 b.toNat)) (hl : 0 < l.length) : Buf w base v l := by
  rcases h.2 with ⟨_, h0⟩ | ⟨g, cap, cur, rfl, hb, hg, h1, h2, h3, h4⟩
  · omega
  refine ⟨g, cap, rfl, hb, h1, h2, (Array.getElem?_eq_some_iff.1 hg).1, fun j hj => ?_, fun j hj => ?_, fun j hj => ?_⟩
  · have := World.ownsRow.cells h (g := g) rfl j (.int .u8 l[j].toNat) (by rw [List.getElem?_map, List.getElem?_eq_getElem hj]; rfl)
    rw [add_plain] at this
    exact this
  · simp only [World.cell?, hg]
    rw [Array.getElem?_eq_getElem (by omega)]
    rfl
  · simp [World.frozen?, hg]
section
variable {ops : Array Oper} {rest : List Oper} {o : Oper} {a : Act} {Q : Exit → Act → World → Prop}
theorem Buf.append {w0 W : World} (base : Nat) (hgd : o.guard = none) (s x : Operand)
    (ho : o.op = .call { callee := .builtin .append, args := #[s, x], argTypes := #[80, 80] })
    (v : Value) (l : List UInt8) (b : UInt8) (c : Value) (hc : c = .int .u8 b.toNat) (hs : a.eval s = v) (hx : a.eval x = .slice (some ⟨W.heap.size, 0, none⟩) 1 1)
    (HO : Buf W base v l) (HB : Below base w0 W) (hbase : base ≤ W.heap.size) (hl : l.length + 1 ≤ 140737488355328)
    (h : ∀ v1 w1, Buf w1 base v1 (l ++ [b]) → Below base w0 w1 → wpList Tryz.prog ops Q rest (a.put o.dst v1) w1) :
    wpList Tryz.prog ops Q (o :: rest) a (W.alloc (.cells #[c] 5)) := by
  subst hc
  obtain ⟨i0, hi, hzz⟩ := Option.map_eq_some_iff.1 info_u8
  simp only [Prod.mk.injEq] at hzz
  obtain ⟨hz0, hz1, hz2⟩ := hzz
  have HO1 : Buf (W.alloc (.cells #[.int .u8 b.toNat] 5)) base v l := HO.below ((Below.refl _ _).alloc (Nat.le_refl _) _)
  have HB1 : Below base w0 (W.alloc (.cells #[.int .u8 b.toNat] 5)) := HB.alloc hbase _
  have hsz : (W.alloc (.cells #[.int .u8 b.toNat] 5)).heap.size = W.heap.size + 1 := Array.size_push ..
  have hnew : (W.alloc (.cells #[.int .u8 b.toNat] 5)).cell? ⟨W.heap.size, 0, none⟩ = some (.int .u8 b.toNat) := by
    have := World.news_of_block (cs := #[.int .u8 b.toNat]) (t := 5) (fr := (0, 0)) (heap_alloc_new W (.cells #[.int .u8 b.toNat] 5)) 0 (.int .u8 b.toNat) (by rfl)
    rw [add_plain] at this
    exact this
  generalize W.alloc (.cells #[.int .u8 b.toNat] 5) = W1 at *
  have HO2 := HO1
  obtain ⟨g, cap, rfl, h1, h2, h3, h4, h5, h6, h7⟩ := HO1
  have hmap : (l.map fun b : UInt8 => (.int .u8 b.toNat : Value)).length = l.length * 1 := by simp
  refine wpList_append_arg W1 hgd s x _ ho 5 i0 (.int .u8 0) 1 1 Tryz.underlying80 hi hz0 hz1 hz2 rfl (by omega) g 0 l.length cap (l.map fun b => .int .u8 b.toNat) hs hmap (fun j u hu => ?_)
    ⟨W.heap.size, 0, none⟩ 1 1 [.int .u8 b.toNat] hx rfl (fun j u hu => ?_) (by simp [Value.oneCell']) (fun hr j hj => ?_) (by simp only [maxLen]; omega) (by omega) (fun hr => ?_) (fun hr v' w' hown hg => ?_)
  · rw [List.getElem?_map] at hu
    obtain ⟨x, hx, rfl⟩ := Option.map_eq_some_iff.mp hu
    obtain ⟨hj, rfl⟩ := List.getElem?_eq_some_iff.mp hx
    rw [Nat.zero_add]
    exact h5 j hj
  · cases j with
    | zero => simp at hu; subst hu; rw [add_plain]; exact hnew
    | succ j => simp at hu
  · simp at hj
    subst hj
    simp only [Nat.zero_add, Nat.mul_one, Nat.add_zero]
    exact ⟨h6 _ (by omega), h7 _ (by omega)⟩
  · simp only [Nat.zero_add, Nat.mul_one]
    refine h _ _ ⟨g, cap, by simp, h1, by simpa using hr, h3, ?_, fun j hj => ?_, fun j hj => ?_, fun j hj => ?_⟩ ?_
    · simpa [World.setCells] using h4
    · simp only [World.setCells]
      by_cases e : j = l.length
      · subst e
        rw [World.cell?_setCell_same _ _ _ (Option.some_get (h6 l.length (by omega))).symm]
        simp
      · have hj' : j < l.length := by simp at hj; omega
        rw [World.cell?_setCell_other _ _ _ _ (by intro e2; injection e2; omega), h5 j hj', List.getElem_append_left hj']
    · simp only [World.setCells]
      by_cases e : j = l.length
      · subst e
        rw [World.cell?_setCell_same _ _ _ (Option.some_get (h6 l.length (by omega))).symm]
        rfl
      · rw [World.cell?_setCell_other _ _ _ _ (by intro e2; injection e2; omega)]
        exact h6 j hj
    · rw [World.frozen?_setCells]
      exact h7 j hj
    · simp only [World.setCells]
      exact HB1.setCell (p := ⟨g, l.length, none⟩) h1 _
  · refine h v' w' ?_ (HB1.grown hg (by omega) (fun k hk => by cases hk))
    have hown2 : w'.ownsRow base 5 1 v' (l ++ [b]).length ((l ++ [b]).map fun b => .int .u8 b.toNat) := by
      have := (show Own enB 1 5 w' W1.heap.size v' (l ++ [b]) by unfold Own; rw [enB_flat]; simpa using hown).lower (base' := base) (by omega)
      unfold Own at this
      rw [enB_flat] at this
      exact this
    exact Buf.own hown2 (by simp)
end
end Go.Proofs.YtbpfcjdjhponaaaGreat
namespace Go.Proofs.YtbpfcjdjhponaaaGreat
open Go.RowKit
namespace Sp
def sumL (n : Nat) : List UInt8 := [UInt8.ofNat n, UInt8.ofNat (n / 256), UInt8.ofNat (n / 65536), UInt8.ofNat (n / 16777216)]
def sealS (s : ByteArray) : ByteArray := s ++ strOf (sumL (crcSum s.data.toList))
theorem sealS_size (s : ByteArray) : (sealS s).size = s.size + 4 := by rw [sealS, ByteArray.size_append, strOf_size]; rfl
def openS (s : ByteArray) : ByteArray × Int :=
  if s.size < 4 then (⟨#[]⟩, 2) else if sealS (s.extract 0 (s.size - 4)) = s then (s.extract 0 (s.size - 4), 0) else (⟨#[]⟩, 4)
end Sp
open Sp
theorem byte_mod (n : Nat) : ((UInt8.ofNat n).toNat : Int) = (n : Int) % 256 := by simp
theorem byte_top (n : Nat) (h : n < 256) : ((UInt8.ofNat n).toNat : Int) = (n : Int) := by simp; omega
set_option maxHeartbeats 1000000 in
set_option maxRecDepth 100000 in
theorem refSeal_calls (s : ByteArray) (w : World) (hs : s.size ≤ 140737488351232) :
    Calls Tryz.prog 39 #[.string s] w fun e w' => e = .returned (.string (sealS s)) ∧ Below w.heap.size w w' := by
  obtain ⟨n, hn⟩ : ∃ n, crcSum s.data.toList = n := ⟨_, rfl⟩
  have hlt : n < 4294967296 := by rw [← hn]; exact crcSum_lt _
  have hrow : Row enB 1 (w.alloc (.cells #[.int .u8 ((n : Int) % 256), .int .u8 ((n : Int) / 256 % 256), .int .u8 ((n : Int) / 65536 % 256), .int .u8 ((n : Int) / 16777216)] 5)) (.slice (some ⟨w.heap.size, 0, none⟩) 4 4) (sumL n) := by
    refine (Own.lit (base := 0) enB_len w (sumL n) _ 4 ?_ rfl (Nat.zero_le _) (by omega)).row
    rw [enB_flat]
    simp only [sumL, List.map_cons, List.map_nil, byte_mod, byte_top (n / 16777216) (by omega), Int.natCast_ediv]
    rfl
  have hcv := hrow.string (P := Tryz.prog) Tryz.underlying80 Tryz.underlying5 Tryz.underlying9
  have HV : Hid (sealS s = s ++ strOf (sumL n)) := by show _ = _; rw [sealS, hn]
  have hq : (strOf (sumL n)).size ≤ 4 := by rw [strOf_size]; exact Nat.le_refl _
  have HN := Lib.hid hn
  clear hn hrow
  generalize strOf (sumL n) = q at hcv HV hq
  have hsz : s.size + q.size ≤ 140737488351239 := by omega
  go_enter Tryz.func39, Tryz.ntmps39
  go_wp2_with fail
  refine (re_ (refSum_calls s w hs) (v' := .returned (.int .u32 (n : Nat))) (by rw [HN.out])).mono ?_
  rintro e w1 ⟨rfl, rfl⟩
  go_wp2_with fail
  go_ret
  rw [HV.out]
  exact ⟨rfl, (Below.refl _ _).alloc (Nat.le_refl _) _⟩
set_option maxHeartbeats 1000000 in
set_option maxRecDepth 100000 in
theorem crcSeal_calls (s : ByteArray) (w : World) (hs : s.size ≤ 140737488351232) :
    Calls Tryz.prog 50 #[.string s] w fun e w' => e = .returned (.string (sealS s)) ∧ Below w.heap.size w w' := by
  obtain ⟨n, hn⟩ : ∃ n, crcSum s.data.toList = n := ⟨_, rfl⟩
  have hlt : n < 4294967296 := by rw [← hn]; exact crcSum_lt _
  have HV : Hid (sealS s = strOf (s.data.toList ++ sumL n)) := by show _ = _; rw [sealS, hn, append_strOf, strOf_list]
  have HN := Lib.hid hn
  have HSZ := Lib.hid (size_eq_length s)
  clear hn
  have kc := fun W : World => Lib.run_convert_string_bytes (P := Tryz.prog) W 9 80 5 s Tryz.underlying9 Tryz.underlying80 Tryz.underlying5
  go_enter Tryz.func50, Tryz.ntmps50
  go_wp2_with fail
  refine (re_ (crcSum_calls s _ hs) (v' := .returned (.int .u32 (n : Nat))) (by rw [HN.out])).mono ?_
  rintro e w1 ⟨rfl, b1⟩
  have hbuf := (Buf.text w s (by simp only [maxLen]; omega)).below b1
  replace b1 : Below w.heap.size w w1 := (below_bytes (Below.refl _ _) (Nat.le_refl _) 5 s).trans (b1.mono (by simp [Lib.bytesWorld, World.freeze]))
  generalize Value.slice (some ⟨w.heap.size, 0, none⟩) s.size (grownCap w s.size 0 5) = v at hbuf ⊢
  go_wp2_with fail
  go_loopw [10, 3] (fun v4 v3 wr => ∃ i : Nat, v4 = .int .i64 i ∧ i ≤ 4 ∧ Buf wr w.heap.size v3 (s.data.toList ++ (sumL n).take i) ∧ Below w.heap.size w wr) (fun v4 _ _ => (4 - intOf v4).toNat)
  case atStart => exact ⟨0, rfl, by omega, by simpa using hbuf, b1⟩
  case round =>
    clear b1 hbuf
    obtain ⟨i, rfl, hi, hb, hB⟩ := hrel
    have hlen : ((s.data.toList ++ (sumL n).take i).length) + 1 ≤ 140737488355328 := by
      have := HSZ.out
      have h2 : ((sumL n).take i).length ≤ i := List.length_take_le _ _
      rw [List.length_append]
      omega
    obtain h | h | h | h | h : i = 4 ∨ i = 0 ∨ i = 1 ∨ i = 2 ∨ i = 3 := by omega
    · subst h
      have hb4 : Buf wr w.heap.size u3 (s.data.toList ++ sumL n) := hb
      have hrow := hb4.row
      clear hb hb4
      have hcv := hrow.string (P := Tryz.prog) Tryz.underlying80 Tryz.underlying5 Tryz.underlying9
      clear hrow
      go_wp2
      go_ret
      rw [HV.out]
      exact ⟨rfl, hB⟩
    · subst h
      have HC : Hid ((.int .u8 ((n : Int) % 256) : Value) = .int .u8 ((UInt8.ofNat n).toNat : Nat)) := by show _ = _; rw [byte_mod]
      have HA : Hid ((s.data.toList ++ (sumL n).take 0) ++ [UInt8.ofNat n] = s.data.toList ++ (sumL n).take 1) := by show _ = _; rw [List.append_assoc]; rfl
      go_wp2_with (at_builtin; refine Buf.append (w0 := w) w.heap.size rfl (.tmp 13) (.tmp 19) rfl u3 _ (UInt8.ofNat n) (.int .u8 ((n : Int) % 256)) HC.out rfl rfl hb hB hB.size hlen ?_; intro v1 w1 hb1 hB1)
      rw [HA.out] at hb1
      exact ⟨⟨1, by go_num, by omega, hb1, hB1⟩, by simp [intOf]⟩
    · subst h
      have HC : Hid ((.int .u8 ((n : Int) / 256 % 256) : Value) = .int .u8 ((UInt8.ofNat (n / 256)).toNat : Nat)) := by show _ = _; rw [byte_mod, Int.natCast_ediv]; rfl
      have HA : Hid ((s.data.toList ++ (sumL n).take 1) ++ [UInt8.ofNat (n / 256)] = s.data.toList ++ (sumL n).take 2) := by show _ = _; rw [List.append_assoc]; rfl
      go_wp2_with (at_builtin; refine Buf.append (w0 := w) w.heap.size rfl (.tmp 13) (.tmp 19) rfl u3 _ (UInt8.ofNat (n / 256)) (.int .u8 ((n : Int) / 256 % 256)) HC.out rfl rfl hb hB hB.size hlen ?_; intro v1 w1 hb1 hB1)
      rw [HA.out] at hb1
      exact ⟨⟨2, by go_num, by omega, hb1, hB1⟩, by simp [intOf]⟩
    · subst h
      have HC : Hid ((.int .u8 ((n : Int) / 65536 % 256) : Value) = .int .u8 ((UInt8.ofNat (n / 65536)).toNat : Nat)) := by show _ = _; rw [byte_mod, Int.natCast_ediv]; rfl
      have HA : Hid ((s.data.toList ++ (sumL n).take 2) ++ [UInt8.ofNat (n / 65536)] = s.data.toList ++ (sumL n).take 3) := by show _ = _; rw [List.append_assoc]; rfl
      go_wp2_with (at_builtin; refine Buf.append (w0 := w) w.heap.size rfl (.tmp 13) (.tmp 19) rfl u3 _ (UInt8.ofNat (n / 65536)) (.int .u8 ((n : Int) / 65536 % 256)) HC.out rfl rfl hb hB hB.size hlen ?_; intro v1 w1 hb1 hB1)
      rw [HA.out] at hb1
      exact ⟨⟨3, by go_num, by omega, hb1, hB1⟩, by simp [intOf]⟩
    · subst h
      have HC : Hid ((.int .u8 ((n : Int) / 16777216) : Value) = .int .u8 ((UInt8.ofNat (n / 16777216)).toNat : Nat)) := by show _ = _; rw [byte_top _ (by omega), Int.natCast_ediv]; rfl
      have HA : Hid ((s.data.toList ++ (sumL n).take 3) ++ [UInt8.ofNat (n / 16777216)] = s.data.toList ++ (sumL n).take 4) := by show _ = _; rw [List.append_assoc]; rfl
      go_wp2_with (at_builtin; refine Buf.append (w0 := w) w.heap.size rfl (.tmp 13) (.tmp 19) rfl u3 _ (UInt8.ofNat (n / 16777216)) (.int .u8 ((n : Int) / 16777216)) HC.out rfl rfl hb hB hB.size hlen ?_; intro v1 w1 hb1 hB1)
      rw [HA.out] at hb1
      exact ⟨⟨4, by go_num, by omega, hb1, hB1⟩, by simp [intOf]⟩
end Go.Proofs.YtbpfcjdjhponaaaGreat
namespace Go.Proofs.YtbpfcjdjhponaaaGreat
open Go.RowKit
namespace Sp
def valL (a p n : Int) : List UInt8 := [UInt8.ofNat a.toNat, UInt8.ofNat (p + 128).toNat]
def putVal (a p n : Int) (t : ByteArray) : ByteArray × Bool :=
  if mayV a p n t then (strOf (valL a p n) ++ strOf (putV n.toNat) ++ textV t, true) else (⟨#[]⟩, false)
theorem mayV_iff (a p n : Int) (t : ByteArray) : mayV a p n t = true ↔ (1 ≤ a ∧ a ≤ 4 ∧ -128 ≤ p ∧ p ≤ 127 ∧ 0 ≤ n ∧ n ≤ 1099511627776 ∧ (t.size : Int) ≤ 32 ∧ oddL t.data.toList = false) := by
  unfold mayV
  simp only [Bool.and_eq_true, decide_eq_true_eq, Bool.not_eq_true']
end Sp
open Sp
theorem cell_new (w : World) (cs : Array Value) (t : TypeId) (i : Nat) (v : Value) (h : cs.toList[i]? = some v) : (w.alloc (.cells cs t)).cell? ⟨w.heap.size, i, none⟩ = some v := by
  have := World.news_of_block (cs := cs) (t := t) (fr := (0, 0)) (heap_alloc_new w (.cells cs t)) i v (by simpa using h)
  rw [add_plain] at this
  exact this
def S4 (g : Nat) (a p n : Int) (t : ByteArray) (W : World) : Prop :=
  W.cell? ⟨g, 0, none⟩ = some (.int .i64 a) ∧ W.cell? ⟨g, 1, none⟩ = some (.int .i64 p) ∧ W.cell? ⟨g, 2, none⟩ = some (.int .i64 n) ∧ W.cell? ⟨g, 3, none⟩ = some (.string t)
theorem S4.below {g : Nat} {a p n : Int} {t : ByteArray} {W W' : World} (h : S4 g a p n t W) (hb : Below W.heap.size W W') : S4 g a p n t W' :=
  ⟨cell_below hb h.1, cell_below hb h.2.1, cell_below hb h.2.2.1, cell_below hb h.2.2.2⟩
theorem S4.alloc {g : Nat} {a p n : Int} {t : ByteArray} {W : World} (h : S4 g a p n t W) (o : Obj) : S4 g a p n t (W.alloc o) := h.below ((Below.refl _ _).alloc (Nat.le_refl _) _)
theorem S4.drew {g : Nat} {a p n : Int} {t : ByteArray} {W : World} (h : S4 g a p n t W) : S4 g a p n t W.drew := h
theorem varPut_w (x : Int) (n : Nat) (q : ByteArray) (w : World) (hx : Hid (x = (n : Int))) (hn : n < lim64) (hq : Hid (strOf (putV n) = q)) :
    Calls Tryz.prog 91 #[.int .u64 x] w fun e w' => e = .returned (.string q) ∧ Below w.heap.size w w' := by rw [hx.out, ← hq.out]; exact varPut_calls n w hn
theorem varText_w (s q : ByteArray) (w : World) (hs : s.size ≤ 140737488351232) (hq : Hid (textV s = q)) :
    Calls Tryz.prog 47 #[.string s] w fun e w' => e = .returned (.string q) ∧ Below w.heap.size w w' := by rw [← hq.out]; exact varText_calls s w hs
theorem two_bytes (x y : Int) (l : List UInt8) (q : ByteArray) (hl : Hid ([.int .u8 x, .int .u8 y] = l.map fun b : UInt8 => (.int .u8 b.toNat : Value))) (hq : Hid (strOf l = q)) (W : World) :
    (convert 80 9 (.slice (some ⟨W.heap.size, 0, none⟩) 2 2)).run Tryz.prog (W.alloc (.cells #[.int .u8 x, .int .u8 y] 5)) = .ok (.string q) (W.alloc (.cells #[.int .u8 x, .int .u8 y] 5)) := by
  have hlen : l.length = 2 := by have := congrArg List.length hl.out; simpa using this.symm
  have := (Own.lit (e := 5) (base := 0) enB_len W l #[.int .u8 x, .int .u8 y] 2 (by rw [enB_flat]; exact hl.out) hlen.symm (Nat.zero_le _) (by omega)).row
  rw [← hq.out]
  exact Row.string (P := Tryz.prog) Tryz.underlying80 Tryz.underlying5 Tryz.underlying9 this
theorem two_bytes_drew (x y : Int) (l : List UInt8) (q : ByteArray) (hl : Hid ([.int .u8 x, .int .u8 y] = l.map fun b : UInt8 => (.int .u8 b.toNat : Value))) (hq : Hid (strOf l = q)) (W : World) :
    (convert 80 9 (.slice (some ⟨W.heap.size, 0, none⟩) 2 2)).run Tryz.prog (W.alloc (.cells #[.int .u8 x, .int .u8 y] 5)).drew = .ok (.string q) (W.alloc (.cells #[.int .u8 x, .int .u8 y] 5)).drew := by
  have hlen : l.length = 2 := by have := congrArg List.length hl.out; simpa using this.symm
  have := (Own.lit (e := 5) (base := 0) enB_len W l #[.int .u8 x, .int .u8 y] 2 (by rw [enB_flat]; exact hl.out) hlen.symm (Nat.zero_le _) (by omega)).row
  rw [← hq.out]
  exact Row.string (P := Tryz.prog) (w := (W.alloc (.cells #[.int .u8 x, .int .u8 y] 5)).drew) Tryz.underlying80 Tryz.underlying5 Tryz.underlying9 this
theorem two_bytes_later (x y : Int) (l : List UInt8) (q : ByteArray) (hl : Hid ([.int .u8 x, .int .u8 y] = l.map fun b : UInt8 => (.int .u8 b.toNat : Value))) (hq : Hid (strOf l = q)) (W W' : World) (hb : Below (W.alloc (.cells #[.int .u8 x, .int .u8 y] 5)).heap.size (W.alloc (.cells #[.int .u8 x, .int .u8 y] 5)) W') :
    (convert 80 9 (.slice (some ⟨W.heap.size, 0, none⟩) 2 2)).run Tryz.prog W' = .ok (.string q) W' := by
  have hlen : l.length = 2 := by have := congrArg List.length hl.out; simpa using this.symm
  have := (Own.lit (e := 5) (base := 0) enB_len W l #[.int .u8 x, .int .u8 y] 2 (by rw [enB_flat]; exact hl.out) hlen.symm (Nat.zero_le _) (by omega)).row.below hb
  rw [← hq.out]
  exact Row.string (P := Tryz.prog) Tryz.underlying80 Tryz.underlying5 Tryz.underlying9 this
theorem undrew {W W' : World} (h : Below W.drew.heap.size W.drew W') : Below W.heap.size W W' := ⟨h.os, h.tape, h.output, h.size, h.block⟩
theorem valL_map (a p n : Int) (h0 : 1 ≤ a) (h1 : a ≤ 4) (h2 : -128 ≤ p) (h3 : p ≤ 127) :
    [.int .u8 (IntKind.u8.wrap a), .int .u8 (IntKind.u8.wrap (IntKind.i64.wrap (p + 128)))] = (valL a p n).map fun b : UInt8 => (.int .u8 b.toNat : Value) := by
  rw [IntKind.wrap_u8, IntKind.wrap_u8, IntKind.wrap_i64]
  simp only [valL, List.map_cons, List.map_nil, byte_mod]
  rw [show ((a.toNat : Nat) : Int) = a by omega, show (((p + 128).toNat : Nat) : Int) = p + 128 by omega]
  rw [show (p + 128 + 9223372036854775808) % 18446744073709551616 - 9223372036854775808 = p + 128 by omega]
theorem valL_map2 (a p n : Int) (h0 : 1 ≤ a) (h1 : a ≤ 4) (h2 : -128 ≤ p) (h3 : p ≤ 127) :
    [.int .u8 a, .int .u8 (p + 128)] = (valL a p n).map fun b : UInt8 => (.int .u8 b.toNat : Value) := by
  rw [← valL_map a p n h0 h1 h2 h3, IntKind.wrap_u8, IntKind.wrap_u8, IntKind.wrap_i64]
  rw [show (p + 128 + 9223372036854775808) % 18446744073709551616 - 9223372036854775808 = p + 128 by omega]
  rw [show a % 256 = a by omega, show (p + 128) % 256 = p + 128 by omega]
theorem may_is (a p n : Int) (t : ByteArray) (b : Bool) (w : World) (ht : t.size ≤ 140737488351232) (h : Hid (mayV a p n t = b)) :
    Calls Tryz.prog 75 #[.agg #[.int .i64 a, .int .i64 p, .int .i64 n, .string t]] w fun e w' => e = .returned (.bool b) ∧ Below w.heap.size w w' := re_ (may_calls a p n t w ht) (by rw [h.out])
end Go.Proofs.YtbpfcjdjhponaaaGreat
namespace Go.Proofs.YtbpfcjdjhponaaaGreat
open Go.RowKit
open Sp
abbrev ag6 (u : ByteArray) (i a p n : Int) (t : ByteArray) : Value := .agg #[.string u, .int .i64 i, .int .i64 a, .int .i64 p, .int .i64 n, .string t]
abbrev agK (u : ByteArray) (i : Int) : Value := .agg #[.string u, .int .i64 i]
set_option maxHeartbeats 4000000 in
set_option maxRecDepth 100000 in
theorem of_calls (u : ByteArray) (i a p n : Int) (t : ByteArray) (w : World) :
    Calls Tryz.prog 108 #[ag6 u i a p n t] w fun e w' => e = .returned (agK u i) ∧ Below w.heap.size w w' := by
  go_enter Tryz.func108, Tryz.ntmps108
  go_wp2
  exact bodyPost_ret (v := agK u i) (by simp [results, Tryz.results108, go_sem]) rfl ⟨rfl, below_alloc0 (below_alloc0 (Below.refl _ _) _) _⟩
set_option maxHeartbeats 8000000 in
set_option maxRecDepth 100000 in
theorem ahead_calls (u : ByteArray) (i : Int) (u' : ByteArray) (i' : Int) (w : World) :
    Calls Tryz.prog 109 #[agK u i, agK u' i'] w fun e w' => e = .returned (.bool (ltSe (u, i) (u', i'))) ∧ Below w.heap.size w w' := by
  obtain ⟨b, hb⟩ : ∃ b, less u u' = b := ⟨_, rfl⟩
  have HL := Lib.hid hb
  obtain ⟨r, hr⟩ : ∃ r, ltSe (u, i) (u', i') = r := ⟨_, rfl⟩
  rw [hr]
  unfold ltSe at hr
  simp only [hb] at hr
  have HR := Lib.hid hr
  clear hb hr
  go_enter Tryz.func109, Tryz.ntmps109
  go_wp2_with (go_at_call 76; refine (Less_is _ u u' b HL).mono ?_; rintro e w1 ⟨rfl, b1⟩; obtain ⟨hc, hf⟩ := bcell b1; have hz : w.heap.size + 1 < w1.heap.size := (by have := b1.size; simp at this; omega); have B1 := below_call (below_alloc0 (below_alloc0 (Below.refl _ _) _) _) b1; clear b1)
  all_goals (try go_ret)
  all_goals (refine ⟨ret_bool ?_, by assumption⟩)
  all_goals (have hr := HR.out; clear HR HL)
  all_goals (subst hr)
  all_goals (try (simp_all; done))
  all_goals (simp_all [toList_inj'])
set_option maxHeartbeats 8000000 in
set_option maxRecDepth 100000 in
theorem oddS_calls (u : ByteArray) (i a p n : Int) (t : ByteArray) (w : World) (hu : u.size ≤ 140737488351232) (ht : t.size ≤ 140737488351232) :
    Calls Tryz.prog 105 #[ag6 u i a p n t] w fun e w' => e = .returned (.bool (!oneS ⟨u, i, a, p, n, t⟩)) ∧ Below w.heap.size w w' := by
  go_enter Tryz.func105, Tryz.ntmps105
  go_wp2_with (first | (go_at_call 74; refine (Is_calls _ _ (by assumption)).mono ?_; rintro e w2 ⟨rfl, b2⟩; have B2 := below_call (by first | assumption | exact below_box _) b2; obtain ⟨hc2, hf2⟩ := bcell b2; have hz2 : w.heap.size < w2.heap.size := Nat.lt_of_lt_of_le (by first | assumption | simp) b2.size; clear b2) | (go_at_call 75; refine (may_calls _ _ _ _ _ (by assumption)).mono ?_; rintro e w1 ⟨rfl, b1⟩; have B2 := below_call (by first | assumption | exact below_box _) b1))
  all_goals (try go_ret)
  all_goals (refine ⟨ret_bool ?_, by first | assumption | exact below_box _⟩)
  all_goals (unfold oneS)
  all_goals (try (simp_all; done))
  all_goals (try (simp_all; omega))
set_option maxHeartbeats 8000000 in
set_option maxRecDepth 100000 in
theorem refOne_calls (u : ByteArray) (i a p n : Int) (t : ByteArray) (w : World) (hu : u.size ≤ 140737488351232) (ht : t.size ≤ 140737488351232) :
    Calls Tryz.prog 86 #[ag6 u i a p n t] w fun e w' => e = .returned (.bool (oneS ⟨u, i, a, p, n, t⟩)) ∧ Below w.heap.size w w' := by
  go_enter Tryz.func86, Tryz.ntmps86
  go_wp2_with (first | (go_at_call 80; refine (refIs_calls _ _ (by assumption)).mono ?_; rintro e w2 ⟨rfl, rfl⟩) | (go_at_call 132; refine (refMay_calls _ _ _ _ _ (by assumption)).mono ?_; rintro e w1 ⟨rfl, b1⟩; have B2 := below_call (below_box _) b1))
  all_goals (try go_ret)
  all_goals (refine ⟨ret_bool ?_, by first | assumption | exact below_box _⟩)
  all_goals (unfold oneS)
  all_goals (try (simp_all; done))
  all_goals (try (simp_all; omega))
set_option maxHeartbeats 8000000 in
set_option maxRecDepth 100000 in
theorem refAheadS_calls (u : ByteArray) (i a p n : Int) (t u' : ByteArray) (i' a' p' n' : Int) (t' : ByteArray) (w : World) :
    Calls Tryz.prog 87 #[ag6 u i a p n t, ag6 u' i' a' p' n' t'] w fun e w' => e = .returned (.bool (ltSe (u, i) (u', i'))) ∧ Below w.heap.size w w' := by
  obtain ⟨b, hb⟩ : ∃ b, less u u' = b := ⟨_, rfl⟩
  have HL := Lib.hid hb
  obtain ⟨r, hr⟩ : ∃ r, ltSe (u, i) (u', i') = r := ⟨_, rfl⟩
  rw [hr]
  unfold ltSe at hr
  simp only [hb] at hr
  have HR := Lib.hid hr
  clear hb hr
  go_enter Tryz.func87, Tryz.ntmps87
  go_wp2_with (go_at_call 131; refine (refLess_is _ u u' b HL).mono ?_; rintro e w1 ⟨rfl, rfl⟩)
  all_goals (try go_ret)
  all_goals (refine ⟨ret_bool ?_, below_alloc0 (below_alloc0 (Below.refl _ _) _) _⟩)
  all_goals (have hr := HR.out; clear HR HL)
  all_goals (subst hr)
  all_goals (try (simp_all; done))
  all_goals (simp_all [toList_inj'])
end Go.Proofs.YtbpfcjdjhponaaaGreat
namespace Go.Proofs.YtbpfcjdjhponaaaGreat
open Go.RowKit
open Sp
end Go.Proofs.YtbpfcjdjhponaaaGreat
namespace Go.Proofs.YtbpfcjdjhponaaaGreat
open Go.RowKit
open Sp
theorem eqlK (u : ByteArray) (i : Int) (u' : ByteArray) (i' : Int) (W : World) :
    (binOp .eql 154 (agK u i) (agK u' i')).run Tryz.prog W = .ok (.bool (decide (((u, i) : SeK) = (u', i')))) W := by
  have e : decide (((u, i) : SeK) = (u', i')) = (u.toList == u'.toList && (i == i')) := by
    rw [Bool.eq_iff_iff, decide_eq_true_eq]
    simp only [Bool.and_eq_true, beq_iff_eq, toList_inj', Prod.mk.injEq]
  rw [e]
  cases h0 : u.toList == u'.toList
  · simp [go_sem, h0]
  cases h1 : i == i' <;> simp [go_sem, h0, h1]
abbrev bxK (u : ByteArray) (i : Int) : Obj := .cells #[.string u, .int .i64 i] 154
set_option maxHeartbeats 8000000 in
set_option maxRecDepth 100000 in
theorem find1_calls (u : ByteArray) (i a p n : Int) (t : ByteArray) (g : Nat) (ku : ByteArray) (ki : Int) (w : World) (hg : w.heap[g]? = some (bxK ku ki)) :
    Calls Tryz.prog 155 #[ag6 u i a p n t, .pointer (some ⟨g, 0, none⟩)] w fun e w' => e = .returned (.bool (decide (keySe ⟨u, i, a, p, n, t⟩ = (ku, ki)))) ∧ Below w.heap.size w w' := by
  have hgl : g < w.heap.size := (Array.getElem?_eq_some_iff.1 hg).1
  have k0 : w.cell? ⟨g, 0, none⟩ = some (.string ku) := by simp [World.cell?, hg]
  have k1 : w.cell? ⟨g, 1, none⟩ = some (.int .i64 ki) := by simp [World.cell?, hg]
  have hB := below_box (w := w) (bxSe u i a p n t)
  have h0 := heap_alloc_new w (bxSe u i a p n t)
  obtain ⟨c0, c1, c2, c3, c4, c5, hz⟩ := cellsSe u i a p n t h0
  have j0 := cell_below hB k0
  have j1 := cell_below hB k1
  have hE := eqlK u i ku ki
  clear hg k0 k1
  go_enter Tryz.func155, Tryz.ntmps155
  go_wp2_with fail
  go_region_held3 (fun w' => w'.cell? ⟨w.heap.size, 0, none⟩ = some (.string u) ∧ w'.cell? ⟨w.heap.size, 1, none⟩ = some (.int .i64 i) ∧ w'.cell? ⟨w.heap.size, 2, none⟩ = some (.int .i64 a) ∧ w'.cell? ⟨w.heap.size, 3, none⟩ = some (.int .i64 p) ∧ w'.cell? ⟨w.heap.size, 4, none⟩ = some (.int .i64 n) ∧ w'.cell? ⟨w.heap.size, 5, none⟩ = some (.string t) ∧ w'.cell? ⟨g, 0, none⟩ = some (.string ku) ∧ w'.cell? ⟨g, 1, none⟩ = some (.int .i64 ki)) (first | exact ⟨c0, c1, c2, c3, c4, c5, j0, j1⟩ | exact ⟨cell_below hbx c0, cell_below hbx c1, cell_below hbx c2, cell_below hbx c3, cell_below hbx c4, cell_below hbx c5, cell_below hbx j0, cell_below hbx j1⟩) ((go_at_call 108; refine (of_calls u i a p n t _).mono ?_; rintro e wx ⟨rfl, hbx⟩))
  have hBx := below_call (w1 := (w.alloc (bxSe u i a p n t)).drew) hB.drew hbx
  clear hbx
  go_wp2
  go_ret
  exact ⟨ret_bool (by rw [Bool.eq_iff_iff]; simp [keySe]), hBx⟩
set_option maxHeartbeats 8000000 in
set_option maxRecDepth 100000 in
theorem idxFind_calls (n c : Nat) (A : Option Addr) (l : List Se) (g : Nat) (ku : ByteArray) (ki : Int) (w : World) (hl : Row enSe 6 w (.slice A n c) l) (hg : w.heap[g]? = some (bxK ku ki)) :
    Calls Tryz.prog 154 #[.slice A n c, .func (.func 155) #[] #[.pointer (some ⟨g, 0, none⟩)]] w fun e w' => e = .returned (.int .i64 (idxI (l.findIdx? (fun s => decide (keySe s = (ku, ki)))))) ∧ Below w.heap.size w w' := by
  have EA := Lib.hid hl.len_eq
  have hnl : n ≤ 9223372036854775807 := by rw [EA.out]; exact hl.len
  obtain ⟨r, hr⟩ : ∃ r, idxI (l.findIdx? (fun s => decide (keySe s = (ku, ki)))) = r := ⟨_, rfl⟩
  rw [hr]
  have HR := Lib.hid hr
  clear hr
  go_enter Tryz.func154, Tryz.ntmps154
  go_wp2
  go_loopw [8] (fun v8 wr => ∃ i : Nat, v8 = .int .i64 i ∧ i ≤ n ∧ Below w.heap.size w wr ∧ Hid (∀ j (h : j < l.length), j < i → ((fun s => decide (keySe s = (ku, ki)))) l[j] = false)) (fun v8 _ => (n - intOf v8).toNat)
  case atStart => exact ⟨0, rfl, Nat.zero_le _, Below.refl _ _, fun j _ h => absurd h (by omega)⟩
  case round =>
    obtain ⟨i, rfl, hi, hB, HT⟩ := hrel
    by_cases hlt : i < n
    · have hil : i < l.length := by have := EA.out; omega
      obtain ⟨⟨a_, b_, c_, d_, e_, f_⟩, he⟩ : ∃ e, l[i] = e := ⟨_, rfl⟩
      obtain ⟨ad, rfl, c0, c1, c2, c3, c4, c5⟩ := rowSe (hl.below hB) i hil a_ b_ c_ d_ e_ f_ he
      have HE := Lib.hid he
      clear he
      obtain ⟨b, hb⟩ : ∃ b, ((fun s => decide (keySe s = (ku, ki)))) ⟨a_, b_, c_, d_, e_, f_⟩ = b := ⟨_, rfl⟩
      have HB := Lib.hid hb
      clear hb
      go_wp2_with fail
      refine (re_ (find1_calls a_ b_ c_ d_ e_ f_ g ku ki _ (hcall hg hB)) (ret_bool HB.out)).mono ?_
      rintro e w1 ⟨rfl, b1⟩
      have hB1 := below_call hB b1
      clear c0 c1 c2 c3 c4 c5 b1 hB
      cases b with
      | true =>
        have HF : Hid (r = (i : Int)) := by
          show _ = _
          rw [← HR.out, idx_at _ l i hil HT.out (by rw [HE.out]; exact HB.out)]; rfl
        go_wp2
        go_ret
        rw [HF.out]
        exact ⟨rfl, hB1⟩
      | false =>
        go_wp2
        exact ⟨⟨i + 1, by go_num, by omega, hB1, fun j h hj => by
          rcases Nat.lt_or_ge j i with h' | h'
          · exact HT.out j h h'
          · obtain rfl : j = i := by omega
            rw [HE.out]; exact HB.out⟩, by simp [intOf]; omega⟩
    · have hin : i = n := by omega
      subst hin
      have HF : Hid (r = -1) := by
        show _ = _
        rw [← HR.out, idx_no _ l (fun j hj => HT.out j hj (by rw [EA.out]; exact hj))]; rfl
      go_wp2
      go_ret
      rw [HF.out]
      exact ⟨rfl, hB⟩
def SzSe (l : List Se) : Prop := ∀ s ∈ l, s.u.size ≤ 140737488351232 ∧ s.v.2.2.2.size ≤ 140737488351232
set_option maxHeartbeats 8000000 in
set_option maxRecDepth 100000 in
theorem idxOdd_calls (n c : Nat) (A : Option Addr) (l : List Se)  (w : World) (hl : Row enSe 6 w (.slice A n c) l) (hz : SzSe l) :
    Calls Tryz.prog 154 #[.slice A n c, .func (.func 105) #[] #[]] w fun e w' => e = .returned (.int .i64 (idxI (l.findIdx? (fun s => !oneS s)))) ∧ Below w.heap.size w w' := by
  have EA := Lib.hid hl.len_eq
  have hnl : n ≤ 9223372036854775807 := by rw [EA.out]; exact hl.len
  obtain ⟨r, hr⟩ : ∃ r, idxI (l.findIdx? (fun s => !oneS s)) = r := ⟨_, rfl⟩
  rw [hr]
  have HR := Lib.hid hr
  clear hr
  have HZ := Lib.hid hz
  clear hz
  go_enter Tryz.func154, Tryz.ntmps154
  go_wp2
  go_loopw [8] (fun v8 wr => ∃ i : Nat, v8 = .int .i64 i ∧ i ≤ n ∧ Below w.heap.size w wr ∧ Hid (∀ j (h : j < l.length), j < i → ((fun s => !oneS s)) l[j] = false)) (fun v8 _ => (n - intOf v8).toNat)
  case atStart => exact ⟨0, rfl, Nat.zero_le _, Below.refl _ _, fun j _ h => absurd h (by omega)⟩
  case round =>
    obtain ⟨i, rfl, hi, hB, HT⟩ := hrel
    by_cases hlt : i < n
    · have hil : i < l.length := by have := EA.out; omega
      obtain ⟨z1, z2⟩ := HZ.out l[i] (List.getElem_mem _)
      obtain ⟨⟨a_, b_, c_, d_, e_, f_⟩, he⟩ : ∃ e, l[i] = e := ⟨_, rfl⟩
      rw [he] at z1 z2
      simp only at z1 z2
      obtain ⟨ad, rfl, c0, c1, c2, c3, c4, c5⟩ := rowSe (hl.below hB) i hil a_ b_ c_ d_ e_ f_ he
      have HE := Lib.hid he
      clear he
      obtain ⟨b, hb⟩ : ∃ b, ((fun s => !oneS s)) ⟨a_, b_, c_, d_, e_, f_⟩ = b := ⟨_, rfl⟩
      have HB := Lib.hid hb
      clear hb
      go_wp2_with fail
      refine (re_ (oddS_calls a_ b_ c_ d_ e_ f_ _ z1 z2) (ret_bool HB.out)).mono ?_
      rintro e w1 ⟨rfl, b1⟩
      have hB1 := below_call hB b1
      clear c0 c1 c2 c3 c4 c5 b1 hB
      cases b with
      | true =>
        have HF : Hid (r = (i : Int)) := by
          show _ = _
          rw [← HR.out, idx_at _ l i hil HT.out (by rw [HE.out]; exact HB.out)]; rfl
        go_wp2
        go_ret
        rw [HF.out]
        exact ⟨rfl, hB1⟩
      | false =>
        go_wp2
        exact ⟨⟨i + 1, by go_num, by omega, hB1, fun j h hj => by
          rcases Nat.lt_or_ge j i with h' | h'
          · exact HT.out j h h'
          · obtain rfl : j = i := by omega
            rw [HE.out]; exact HB.out⟩, by simp [intOf]; omega⟩
    · have hin : i = n := by omega
      subst hin
      have HF : Hid (r = -1) := by
        show _ = _
        rw [← HR.out, idx_no _ l (fun j hj => HT.out j hj (by rw [EA.out]; exact hj))]; rfl
      go_wp2
      go_ret
      rw [HF.out]
      exact ⟨rfl, hB⟩
set_option maxHeartbeats 8000000 in
set_option maxRecDepth 100000 in
theorem containsOdd9_calls (n c : Nat) (A : Option Addr) (l : List Se)  (w : World) (hl : Row enSe 6 w (.slice A n c) l) (hz : SzSe l) :
    Calls Tryz.prog 141 #[.slice A n c, .func (.func 105) #[] #[]] w fun e w' => e = .returned (.bool (l.any (fun s => !oneS s))) ∧ Below w.heap.size w w' := by
  have hb := idx_any (fun s => !oneS s) l
  obtain ⟨r, hr⟩ : ∃ r, idxI (l.findIdx? (fun s => !oneS s)) = r := ⟨_, rfl⟩
  have HC := idxOdd_calls n c A l  w hl hz
  rw [hr] at HC hb
  have HB := Lib.hid hb
  clear hb hr
  go_enter Tryz.func141, Tryz.ntmps141
  go_wp2_with fail
  refine HC.mono ?_
  rintro e w1 ⟨rfl, b1⟩
  go_wp2
  go_ret
  exact ⟨ret_bool (by rw [← HB.out]), b1⟩
set_option maxHeartbeats 8000000 in
set_option maxRecDepth 100000 in
theorem find_calls (n c : Nat) (A : Option Addr) (l : List Se) (ku : ByteArray) (ki : Int) (w : World) (hl : Row enSe 6 w (.slice A n c) l) :
    Calls Tryz.prog 107 #[.slice A n c, agK ku ki] w fun e w' => e = .returned (.tuple #[.int .i64 (idxI (idxSe l (ku, ki))), .bool (decide (0 ≤ idxI (idxSe l (ku, ki))))]) ∧ Below w.heap.size w w' := by
  obtain ⟨r, hr⟩ : ∃ r, idxI (idxSe l (ku, ki)) = r := ⟨_, rfl⟩
  have hb := below_box (w := w) (bxK ku ki)
  have HC := idxFind_calls n c A l w.heap.size ku ki _ (hl.below hb) (heap_alloc_new w (bxK ku ki))
  rw [show l.findIdx? (fun s => decide (keySe s = (ku, ki))) = idxSe l (ku, ki) from rfl] at HC
  rw [hr] at HC ⊢
  clear hr
  have hmf : ∀ W : World, (Instr.makeFunc (.func 155) #[] #[.pointer (some ⟨w.heap.size, 0, none⟩)]).run Tryz.prog W = .ok (.func (.func 155) #[] #[.pointer (some ⟨w.heap.size, 0, none⟩)]) W := fun W => by kernel_rfl
  go_enter Tryz.func107, Tryz.ntmps107
  go_wp2_with fail
  refine HC.mono ?_
  rintro e w1 ⟨rfl, b1⟩
  have B1 := below_call hb b1
  clear b1 hb
  go_wp2
  go_ret2
  exact ⟨rfl, B1⟩
end Go.Proofs.YtbpfcjdjhponaaaGreat
namespace Go.Proofs.YtbpfcjdjhponaaaGreat
open Go.RowKit
open Sp
end Go.Proofs.YtbpfcjdjhponaaaGreat
namespace Go.Proofs.YtbpfcjdjhponaaaGreat
open Go.RowKit
open Sp
namespace Sp
theorem adjS_no (l : List Se) (i : Nat) (h : i + 1 < l.length) (hn : ltSe (keySe l[i]) (keySe l[i + 1]) = false) : adjS l = false := by
  rw [← Bool.not_eq_true, adjS_iff]
  intro h'
  rw [h' i h] at hn
  cases hn
def fewSe (l : List Se) : Bool := decide (l.length ≤ 50) && l.all fun s => decide (s.u.size ≤ 40) && decide (s.v.2.2.2.size ≤ 60)
end Sp
set_option maxHeartbeats 8000000 in
set_option maxRecDepth 100000 in
theorem few9_calls (n c : Nat) (A : Option Addr) (l : List Se) (w : World) (hl : Row enSe 6 w (.slice A n c) l) (hz : ∀ s ∈ l, s.u.size ≤ 9223372036854775807 ∧ s.v.2.2.2.size ≤ 9223372036854775807) :
    Calls Tryz.prog 36 #[.slice A n c] w fun e w' => e = .returned (.bool (fewSe l)) ∧ Below w.heap.size w w' := by
  have EA := Lib.hid hl.len_eq
  have hnl : n ≤ 9223372036854775807 := by rw [EA.out]; exact hl.len
  obtain ⟨r, hr⟩ : ∃ r, fewSe l = r := ⟨_, rfl⟩
  rw [hr]
  unfold fewSe at hr
  have HR := Lib.hid hr
  have HZ := Lib.hid hz
  clear hr hz
  by_cases hm : 50 < (n : Int)
  · have HF : Hid (r = false) := by
      show _ = _
      rw [← HR.out, decide_eq_false (by rw [← EA.out]; omega)]; rfl
    go_enter Tryz.func36, Tryz.ntmps36
    go_wp2
    go_ret
    rw [HF.out]
    exact ⟨rfl, Below.refl _ _⟩
  · have hm' : (n : Int) ≤ 50 := by omega
    clear hm
    go_enter Tryz.func36, Tryz.ntmps36
    go_wp2
    go_loopw [3] (fun v3 wr => ∃ i : Nat, v3 = .int .i64 i ∧ i ≤ n ∧ Below w.heap.size w wr ∧ Hid (∀ j (h : j < l.length), j < i → (decide (l[j].u.size ≤ 40) && decide (l[j].v.2.2.2.size ≤ 60)) = true)) (fun v3 _ => (n - intOf v3).toNat)
    case atStart => exact ⟨0, rfl, Nat.zero_le _, Below.refl _ _, fun j _ h => absurd h (by omega)⟩
    case round =>
      obtain ⟨i, rfl, hi, hB, HT⟩ := hrel
      by_cases hlt : i < n
      · have hil : i < l.length := by have := EA.out; omega
        obtain ⟨z1, z2⟩ := HZ.out l[i] (List.getElem_mem _)
        obtain ⟨⟨a_, b_, c_, d_, e_, f_⟩, he⟩ : ∃ e, l[i] = e := ⟨_, rfl⟩
        rw [he] at z1 z2
        simp only at z1 z2
        obtain ⟨ad, rfl, c0, c1, c2, c3, c4, c5⟩ := rowSe (hl.below hB) i hil a_ b_ c_ d_ e_ f_ he
        have HE := Lib.hid he
        clear he
        by_cases hq : a_.size ≤ 40 ∧ f_.size ≤ 60
        · have HN : Hid (∀ j (h : j < l.length), j < i + 1 → (decide (l[j].u.size ≤ 40) && decide (l[j].v.2.2.2.size ≤ 60)) = true) := fun j h hj => by
            rcases Nat.lt_or_ge j i with h' | h'
            · exact HT.out j h h'
            · obtain rfl : j = i := by omega
              rw [HE.out]
              simp only
              rw [decide_eq_true hq.1, decide_eq_true hq.2]; rfl
          have h1 : ((a_.size : Nat) : Int) ≤ 40 := by omega
          have h2 : ((f_.size : Nat) : Int) ≤ 60 := by omega
          clear hq
          go_wp2
          exact ⟨⟨i + 1, by go_num, by omega, hB, HN⟩, by simp [intOf]; omega⟩
        · have HF : Hid (r = false) := by
            show _ = _
            rw [← HR.out, Bool.and_eq_false_iff]
            right
            rw [List.all_eq_false]
            refine ⟨l[i], List.getElem_mem _, ?_⟩
            rw [HE.out]
            simp only [Bool.and_eq_true, decide_eq_true_eq]
            exact hq
          by_cases h1 : ((a_.size : Nat) : Int) ≤ 40
          · have h2 : 60 < ((f_.size : Nat) : Int) := by omega
            clear hq
            go_wp2
            go_ret
            rw [HF.out]
            exact ⟨rfl, hB⟩
          · have h2 : 40 < ((a_.size : Nat) : Int) := by omega
            clear hq h1
            go_wp2
            go_ret
            rw [HF.out]
            exact ⟨rfl, hB⟩
      · have hin : i = n := by omega
        subst hin
        have HF : Hid (r = true) := by
          show _ = _
          rw [← HR.out, Bool.and_eq_true]
          refine ⟨decide_eq_true (by rw [← EA.out]; omega), ?_⟩
          rw [List.all_eq_true]
          intro e he
          obtain ⟨j, hj, rfl⟩ := List.getElem_of_mem he
          exact HT.out j hj (by rw [EA.out]; exact hj)
        go_wp2
        go_ret
        rw [HF.out]
        exact ⟨rfl, hB⟩
set_option maxHeartbeats 8000000 in
set_option maxRecDepth 100000 in
theorem May9_calls (n c : Nat) (A : Option Addr) (l : List Se) (w : World) (hl : Row enSe 6 w (.slice A n c) l) (hz : SzSe l) :
    Calls Tryz.prog 95 #[.slice A n c] w fun e w' => e = .returned (.bool (maySe l)) ∧ Below w.heap.size w w' := by
  have EA := Lib.hid hl.len_eq
  have hnl : n ≤ 9223372036854775807 := by rw [EA.out]; exact hl.len
  obtain ⟨r, hr⟩ : ∃ r, maySe l = r := ⟨_, rfl⟩
  rw [hr]
  unfold maySe at hr
  have HR := Lib.hid hr
  have HZ := Lib.hid hz
  clear hr hz
  go_enter Tryz.func95, Tryz.ntmps95
  go_wp2
  go_loopw [3] (fun v3 wr => ∃ i : Nat, v3 = .int .i64 i ∧ 1 ≤ i ∧ (i ≤ n ∨ i = 1) ∧ Below w.heap.size w wr ∧ Hid (∀ j (h : j + 1 < l.length), j + 1 < i → ltSe (keySe l[j]) (keySe l[j + 1]) = true)) (fun v3 _ => (n - intOf v3).toNat)
  case atStart => exact ⟨1, rfl, by omega, .inr rfl, Below.refl _ _, fun j _ h => absurd h (by omega)⟩
  case round =>
    obtain ⟨i, rfl, h1i, hi, hB, HT⟩ := hrel
    by_cases hlt : i < n
    · obtain ⟨q, hq⟩ : ∃ q, q = i - 1 := ⟨_, rfl⟩
      have hqi : q + 1 = i := by omega
      have hil : i < l.length := by have := EA.out; omega
      have hql : q < l.length := by omega
      obtain ⟨⟨a_, b_, c_, d_, e_, f_⟩, he⟩ : ∃ e, l[q] = e := ⟨_, rfl⟩
      obtain ⟨⟨a', b', c', d', e', f'⟩, he'⟩ : ∃ e, l[i] = e := ⟨_, rfl⟩
      obtain ⟨ad, rfl, c0, c1, c2, c3, c4, c5⟩ := rowSe (hl.below hB) q hql a_ b_ c_ d_ e_ f_ he
      obtain ⟨d0, d1, d2, d3, d4, d5⟩ := rowsSe (hl.below hB) i hil a' b' c' d' e' f' he'
      obtain ⟨b, hb⟩ : ∃ b, ltSe (a_, b_) (a', b') = b := ⟨_, rfl⟩
      have HB := Lib.hid hb
      have HADJ : Hid (∃ h : q + 1 < l.length, ltSe (keySe l[q]) (keySe l[q + 1]) = b) := by
        subst hqi
        exact ⟨hil, by rw [he, he', ← hb]; rfl⟩
      have hw : IntKind.i64.wrap ((i : Int) - 1) = ((q : Nat) : Int) := by
        have : (i : Int) - 1 = (q : Int) := by omega
        rw [this, IntKind.wrap_i64]; omega
      have x1 : (0 : Int) ≤ (q : Int) := by omega
      have x2 : (q : Int) < (n : Int) := by omega
      have x3 : (0 : Int) ≤ (i : Int) := by omega
      have x4 : (i : Int) < (n : Int) := by omega
      have hD : Below w.heap.size w wr.drew := hB.drew
      have HQI := Lib.hid hqi
      clear hb he he' hq hqi
      go_wp2_with fail
      go_region_held3 (fun w' => w'.cell? (ad.add (q * 6)) = some (.string a_) ∧ w'.cell? ⟨(ad.add (q * 6)).block, (ad.add (q * 6)).off + 1, none⟩ = some (.int .i64 b_) ∧ w'.cell? ⟨(ad.add (q * 6)).block, (ad.add (q * 6)).off + 2, none⟩ = some (.int .i64 c_) ∧ w'.cell? ⟨(ad.add (q * 6)).block, (ad.add (q * 6)).off + 3, none⟩ = some (.int .i64 d_) ∧ w'.cell? ⟨(ad.add (q * 6)).block, (ad.add (q * 6)).off + 4, none⟩ = some (.int .i64 e_) ∧ w'.cell? ⟨(ad.add (q * 6)).block, (ad.add (q * 6)).off + 5, none⟩ = some (.string f_) ∧ w'.cell? (ad.add (i * 6)) = some (.string a') ∧ w'.cell? ⟨(ad.add (i * 6)).block, (ad.add (i * 6)).off + 1, none⟩ = some (.int .i64 b') ∧ w'.cell? ⟨(ad.add (i * 6)).block, (ad.add (i * 6)).off + 2, none⟩ = some (.int .i64 c') ∧ w'.cell? ⟨(ad.add (i * 6)).block, (ad.add (i * 6)).off + 3, none⟩ = some (.int .i64 d') ∧ w'.cell? ⟨(ad.add (i * 6)).block, (ad.add (i * 6)).off + 4, none⟩ = some (.int .i64 e') ∧ w'.cell? ⟨(ad.add (i * 6)).block, (ad.add (i * 6)).off + 5, none⟩ = some (.string f')) (exact ⟨c0, c1, c2, c3, c4, c5, d0, d1, d2, d3, d4, d5⟩) (((first | (go_at_call 108; refine (of_calls _ _ _ _ _ _ _).mono ?_) | (go_at_call 109; refine (re_ (ahead_calls a_ b_ a' b' _) (ret_bool HB.out)).mono ?_)); rintro e wx ⟨rfl, hbx⟩; replace hD := below_call hD hbx; replace c0 := cell_below hbx c0; replace c1 := cell_below hbx c1; replace c2 := cell_below hbx c2; replace c3 := cell_below hbx c3; replace c4 := cell_below hbx c4; replace c5 := cell_below hbx c5; replace d0 := cell_below hbx d0; replace d1 := cell_below hbx d1; replace d2 := cell_below hbx d2; replace d3 := cell_below hbx d3; replace d4 := cell_below hbx d4; replace d5 := cell_below hbx d5; clear hbx))
      all_goals
        clear c0 c1 c2 c3 c4 c5 d0 d1 d2 d3 d4 d5
        cases b with
        | true =>
          have HT2 : Hid (∀ j (h : j + 1 < l.length), j + 1 < i + 1 → ltSe (keySe l[j]) (keySe l[j + 1]) = true) := fun j h hj => by
            rcases Nat.lt_or_ge (j + 1) i with h' | h'
            · exact HT.out j h h'
            · obtain rfl : j = q := by have := HQI.out; omega
              exact HADJ.out.2
          go_wp2
          exact ⟨⟨i + 1, by go_num, by omega, .inl (by omega), hD, HT2⟩, by simp [intOf]; omega⟩
        | false =>
          have HF : Hid (r = false) := by
            show _ = _
            rw [← HR.out, adjS_no l q HADJ.out.1 HADJ.out.2]
            simp
          go_wp2
          go_ret
          rw [HF.out]
          exact ⟨rfl, hD⟩
    · have HT2 : Hid (adjS l = true) := (adjS_iff l).2 fun j h => HT.out j h (by have := EA.out; omega)
      obtain ⟨o, ho⟩ : ∃ o, l.all oneS = o := ⟨_, rfl⟩
      have HC := containsOdd9_calls n c A l wr (hl.below hB) HZ.out
      have ho2 : l.any (fun s => !oneS s) = !o := by
        rw [← ho, Bool.eq_iff_iff, Bool.not_eq_true', List.any_eq_true]
        constructor
        · rintro ⟨x, hx, h⟩
          rw [List.all_eq_false]
          exact ⟨x, hx, by simpa using h⟩
        · intro h
          rw [List.all_eq_false] at h
          obtain ⟨x, hx, h⟩ := h
          exact ⟨x, hx, by simpa using h⟩
      rw [ho2] at HC
      have HO := Lib.hid ho
      clear ho ho2
      by_cases hm : (n : Int) ≤ 32
      · have HF : Hid (r = o) := by
          show _ = _
          rw [← HR.out, HO.out, HT2.out, decide_eq_true (by have := EA.out; omega)]
          simp
        go_wp2_with fail
        refine HC.mono ?_
        rintro e w1 ⟨rfl, b1⟩
        go_wp2
        go_ret
        exact ⟨ret_bool (by rw [HF.out]), below_call hB b1⟩
      · have HF : Hid (r = false) := by
          show _ = _
          rw [← HR.out, decide_eq_false (by have := EA.out; omega)]
          rfl
        have hm2 : 32 < (n : Int) := by omega
        clear hm
        go_wp2
        go_ret
        rw [HF.out]
        exact ⟨rfl, hB⟩
end Go.Proofs.YtbpfcjdjhponaaaGreat
namespace Go.Proofs.YtbpfcjdjhponaaaGreat
open Go.RowKit
open Sp
set_option maxHeartbeats 16000000 in
set_option maxRecDepth 100000 in
theorem refMay9_calls (n c : Nat) (A : Option Addr) (l : List Se) (w : World) (hl : Row enSe 6 w (.slice A n c) l) (hz : SzSe l) :
    Calls Tryz.prog 38 #[.slice A n c] w fun e w' => e = .returned (.bool (maySe l)) ∧ Below w.heap.size w w' := by
  have EA := Lib.hid hl.len_eq
  have hnl : n ≤ 9223372036854775807 := by rw [EA.out]; exact hl.len
  obtain ⟨r, hr⟩ : ∃ r, maySe l = r := ⟨_, rfl⟩
  rw [hr]
  have HR := Lib.hid hr
  have HZ := Lib.hid hz
  clear hr hz
  by_cases hm : 32 < (n : Int)
  · have HF : Hid (r = false) := by
      show _ = _
      rw [← HR.out]
      unfold maySe
      rw [decide_eq_false (by rw [← EA.out]; omega)]; rfl
    go_enter Tryz.func38, Tryz.ntmps38
    go_wp2
    go_ret
    rw [HF.out]
    exact ⟨rfl, Below.refl _ _⟩
  have hm' : (n : Int) ≤ 32 := by omega
  clear hm
  go_enter Tryz.func38, Tryz.ntmps38
  go_wp2
  go_loopw [3] (fun v3 wr => ∃ i : Nat, v3 = .int .i64 i ∧ i ≤ n ∧ Below w.heap.size w wr ∧ Hid ((∀ j (h : j < l.length), j < i → oneS l[j] = true) ∧ ∀ j (h : j + 1 < l.length), j + 1 < i → ltSe (keySe l[j]) (keySe l[j + 1]) = true)) (fun v3 _ => (n - intOf v3).toNat)
  case atStart => exact ⟨0, rfl, Nat.zero_le _, Below.refl _ _, fun j _ h => absurd h (by omega), fun j _ h => absurd h (by omega)⟩
  case round =>
    obtain ⟨i, rfl, hi, hB, HT⟩ := hrel
    by_cases hlt : i < n
    · have hil : i < l.length := by have := EA.out; omega
      obtain ⟨z1, z2⟩ := HZ.out l[i] (List.getElem_mem _)
      obtain ⟨⟨a', b', c', d', e', f'⟩, he'⟩ : ∃ e, l[i] = e := ⟨_, rfl⟩
      rw [he'] at z1 z2
      simp only at z1 z2
      obtain ⟨ad, rfl, d0, d1, d2, d3, d4, d5⟩ := rowSe (hl.below hB) i hil a' b' c' d' e' f' he'
      obtain ⟨o, ho⟩ : ∃ o, oneS ⟨a', b', c', d', e', f'⟩ = o := ⟨_, rfl⟩
      have HO := Lib.hid ho
      have HLO : Hid (oneS l[i] = o) := by show _ = _; rw [he']; exact ho
      have hD : Below w.heap.size w wr.drew := hB.drew
      have x3 : (0 : Int) ≤ (i : Int) := by omega
      have x4 : (i : Int) < (n : Int) := by omega
      clear ho
      cases o with
      | false =>
        have HF : Hid (r = false) := by
          show _ = _
          rw [← HR.out, ← Bool.not_eq_true, maySe_iff]
          rintro ⟨_, h2, _⟩
          have h3 := HLO.out
          rw [h2 l[i] (List.getElem_mem _)] at h3
          cases h3
        clear he'
        · go_wp2_with fail
          refine wp_region_held_drew (S := fun w' => w'.cell? (ad.add (i * 6)) = some (.string a') ∧ w'.cell? ⟨(ad.add (i * 6)).block, (ad.add (i * 6)).off + 1, none⟩ = some (.int .i64 b') ∧ w'.cell? ⟨(ad.add (i * 6)).block, (ad.add (i * 6)).off + 2, none⟩ = some (.int .i64 c') ∧ w'.cell? ⟨(ad.add (i * 6)).block, (ad.add (i * 6)).off + 3, none⟩ = some (.int .i64 d') ∧ w'.cell? ⟨(ad.add (i * 6)).block, (ad.add (i * 6)).off + 4, none⟩ = some (.int .i64 e') ∧ w'.cell? ⟨(ad.add (i * 6)).block, (ad.add (i * 6)).off + 5, none⟩ = some (.string f')) (by kernel_rfl) ⟨d0, d1, d2, d3, d4, d5⟩ (fun hHeld => ?_)
          refine wpAnyH_take (i := 0) (v := ?vx1) rfl (by kernel_rfl) (by kernel_rfl) (by kernel_rfl) (fun _ _ _ h => h) (Or.inl ⟨by rfl, ?hyx1⟩) (by assumption) ?restx1
          case hyx1 => (intro w hSw; (try dsimp only at hSw); go_simp; (try (first | with_reducible rfl | rw [if_neg (by omega)])))
          try simp only [Act.put, List.getElem_toArray, List.getElem_cons_succ, List.getElem_cons_zero, List.setIfInBounds_toArray, List.set_cons_zero, List.set_cons_succ]
          refine wpAnyH_take (i := 1) (v := ?vx2) rfl (by kernel_rfl) (by kernel_rfl) (by kernel_rfl) (fun _ _ _ h => h) (Or.inl ⟨by rfl, ?hyx2⟩) (by assumption) ?restx2
          case hyx2 => (intro w hSw; (try dsimp only at hSw); go_simp; (try (first | with_reducible rfl | rw [if_neg (by omega)])))
          try simp only [Act.put, List.getElem_toArray, List.getElem_cons_succ, List.getElem_cons_zero, List.setIfInBounds_toArray, List.set_cons_zero, List.set_cons_succ]
          refine wpAnyH_take (i := 2) (v := ?vx3) rfl (by kernel_rfl) (by kernel_rfl) (by kernel_rfl) (fun _ _ _ h => h) (Or.inl ⟨by rfl, ?hyx3⟩) (by assumption) ?restx3
          case hyx3 => (intro w hSw; (try dsimp only at hSw); go_simp; (try (first | with_reducible rfl | rw [if_neg (by omega)])))
          try simp only [Act.put, List.getElem_toArray, List.getElem_cons_succ, List.getElem_cons_zero, List.setIfInBounds_toArray, List.set_cons_zero, List.set_cons_succ]
          refine wpAnyH_take (i := 3) (v := ?vx4) rfl (by kernel_rfl) (by kernel_rfl) (by kernel_rfl) (fun _ _ _ h => h) (Or.inl ⟨by rfl, ?hyx4⟩) (by assumption) ?restx4
          case hyx4 => (intro w hSw; (try dsimp only at hSw); go_simp; (try (first | with_reducible rfl | rw [if_neg (by omega)])))
          try simp only [Act.put, List.getElem_toArray, List.getElem_cons_succ, List.getElem_cons_zero, List.setIfInBounds_toArray, List.set_cons_zero, List.set_cons_succ]
          refine wpAnyH_ready (rs := [4]) (by kernel_rfl) (by simp) ?_
          refine AllReadyH.cons rfl (fun K hK => ?_) ?_
          · go_simp
            go_at_call 86
            refine (re_ (refOne_calls a' b' c' d' e' f' _ z1 z2) (ret_bool HO.out)).mono ?_
            rintro e wx ⟨rfl, hbx⟩
            replace hD := below_call hD hbx
            replace d0 := cell_below hbx d0
            replace d1 := cell_below hbx d1
            replace d2 := cell_below hbx d2
            replace d3 := cell_below hbx d3
            replace d4 := cell_below hbx d4
            replace d5 := cell_below hbx d5
            clear hbx
            refine hK.out _ _ (by (try dsimp only); (exact ⟨d0, d1, d2, d3, d4, d5⟩)) (fun hHeld => ?_)
            clear hK K
            try simp only [Act.put, List.getElem_toArray, List.getElem_cons_succ, List.getElem_cons_zero, List.setIfInBounds_toArray, List.set_cons_zero, List.set_cons_succ]
            refine wpAnyH_take (i := 5) (v := ?vx5) rfl (by kernel_rfl) (by kernel_rfl) (by kernel_rfl) (fun _ _ _ h => h) (Or.inl ⟨by rfl, ?hyx5⟩) (by assumption) ?restx5
            case hyx5 => (intro w hSw; (try dsimp only at hSw); go_simp; (try (first | with_reducible rfl | rw [if_neg (by omega)])))
            try simp only [Act.put, List.getElem_toArray, List.getElem_cons_succ, List.getElem_cons_zero, List.setIfInBounds_toArray, List.set_cons_zero, List.set_cons_succ]
            refine wpAnyH_take (i := 6) (v := ?vx6) rfl (by kernel_rfl) (by kernel_rfl) (by kernel_rfl) (fun _ _ _ h => h) (Or.inl ⟨by rfl, ?hyx6⟩) (by assumption) ?restx6
            case hyx6 => (intro w hSw; (try dsimp only at hSw); go_simp; (try (first | with_reducible rfl | rw [if_neg (by omega)])))
            try simp only [Act.put, List.getElem_toArray, List.getElem_cons_succ, List.getElem_cons_zero, List.setIfInBounds_toArray, List.set_cons_zero, List.set_cons_succ]
            refine wpAnyH_take (i := 7) (v := undef) rfl (by kernel_rfl) (by kernel_rfl) (by kernel_rfl) (fun _ _ _ h => h) (Or.inr ⟨by rfl, rfl⟩) (by assumption) ?_
            try simp only [Act.put, List.getElem_toArray, List.getElem_cons_succ, List.getElem_cons_zero, List.setIfInBounds_toArray, List.set_cons_zero, List.set_cons_succ]
            refine wpAnyH_take (i := 8) (v := undef) rfl (by kernel_rfl) (by kernel_rfl) (by kernel_rfl) (fun _ _ _ h => h) (Or.inr ⟨by rfl, rfl⟩) (by assumption) ?_
            try simp only [Act.put, List.getElem_toArray, List.getElem_cons_succ, List.getElem_cons_zero, List.setIfInBounds_toArray, List.set_cons_zero, List.set_cons_succ]
            refine wpAnyH_take (i := 9) (v := undef) rfl (by kernel_rfl) (by kernel_rfl) (by kernel_rfl) (fun _ _ _ h => h) (Or.inr ⟨by rfl, rfl⟩) (by assumption) ?_
            try simp only [Act.put, List.getElem_toArray, List.getElem_cons_succ, List.getElem_cons_zero, List.setIfInBounds_toArray, List.set_cons_zero, List.set_cons_succ]
            refine wpAnyH_take (i := 10) (v := undef) rfl (by kernel_rfl) (by kernel_rfl) (by kernel_rfl) (fun _ _ _ h => h) (Or.inr ⟨by rfl, rfl⟩) (by assumption) ?_
            try simp only [Act.put, List.getElem_toArray, List.getElem_cons_succ, List.getElem_cons_zero, List.setIfInBounds_toArray, List.set_cons_zero, List.set_cons_succ]
            refine wpAnyH_take (i := 11) (v := undef) rfl (by kernel_rfl) (by kernel_rfl) (by kernel_rfl) (fun _ _ _ h => h) (Or.inr ⟨by rfl, rfl⟩) (by assumption) ?_
            try simp only [Act.put, List.getElem_toArray, List.getElem_cons_succ, List.getElem_cons_zero, List.setIfInBounds_toArray, List.set_cons_zero, List.set_cons_succ]
            refine wpAnyH_take (i := 12) (v := undef) rfl (by kernel_rfl) (by kernel_rfl) (by kernel_rfl) (fun _ _ _ h => h) (Or.inr ⟨by rfl, rfl⟩) (by assumption) ?_
            try simp only [Act.put, List.getElem_toArray, List.getElem_cons_succ, List.getElem_cons_zero, List.setIfInBounds_toArray, List.set_cons_zero, List.set_cons_succ]
            refine wpAnyH_take (i := 13) (v := undef) rfl (by kernel_rfl) (by kernel_rfl) (by kernel_rfl) (fun _ _ _ h => h) (Or.inr ⟨by rfl, rfl⟩) (by assumption) ?_
            try simp only [Act.put, List.getElem_toArray, List.getElem_cons_succ, List.getElem_cons_zero, List.setIfInBounds_toArray, List.set_cons_zero, List.set_cons_succ]
            refine wpAnyH_take (i := 14) (v := undef) rfl (by kernel_rfl) (by kernel_rfl) (by kernel_rfl) (fun _ _ _ h => h) (Or.inr ⟨by rfl, rfl⟩) (by assumption) ?_
            try simp only [Act.put, List.getElem_toArray, List.getElem_cons_succ, List.getElem_cons_zero, List.setIfInBounds_toArray, List.set_cons_zero, List.set_cons_succ]
            refine wpAnyH_take (i := 15) (v := undef) rfl (by kernel_rfl) (by kernel_rfl) (by kernel_rfl) (fun _ _ _ h => h) (Or.inr ⟨by rfl, rfl⟩) (by assumption) ?_
            try simp only [Act.put, List.getElem_toArray, List.getElem_cons_succ, List.getElem_cons_zero, List.setIfInBounds_toArray, List.set_cons_zero, List.set_cons_succ]
            refine wpAnyH_take (i := 16) (v := undef) rfl (by kernel_rfl) (by kernel_rfl) (by kernel_rfl) (fun _ _ _ h => h) (Or.inr ⟨by rfl, rfl⟩) (by assumption) ?_
            try simp only [Act.put, List.getElem_toArray, List.getElem_cons_succ, List.getElem_cons_zero, List.setIfInBounds_toArray, List.set_cons_zero, List.set_cons_succ]
            refine wpAnyH_take (i := 17) (v := undef) rfl (by kernel_rfl) (by kernel_rfl) (by kernel_rfl) (fun _ _ _ h => h) (Or.inr ⟨by rfl, rfl⟩) (by assumption) ?_
            try simp only [Act.put, List.getElem_toArray, List.getElem_cons_succ, List.getElem_cons_zero, List.setIfInBounds_toArray, List.set_cons_zero, List.set_cons_succ]
            refine wpAnyH_take (i := 18) (v := undef) rfl (by kernel_rfl) (by kernel_rfl) (by kernel_rfl) (fun _ _ _ h => h) (Or.inr ⟨by rfl, rfl⟩) (by assumption) ?_
            try simp only [Act.put, List.getElem_toArray, List.getElem_cons_succ, List.getElem_cons_zero, List.setIfInBounds_toArray, List.set_cons_zero, List.set_cons_succ]
            refine wpAnyH_take (i := 19) (v := undef) rfl (by kernel_rfl) (by kernel_rfl) (by kernel_rfl) (fun _ _ _ h => h) (Or.inr ⟨by rfl, rfl⟩) (by assumption) ?_
            try simp only [Act.put, List.getElem_toArray, List.getElem_cons_succ, List.getElem_cons_zero, List.setIfInBounds_toArray, List.set_cons_zero, List.set_cons_succ]
            refine wpAnyH_take (i := 20) (v := undef) rfl (by kernel_rfl) (by kernel_rfl) (by kernel_rfl) (fun _ _ _ h => h) (Or.inr ⟨by rfl, rfl⟩) (by assumption) ?_
            try simp only [Act.put, List.getElem_toArray, List.getElem_cons_succ, List.getElem_cons_zero, List.setIfInBounds_toArray, List.set_cons_zero, List.set_cons_succ]
            refine wpAnyH_take (i := 21) (v := undef) rfl (by kernel_rfl) (by kernel_rfl) (by kernel_rfl) (fun _ _ _ h => h) (Or.inr ⟨by rfl, rfl⟩) (by assumption) ?_
            try simp only [Act.put, List.getElem_toArray, List.getElem_cons_succ, List.getElem_cons_zero, List.setIfInBounds_toArray, List.set_cons_zero, List.set_cons_succ]
            refine wpAnyH_take (i := 22) (v := ?vx22) rfl (by kernel_rfl) (by kernel_rfl) (by kernel_rfl) (fun _ _ _ h => h) (Or.inl ⟨by rfl, ?hyx22⟩) (by assumption) ?restx22
            case hyx22 => (intro w hSw; (try dsimp only at hSw); go_simp; (try (first | with_reducible rfl | rw [if_neg (by omega)])))
            try simp only [Act.put, List.getElem_toArray, List.getElem_cons_succ, List.getElem_cons_zero, List.setIfInBounds_toArray, List.set_cons_zero, List.set_cons_succ]
            refine wpAnyH_done (by kernel_rfl) ?_ _
            go_wp2
            go_ret
            rw [HF.out]
            exact ⟨rfl, hD⟩
          exact AllReadyH.nil
      | true =>
        by_cases hi0 : i = 0
        · have HN : Hid ((∀ j (h : j < l.length), j < i + 1 → oneS l[j] = true) ∧ ∀ j (h : j + 1 < l.length), j + 1 < i + 1 → ltSe (keySe l[j]) (keySe l[j + 1]) = true) := by
            refine ⟨fun j h hj => ?_, fun j h hj => absurd hj (by omega)⟩
            obtain rfl : j = i := by omega
            exact HLO.out
          have hg1 : decide ((0 : Int) < (i : Int)) = false := by simpa using hi0
          have hg2 : decide (0 < i) = false := by simpa using hi0
          clear hi0 he'
          · go_wp2_with fail
            refine wp_region_held_drew (S := fun w' => w'.cell? (ad.add (i * 6)) = some (.string a') ∧ w'.cell? ⟨(ad.add (i * 6)).block, (ad.add (i * 6)).off + 1, none⟩ = some (.int .i64 b') ∧ w'.cell? ⟨(ad.add (i * 6)).block, (ad.add (i * 6)).off + 2, none⟩ = some (.int .i64 c') ∧ w'.cell? ⟨(ad.add (i * 6)).block, (ad.add (i * 6)).off + 3, none⟩ = some (.int .i64 d') ∧ w'.cell? ⟨(ad.add (i * 6)).block, (ad.add (i * 6)).off + 4, none⟩ = some (.int .i64 e') ∧ w'.cell? ⟨(ad.add (i * 6)).block, (ad.add (i * 6)).off + 5, none⟩ = some (.string f')) (by kernel_rfl) ⟨d0, d1, d2, d3, d4, d5⟩ (fun hHeld => ?_)
            refine wpAnyH_take (i := 0) (v := ?vz1) rfl (by kernel_rfl) (by kernel_rfl) (by kernel_rfl) (fun _ _ _ h => h) (Or.inl ⟨by rfl, ?hyz1⟩) (by assumption) ?restz1
            case hyz1 => (intro w hSw; (try dsimp only at hSw); go_simp; (try (first | with_reducible rfl | rw [if_neg (by omega)])))
            try simp only [Act.put, List.getElem_toArray, List.getElem_cons_succ, List.getElem_cons_zero, List.setIfInBounds_toArray, List.set_cons_zero, List.set_cons_succ]
            refine wpAnyH_take (i := 1) (v := ?vz2) rfl (by kernel_rfl) (by kernel_rfl) (by kernel_rfl) (fun _ _ _ h => h) (Or.inl ⟨by rfl, ?hyz2⟩) (by assumption) ?restz2
            case hyz2 => (intro w hSw; (try dsimp only at hSw); go_simp; (try (first | with_reducible rfl | rw [if_neg (by omega)])))
            try simp only [Act.put, List.getElem_toArray, List.getElem_cons_succ, List.getElem_cons_zero, List.setIfInBounds_toArray, List.set_cons_zero, List.set_cons_succ]
            refine wpAnyH_take (i := 2) (v := ?vz3) rfl (by kernel_rfl) (by kernel_rfl) (by kernel_rfl) (fun _ _ _ h => h) (Or.inl ⟨by rfl, ?hyz3⟩) (by assumption) ?restz3
            case hyz3 => (intro w hSw; (try dsimp only at hSw); go_simp; (try (first | with_reducible rfl | rw [if_neg (by omega)])))
            try simp only [Act.put, List.getElem_toArray, List.getElem_cons_succ, List.getElem_cons_zero, List.setIfInBounds_toArray, List.set_cons_zero, List.set_cons_succ]
            refine wpAnyH_take (i := 3) (v := ?vz4) rfl (by kernel_rfl) (by kernel_rfl) (by kernel_rfl) (fun _ _ _ h => h) (Or.inl ⟨by rfl, ?hyz4⟩) (by assumption) ?restz4
            case hyz4 => (intro w hSw; (try dsimp only at hSw); go_simp; (try (first | with_reducible rfl | rw [if_neg (by omega)])))
            try simp only [Act.put, List.getElem_toArray, List.getElem_cons_succ, List.getElem_cons_zero, List.setIfInBounds_toArray, List.set_cons_zero, List.set_cons_succ]
            refine wpAnyH_ready (rs := [4]) (by kernel_rfl) (by simp) ?_
            refine AllReadyH.cons rfl (fun K hK => ?_) ?_
            · go_simp
              go_at_call 86
              refine (re_ (refOne_calls a' b' c' d' e' f' _ z1 z2) (ret_bool HO.out)).mono ?_
              rintro e wx ⟨rfl, hbx⟩
              replace hD := below_call hD hbx
              replace d0 := cell_below hbx d0
              replace d1 := cell_below hbx d1
              replace d2 := cell_below hbx d2
              replace d3 := cell_below hbx d3
              replace d4 := cell_below hbx d4
              replace d5 := cell_below hbx d5
              clear hbx
              refine hK.out _ _ (by (try dsimp only); (exact ⟨d0, d1, d2, d3, d4, d5⟩)) (fun hHeld => ?_)
              clear hK K
              try simp only [Act.put, List.getElem_toArray, List.getElem_cons_succ, List.getElem_cons_zero, List.setIfInBounds_toArray, List.set_cons_zero, List.set_cons_succ]
              refine wpAnyH_take (i := 5) (v := ?vz5) rfl (by kernel_rfl) (by kernel_rfl) (by kernel_rfl) (fun _ _ _ h => h) (Or.inl ⟨by rfl, ?hyz5⟩) (by assumption) ?restz5
              case hyz5 => (intro w hSw; (try dsimp only at hSw); go_simp; (try (first | with_reducible rfl | rw [if_neg (by omega)])))
              try simp only [Act.put, List.getElem_toArray, List.getElem_cons_succ, List.getElem_cons_zero, List.setIfInBounds_toArray, List.set_cons_zero, List.set_cons_succ]
              refine wpAnyH_take (i := 6) (v := ?vz6) rfl (by kernel_rfl) (by kernel_rfl) (by kernel_rfl) (fun _ _ _ h => h) (Or.inl ⟨by rfl, ?hyz6⟩) (by assumption) ?restz6
              case hyz6 => (intro w hSw; (try dsimp only at hSw); go_simp; (try (first | with_reducible rfl | rw [if_neg (by omega)])))
              try simp only [Act.put, List.getElem_toArray, List.getElem_cons_succ, List.getElem_cons_zero, List.setIfInBounds_toArray, List.set_cons_zero, List.set_cons_succ]
              refine wpAnyH_take (i := 7) (v := ?vz7) rfl (by kernel_rfl) (by kernel_rfl) (by kernel_rfl) (fun _ _ _ h => h) (Or.inl ⟨by rfl, ?hyz7⟩) (by assumption) ?restz7
              case hyz7 => (intro w hSw; (try dsimp only at hSw); go_simp; (try (first | with_reducible rfl | rw [if_neg (by omega)])))
              try simp only [Act.put, List.getElem_toArray, List.getElem_cons_succ, List.getElem_cons_zero, List.setIfInBounds_toArray, List.set_cons_zero, List.set_cons_succ]
              refine wpAnyH_take (i := 8) (v := ?vz8) rfl (by kernel_rfl) (by kernel_rfl) (by kernel_rfl) (fun _ _ _ h => h) (Or.inl ⟨by rfl, ?hyz8⟩) (by assumption) ?restz8
              case hyz8 => (intro w hSw; (try dsimp only at hSw); go_simp; (try (first | with_reducible rfl | rw [if_neg (by omega)])))
              try simp only [Act.put, List.getElem_toArray, List.getElem_cons_succ, List.getElem_cons_zero, List.setIfInBounds_toArray, List.set_cons_zero, List.set_cons_succ]
              refine wpAnyH_take (i := 9) (v := ?vz9) rfl (by kernel_rfl) (by kernel_rfl) (by kernel_rfl) (fun _ _ _ h => h) (Or.inl ⟨by rfl, ?hyz9⟩) (by assumption) ?restz9
              case hyz9 => (intro w hSw; (try dsimp only at hSw); go_simp; (try (first | with_reducible rfl | rw [if_neg (by omega)])))
              try simp only [Act.put, List.getElem_toArray, List.getElem_cons_succ, List.getElem_cons_zero, List.setIfInBounds_toArray, List.set_cons_zero, List.set_cons_succ]
              refine wpAnyH_take (i := 10) (v := undef) rfl (by kernel_rfl) (by kernel_rfl) (by kernel_rfl) (fun _ _ _ h => h) (Or.inr ⟨by rfl, rfl⟩) (by assumption) ?_
              try simp only [Act.put, List.getElem_toArray, List.getElem_cons_succ, List.getElem_cons_zero, List.setIfInBounds_toArray, List.set_cons_zero, List.set_cons_succ]
              refine wpAnyH_take (i := 11) (v := undef) rfl (by kernel_rfl) (by kernel_rfl) (by kernel_rfl) (fun _ _ _ h => h) (Or.inr ⟨by rfl, rfl⟩) (by assumption) ?_
              try simp only [Act.put, List.getElem_toArray, List.getElem_cons_succ, List.getElem_cons_zero, List.setIfInBounds_toArray, List.set_cons_zero, List.set_cons_succ]
              refine wpAnyH_take (i := 12) (v := undef) rfl (by kernel_rfl) (by kernel_rfl) (by kernel_rfl) (fun _ _ _ h => h) (Or.inr ⟨by rfl, rfl⟩) (by assumption) ?_
              try simp only [Act.put, List.getElem_toArray, List.getElem_cons_succ, List.getElem_cons_zero, List.setIfInBounds_toArray, List.set_cons_zero, List.set_cons_succ]
              refine wpAnyH_take (i := 13) (v := undef) rfl (by kernel_rfl) (by kernel_rfl) (by kernel_rfl) (fun _ _ _ h => h) (Or.inr ⟨by rfl, rfl⟩) (by assumption) ?_
              try simp only [Act.put, List.getElem_toArray, List.getElem_cons_succ, List.getElem_cons_zero, List.setIfInBounds_toArray, List.set_cons_zero, List.set_cons_succ]
              refine wpAnyH_take (i := 14) (v := undef) rfl (by kernel_rfl) (by kernel_rfl) (by kernel_rfl) (fun _ _ _ h => h) (Or.inr ⟨by rfl, rfl⟩) (by assumption) ?_
              try simp only [Act.put, List.getElem_toArray, List.getElem_cons_succ, List.getElem_cons_zero, List.setIfInBounds_toArray, List.set_cons_zero, List.set_cons_succ]
              refine wpAnyH_take (i := 15) (v := undef) rfl (by kernel_rfl) (by kernel_rfl) (by kernel_rfl) (fun _ _ _ h => h) (Or.inr ⟨by rfl, rfl⟩) (by assumption) ?_
              try simp only [Act.put, List.getElem_toArray, List.getElem_cons_succ, List.getElem_cons_zero, List.setIfInBounds_toArray, List.set_cons_zero, List.set_cons_succ]
              refine wpAnyH_take (i := 16) (v := undef) rfl (by kernel_rfl) (by kernel_rfl) (by kernel_rfl) (fun _ _ _ h => h) (Or.inr ⟨by rfl, rfl⟩) (by assumption) ?_
              try simp only [Act.put, List.getElem_toArray, List.getElem_cons_succ, List.getElem_cons_zero, List.setIfInBounds_toArray, List.set_cons_zero, List.set_cons_succ]
              refine wpAnyH_take (i := 17) (v := undef) rfl (by kernel_rfl) (by kernel_rfl) (by kernel_rfl) (fun _ _ _ h => h) (Or.inr ⟨by rfl, rfl⟩) (by assumption) ?_
              try simp only [Act.put, List.getElem_toArray, List.getElem_cons_succ, List.getElem_cons_zero, List.setIfInBounds_toArray, List.set_cons_zero, List.set_cons_succ]
              refine wpAnyH_take (i := 18) (v := undef) rfl (by kernel_rfl) (by kernel_rfl) (by kernel_rfl) (fun _ _ _ h => h) (Or.inr ⟨by rfl, rfl⟩) (by assumption) ?_
              try simp only [Act.put, List.getElem_toArray, List.getElem_cons_succ, List.getElem_cons_zero, List.setIfInBounds_toArray, List.set_cons_zero, List.set_cons_succ]
              refine wpAnyH_take (i := 19) (v := undef) rfl (by kernel_rfl) (by kernel_rfl) (by kernel_rfl) (fun _ _ _ h => h) (Or.inr ⟨by rfl, rfl⟩) (by assumption) ?_
              try simp only [Act.put, List.getElem_toArray, List.getElem_cons_succ, List.getElem_cons_zero, List.setIfInBounds_toArray, List.set_cons_zero, List.set_cons_succ]
              refine wpAnyH_take (i := 20) (v := undef) rfl (by kernel_rfl) (by kernel_rfl) (by kernel_rfl) (fun _ _ _ h => h) (Or.inr ⟨by rfl, rfl⟩) (by assumption) ?_
              try simp only [Act.put, List.getElem_toArray, List.getElem_cons_succ, List.getElem_cons_zero, List.setIfInBounds_toArray, List.set_cons_zero, List.set_cons_succ]
              refine wpAnyH_take (i := 21) (v := ?vz21) rfl (by kernel_rfl) (by kernel_rfl) (by kernel_rfl) (fun _ _ _ h => h) (Or.inl ⟨by rfl, ?hyz21⟩) (by assumption) ?restz21
              case hyz21 => (intro w hSw; (try dsimp only at hSw); go_simp; (try (first | with_reducible rfl | rw [if_neg (by omega)])))
              try simp only [Act.put, List.getElem_toArray, List.getElem_cons_succ, List.getElem_cons_zero, List.setIfInBounds_toArray, List.set_cons_zero, List.set_cons_succ]
              refine wpAnyH_take (i := 22) (v := ?vz22) rfl (by kernel_rfl) (by kernel_rfl) (by kernel_rfl) (fun _ _ _ h => h) (Or.inl ⟨by rfl, ?hyz22⟩) (by assumption) ?restz22
              case hyz22 => (intro w hSw; (try dsimp only at hSw); go_simp; (try (first | with_reducible rfl | rw [if_neg (by omega)])))
              try simp only [Act.put, List.getElem_toArray, List.getElem_cons_succ, List.getElem_cons_zero, List.setIfInBounds_toArray, List.set_cons_zero, List.set_cons_succ]
              refine wpAnyH_done (by kernel_rfl) ?_ _
              go_wp2
              exact ⟨⟨i + 1, by go_num, by omega, hD, HN⟩, by simp [intOf]; omega⟩
            exact AllReadyH.nil
        · obtain ⟨q, hq⟩ : ∃ q, q = i - 1 := ⟨_, rfl⟩
          have hqi : q + 1 = i := by omega
          have hql : q < l.length := by omega
          obtain ⟨⟨a_, b_, c_, d_, e_, f_⟩, he⟩ : ∃ e, l[q] = e := ⟨_, rfl⟩
          obtain ⟨c0, c1, c2, c3, c4, c5⟩ := rowsSe (hl.below hB) q hql a_ b_ c_ d_ e_ f_ he
          obtain ⟨b, hb⟩ : ∃ b, ltSe (a_, b_) (a', b') = b := ⟨_, rfl⟩
          have HB := Lib.hid hb
          have HADJ : Hid (∃ h : q + 1 < l.length, ltSe (keySe l[q]) (keySe l[q + 1]) = b) := by
            subst hqi
            exact ⟨hil, by rw [he, he', ← hb]; rfl⟩
          have hw : IntKind.i64.wrap ((i : Int) - 1) = ((q : Nat) : Int) := by
            have : (i : Int) - 1 = (q : Int) := by omega
            rw [this, IntKind.wrap_i64]; omega
          have x1 : (0 : Int) ≤ (q : Int) := by omega
          have x2 : (q : Int) < (n : Int) := by omega
          have hg : 0 < i := by omega
          have hg3 : (0 : Int) < (i : Int) := by omega
          have HQI := Lib.hid hqi
          clear hb he he' hq hqi hi0
          go_wp2_with fail
          go_region_held3 (fun w' => w'.cell? (ad.add (q * 6)) = some (.string a_) ∧ w'.cell? ⟨(ad.add (q * 6)).block, (ad.add (q * 6)).off + 1, none⟩ = some (.int .i64 b_) ∧ w'.cell? ⟨(ad.add (q * 6)).block, (ad.add (q * 6)).off + 2, none⟩ = some (.int .i64 c_) ∧ w'.cell? ⟨(ad.add (q * 6)).block, (ad.add (q * 6)).off + 3, none⟩ = some (.int .i64 d_) ∧ w'.cell? ⟨(ad.add (q * 6)).block, (ad.add (q * 6)).off + 4, none⟩ = some (.int .i64 e_) ∧ w'.cell? ⟨(ad.add (q * 6)).block, (ad.add (q * 6)).off + 5, none⟩ = some (.string f_) ∧ w'.cell? (ad.add (i * 6)) = some (.string a') ∧ w'.cell? ⟨(ad.add (i * 6)).block, (ad.add (i * 6)).off + 1, none⟩ = some (.int .i64 b') ∧ w'.cell? ⟨(ad.add (i * 6)).block, (ad.add (i * 6)).off + 2, none⟩ = some (.int .i64 c') ∧ w'.cell? ⟨(ad.add (i * 6)).block, (ad.add (i * 6)).off + 3, none⟩ = some (.int .i64 d') ∧ w'.cell? ⟨(ad.add (i * 6)).block, (ad.add (i * 6)).off + 4, none⟩ = some (.int .i64 e') ∧ w'.cell? ⟨(ad.add (i * 6)).block, (ad.add (i * 6)).off + 5, none⟩ = some (.string f')) (exact ⟨c0, c1, c2, c3, c4, c5, d0, d1, d2, d3, d4, d5⟩) (((first | (go_at_call 86; refine (re_ (refOne_calls a' b' c' d' e' f' _ z1 z2) (ret_bool HO.out)).mono ?_) | (go_at_call 87; refine (re_ (refAheadS_calls a_ b_ c_ d_ e_ f_ a' b' c' d' e' f' _) (ret_bool HB.out)).mono ?_)); rintro e wx ⟨rfl, hbx⟩; replace hD := below_call hD hbx; replace c0 := cell_below hbx c0; replace c1 := cell_below hbx c1; replace c2 := cell_below hbx c2; replace c3 := cell_below hbx c3; replace c4 := cell_below hbx c4; replace c5 := cell_below hbx c5; replace d0 := cell_below hbx d0; replace d1 := cell_below hbx d1; replace d2 := cell_below hbx d2; replace d3 := cell_below hbx d3; replace d4 := cell_below hbx d4; replace d5 := cell_below hbx d5; clear hbx))
          all_goals
            clear c0 c1 c2 c3 c4 c5 d0 d1 d2 d3 d4 d5
            cases b with
            | true =>
              have HN : Hid ((∀ j (h : j < l.length), j < i + 1 → oneS l[j] = true) ∧ ∀ j (h : j + 1 < l.length), j + 1 < i + 1 → ltSe (keySe l[j]) (keySe l[j + 1]) = true) := by
                refine ⟨fun j h hj => ?_, fun j h hj => ?_⟩
                · rcases Nat.lt_or_ge j i with h' | h'
                  · exact HT.out.1 j h h'
                  · obtain rfl : j = i := by omega
                    exact HLO.out
                · rcases Nat.lt_or_ge (j + 1) i with h' | h'
                  · exact HT.out.2 j h h'
                  · obtain rfl : j = q := by have := HQI.out; omega
                    exact HADJ.out.2
              go_wp2
              exact ⟨⟨i + 1, by go_num, by omega, hD, HN⟩, by simp [intOf]; omega⟩
            | false =>
              have HF : Hid (r = false) := by
                show _ = _
                rw [← HR.out]
                unfold maySe
                rw [adjS_no l q HADJ.out.1 HADJ.out.2]
                simp
              go_wp2
              go_ret
              rw [HF.out]
              exact ⟨rfl, hD⟩
    · have hin : i = n := by omega
      subst hin
      have HF : Hid (r = true) := by
        show _ = _
        rw [← HR.out, maySe_iff]
        refine ⟨by have := EA.out; omega, fun s hs => ?_, fun j h => HT.out.2 j h (by have := EA.out; omega)⟩
        obtain ⟨j, hj, rfl⟩ := List.getElem_of_mem hs
        exact HT.out.1 j hj (by have := EA.out; omega)
      go_wp2
      go_ret
      rw [HF.out]
      exact ⟨rfl, hB⟩
end Go.Proofs.YtbpfcjdjhponaaaGreat
