/-
Contracts: how two names stand, of the program and of the reference.
-/
import Derived.Test.YtocdoddmaopdbaaIdentA
import Derived.Test.YtocdoddmaopdbaaShelf
import Derived.Test.YtocdoddmaopdbaaSpecC
namespace Go.Proofs.Ytocdoddmaopdbaa
open Go.RowKit Sp

def enI (x : Int) : List Value := [.int .i64 x]
def enS (s : ByteArray) : List Value := [.string s]
theorem enI_len (x : Int) : (enI x).length = 1 := rfl
theorem enS_len (x : ByteArray) : (enS x).length = 1 := rfl
theorem enS_one (x : ByteArray) : ∀ u ∈ enS x, u.oneCell' = true := fun u hu => by rw [enS, List.mem_singleton] at hu; rw [hu]; rfl

theorem bytesLess_eq : ∀ x y : List UInt8, Op.bytesLess x y = ltL x y
  | [], [] => rfl
  | [], _ :: _ => rfl
  | _ :: _, [] => rfl
  | a :: x, b :: y => by simp only [Op.bytesLess, ltL, bytesLess_eq x y]
theorem bytesLess_less (a b : ByteArray) : Op.bytesLess a.toList b.toList = ltL a.data.toList b.data.toList := by
  rw [ByteArray.toList_eq, ByteArray.toList_eq, bytesLess_eq]
theorem compareBytes_neg : ∀ x y : List UInt8, (Lib.compareBytes x y < 0) = (ltL x y = true)
  | [], [] => by simp [Lib.compareBytes, ltL]
  | [], _ :: _ => by simp [Lib.compareBytes, ltL]
  | _ :: _, [] => by simp [Lib.compareBytes, ltL]
  | a :: x, b :: y => by
    simp only [Lib.compareBytes, ltL]
    by_cases h : a < b
    · rw [if_pos h]; simp [h]
    · rw [if_neg h]
      by_cases h2 : b < a
      · rw [if_pos h2]
        have hne : (a == b) = false := by
          rw [beq_eq_false_iff_ne]
          rintro rfl
          exact UInt8.lt_irrefl _ h2
        simp [h, hne]
      · rw [if_neg h2]
        have he : a = b := by
          by_cases e : a = b
          · exact e
          · rcases UInt8.lt_or_lt_of_ne e with e | e
            · exact absurd e h
            · exact absurd e h2
        subst he
        simp [compareBytes_neg x y]

/-- What 'compare' answers. -/
def cmpS (a b : ByteArray) : Int := if Lib.compareInt a.size b.size ≠ 0 then Lib.compareInt a.size b.size else Lib.compareBytes a.data.toList b.data.toList
theorem cmpS_neg (a b : ByteArray) : decide (cmpS a b < 0) = less a b := by
  unfold cmpS less Lib.compareInt
  rcases Nat.lt_trichotomy a.size b.size with h | h | h
  · simp [h]
  · simp [h, compareBytes_neg]
  · have h1 : ¬ a.size < b.size := by omega
    have h2 : ¬ a.size = b.size := by omega
    have h3 : ¬ ((a.size : Int) < b.size) := by omega
    have h4 : ((b.size : Int) < a.size) := by omega
    simp [h1, h2, h4]

/-- The first number that is not 0. -/
def orL : List Int → Int
  | [] => 0
  | x :: l => if x ≠ 0 then x else orL l
theorem orL_two (x y : Int) : orL [x, y] = if x ≠ 0 then x else y := by
  by_cases h : x = 0 <;> by_cases h2 : y = 0 <;> simp [orL, h, h2]
theorem orL_drop (xs : List Int) (k : Nat) (h : k < xs.length) : orL (xs.drop k) = if xs[k] ≠ 0 then xs[k] else orL (xs.drop (k + 1)) := by
  rw [List.drop_eq_getElem_cons h]; rfl

set_option maxRecDepth 100000 in
theorem cmpOr_calls (A : Option Addr) (n c : Nat) (xs : List Int) (w : World) (h : Row enI 1 w (.slice A n c) xs) (hn : n ≤ 100) :
    Calls Try.prog 75 #[.slice A n c] w fun e w' => e = .returned (.int .i64 (orL xs)) ∧ w = w' := by
  have hl := h.len_eq
  have HL := Lib.hid hl
  clear hl
  go_enter Try.func75, Try.ntmps75
  go_wp2
  go_loop [8] (fun v8 => ∃ k : Nat, v8 = .int .i64 k ∧ k ≤ n ∧ Hid (orL (xs.drop k) = orL xs)) (fun v8 => (n - intOf v8).toNat)
  case atStart => exact ⟨0, rfl, Nat.zero_le _, by show _ = _; rw [List.drop_zero]⟩
  case round =>
    obtain ⟨k, rfl, hk, HF⟩ := hrel
    by_cases hlt : k < n
    · have hk' : k < xs.length := by have := HL.out; omega
      obtain ⟨ad, rfl, hc⟩ := h.get1 (f := Value.int .i64) k hk'
      have hd := orL_drop xs k hk'
      obtain ⟨x, hx⟩ : ∃ x, xs[k] = x := ⟨_, rfl⟩
      rw [hx] at hc hd
      clear hx
      rw [HF.out] at hd
      by_cases h0 : x = 0
      · have hb : (x != 0) = false := by simp [h0]
        have HF2 : Hid (orL (xs.drop (k + 1)) = orL xs) := by rw [hd, if_neg (by simp [h0])]; rfl
        clear h0 hd
        go_wp2
        go_round
        case rel => exact ⟨k + 1, by go_num, by omega, HF2⟩
        case measure => simp [intOf]; omega
      · have hb : (x != 0) = true := by simp [h0]
        have HF2 : Hid (orL xs = x) := by rw [hd, if_pos h0]; rfl
        clear h0 hd
        go_wp2
        go_ret
        exact ⟨ret_int HF2.out.symm, rfl⟩
    · have HF2 : Hid (orL xs = 0) := by
        have := HF.out
        rw [List.drop_eq_nil_of_le (by have := HL.out; omega)] at this
        exact this.symm
      go_wp2
      go_ret
      exact ⟨ret_int HF2.out.symm, rfl⟩

set_option maxRecDepth 100000 in
theorem compare_exact (a b : ByteArray) (w : World) :
    Calls Try.prog 65 #[.string a, .string b] w fun e w' => e = .returned (.int .i64 (cmpS a b)) ∧ ∃ o, w' = w.alloc o := by
  have hfin : orL [Lib.compareInt a.size b.size, Lib.compareBytes a.data.toList b.data.toList] = cmpS a b := by
    unfold cmpS
    exact orL_two _ _
  have HF := Lib.hid hfin
  clear hfin
  go_enter Try.func65, Try.ntmps65
  go_wp2_with fail
  refine (Try.cmp_Compare_int _ _ _).mono ?_
  rintro e w1 ⟨rfl, rfl⟩
  go_wp2_with fail
  refine (Try.strings_Compare _ _ _).mono ?_
  rintro e w1 ⟨rfl, rfl⟩
  go_wp2_with fail
  refine (cmpOr_calls _ 2 2 [Lib.compareInt a.size b.size, Lib.compareBytes a.data.toList b.data.toList] _ (Own.lit (base := 0) enI_len w1 _ _ 2 rfl rfl (Nat.zero_le _) (by omega)).row (by omega)).mono ?_
  rintro e w2 ⟨rfl, rfl⟩
  go_wp2
  go_ret
  exact ⟨ret_int HF.out, _, rfl⟩
theorem compare_calls (a b : ByteArray) (w : World) :
    Calls Try.prog 65 #[.string a, .string b] w fun e w' => e = .returned (.int .i64 (cmpS a b)) ∧ Below w.heap.size w w' :=
  (compare_exact a b w).mono fun _ _ ⟨he, o, hw⟩ => ⟨he, by rw [hw]; exact (Below.refl _ _).alloc (Nat.le_refl _) _⟩

theorem less_of_cmp (a b : ByteArray) : decide (cmpS a b < 0) = less a b := cmpS_neg a b
set_option maxRecDepth 100000 in
theorem Less_calls (a b : ByteArray) (w : World) :
    Calls Try.prog 67 #[.string a, .string b] w fun e w' => e = .returned (.bool (less a b)) ∧ Below w.heap.size w w' := by
  go_enter Try.func67, Try.ntmps67
  go_wp2_with fail
  refine (compare_calls a b _).mono ?_
  rintro e w1 ⟨rfl, hb1⟩
  go_wp2
  go_ret
  exact ⟨ret_bool (cmpS_neg a b), hb1⟩

set_option maxRecDepth 100000 in
theorem refLess_calls (a b : ByteArray) (w : World) :
    Calls Try.prog 25 #[.string a, .string b] w fun e w' => e = .returned (.bool (less a b)) ∧ w = w' := by
  have hl := bytesLess_less a b
  have HL := Lib.hid hl
  clear hl
  rcases Nat.lt_trichotomy a.size b.size with h | h | h
  · go_enter Try.func25, Try.ntmps25
    go_wp2
    go_ret
    exact ⟨ret_bool (a := true) (by simp [less, h]), rfl⟩
  · have h1 : ¬ a.size < b.size := by omega
    have hb1 : ((a.size : Int) == b.size) = true := by simp [h]
    have H := Lib.hid h
    clear h
    go_enter Try.func25, Try.ntmps25
    go_wp2
    go_ret
    refine ⟨ret_bool (a := Op.bytesLess a.toList b.toList) ?_, rfl⟩
    rw [HL.out]
    simp [less, H.out]
  · have h1 : ¬ a.size < b.size := by omega
    have hb1 : ((a.size : Int) == b.size) = false := by simp; omega
    go_enter Try.func25, Try.ntmps25
    go_wp2
    go_ret
    refine ⟨ret_bool (a := false) ?_, rfl⟩
    have h2 : ¬ a.size = b.size := by omega
    simp [less, h1, h2]
end Go.Proofs.Ytocdoddmaopdbaa
