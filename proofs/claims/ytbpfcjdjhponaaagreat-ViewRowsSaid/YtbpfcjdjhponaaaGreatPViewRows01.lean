import Derived.Test.YtbpfcjdjhponaaaGreatProg
import Derived.Deep.Slices
import Derived.Laws.BitsLemmas
import Derived.ArgAppend
import Derived.Deep.RegionHeld3
import Derived.Lib.SlicesCompact
import Derived.Sort.OwnSorted
import Derived.Shelf.SlSortCmp.NoneTotal
import Derived.Lib.AppendZeros
import Derived.Deep.QuietTactic
import Derived.BigQuiet
import Derived.Laws.Rows
import Derived.Test.YtbpfcjdjhponaaaGreatPViewRows00
set_option linter.unusedVariables false
set_option linter.unusedSimpArgs false
set_option linter.unusedSectionVars false
namespace Go.Proofs.YtbpfcjdjhponaaaGreat
open Go.RowKit
open Sp
def enEn (x : En) : List Value := [.string x.o, .string x.c, .bool x.it.to, .bool x.it.fr, .bool x.it.ou, .bool x.it.in_, .bool x.it.bl]
abbrev vaEn (x : En) : Value := .agg #[.string x.o, .string x.c, .bool x.it.to, .bool x.it.fr, .bool x.it.ou, .bool x.it.in_, .bool x.it.bl]
theorem enEn_len (x : En) : (enEn x).length = 7 := rfl
theorem enEn_one (x : En) : ∀ u ∈ enEn x, u.oneCell' = true := by intro u hu; simp only [enEn, List.mem_cons, List.mem_nil_iff, or_false] at hu; rcases hu with rfl | rfl | rfl | rfl | rfl | rfl | rfl <;> rfl
abbrev zvEn : Value := .agg #[.string ⟨#[]⟩, .string ⟨#[]⟩, .bool false, .bool false, .bool false, .bool false, .bool false]
theorem infoEn : (Tryz.prog.info? 105).map (fun i => (i.zero, i.size, i.bytes)) = some (some zvEn, 7, 40) := by kernel_rfl
abbrev bxEn (a_ : ByteArray) (b_ : ByteArray) (c_ : Bool) (d_ : Bool) (e_ : Bool) (f_ : Bool) (g_ : Bool) : Obj := .cells #[.string a_, .string b_, .bool c_, .bool d_, .bool e_, .bool f_, .bool g_] 105
theorem rowEn {W : World} {A : Option Addr} {n c : Nat} {l : List En} (h : Row enEn 7 W (.slice A n c) l) (i : Nat) (hi : i < l.length) (a_ : ByteArray) (b_ : ByteArray) (c_ : Bool) (d_ : Bool) (e_ : Bool) (f_ : Bool) (g_ : Bool) (he : l[i] = ⟨a_, b_, c_, d_, e_, f_, g_⟩) :
    ∃ ad, A = some ad ∧ W.cell? (ad.add (i * 7)) = some (.string a_) ∧ W.cell? ⟨(ad.add (i * 7)).block, (ad.add (i * 7)).off + 1, none⟩ = some (.string b_) ∧ W.cell? ⟨(ad.add (i * 7)).block, (ad.add (i * 7)).off + 2, none⟩ = some (.bool c_) ∧ W.cell? ⟨(ad.add (i * 7)).block, (ad.add (i * 7)).off + 3, none⟩ = some (.bool d_) ∧ W.cell? ⟨(ad.add (i * 7)).block, (ad.add (i * 7)).off + 4, none⟩ = some (.bool e_) ∧ W.cell? ⟨(ad.add (i * 7)).block, (ad.add (i * 7)).off + 5, none⟩ = some (.bool f_) ∧ W.cell? ⟨(ad.add (i * 7)).block, (ad.add (i * 7)).off + 6, none⟩ = some (.bool g_) := by
  obtain ⟨ad, e, hc⟩ := h.get enEn_len i hi
  rw [he] at hc
  exact ⟨ad, e, hc 0 (by omega), hc 1 (by omega), hc 2 (by omega), hc 3 (by omega), hc 4 (by omega), hc 5 (by omega), hc 6 (by omega)⟩
theorem rowsEn {W : World} {ad : Addr} {n c : Nat} {l : List En} (h : Row enEn 7 W (.slice (some ad) n c) l) (i : Nat) (hi : i < l.length) (a_ : ByteArray) (b_ : ByteArray) (c_ : Bool) (d_ : Bool) (e_ : Bool) (f_ : Bool) (g_ : Bool) (he : l[i] = ⟨a_, b_, c_, d_, e_, f_, g_⟩) :
    W.cell? (ad.add (i * 7)) = some (.string a_) ∧ W.cell? ⟨(ad.add (i * 7)).block, (ad.add (i * 7)).off + 1, none⟩ = some (.string b_) ∧ W.cell? ⟨(ad.add (i * 7)).block, (ad.add (i * 7)).off + 2, none⟩ = some (.bool c_) ∧ W.cell? ⟨(ad.add (i * 7)).block, (ad.add (i * 7)).off + 3, none⟩ = some (.bool d_) ∧ W.cell? ⟨(ad.add (i * 7)).block, (ad.add (i * 7)).off + 4, none⟩ = some (.bool e_) ∧ W.cell? ⟨(ad.add (i * 7)).block, (ad.add (i * 7)).off + 5, none⟩ = some (.bool f_) ∧ W.cell? ⟨(ad.add (i * 7)).block, (ad.add (i * 7)).off + 6, none⟩ = some (.bool g_) := by
  obtain ⟨ad', e, hc⟩ := rowEn h i hi a_ b_ c_ d_ e_ f_ g_ he
  injection e with e
  subst e
  exact hc
theorem cellsEn {W : World} {g : Nat} (a_ : ByteArray) (b_ : ByteArray) (c_ : Bool) (d_ : Bool) (e_ : Bool) (f_ : Bool) (g_ : Bool) (h : W.heap[g]? = some (bxEn a_ b_ c_ d_ e_ f_ g_)) :
    W.cell? ⟨g, 0, none⟩ = some (.string a_) ∧ W.cell? ⟨g, 1, none⟩ = some (.string b_) ∧ W.cell? ⟨g, 2, none⟩ = some (.bool c_) ∧ W.cell? ⟨g, 3, none⟩ = some (.bool d_) ∧ W.cell? ⟨g, 4, none⟩ = some (.bool e_) ∧ W.cell? ⟨g, 5, none⟩ = some (.bool f_) ∧ W.cell? ⟨g, 6, none⟩ = some (.bool g_) ∧ g < W.heap.size :=
  ⟨by simp [World.cell?, h], by simp [World.cell?, h], by simp [World.cell?, h], by simp [World.cell?, h], by simp [World.cell?, h], by simp [World.cell?, h], by simp [World.cell?, h], (Array.getElem?_eq_some_iff.1 h).1⟩
end Go.Proofs.YtbpfcjdjhponaaaGreat
namespace Go.Proofs.YtbpfcjdjhponaaaGreat
open Go.RowKit Go.ChangeShapes Go.WideShapes
open Sp
def OkEn (x : En) : Prop := x.o.size ≤ maxLen ∧ x.c.size ≤ maxLen
section
variable {H : Type} {enc : TypeId × Value → H} {w : World} {base : Nat} {spare : Nat → Bool} {held : Bool}
set_option maxRecDepth 100000 in
theorem ceEn {n : Nat} {cs : List Value} {y : DataW H × List MemPlace} (h : DataW.trod enc Tryz.prog w base spare held n 105 cs = some y) : ∃ e : En, cs = enEn e ∧ OkEn e := by
  have ck : Tryz.prog.cellsOf 105 = 7 := by kernel_rfl
  have c0_ : Tryz.prog.cellsOf 9 = 1 := by kernel_rfl
  have c1_ : Tryz.prog.cellsOf 103 = 5 := by kernel_rfl
  have c2_ : Tryz.prog.cellsOf 4 = 1 := by kernel_rfl
  obtain ⟨ys0, m0, _, _, hl0, hlen0, hf0⟩ := DataW.trod_struct Tryz.underlying105 h
  rw [ck] at hl0
  obtain ⟨a0, a1, a2, a3, a4, a5, a6, rfl⟩ : ∃ a0 a1 a2 a3 a4 a5 a6, cs = [a0, a1, a2, a3, a4, a5, a6] := by
    match cs, hl0 with
    | [a0, a1, a2, a3, a4, a5, a6], _ => exact ⟨_, _, _, _, _, _, _, rfl⟩
  obtain ⟨y0_0, y0_1, y0_2, rfl⟩ : ∃ y0_0 y0_1 y0_2, ys0 = [y0_0, y0_1, y0_2] := by
    match ys0, hlen0 with
    | [y0_0, y0_1, y0_2], _ => exact ⟨_, _, _, rfl⟩
  have h0_0 := hf0 0 _ rfl
  have h0_1 := hf0 1 _ rfl
  have h0_2 := hf0 2 _ rfl
  simp only [List.getElem_toArray, List.getElem_cons_zero, List.getElem_cons_succ, c0_, c1_, c2_, List.drop_zero, List.drop_succ_cons, List.take_succ_cons, List.take_zero, List.getElem?_cons_zero, List.getElem?_cons_succ] at h0_0 h0_1 h0_2
  obtain ⟨z0, e0, _, g0⟩ := DataW.trod_string Tryz.underlying9 h0_0
  obtain ⟨z1, e1, _, g1⟩ := DataW.trod_string Tryz.underlying9 h0_1
  obtain ⟨ys1, m1, _, _, hl1, hlen1, hf1⟩ := DataW.trod_struct Tryz.underlying103 h0_2
  obtain ⟨y1_0, y1_1, y1_2, y1_3, y1_4, rfl⟩ : ∃ y1_0 y1_1 y1_2 y1_3 y1_4, ys1 = [y1_0, y1_1, y1_2, y1_3, y1_4] := by
    match ys1, hlen1 with
    | [y1_0, y1_1, y1_2, y1_3, y1_4], _ => exact ⟨_, _, _, _, _, rfl⟩
  have h1_0 := hf1 0 _ rfl
  have h1_1 := hf1 1 _ rfl
  have h1_2 := hf1 2 _ rfl
  have h1_3 := hf1 3 _ rfl
  have h1_4 := hf1 4 _ rfl
  simp only [List.getElem_toArray, List.getElem_cons_zero, List.getElem_cons_succ, c0_, c1_, c2_, List.drop_zero, List.drop_succ_cons, List.take_succ_cons, List.take_zero, List.getElem?_cons_zero, List.getElem?_cons_succ] at h1_0 h1_1 h1_2 h1_3 h1_4
  obtain ⟨z2, e2, _⟩ := DataW.trod_bool Tryz.underlying4 h1_0
  obtain ⟨z3, e3, _⟩ := DataW.trod_bool Tryz.underlying4 h1_1
  obtain ⟨z4, e4, _⟩ := DataW.trod_bool Tryz.underlying4 h1_2
  obtain ⟨z5, e5, _⟩ := DataW.trod_bool Tryz.underlying4 h1_3
  obtain ⟨z6, e6, _⟩ := DataW.trod_bool Tryz.underlying4 h1_4
  cases e0
  cases e1
  cases e2
  cases e3
  cases e4
  cases e5
  cases e6
  exact ⟨⟨z0, z1, z2, z3, z4, z5, z6⟩, rfl, g0, g1⟩
theorem rwEn {t : TypeId} {a : Option Addr} {n c : Nat} {d : DataW H} {p : List MemPlace} (ht : Tryz.prog.underlying t = some (.slice 105))
    (h : DataW.Trod enc Tryz.prog w 0 (fun _ => true) true t (.slice a n c) d p) : ∃ l, Row enEn 7 w (.slice a n c) l ∧ ∀ e ∈ l, OkEn e := by
  obtain ⟨fuel, hf⟩ := h
  rcases Go.Deep.open_slice ht hf with ⟨hcs, _⟩ | ⟨ad, len, cap, m, k, D, Pl, hcs, _, hl, hm, hmm, _, hi⟩
  · simp [Value.cells] at hcs
    obtain ⟨rfl, rfl, rfl⟩ := hcs
    exact ⟨[], Row.nil _ _ _, by simp⟩
  · simp [Value.cells] at hcs
    obtain ⟨rfl, rfl, rfl⟩ := hcs
    have ck : Tryz.prog.cellsOf 105 = 7 := by kernel_rfl
    rw [ck] at hi
    have hn : n ≤ m := by rw [hmm, if_pos rfl]; exact hl
    have hev : ∀ i, i < n → ∃ e : En, OkEn e ∧ ∀ j u, (enEn e)[j]? = some u → w.cell? (ad.add (i * 7 + j)) = some u := by
      intro i hi'
      obtain ⟨cs', hc, ht'⟩ := hi i (by omega)
      obtain ⟨e, rfl, he⟩ := ceEn ht'
      obtain ⟨_, _, hat⟩ := World.cells?_some hc
      refine ⟨e, he, fun j u hj => ?_⟩
      have hj8 : j < 7 := (List.getElem?_eq_some_iff.1 hj).1
      have := hat j hj8
      rw [hj] at this
      rw [← this, Go.Deep.add_add]
    have hex : ∃ l : List En, l.length = n ∧ ∀ i (h : i < l.length), OkEn l[i] ∧ ∀ j u, (enEn l[i])[j]? = some u → w.cell? (ad.add (i * 7 + j)) = some u := by
      refine ⟨List.ofFn (fun i : Fin n => (hev i.1 i.2).choose), by simp, fun i h => ?_⟩
      have hin : i < n := by simpa using h
      have hc := (hev i hin).choose_spec
      simp only [List.getElem_ofFn]
      exact hc
    obtain ⟨l, hln, hle⟩ := hex
    refine ⟨l, ⟨some ad, c, by rw [hln], by omega, hm, by rw [flat_length enEn_len, hln], fun hp => ⟨ad, rfl, fun j u hu => ?_⟩⟩, fun e he => ?_⟩
    · have hj : j < l.length * 7 := by rw [← flat_length enEn_len]; exact (List.getElem?_eq_some_iff.1 hu).1
      have hi8 : j / 7 < l.length := by omega
      have := (hle (j / 7) hi8).2 (j % 7) u
      rw [show j / 7 * 7 + j % 7 = j by omega] at this
      refine this ?_
      have hfg := flat_get enEn_len l (j / 7) (j % 7) hi8 (by omega)
      rw [show j / 7 * 7 + j % 7 = j by omega] at hfg
      rw [← hfg, hu]
    · obtain ⟨i, hi', rfl⟩ := List.getElem_of_mem he
      exact (hle i hi').1
end
end Go.Proofs.YtbpfcjdjhponaaaGreat
namespace Go.Proofs.YtbpfcjdjhponaaaGreat
open Go.RowKit
namespace Sp
def oddB (c : UInt8) : Bool := decide (c.toNat < 32) || decide (126 < c.toNat)
def oddL (l : List UInt8) : Bool := l.any oddB
def mayV (a p n : Int) (t : ByteArray) : Bool :=
  decide (1 ≤ a) && (decide (a ≤ 4) && (decide (-128 ≤ p) && (decide (p ≤ 127) && (decide (0 ≤ n) && (decide (n ≤ 1099511627776) && (decide ((t.size : Int) ≤ 32) && !oddL t.data.toList))))))
def evenTo (s : ByteArray) (k : Nat) : Prop := ∀ j (h : j < s.size), j < k → oddB s[j] = false
theorem evenTo_succ (s : ByteArray) (k : Nat) (h : k < s.size) (o : evenTo s k) (hk : oddB s[k] = false) : evenTo s (k + 1) := by
  intro j hj hlt
  rcases Nat.lt_or_ge j k with h' | h'
  · exact o j hj h'
  · obtain rfl : j = k := by omega
    exact hk
theorem oddL_false (s : ByteArray) (k : Nat) (hk : s.size ≤ k) (o : evenTo s k) : oddL s.data.toList = false := by
  unfold oddL
  rw [List.any_eq_false]
  intro x hx
  obtain ⟨j, hj, rfl⟩ := List.getElem_of_mem hx
  have hj' : j < s.size := by rw [size_eq_length]; exact hj
  have := o j hj' (by omega)
  rw [show s.data.toList[j] = s[j] from rfl, this]
  simp
theorem oddL_true (s : ByteArray) (k : Nat) (hk : k < s.size) (o : oddB s[k] = true) : oddL s.data.toList = true := by
  unfold oddL
  rw [List.any_eq_true]
  exact ⟨s[k], List.getElem_mem (by rw [← size_eq_length]; exact hk), o⟩
end Sp
open Sp
set_option maxRecDepth 100000 in
theorem odd_calls (c : UInt8) (w : World) : Calls Tryz.prog 124 #[.int .u8 (c.toNat : Nat)] w fun e w' => e = .returned (.bool (oddB c)) ∧ w = w' := by
  obtain ⟨n, hn⟩ : ∃ n, c.toNat = n := ⟨_, rfl⟩
  have HV : Hid ((decide ((n : Int) < 32) || decide (126 < (n : Int))) = oddB c) := by
    show _ = _
    rw [oddB, hn]
    congr 1 <;> (rw [decide_eq_decide]; omega)
  rw [hn]
  clear hn
  by_cases h : (n : Int) < 32
  · go_enter Tryz.func124, Tryz.ntmps124
    go_wp2
    go_ret
    exact ⟨ret_bool (by rw [← HV.out, decide_eq_true h]; rfl), rfl⟩
  · go_enter Tryz.func124, Tryz.ntmps124
    go_wp2
    go_ret
    exact ⟨ret_bool (by rw [← HV.out, decide_eq_false (show ¬ (n : Int) < 32 by omega)]; rfl), rfl⟩
theorem odd_is (c : UInt8) (n : Nat) (b : Bool) (w : World) (hc : Hid (c.toNat = n)) (hb : Hid (oddB c = b)) : Calls Tryz.prog 124 #[.int .u8 (n : Nat)] w fun e w' => e = .returned (.bool b) ∧ w = w' := by
  rw [← hc.out, ← hb.out]
  exact odd_calls c w
set_option maxHeartbeats 1000000 in
set_option maxRecDepth 100000 in
theorem indexOdd_calls (s : ByteArray) (k c : Nat) (w : World) (hs : s.size ≤ 140737488351232) (ht : TextRow 5 w k s) :
    Calls Tryz.prog 165 #[.slice (some ⟨k, 0, none⟩) s.size c, .func (.func 124) #[] #[]] w fun e w' => ∃ r : Int, e = .returned (.int .i64 r) ∧ decide (0 ≤ r) = oddL s.data.toList ∧ w = w' := by
  go_enter Tryz.func165, Tryz.ntmps165
  go_wp2
  go_loop [8] (fun v8 => ∃ i : Nat, v8 = .int .i64 i ∧ i ≤ s.size ∧ Hid (evenTo s i)) (fun v8 => (s.size - intOf v8).toNat)
  case atStart => exact ⟨0, rfl, Nat.zero_le _, fun j _ h => absurd h (by omega)⟩
  case round =>
    obtain ⟨i, rfl, hi, HE⟩ := hrel
    by_cases hlt : i < s.size
    · obtain ⟨n, hn⟩ : ∃ n, (s[i]'hlt).toNat = n := ⟨_, rfl⟩
      have hcell : w.cell? ⟨k, i, none⟩ = some (.int .u8 n) := by rw [ht.cell i hlt, hn]
      have HN := Lib.hid hn
      clear hn
      cases hb : oddB (s[i]'hlt) with
      | true =>
        have HB := Lib.hid hb
        clear hb
        have HR : Hid (decide (0 ≤ (i : Int)) = oddL s.data.toList) := by show _ = _; rw [oddL_true s i hlt HB.out]; exact decide_eq_true (by omega)
        go_wp2_with (go_at_call 124; refine (odd_is (s[i]'hlt) n true _ HN HB).mono ?_; rintro e w1 ⟨rfl, rfl⟩)
        go_ret
        exact ⟨_, rfl, HR.out, rfl⟩
      | false =>
        have HB := Lib.hid hb
        clear hb
        have HE2 : Hid (evenTo s (i + 1)) := evenTo_succ s i hlt HE.out HB.out
        go_wp2_with (go_at_call 124; refine (odd_is (s[i]'hlt) n false _ HN HB).mono ?_; rintro e w1 ⟨rfl, rfl⟩)
        go_round
        case rel => exact ⟨i + 1, by go_num, by omega, HE2⟩
        case measure => simp [intOf]; omega
    · have HR : Hid (decide (0 ≤ (-1 : Int)) = oddL s.data.toList) := by show _ = _; rw [oddL_false s i (by omega) HE.out]; rfl
      go_wp2
      go_ret
      exact ⟨_, rfl, HR.out, rfl⟩
set_option maxHeartbeats 1000000 in
set_option maxRecDepth 100000 in
theorem containsOdd_calls (s : ByteArray) (k c : Nat) (w : World) (hs : s.size ≤ 140737488351232) (ht : TextRow 5 w k s) :
    Calls Tryz.prog 125 #[.slice (some ⟨k, 0, none⟩) s.size c, .func (.func 124) #[] #[]] w fun e w' => e = .returned (.bool (oddL s.data.toList)) ∧ w = w' := by
  go_enter Tryz.func125, Tryz.ntmps125
  go_wp2_with fail
  refine (indexOdd_calls s k c w hs ht).mono ?_
  rintro e w1 ⟨r, rfl, hr, rfl⟩
  have HR := Lib.hid hr
  clear hr
  go_wp2
  go_ret
  exact ⟨ret_bool HR.out, rfl⟩
set_option maxHeartbeats 2000000 in
set_option maxRecDepth 100000 in
theorem may_no0 (a p n : Int) (t : ByteArray) (w : World) (ht : t.size ≤ 140737488351232)  (h : a < 1) :
    Calls Tryz.prog 75 #[.agg #[.int .i64 a, .int .i64 p, .int .i64 n, .string t]] w fun e w' => e = .returned (.bool (mayV a p n t)) ∧ Below w.heap.size w w' := by
  have HV : Hid (mayV a p n t = false) := by show _ = _; unfold mayV; rw [decide_eq_false (show ¬ (1 ≤ a) by omega)]; rfl
  go_enter Tryz.func75, Tryz.ntmps75
  go_wp2
  go_ret
  rw [HV.out]
  exact ⟨rfl, (Below.refl _ _).alloc (Nat.le_refl _) _⟩
set_option maxHeartbeats 2000000 in
set_option maxRecDepth 100000 in
theorem may_no1 (a p n : Int) (t : ByteArray) (w : World) (ht : t.size ≤ 140737488351232) (h0 : 1 ≤ a) (h : 4 < a) :
    Calls Tryz.prog 75 #[.agg #[.int .i64 a, .int .i64 p, .int .i64 n, .string t]] w fun e w' => e = .returned (.bool (mayV a p n t)) ∧ Below w.heap.size w w' := by
  have HV : Hid (mayV a p n t = false) := by show _ = _; unfold mayV; rw [decide_eq_true h0, decide_eq_false (show ¬ (a ≤ 4) by omega)]; rfl
  go_enter Tryz.func75, Tryz.ntmps75
  go_wp2
  go_ret
  rw [HV.out]
  exact ⟨rfl, (Below.refl _ _).alloc (Nat.le_refl _) _⟩
set_option maxHeartbeats 2000000 in
set_option maxRecDepth 100000 in
theorem may_no2 (a p n : Int) (t : ByteArray) (w : World) (ht : t.size ≤ 140737488351232) (h0 : 1 ≤ a) (h1 : a ≤ 4) (h : p < -128) :
    Calls Tryz.prog 75 #[.agg #[.int .i64 a, .int .i64 p, .int .i64 n, .string t]] w fun e w' => e = .returned (.bool (mayV a p n t)) ∧ Below w.heap.size w w' := by
  have HV : Hid (mayV a p n t = false) := by show _ = _; unfold mayV; rw [decide_eq_true h0, decide_eq_true h1, decide_eq_false (show ¬ (-128 ≤ p) by omega)]; rfl
  go_enter Tryz.func75, Tryz.ntmps75
  go_wp2
  go_ret
  rw [HV.out]
  exact ⟨rfl, (Below.refl _ _).alloc (Nat.le_refl _) _⟩
set_option maxHeartbeats 2000000 in
set_option maxRecDepth 100000 in
theorem may_no3 (a p n : Int) (t : ByteArray) (w : World) (ht : t.size ≤ 140737488351232) (h0 : 1 ≤ a) (h1 : a ≤ 4) (h2 : -128 ≤ p) (h : 127 < p) :
    Calls Tryz.prog 75 #[.agg #[.int .i64 a, .int .i64 p, .int .i64 n, .string t]] w fun e w' => e = .returned (.bool (mayV a p n t)) ∧ Below w.heap.size w w' := by
  have HV : Hid (mayV a p n t = false) := by show _ = _; unfold mayV; rw [decide_eq_true h0, decide_eq_true h1, decide_eq_true h2, decide_eq_false (show ¬ (p ≤ 127) by omega)]; rfl
  go_enter Tryz.func75, Tryz.ntmps75
  go_wp2
  go_ret
  rw [HV.out]
  exact ⟨rfl, (Below.refl _ _).alloc (Nat.le_refl _) _⟩
set_option maxHeartbeats 2000000 in
set_option maxRecDepth 100000 in
theorem may_no4 (a p n : Int) (t : ByteArray) (w : World) (ht : t.size ≤ 140737488351232) (h0 : 1 ≤ a) (h1 : a ≤ 4) (h2 : -128 ≤ p) (h3 : p ≤ 127) (h : n < 0) :
    Calls Tryz.prog 75 #[.agg #[.int .i64 a, .int .i64 p, .int .i64 n, .string t]] w fun e w' => e = .returned (.bool (mayV a p n t)) ∧ Below w.heap.size w w' := by
  have HV : Hid (mayV a p n t = false) := by show _ = _; unfold mayV; rw [decide_eq_true h0, decide_eq_true h1, decide_eq_true h2, decide_eq_true h3, decide_eq_false (show ¬ (0 ≤ n) by omega)]; rfl
  go_enter Tryz.func75, Tryz.ntmps75
  go_wp2
  go_ret
  rw [HV.out]
  exact ⟨rfl, (Below.refl _ _).alloc (Nat.le_refl _) _⟩
set_option maxHeartbeats 2000000 in
set_option maxRecDepth 100000 in
theorem may_no5 (a p n : Int) (t : ByteArray) (w : World) (ht : t.size ≤ 140737488351232) (h0 : 1 ≤ a) (h1 : a ≤ 4) (h2 : -128 ≤ p) (h3 : p ≤ 127) (h4 : 0 ≤ n) (h : 1099511627776 < n) :
    Calls Tryz.prog 75 #[.agg #[.int .i64 a, .int .i64 p, .int .i64 n, .string t]] w fun e w' => e = .returned (.bool (mayV a p n t)) ∧ Below w.heap.size w w' := by
  have HV : Hid (mayV a p n t = false) := by show _ = _; unfold mayV; rw [decide_eq_true h0, decide_eq_true h1, decide_eq_true h2, decide_eq_true h3, decide_eq_true h4, decide_eq_false (show ¬ (n ≤ 1099511627776) by omega)]; rfl
  go_enter Tryz.func75, Tryz.ntmps75
  go_wp2
  go_ret
  rw [HV.out]
  exact ⟨rfl, (Below.refl _ _).alloc (Nat.le_refl _) _⟩
set_option maxHeartbeats 2000000 in
set_option maxRecDepth 100000 in
theorem may_no6 (a p n : Int) (t : ByteArray) (w : World) (ht : t.size ≤ 140737488351232) (h0 : 1 ≤ a) (h1 : a ≤ 4) (h2 : -128 ≤ p) (h3 : p ≤ 127) (h4 : 0 ≤ n) (h5 : n ≤ 1099511627776) (h : 32 < (t.size : Int)) :
    Calls Tryz.prog 75 #[.agg #[.int .i64 a, .int .i64 p, .int .i64 n, .string t]] w fun e w' => e = .returned (.bool (mayV a p n t)) ∧ Below w.heap.size w w' := by
  have HV : Hid (mayV a p n t = false) := by show _ = _; unfold mayV; rw [decide_eq_true h0, decide_eq_true h1, decide_eq_true h2, decide_eq_true h3, decide_eq_true h4, decide_eq_true h5, decide_eq_false (show ¬ ((t.size : Int) ≤ 32) by omega)]; rfl
  go_enter Tryz.func75, Tryz.ntmps75
  go_wp2
  go_ret
  rw [HV.out]
  exact ⟨rfl, (Below.refl _ _).alloc (Nat.le_refl _) _⟩
set_option maxHeartbeats 2000000 in
set_option maxRecDepth 100000 in
theorem may_yes (a p n : Int) (t : ByteArray) (w : World) (ht : t.size ≤ 140737488351232) (h0 : 1 ≤ a) (h1 : a ≤ 4) (h2 : -128 ≤ p) (h3 : p ≤ 127) (h4 : 0 ≤ n) (h5 : n ≤ 1099511627776) (h6 : (t.size : Int) ≤ 32) :
    Calls Tryz.prog 75 #[.agg #[.int .i64 a, .int .i64 p, .int .i64 n, .string t]] w fun e w' => e = .returned (.bool (mayV a p n t)) ∧ Below w.heap.size w w' := by
  have HV : Hid (mayV a p n t = !oddL t.data.toList) := by show _ = _; unfold mayV; rw [decide_eq_true h0, decide_eq_true h1, decide_eq_true h2, decide_eq_true h3, decide_eq_true h4, decide_eq_true h5, decide_eq_true h6]; rfl
  obtain ⟨b, hb⟩ : ∃ b, oddL t.data.toList = b := ⟨_, rfl⟩
  have HB := Lib.hid hb
  clear hb
  have kc := fun W : World => Lib.run_convert_string_bytes (P := Tryz.prog) W 9 80 5 t Tryz.underlying9 Tryz.underlying80 Tryz.underlying5
  have htr : TextRow 5 (Lib.bytesWorld (w.alloc (.cells #[.int .i64 a, .int .i64 p, .int .i64 n, .string t] 27)) 5 t) (w.heap.size + 1) t := by
    have := TextRow.new 5 (w.alloc (.cells #[.int .i64 a, .int .i64 p, .int .i64 n, .string t] 27)) t (by simp only [maxLen]; omega)
    simpa using this
  go_enter Tryz.func75, Tryz.ntmps75
  go_wp2_with fail
  refine (re_ (containsOdd_calls t (w.heap.size + 1) _ _ ht htr) (ret_bool HB.out)).mono ?_
  rintro e w1 ⟨rfl, rfl⟩
  go_wp2
  go_ret
  rw [HV.out, HB.out]
  exact ⟨rfl, below_bytes ((Below.refl _ _).alloc (Nat.le_refl _) _) (by simp) _ _⟩
theorem may_calls (a p n : Int) (t : ByteArray) (w : World) (ht : t.size ≤ 140737488351232) :
    Calls Tryz.prog 75 #[.agg #[.int .i64 a, .int .i64 p, .int .i64 n, .string t]] w fun e w' => e = .returned (.bool (mayV a p n t)) ∧ Below w.heap.size w w' := by
  by_cases h0' : a < 1
  · exact may_no0 a p n t w ht  h0'
  have h0 : 1 ≤ a := by omega
  by_cases h1' : 4 < a
  · exact may_no1 a p n t w ht h0 h1'
  have h1 : a ≤ 4 := by omega
  by_cases h2' : p < -128
  · exact may_no2 a p n t w ht h0 h1 h2'
  have h2 : -128 ≤ p := by omega
  by_cases h3' : 127 < p
  · exact may_no3 a p n t w ht h0 h1 h2 h3'
  have h3 : p ≤ 127 := by omega
  by_cases h4' : n < 0
  · exact may_no4 a p n t w ht h0 h1 h2 h3 h4'
  have h4 : 0 ≤ n := by omega
  by_cases h5' : 1099511627776 < n
  · exact may_no5 a p n t w ht h0 h1 h2 h3 h4 h5'
  have h5 : n ≤ 1099511627776 := by omega
  by_cases h6' : 32 < (t.size : Int)
  · exact may_no6 a p n t w ht h0 h1 h2 h3 h4 h5 h6'
  have h6 : (t.size : Int) ≤ 32 := by omega
  exact may_yes a p n t w ht h0 h1 h2 h3 h4 h5 h6
set_option maxHeartbeats 2000000 in
set_option maxRecDepth 100000 in
theorem refMay_no0 (a p n : Int) (t : ByteArray) (w : World) (ht : t.size ≤ 140737488351232)  (h : a < 1) :
    Calls Tryz.prog 132 #[.agg #[.int .i64 a, .int .i64 p, .int .i64 n, .string t]] w fun e w' => e = .returned (.bool (mayV a p n t)) ∧ Below w.heap.size w w' := by
  have HV : Hid (mayV a p n t = false) := by show _ = _; unfold mayV; rw [decide_eq_false (show ¬ (1 ≤ a) by omega)]; rfl
  go_enter Tryz.func132, Tryz.ntmps132
  go_wp2
  go_ret
  rw [HV.out]
  exact ⟨rfl, (Below.refl _ _).alloc (Nat.le_refl _) _⟩
set_option maxHeartbeats 2000000 in
set_option maxRecDepth 100000 in
theorem refMay_no1 (a p n : Int) (t : ByteArray) (w : World) (ht : t.size ≤ 140737488351232) (h0 : 1 ≤ a) (h : 4 < a) :
    Calls Tryz.prog 132 #[.agg #[.int .i64 a, .int .i64 p, .int .i64 n, .string t]] w fun e w' => e = .returned (.bool (mayV a p n t)) ∧ Below w.heap.size w w' := by
  have HV : Hid (mayV a p n t = false) := by show _ = _; unfold mayV; rw [decide_eq_true h0, decide_eq_false (show ¬ (a ≤ 4) by omega)]; rfl
  go_enter Tryz.func132, Tryz.ntmps132
  go_wp2
  go_ret
  rw [HV.out]
  exact ⟨rfl, (Below.refl _ _).alloc (Nat.le_refl _) _⟩
set_option maxHeartbeats 2000000 in
set_option maxRecDepth 100000 in
theorem refMay_no2 (a p n : Int) (t : ByteArray) (w : World) (ht : t.size ≤ 140737488351232) (h0 : 1 ≤ a) (h1 : a ≤ 4) (h : p < -128) :
    Calls Tryz.prog 132 #[.agg #[.int .i64 a, .int .i64 p, .int .i64 n, .string t]] w fun e w' => e = .returned (.bool (mayV a p n t)) ∧ Below w.heap.size w w' := by
  have HV : Hid (mayV a p n t = false) := by show _ = _; unfold mayV; rw [decide_eq_true h0, decide_eq_true h1, decide_eq_false (show ¬ (-128 ≤ p) by omega)]; rfl
  go_enter Tryz.func132, Tryz.ntmps132
  go_wp2
  go_ret
  rw [HV.out]
  exact ⟨rfl, (Below.refl _ _).alloc (Nat.le_refl _) _⟩
set_option maxHeartbeats 2000000 in
set_option maxRecDepth 100000 in
theorem refMay_no3 (a p n : Int) (t : ByteArray) (w : World) (ht : t.size ≤ 140737488351232) (h0 : 1 ≤ a) (h1 : a ≤ 4) (h2 : -128 ≤ p) (h : 127 < p) :
    Calls Tryz.prog 132 #[.agg #[.int .i64 a, .int .i64 p, .int .i64 n, .string t]] w fun e w' => e = .returned (.bool (mayV a p n t)) ∧ Below w.heap.size w w' := by
  have HV : Hid (mayV a p n t = false) := by show _ = _; unfold mayV; rw [decide_eq_true h0, decide_eq_true h1, decide_eq_true h2, decide_eq_false (show ¬ (p ≤ 127) by omega)]; rfl
  go_enter Tryz.func132, Tryz.ntmps132
  go_wp2
  go_ret
  rw [HV.out]
  exact ⟨rfl, (Below.refl _ _).alloc (Nat.le_refl _) _⟩
set_option maxHeartbeats 2000000 in
set_option maxRecDepth 100000 in
theorem refMay_no4 (a p n : Int) (t : ByteArray) (w : World) (ht : t.size ≤ 140737488351232) (h0 : 1 ≤ a) (h1 : a ≤ 4) (h2 : -128 ≤ p) (h3 : p ≤ 127) (h : n < 0) :
    Calls Tryz.prog 132 #[.agg #[.int .i64 a, .int .i64 p, .int .i64 n, .string t]] w fun e w' => e = .returned (.bool (mayV a p n t)) ∧ Below w.heap.size w w' := by
  have HV : Hid (mayV a p n t = false) := by show _ = _; unfold mayV; rw [decide_eq_true h0, decide_eq_true h1, decide_eq_true h2, decide_eq_true h3, decide_eq_false (show ¬ (0 ≤ n) by omega)]; rfl
  go_enter Tryz.func132, Tryz.ntmps132
  go_wp2
  go_ret
  rw [HV.out]
  exact ⟨rfl, (Below.refl _ _).alloc (Nat.le_refl _) _⟩
set_option maxHeartbeats 2000000 in
set_option maxRecDepth 100000 in
theorem refMay_no5 (a p n : Int) (t : ByteArray) (w : World) (ht : t.size ≤ 140737488351232) (h0 : 1 ≤ a) (h1 : a ≤ 4) (h2 : -128 ≤ p) (h3 : p ≤ 127) (h4 : 0 ≤ n) (h : 1099511627776 < n) :
    Calls Tryz.prog 132 #[.agg #[.int .i64 a, .int .i64 p, .int .i64 n, .string t]] w fun e w' => e = .returned (.bool (mayV a p n t)) ∧ Below w.heap.size w w' := by
  have HV : Hid (mayV a p n t = false) := by show _ = _; unfold mayV; rw [decide_eq_true h0, decide_eq_true h1, decide_eq_true h2, decide_eq_true h3, decide_eq_true h4, decide_eq_false (show ¬ (n ≤ 1099511627776) by omega)]; rfl
  go_enter Tryz.func132, Tryz.ntmps132
  go_wp2
  go_ret
  rw [HV.out]
  exact ⟨rfl, (Below.refl _ _).alloc (Nat.le_refl _) _⟩
set_option maxHeartbeats 2000000 in
set_option maxRecDepth 100000 in
theorem refMay_no6 (a p n : Int) (t : ByteArray) (w : World) (ht : t.size ≤ 140737488351232) (h0 : 1 ≤ a) (h1 : a ≤ 4) (h2 : -128 ≤ p) (h3 : p ≤ 127) (h4 : 0 ≤ n) (h5 : n ≤ 1099511627776) (h : 32 < (t.size : Int)) :
    Calls Tryz.prog 132 #[.agg #[.int .i64 a, .int .i64 p, .int .i64 n, .string t]] w fun e w' => e = .returned (.bool (mayV a p n t)) ∧ Below w.heap.size w w' := by
  have HV : Hid (mayV a p n t = false) := by show _ = _; unfold mayV; rw [decide_eq_true h0, decide_eq_true h1, decide_eq_true h2, decide_eq_true h3, decide_eq_true h4, decide_eq_true h5, decide_eq_false (show ¬ ((t.size : Int) ≤ 32) by omega)]; rfl
  go_enter Tryz.func132, Tryz.ntmps132
  go_wp2
  go_ret
  rw [HV.out]
  exact ⟨rfl, (Below.refl _ _).alloc (Nat.le_refl _) _⟩
set_option maxHeartbeats 2000000 in
set_option maxRecDepth 100000 in
theorem refMay_yes (a p n : Int) (t : ByteArray) (w : World) (ht : t.size ≤ 140737488351232) (h0 : 1 ≤ a) (h1 : a ≤ 4) (h2 : -128 ≤ p) (h3 : p ≤ 127) (h4 : 0 ≤ n) (h5 : n ≤ 1099511627776) (h6 : (t.size : Int) ≤ 32) :
    Calls Tryz.prog 132 #[.agg #[.int .i64 a, .int .i64 p, .int .i64 n, .string t]] w fun e w' => e = .returned (.bool (mayV a p n t)) ∧ Below w.heap.size w w' := by
  have HV : Hid (mayV a p n t = !oddL t.data.toList) := by show _ = _; unfold mayV; rw [decide_eq_true h0, decide_eq_true h1, decide_eq_true h2, decide_eq_true h3, decide_eq_true h4, decide_eq_true h5, decide_eq_true h6]; rfl
  go_enter Tryz.func132, Tryz.ntmps132
  go_wp2
  go_loop [3] (fun v3 => ∃ i : Nat, v3 = .int .i64 i ∧ i ≤ t.size ∧ Hid (evenTo t i)) (fun v3 => (t.size - intOf v3).toNat)
  case atStart => exact ⟨0, rfl, Nat.zero_le _, fun j _ h => absurd h (by omega)⟩
  case round =>
    obtain ⟨i, rfl, hi, HE⟩ := hrel
    by_cases hlt : i < t.size
    · obtain ⟨c, hc⟩ : ∃ c, (t[i]'hlt).toNat = c := ⟨_, rfl⟩
      have HC := Lib.hid hc
      by_cases hc1 : c < 32
      · have HR : Hid (oddL t.data.toList = true) := oddL_true t i hlt (by unfold oddB; rw [HC.out, decide_eq_true hc1]; rfl)
        go_wp2
        go_ret
        rw [HV.out, HR.out]
        exact ⟨rfl, (Below.refl _ _).alloc (Nat.le_refl _) _⟩
      · by_cases hc2 : 126 < c
        · have HR : Hid (oddL t.data.toList = true) := oddL_true t i hlt (by unfold oddB; rw [HC.out, decide_eq_true hc2, Bool.or_true])
          go_wp2
          go_ret
          rw [HV.out, HR.out]
          exact ⟨rfl, (Below.refl _ _).alloc (Nat.le_refl _) _⟩
        · have HE2 : Hid (evenTo t (i + 1)) := evenTo_succ t i hlt HE.out (by unfold oddB; rw [HC.out, decide_eq_false hc1, decide_eq_false hc2]; rfl)
          go_wp2
          go_round
          case rel => exact ⟨i + 1, by go_num, by omega, HE2⟩
          case measure => simp [intOf]; omega
    · have HR : Hid (oddL t.data.toList = false) := oddL_false t i (by omega) HE.out
      go_wp2
      go_ret
      rw [HV.out, HR.out]
      exact ⟨rfl, (Below.refl _ _).alloc (Nat.le_refl _) _⟩
theorem refMay_calls (a p n : Int) (t : ByteArray) (w : World) (ht : t.size ≤ 140737488351232) :
    Calls Tryz.prog 132 #[.agg #[.int .i64 a, .int .i64 p, .int .i64 n, .string t]] w fun e w' => e = .returned (.bool (mayV a p n t)) ∧ Below w.heap.size w w' := by
  by_cases h0' : a < 1
  · exact refMay_no0 a p n t w ht  h0'
  have h0 : 1 ≤ a := by omega
  by_cases h1' : 4 < a
  · exact refMay_no1 a p n t w ht h0 h1'
  have h1 : a ≤ 4 := by omega
  by_cases h2' : p < -128
  · exact refMay_no2 a p n t w ht h0 h1 h2'
  have h2 : -128 ≤ p := by omega
  by_cases h3' : 127 < p
  · exact refMay_no3 a p n t w ht h0 h1 h2 h3'
  have h3 : p ≤ 127 := by omega
  by_cases h4' : n < 0
  · exact refMay_no4 a p n t w ht h0 h1 h2 h3 h4'
  have h4 : 0 ≤ n := by omega
  by_cases h5' : 1099511627776 < n
  · exact refMay_no5 a p n t w ht h0 h1 h2 h3 h4 h5'
  have h5 : n ≤ 1099511627776 := by omega
  by_cases h6' : 32 < (t.size : Int)
  · exact refMay_no6 a p n t w ht h0 h1 h2 h3 h4 h5 h6'
  have h6 : (t.size : Int) ≤ 32 := by omega
  exact refMay_yes a p n t w ht h0 h1 h2 h3 h4 h5 h6
end Go.Proofs.YtbpfcjdjhponaaaGreat
namespace Go.Proofs.YtbpfcjdjhponaaaGreat
namespace Sp
structure Se where
  u : ByteArray
  i : Int
  v : Int × Int × Int × ByteArray
instance : DecidableEq Se := fun a b => decidable_of_iff (a.u = b.u ∧ a.i = b.i ∧ a.v = b.v) ⟨fun h => by cases a; cases b; simp only at h; obtain ⟨h1, h2, h3⟩ := h; subst h1 h2 h3; rfl, fun h => by subst h; exact ⟨rfl, rfl, rfl⟩⟩
abbrev SeK := ByteArray × Int
def keySe (s : Se) : SeK := (s.u, s.i)
def ltSe (a b : SeK) : Bool := less a.1 b.1 || (decide (a.1 = b.1) && decide (a.2 < b.2))
theorem ltSe_ord : SOrd ltSe where
  irr a := by simp [ltSe, less_irrefl]
  tr a b c h1 h2 := by
    simp only [ltSe, Bool.or_eq_true, Bool.and_eq_true, decide_eq_true_eq] at h1 h2 ⊢
    rcases h1 with h1 | ⟨e1, h1⟩ <;> rcases h2 with h2 | ⟨e2, h2⟩
    · exact .inl (less_trans _ _ _ h1 h2)
    · rw [e2] at h1; exact .inl h1
    · rw [← e1] at h2; exact .inl h2
    · exact .inr ⟨e1.trans e2, by omega⟩
  tri a b h := by
    simp only [ltSe, Bool.or_eq_true, Bool.and_eq_true, decide_eq_true_eq]
    by_cases e : a.1 = b.1
    · have : a.2 ≠ b.2 := fun e2 => h (Prod.ext e e2)
      rcases Int.lt_or_gt_of_ne this with h2 | h2
      · exact .inl (.inr ⟨e, h2⟩)
      · exact .inr (.inr ⟨e.symm, h2⟩)
    · rcases less_total _ _ e with h2 | h2
      · exact .inl (.inl h2)
      · exact .inr (.inl h2)
def oneS (s : Se) : Bool := isName s.u && (decide (0 ≤ s.i) && (decide (s.i < 4) && mayV s.v.1 s.v.2.1 s.v.2.2.1 s.v.2.2.2))
def adjS : List Se → Bool
  | a :: b :: l => ltSe (keySe a) (keySe b) && adjS (b :: l)
  | _ => true
def maySe (l : List Se) : Bool := decide (l.length ≤ 32) && (l.all oneS && adjS l)
theorem adjS_iff : ∀ l : List Se, adjS l = true ↔ ∀ i (h : i + 1 < l.length), ltSe (keySe l[i]) (keySe l[i + 1]) = true
  | [] => by simp [adjS]
  | [a] => by simp [adjS]
  | a :: b :: l => by
    rw [adjS, Bool.and_eq_true, adjS_iff (b :: l)]
    constructor
    · rintro ⟨h1, h2⟩ i hi
      cases i with
      | zero => exact h1
      | succ i => exact h2 i (by simp only [List.length_cons] at hi ⊢; omega)
    · intro h
      exact ⟨h 0 (by simp), fun i hi => h (i + 1) (by simp only [List.length_cons] at hi ⊢; omega)⟩
theorem maySe_iff (l : List Se) : maySe l = true ↔ l.length ≤ 32 ∧ (∀ s ∈ l, oneS s = true) ∧ ∀ i (h : i + 1 < l.length), ltSe (keySe l[i]) (keySe l[i + 1]) = true := by
  unfold maySe
  rw [Bool.and_eq_true, Bool.and_eq_true, decide_eq_true_eq, List.all_eq_true, adjS_iff]
theorem maySe_ord {l : List Se} (h : maySe l = true) : InOrd keySe ltSe l := ord_of_adj ltSe_ord l ((maySe_iff l).1 h).2.2
def idxSe (l : List Se) (k : SeK) : Option Nat := l.findIdx? fun s => decide (keySe s = k)
def atSe (l : List Se) (s : Se) : Nat := (l.takeWhile fun x => ltSe (keySe x) (keySe s)).length
def putSe (l : List Se) (s : Se) : List Se × Int :=
  if (maySe l && oneS s) = false then (l, 1) else
    match idxSe l (keySe s) with
    | some i => (l.set i s, 0)
    | none => if l.length = 32 then (l, 5) else (l.take (atSe l s) ++ s :: l.drop (atSe l s), 0)
def dropSe (l : List Se) (k : SeK) : List Se × Int :=
  if maySe l = false then (l, 1) else
    match idxSe l k with
    | some i => (l.take i ++ l.drop (i + 1), 0)
    | none => (l, 6)
def ofSe (l : List Se) (u : ByteArray) : List Se := l.filter fun s => decide (s.u = u)
theorem idxSe_none {l : List Se} {k : SeK} : idxSe l k = none ↔ getK keySe l k = none := by
  unfold idxSe
  rw [List.findIdx?_eq_none_iff, getK_none]
  simp
theorem idxSe_some {l : List Se} {k : SeK} {i : Nat} (h : idxSe l k = some i) : ∃ hi : i < l.length, keySe l[i] = k := by
  unfold idxSe at h
  rw [List.findIdx?_eq_some_iff_getElem] at h
  obtain ⟨hi, h1, _⟩ := h
  exact ⟨hi, of_decide_eq_true h1⟩
theorem atSe_ins (l : List Se) (s : Se) : l.take (atSe l s) ++ s :: l.drop (atSe l s) = insK keySe ltSe l s := by
  unfold insK atSe
  rw [take_tw, drop_tw]
theorem putSe_ok {l m : List Se} {s : Se} (h : putSe l s = (m, 0)) : maySe l = true ∧ oneS s = true ∧ m = putK keySe ltSe l s ∧ m.length ≤ 32 := by
  unfold putSe at h
  split at h
  · injection h with _ h; exact absurd h (by decide)
  · rename_i hm
    rw [Bool.not_eq_false, Bool.and_eq_true] at hm
    obtain ⟨h1, h2⟩ := hm
    have ho := maySe_ord h1
    have h32 := ((maySe_iff l).1 h1).1
    refine ⟨h1, h2, ?_⟩
    split at h
    · rename_i i hi
      obtain ⟨hlt, hk⟩ := idxSe_some hi
      injection h with h _
      rw [← h]
      exact ⟨set_putK ltSe_ord ho i hlt s hk, by rw [List.length_set]; exact h32⟩
    · rename_i hi
      split at h
      · injection h with _ h; exact absurd h (by decide)
      · rename_i hn
        injection h with h _
        have hg := idxSe_none.1 hi
        rw [← h, atSe_ins]
        unfold putK
        rw [delK_none hg]
        exact ⟨rfl, by rw [insK_len]; omega⟩
theorem putSe_err {l m : List Se} {s : Se} {e : Int} (h : putSe l s = (m, e)) (he : e ≠ 0) : m = l := by
  unfold putSe at h
  split at h
  · injection h with h _; exact h.symm
  · split at h
    · injection h with _ h; exact absurd h.symm he
    · split at h
      · injection h with h _; exact h.symm
      · injection h with _ h; exact absurd h.symm he
theorem ofSe_mem {l : List Se} {u : ByteArray} {x : Se} : x ∈ ofSe l u ↔ x ∈ l ∧ x.u = u := by
  unfold ofSe
  rw [List.mem_filter, decide_eq_true_eq]
end Sp
end Go.Proofs.YtbpfcjdjhponaaaGreat
namespace Go.Proofs.YtbpfcjdjhponaaaGreat
namespace Sp
end Sp
end Go.Proofs.YtbpfcjdjhponaaaGreat
namespace Go.Proofs.YtbpfcjdjhponaaaGreat
open Go.RowKit
open Sp
def enSe (x : Se) : List Value := [.string x.u, .int .i64 x.i, .int .i64 x.v.1, .int .i64 x.v.2.1, .int .i64 x.v.2.2.1, .string x.v.2.2.2]
abbrev vaSe (x : Se) : Value := .agg #[.string x.u, .int .i64 x.i, .int .i64 x.v.1, .int .i64 x.v.2.1, .int .i64 x.v.2.2.1, .string x.v.2.2.2]
theorem enSe_len (x : Se) : (enSe x).length = 6 := rfl
theorem enSe_one (x : Se) : ∀ u ∈ enSe x, u.oneCell' = true := by intro u hu; simp only [enSe, List.mem_cons, List.mem_nil_iff, or_false] at hu; rcases hu with rfl | rfl | rfl | rfl | rfl | rfl <;> rfl
abbrev zvSe : Value := .agg #[.string ⟨#[]⟩, .int .i64 0, .int .i64 0, .int .i64 0, .int .i64 0, .string ⟨#[]⟩]
theorem infoSe : (Tryz.prog.info? 99).map (fun i => (i.zero, i.size, i.bytes)) = some (some zvSe, 6, 64) := by kernel_rfl
abbrev bxSe (a_ : ByteArray) (b_ : Int) (c_ : Int) (d_ : Int) (e_ : Int) (f_ : ByteArray) : Obj := .cells #[.string a_, .int .i64 b_, .int .i64 c_, .int .i64 d_, .int .i64 e_, .string f_] 99
theorem rowSe {W : World} {A : Option Addr} {n c : Nat} {l : List Se} (h : Row enSe 6 W (.slice A n c) l) (i : Nat) (hi : i < l.length) (a_ : ByteArray) (b_ : Int) (c_ : Int) (d_ : Int) (e_ : Int) (f_ : ByteArray) (he : l[i] = ⟨a_, b_, c_, d_, e_, f_⟩) :
    ∃ ad, A = some ad ∧ W.cell? (ad.add (i * 6)) = some (.string a_) ∧ W.cell? ⟨(ad.add (i * 6)).block, (ad.add (i * 6)).off + 1, none⟩ = some (.int .i64 b_) ∧ W.cell? ⟨(ad.add (i * 6)).block, (ad.add (i * 6)).off + 2, none⟩ = some (.int .i64 c_) ∧ W.cell? ⟨(ad.add (i * 6)).block, (ad.add (i * 6)).off + 3, none⟩ = some (.int .i64 d_) ∧ W.cell? ⟨(ad.add (i * 6)).block, (ad.add (i * 6)).off + 4, none⟩ = some (.int .i64 e_) ∧ W.cell? ⟨(ad.add (i * 6)).block, (ad.add (i * 6)).off + 5, none⟩ = some (.string f_) := by
  obtain ⟨ad, e, hc⟩ := h.get enSe_len i hi
  rw [he] at hc
  exact ⟨ad, e, hc 0 (by omega), hc 1 (by omega), hc 2 (by omega), hc 3 (by omega), hc 4 (by omega), hc 5 (by omega)⟩
theorem rowsSe {W : World} {ad : Addr} {n c : Nat} {l : List Se} (h : Row enSe 6 W (.slice (some ad) n c) l) (i : Nat) (hi : i < l.length) (a_ : ByteArray) (b_ : Int) (c_ : Int) (d_ : Int) (e_ : Int) (f_ : ByteArray) (he : l[i] = ⟨a_, b_, c_, d_, e_, f_⟩) :
    W.cell? (ad.add (i * 6)) = some (.string a_) ∧ W.cell? ⟨(ad.add (i * 6)).block, (ad.add (i * 6)).off + 1, none⟩ = some (.int .i64 b_) ∧ W.cell? ⟨(ad.add (i * 6)).block, (ad.add (i * 6)).off + 2, none⟩ = some (.int .i64 c_) ∧ W.cell? ⟨(ad.add (i * 6)).block, (ad.add (i * 6)).off + 3, none⟩ = some (.int .i64 d_) ∧ W.cell? ⟨(ad.add (i * 6)).block, (ad.add (i * 6)).off + 4, none⟩ = some (.int .i64 e_) ∧ W.cell? ⟨(ad.add (i * 6)).block, (ad.add (i * 6)).off + 5, none⟩ = some (.string f_) := by
  obtain ⟨ad', e, hc⟩ := rowSe h i hi a_ b_ c_ d_ e_ f_ he
  injection e with e
  subst e
  exact hc
theorem cellsSe {W : World} {g : Nat} (a_ : ByteArray) (b_ : Int) (c_ : Int) (d_ : Int) (e_ : Int) (f_ : ByteArray) (h : W.heap[g]? = some (bxSe a_ b_ c_ d_ e_ f_)) :
    W.cell? ⟨g, 0, none⟩ = some (.string a_) ∧ W.cell? ⟨g, 1, none⟩ = some (.int .i64 b_) ∧ W.cell? ⟨g, 2, none⟩ = some (.int .i64 c_) ∧ W.cell? ⟨g, 3, none⟩ = some (.int .i64 d_) ∧ W.cell? ⟨g, 4, none⟩ = some (.int .i64 e_) ∧ W.cell? ⟨g, 5, none⟩ = some (.string f_) ∧ g < W.heap.size :=
  ⟨by simp [World.cell?, h], by simp [World.cell?, h], by simp [World.cell?, h], by simp [World.cell?, h], by simp [World.cell?, h], by simp [World.cell?, h], (Array.getElem?_eq_some_iff.1 h).1⟩
end Go.Proofs.YtbpfcjdjhponaaaGreat
namespace Go.Proofs.YtbpfcjdjhponaaaGreat
open Go.RowKit Go.ChangeShapes Go.WideShapes
open Sp
def OkSe (x : Se) : Prop := x.u.size ≤ maxLen ∧ x.v.2.2.2.size ≤ maxLen
section
variable {H : Type} {enc : TypeId × Value → H} {w : World} {base : Nat} {spare : Nat → Bool} {held : Bool}
set_option maxRecDepth 100000 in
theorem ceSe {n : Nat} {cs : List Value} {y : DataW H × List MemPlace} (h : DataW.trod enc Tryz.prog w base spare held n 99 cs = some y) : ∃ e : Se, cs = enSe e ∧ OkSe e := by
  have ck : Tryz.prog.cellsOf 99 = 6 := by kernel_rfl
  have c0_ : Tryz.prog.cellsOf 9 = 1 := by kernel_rfl
  have c1_ : Tryz.prog.cellsOf 3 = 1 := by kernel_rfl
  have c2_ : Tryz.prog.cellsOf 27 = 4 := by kernel_rfl
  obtain ⟨ys0, m0, _, _, hl0, hlen0, hf0⟩ := DataW.trod_struct Tryz.underlying99 h
  rw [ck] at hl0
  obtain ⟨a0, a1, a2, a3, a4, a5, rfl⟩ : ∃ a0 a1 a2 a3 a4 a5, cs = [a0, a1, a2, a3, a4, a5] := by
    match cs, hl0 with
    | [a0, a1, a2, a3, a4, a5], _ => exact ⟨_, _, _, _, _, _, rfl⟩
  obtain ⟨y0_0, y0_1, y0_2, rfl⟩ : ∃ y0_0 y0_1 y0_2, ys0 = [y0_0, y0_1, y0_2] := by
    match ys0, hlen0 with
    | [y0_0, y0_1, y0_2], _ => exact ⟨_, _, _, rfl⟩
  have h0_0 := hf0 0 _ rfl
  have h0_1 := hf0 1 _ rfl
  have h0_2 := hf0 2 _ rfl
  simp only [List.getElem_toArray, List.getElem_cons_zero, List.getElem_cons_succ, c0_, c1_, c2_, List.drop_zero, List.drop_succ_cons, List.take_succ_cons, List.take_zero, List.getElem?_cons_zero, List.getElem?_cons_succ] at h0_0 h0_1 h0_2
  obtain ⟨z0, e0, _, g0⟩ := DataW.trod_string Tryz.underlying9 h0_0
  obtain ⟨z1, e1, _, g1⟩ := DataW.trod_int Tryz.underlying3 h0_1
  obtain ⟨ys1, m1, _, _, hl1, hlen1, hf1⟩ := DataW.trod_struct Tryz.underlying27 h0_2
  obtain ⟨y1_0, y1_1, y1_2, y1_3, rfl⟩ : ∃ y1_0 y1_1 y1_2 y1_3, ys1 = [y1_0, y1_1, y1_2, y1_3] := by
    match ys1, hlen1 with
    | [y1_0, y1_1, y1_2, y1_3], _ => exact ⟨_, _, _, _, rfl⟩
  have h1_0 := hf1 0 _ rfl
  have h1_1 := hf1 1 _ rfl
  have h1_2 := hf1 2 _ rfl
  have h1_3 := hf1 3 _ rfl
  simp only [List.getElem_toArray, List.getElem_cons_zero, List.getElem_cons_succ, c0_, c1_, c2_, List.drop_zero, List.drop_succ_cons, List.take_succ_cons, List.take_zero, List.getElem?_cons_zero, List.getElem?_cons_succ] at h1_0 h1_1 h1_2 h1_3
  obtain ⟨z2, e2, _, g2⟩ := DataW.trod_int Tryz.underlying3 h1_0
  obtain ⟨z3, e3, _, g3⟩ := DataW.trod_int Tryz.underlying3 h1_1
  obtain ⟨z4, e4, _, g4⟩ := DataW.trod_int Tryz.underlying3 h1_2
  obtain ⟨z5, e5, _, g5⟩ := DataW.trod_string Tryz.underlying9 h1_3
  cases e0
  cases e1
  cases e2
  cases e3
  cases e4
  cases e5
  exact ⟨⟨z0, z1, z2, z3, z4, z5⟩, rfl, g0, g5⟩
theorem rwSe {t : TypeId} {a : Option Addr} {n c : Nat} {d : DataW H} {p : List MemPlace} (ht : Tryz.prog.underlying t = some (.slice 99))
    (h : DataW.Trod enc Tryz.prog w 0 (fun _ => true) true t (.slice a n c) d p) : ∃ l, Row enSe 6 w (.slice a n c) l ∧ ∀ e ∈ l, OkSe e := by
  obtain ⟨fuel, hf⟩ := h
  rcases Go.Deep.open_slice ht hf with ⟨hcs, _⟩ | ⟨ad, len, cap, m, k, D, Pl, hcs, _, hl, hm, hmm, _, hi⟩
  · simp [Value.cells] at hcs
    obtain ⟨rfl, rfl, rfl⟩ := hcs
    exact ⟨[], Row.nil _ _ _, by simp⟩
  · simp [Value.cells] at hcs
    obtain ⟨rfl, rfl, rfl⟩ := hcs
    have ck : Tryz.prog.cellsOf 99 = 6 := by kernel_rfl
    rw [ck] at hi
    have hn : n ≤ m := by rw [hmm, if_pos rfl]; exact hl
    have hev : ∀ i, i < n → ∃ e : Se, OkSe e ∧ ∀ j u, (enSe e)[j]? = some u → w.cell? (ad.add (i * 6 + j)) = some u := by
      intro i hi'
      obtain ⟨cs', hc, ht'⟩ := hi i (by omega)
      obtain ⟨e, rfl, he⟩ := ceSe ht'
      obtain ⟨_, _, hat⟩ := World.cells?_some hc
      refine ⟨e, he, fun j u hj => ?_⟩
      have hj8 : j < 6 := (List.getElem?_eq_some_iff.1 hj).1
      have := hat j hj8
      rw [hj] at this
      rw [← this, Go.Deep.add_add]
    have hex : ∃ l : List Se, l.length = n ∧ ∀ i (h : i < l.length), OkSe l[i] ∧ ∀ j u, (enSe l[i])[j]? = some u → w.cell? (ad.add (i * 6 + j)) = some u := by
      refine ⟨List.ofFn (fun i : Fin n => (hev i.1 i.2).choose), by simp, fun i h => ?_⟩
      have hin : i < n := by simpa using h
      have hc := (hev i hin).choose_spec
      simp only [List.getElem_ofFn]
      exact hc
    obtain ⟨l, hln, hle⟩ := hex
    refine ⟨l, ⟨some ad, c, by rw [hln], by omega, hm, by rw [flat_length enSe_len, hln], fun hp => ⟨ad, rfl, fun j u hu => ?_⟩⟩, fun e he => ?_⟩
    · have hj : j < l.length * 6 := by rw [← flat_length enSe_len]; exact (List.getElem?_eq_some_iff.1 hu).1
      have hi8 : j / 6 < l.length := by omega
      have := (hle (j / 6) hi8).2 (j % 6) u
      rw [show j / 6 * 6 + j % 6 = j by omega] at this
      refine this ?_
      have hfg := flat_get enSe_len l (j / 6) (j % 6) hi8 (by omega)
      rw [show j / 6 * 6 + j % 6 = j by omega] at hfg
      rw [← hfg, hu]
    · obtain ⟨i, hi', rfl⟩ := List.getElem_of_mem he
      exact (hle i hi').1
end
end Go.Proofs.YtbpfcjdjhponaaaGreat
namespace Go.Proofs.YtbpfcjdjhponaaaGreat
open Go.RowKit Go.ChangeShapes Go.WideShapes
open Sp
section
variable {H : Type} {enc : TypeId × Value → H} {w : World}
set_option maxRecDepth 100000 in
theorem opT {b0 : Nat} {v : Value} {d : DataW H} {p : List MemPlace} (hv : Value.okWide Tryz.prog w .any b0 25 v)
    (h : DataW.Trod enc Tryz.prog w 0 (fun _ => true) true 25 v d p) : ∃ A n c l B m d s, v = .agg #[.slice A n c, .slice B m d] ∧ Row enEn 7 w (.slice A n c) l ∧ (∀ e ∈ l, OkEn e) ∧ Row enSe 6 w (.slice B m d) s ∧ ∀ e ∈ s, OkSe e := by
  obtain ⟨cs, rfl, _⟩ := okWide_struct Tryz.underlying25 hv
  obtain ⟨fuel, hf⟩ := h
  obtain ⟨l⟩ := cs
  have ck : Tryz.prog.cellsOf 25 = 2 := by kernel_rfl
  have c0_ : Tryz.prog.cellsOf 22 = 1 := by kernel_rfl
  have c1_ : Tryz.prog.cellsOf 23 = 1 := by kernel_rfl
  obtain ⟨ys0, m0, _, _, hl0, hlen0, hf0⟩ := DataW.trod_struct Tryz.underlying25 hf
  rw [ck] at hl0
  simp only [Value.cells] at hl0 hf0
  obtain ⟨a0, a1, rfl⟩ : ∃ a0 a1, l = [a0, a1] := by
    match l, hl0 with
    | [a0, a1], _ => exact ⟨_, _, rfl⟩
  obtain ⟨y0, y1, rfl⟩ : ∃ y0 y1, ys0 = [y0, y1] := by
    match ys0, hlen0 with
    | [y0, y1], _ => exact ⟨_, _, rfl⟩
  have h0 := hf0 0 _ rfl
  have h1 := hf0 1 _ rfl
  simp only [List.getElem_toArray, List.getElem_cons_zero, List.getElem_cons_succ, c0_, c1_, List.drop_zero, List.drop_succ_cons, List.take_succ_cons, List.take_zero, List.getElem?_cons_zero, List.getElem?_cons_succ] at h0 h1
  have g0 : ∃ A n c, a0 = .slice A n c := by
    rcases Go.Deep.open_slice Tryz.underlying22 h0 with ⟨hcs, _⟩ | ⟨ad, len, cap, m, k, D, Pl, hcs, _⟩
    · simp at hcs; exact ⟨_, _, _, hcs⟩
    · simp at hcs; exact ⟨_, _, _, hcs⟩
  have g1 : ∃ A n c, a1 = .slice A n c := by
    rcases Go.Deep.open_slice Tryz.underlying23 h1 with ⟨hcs, _⟩ | ⟨ad, len, cap, m, k, D, Pl, hcs, _⟩
    · simp at hcs; exact ⟨_, _, _, hcs⟩
    · simp at hcs; exact ⟨_, _, _, hcs⟩
  obtain ⟨A, n, c, rfl⟩ := g0
  obtain ⟨B, m, d2, rfl⟩ := g1
  obtain ⟨l1, w1, z1⟩ := rwEn (d := y0.1) (p := y0.2) Tryz.underlying22 ⟨m0, by simpa [Value.cells] using h0⟩
  obtain ⟨l2, w2, z2⟩ := rwSe (d := y1.1) (p := y1.2) Tryz.underlying23 ⟨m0, by simpa [Value.cells] using h1⟩
  exact ⟨A, n, c, l1, B, m, d2, l2, rfl, w1, z1, w2, z2⟩
end
end Go.Proofs.YtbpfcjdjhponaaaGreat
namespace Go.Proofs.YtbpfcjdjhponaaaGreat
open Go.RowKit
theorem below_alloc0 {w w1 : World} (h : Below w.heap.size w w1) (o : Obj) : Below w.heap.size w (w1.alloc o) := h.alloc h.size o
theorem bcell {W w1 : World} (hb : Below W.heap.size W w1) : (∀ b o, b < W.heap.size → w1.cell? ⟨b, o, none⟩ = W.cell? ⟨b, o, none⟩) ∧ (∀ b o, b < W.heap.size → w1.frozen? ⟨b, o, none⟩ = W.frozen? ⟨b, o, none⟩) :=
  ⟨fun b o h => hb.cell (p := ⟨b, o, none⟩) h, fun b o h => hb.frozen (p := ⟨b, o, none⟩) h⟩
theorem below_box {w : World} (o : Obj) : Below w.heap.size w (w.alloc o) := below_alloc0 (Below.refl _ _) o
theorem bset {B : Nat} {a w : World} (h : Below B a w) (g o : Nat) (v : Value) (hg : B ≤ g) : Below B a (w.setCell ⟨g, o, none⟩ v) := h.setCell (p := ⟨g, o, none⟩) hg v
theorem hcall {W W' : World} {g : Nat} {o : Obj} (h : W.heap[g]? = some o) (b : Below W.heap.size W W') : W'.heap[g]? = some o := (b.block g (Array.getElem?_eq_some_iff.1 h).1).trans h
theorem halloc {W : World} {g : Nat} {o : Obj} (h : W.heap[g]? = some o) (x : Obj) : (W.alloc x).heap[g]? = some o := (Below.heap_alloc _ _ _ (Array.getElem?_eq_some_iff.1 h).1).trans h
theorem size_alloc (w : World) (o : Obj) : (w.alloc o).heap.size = w.heap.size + 1 := Array.size_push ..
end Go.Proofs.YtbpfcjdjhponaaaGreat
namespace Go.Proofs.YtbpfcjdjhponaaaGreat
open Go.RowKit
namespace Sp
end Sp
open Sp
end Go.Proofs.YtbpfcjdjhponaaaGreat
namespace Go.Proofs.YtbpfcjdjhponaaaGreat
open Go.RowKit
namespace Sp
end Sp
open Sp
end Go.Proofs.YtbpfcjdjhponaaaGreat
namespace Go.Proofs.YtbpfcjdjhponaaaGreat
open Go.RowKit
def Buf (w : World) (base : Nat) (v : Value) (l : List UInt8) : Prop :=
  ∃ g cap, v = .slice (some ⟨g, 0, none⟩) l.length cap ∧ base ≤ g ∧ l.length ≤ cap ∧ cap ≤ maxLen ∧ g < w.heap.size ∧
    (∀ j (h : j < l.length), w.cell? ⟨g, j, none⟩ = some (.int .u8 l[j].toNat)) ∧ (∀ j, j < cap → (w.cell? ⟨g, j, none⟩).isSome = true) ∧ ∀ j, j < cap → w.frozen? ⟨g, j, none⟩ = false
theorem Buf.below {w w1 : World} {base : Nat} {v : Value} {l : List UInt8} (h : Buf w base v l) (hb : Below w.heap.size w w1) : Buf w1 base v l := by
  obtain ⟨g, cap, rfl, h1, h2, h3, h4, h5, h6, h7⟩ := h
  have hc : ∀ j, w1.cell? ⟨g, j, none⟩ = w.cell? ⟨g, j, none⟩ := fun j => hb.cell (p := ⟨g, j, none⟩) h4
  refine ⟨g, cap, rfl, h1, h2, h3, by have := hb.size; omega, fun j hj => by rw [hc]; exact h5 j hj, fun j hj => by rw [hc]; exact h6 j hj, fun j hj => ?_⟩
  rw [hb.frozen (p := ⟨g, j, none⟩) h4]
  exact h7 j hj
theorem Buf.row {w : World} {base : Nat} {v : Value} {l : List UInt8} (h : Buf w base v l) : Row enB 1 w v l := by
  obtain ⟨g, cap, rfl, h1, h2, h3, h4, h5, h6, h7⟩ := h
  refine ⟨some ⟨g, 0, none⟩, cap, rfl, h2, h3, by rw [enB_flat]; simp, fun _ => ⟨_, rfl, fun j u hu => ?_⟩⟩
  rw [enB_flat, List.getElem?_map] at hu
  obtain ⟨b, hb, rfl⟩ := Option.map_eq_some_iff.mp hu
  obtain ⟨hj, rfl⟩ := List.getElem?_eq_some_iff.mp hb
  rw [add_plain]
  exact h5 j hj
theorem Buf.base_le {w : World} {base : Nat} {v : Value} {l : List UInt8} (h : Buf w base v l) (k : Nat) (hk : v.ownBlock = some k) : base ≤ k := by
  obtain ⟨g, cap, rfl, h1, _⟩ := h
  simp [Value.ownBlock] at hk
  omega
theorem Buf.own {w : World} {base : Nat} {v : Value} {l : List UInt8} (h : w.ownsRow base 5 1 v l.length (l.map fun b => .int .u8 b.toNat)) (hl : 0 < l.length) : Buf w base v l := by
  rcases h.2 with ⟨_, h0⟩ | ⟨g, cap, cur, rfl, hb, hg, h1, h2, h3, h4⟩
  · omega
  refine ⟨g, cap, rfl, hb, h1, h2, (Array.getElem?_eq_some_iff.1 hg).1, fun j hj => ?_, fun j hj => ?_, fun j hj => ?_⟩
  · have := World.ownsRow.cells h (g := g) rfl j (.int .u8 l[j].toNat) (by rw [List.getElem?_map, List.getElem?_eq_getElem hj]; rfl)
    rw [add_plain] at this
    exact this
  · simp only [World.cell?, hg]
    rw [Array.getElem?_eq_getElem (by omega)]
    rfl
  · simp [World.frozen?, hg]
section
variable {ops : Array Oper} {rest : List Oper} {o : Oper} {a : Act} {Q : Exit → Act → World → Prop}
theorem Buf.append {w0 W : World} (base : Nat) (hgd : o.guard = none) (s x : Operand)
    (ho : o.op = .call { callee := .builtin .append, args := #[s, x], argTypes := #[80, 80] })
    (v : Value) (l : List UInt8) (b : UInt8) (c : Value) (hc : c = .int .u8 b.toNat) (hs : a.eval s = v) (hx : a.eval x = .slice (some ⟨W.heap.size, 0, none⟩) 1 1)
    (HO : Buf W base v l) (HB : Below base w0 W) (hbase : base ≤ W.heap.size) (hl : l.length + 1 ≤ 140737488355328)
    (h : ∀ v1 w1, Buf w1 base v1 (l ++ [b]) → Below base w0 w1 → wpList Tryz.prog ops Q rest (a.put o.dst v1) w1) :
    wpList Tryz.prog ops Q (o :: rest) a (W.alloc (.cells #[c] 5)) := by
  subst hc
  obtain ⟨i0, hi, hzz⟩ := Option.map_eq_some_iff.1 info_u8
  simp only [Prod.mk.injEq] at hzz
  obtain ⟨hz0, hz1, hz2⟩ := hzz
  have HO1 : Buf (W.alloc (.cells #[.int .u8 b.toNat] 5)) base v l := HO.below ((Below.refl _ _).alloc (Nat.le_refl _) _)
  have HB1 : Below base w0 (W.alloc (.cells #[.int .u8 b.toNat] 5)) := HB.alloc hbase _
  have hsz : (W.alloc (.cells #[.int .u8 b.toNat] 5)).heap.size = W.heap.size + 1 := Array.size_push ..
  have hnew : (W.alloc (.cells #[.int .u8 b.toNat] 5)).cell? ⟨W.heap.size, 0, none⟩ = some (.int .u8 b.toNat) := by
    have := World.news_of_block (cs := #[.int .u8 b.toNat]) (t := 5) (fr := (0, 0)) (heap_alloc_new W (.cells #[.int .u8 b.toNat] 5)) 0 (.int .u8 b.toNat) (by rfl)
    rw [add_plain] at this
    exact this
  generalize W.alloc (.cells #[.int .u8 b.toNat] 5) = W1 at *
  have HO2 := HO1
  obtain ⟨g, cap, rfl, h1, h2, h3, h4, h5, h6, h7⟩ := HO1
  have hmap : (l.map fun b : UInt8 => (.int .u8 b.toNat : Value)).length = l.length * 1 := by simp
  refine wpList_append_arg W1 hgd s x _ ho 5 i0 (.int .u8 0) 1 1 Tryz.underlying80 hi hz0 hz1 hz2 rfl (by omega) g 0 l.length cap (l.map fun b => .int .u8 b.toNat) hs hmap (fun j u hu => ?_)
    ⟨W.heap.size, 0, none⟩ 1 1 [.int .u8 b.toNat] hx rfl (fun j u hu => ?_) (by simp [Value.oneCell']) (fun hr j hj => ?_) (by simp only [maxLen]; omega) (by omega) (fun hr => ?_) (fun hr v' w' hown hg => ?_)
  · rw [List.getElem?_map] at hu
    obtain ⟨x, hx, rfl⟩ := Option.map_eq_some_iff.mp hu
    obtain ⟨hj, rfl⟩ := List.getElem?_eq_some_iff.mp hx
    rw [Nat.zero_add]
    exact h5 j hj
  · cases j with
    | zero => simp at hu; subst hu; rw [add_plain]; exact hnew
    | succ j => simp at hu
  · simp at hj
    subst hj
    simp only [Nat.zero_add, Nat.mul_one, Nat.add_zero]
    exact ⟨h6 _ (by omega), h7 _ (by omega)⟩
  · simp only [Nat.zero_add, Nat.mul_one]
    refine h _ _ ⟨g, cap, by simp, h1, by simpa using hr, h3, ?_, fun j hj => ?_, fun j hj => ?_, fun j hj => ?_⟩ ?_
    · simpa [World.setCells] using h4
    · simp only [World.setCells]
      by_cases e : j = l.length
      · subst e
        rw [World.cell?_setCell_same _ _ _ (Option.some_get (h6 l.length (by omega))).symm]
        simp
      · have hj' : j < l.length := by simp at hj; omega
        rw [World.cell?_setCell_other _ _ _ _ (by intro e2; injection e2; omega), h5 j hj', List.getElem_append_left hj']
    · simp only [World.setCells]
      by_cases e : j = l.length
      · subst e
        rw [World.cell?_setCell_same _ _ _ (Option.some_get (h6 l.length (by omega))).symm]
        rfl
      · rw [World.cell?_setCell_other _ _ _ _ (by intro e2; injection e2; omega)]
        exact h6 j hj
    · rw [World.frozen?_setCells]
      exact h7 j hj
    · simp only [World.setCells]
      exact HB1.setCell (p := ⟨g, l.length, none⟩) h1 _
  · refine h v' w' ?_ (HB1.grown hg (by omega) (fun k hk => by cases hk))
    have hown2 : w'.ownsRow base 5 1 v' (l ++ [b]).length ((l ++ [b]).map fun b => .int .u8 b.toNat) := by
      have := (show Own enB 1 5 w' W1.heap.size v' (l ++ [b]) by unfold Own; rw [enB_flat]; simpa using hown).lower (base' := base) (by omega)
      unfold Own at this
      rw [enB_flat] at this
      exact this
    exact Buf.own hown2 (by simp)
end
end Go.Proofs.YtbpfcjdjhponaaaGreat
namespace Go.Proofs.YtbpfcjdjhponaaaGreat
open Go.RowKit
namespace Sp
end Sp
open Sp
end Go.Proofs.YtbpfcjdjhponaaaGreat
namespace Go.Proofs.YtbpfcjdjhponaaaGreat
open Go.RowKit
namespace Sp
end Sp
open Sp
def S4 (g : Nat) (a p n : Int) (t : ByteArray) (W : World) : Prop :=
  W.cell? ⟨g, 0, none⟩ = some (.int .i64 a) ∧ W.cell? ⟨g, 1, none⟩ = some (.int .i64 p) ∧ W.cell? ⟨g, 2, none⟩ = some (.int .i64 n) ∧ W.cell? ⟨g, 3, none⟩ = some (.string t)
theorem S4.below {g : Nat} {a p n : Int} {t : ByteArray} {W W' : World} (h : S4 g a p n t W) (hb : Below W.heap.size W W') : S4 g a p n t W' :=
  ⟨cell_below hb h.1, cell_below hb h.2.1, cell_below hb h.2.2.1, cell_below hb h.2.2.2⟩
theorem S4.alloc {g : Nat} {a p n : Int} {t : ByteArray} {W : World} (h : S4 g a p n t W) (o : Obj) : S4 g a p n t (W.alloc o) := h.below ((Below.refl _ _).alloc (Nat.le_refl _) _)
theorem S4.drew {g : Nat} {a p n : Int} {t : ByteArray} {W : World} (h : S4 g a p n t W) : S4 g a p n t W.drew := h
end Go.Proofs.YtbpfcjdjhponaaaGreat
namespace Go.Proofs.YtbpfcjdjhponaaaGreat
open Go.RowKit Sp Go.Lib
section
variable {α : Type} [Inhabited α] [DecidableEq α]
theorem compact_spec (lt : α → α → Bool) (htr : ∀ a b c, lt a b = true → lt b c = true → lt a c = true) (hir : ∀ a, lt a a = false) (htot : ∀ a b, a ≠ b → lt a b = true ∨ lt b a = true)
    (d : Array α) (hs : ∀ i j, i < j → j < d.size → lt d[j]! d[i]! = false) : ∀ m, m ≤ d.size → (compactUpTo d m).Pairwise (fun a b => lt a b = true) ∧ ∀ x, x ∈ compactUpTo d m ↔ ∃ j, j < m ∧ d[j]! = x
  | 0, _ => ⟨List.Pairwise.nil, fun x => by simp [compactUpTo]⟩
  | m + 1, hm => by
    obtain ⟨h1, h2⟩ := compact_spec lt htr hir htot d hs m (by omega)
    have hle : ∀ j, j < m → lt d[m]! d[j]! = false := fun j hj => hs j m hj (by omega)
    rw [compactUpTo_succ]
    by_cases hk : keeps d m = true
    · rw [if_pos hk]
      have hlt : ∀ x ∈ compactUpTo d m, lt x d[m]! = true := by
        intro x hx
        obtain ⟨j, hj, rfl⟩ := (h2 x).1 hx
        have hne : d[j]! ≠ d[m]! := by
          intro e
          simp only [keeps, decide_eq_true_eq] at hk
          rcases hk with hk | hk
          · omega
          · apply hk
            by_cases e1 : d[m]! = d[m - 1]!
            · exact e1
            · exfalso
              have hj1 : j ≠ m - 1 := fun e2 => e1 (by rw [← e, e2])
              have a1 := hs j (m - 1) (by omega) (by omega)
              have a2 := hle (m - 1) (by omega)
              rw [e] at a1
              rcases htot _ _ e1 with h | h
              · rw [h] at a2; cases a2
              · rw [h] at a1; cases a1
        rcases htot _ _ hne with h | h
        · exact h
        · rw [hle j hj] at h; cases h
      refine ⟨List.pairwise_append.2 ⟨h1, List.pairwise_singleton _ _, fun a ha b hb => by rw [List.mem_singleton.1 hb]; exact hlt a ha⟩, fun x => ?_⟩
      rw [List.mem_append, h2, List.mem_singleton]
      constructor
      · rintro (⟨j, hj, rfl⟩ | rfl)
        · exact ⟨j, by omega, rfl⟩
        · exact ⟨m, by omega, rfl⟩
      · rintro ⟨j, hj, rfl⟩
        rcases Nat.lt_or_ge j m with h | h
        · exact .inl ⟨j, h, rfl⟩
        · obtain rfl : j = m := by omega
          exact .inr rfl
    · rw [if_neg hk, List.append_nil]
      refine ⟨h1, fun x => ?_⟩
      rw [h2]
      simp only [keeps, decide_eq_true_eq, not_or, Decidable.not_not] at hk
      constructor
      · rintro ⟨j, hj, rfl⟩
        exact ⟨j, by omega, rfl⟩
      · rintro ⟨j, hj, rfl⟩
        rcases Nat.lt_or_ge j m with h | h
        · exact ⟨j, h, rfl⟩
        · obtain rfl : j = m := by omega
          exact ⟨j - 1, by omega, hk.2.symm⟩
end
def cfL (x y : List UInt8) : Int := cmpS (strOf x) (strOf y)
theorem ltOf_cfL (x y : List UInt8) : Go.Proofs.ltOf cfL x y = less (strOf x) (strOf y) := cmpS_neg _ _
theorem swo_cfL : Go.Sort.SWO (Go.Proofs.ltOf cfL) where
  irrefl x := by rw [ltOf_cfL]; exact less_irrefl _
  trans x y z h1 h2 := by rw [ltOf_cfL] at *; exact less_trans _ _ _ h1 h2
  ntrans x y z h1 h2 := by
    rw [ltOf_cfL] at *
    rw [not_less_iff] at *
    rcases h1 with h1 | h1
    · rcases h2 with h2 | h2
      · exact .inl (h1.trans h2)
      · rw [h1]; exact .inr h2
    · rcases h2 with h2 | h2
      · rw [← h2]; exact .inr h1
      · exact .inr (less_trans _ _ _ h2 h1)
theorem tot_cfL (x y : List UInt8) (h : x ≠ y) : Go.Proofs.ltOf cfL x y = true ∨ Go.Proofs.ltOf cfL y x = true := by
  rw [ltOf_cfL, ltOf_cfL]
  exact less_total _ _ (fun e => h (strOf_inj.1 e))
theorem compact_merge (a b : List ByteArray) (d' : Array (List UInt8)) (hp : d'.toList.Perm ((a ++ b).map fun s => s.data.toList)) (hs : ∀ i j, i < j → j < d'.size → Go.Proofs.ltOf cfL d'[j]! d'[i]! = false) :
    (compact d'.toList).map strOf = mergeS a b := by
  have hc := compact_spec (Go.Proofs.ltOf cfL) swo_cfL.trans swo_cfL.irrefl tot_cfL d' hs d'.size (Nat.le_refl _)
  have he : compact d'.toList = compactUpTo d' d'.size := by unfold compact; simp
  rw [he]
  symm
  refine mergeS_eq a b _ ?_ fun x => ?_
  · rw [Sorted, List.pairwise_map]
    exact hc.1.imp fun {x y} h => by rw [ltOf_cfL] at h; exact h
  · rw [List.mem_map]
    have hm : ∀ l, l ∈ compactUpTo d' d'.size ↔ strOf l ∈ a ++ b := by
      intro l
      rw [hc.2]
      have h1 : (∃ j, j < d'.size ∧ d'[j]! = l) ↔ l ∈ d'.toList := by
        rw [List.mem_iff_getElem]
        constructor
        · rintro ⟨j, hj, rfl⟩
          exact ⟨j, by simpa using hj, by simp [hj]⟩
        · rintro ⟨j, hj, rfl⟩
          exact ⟨j, by simpa using hj, by simp [show j < d'.size by simpa using hj]⟩
      rw [h1, hp.mem_iff, List.mem_map]
      constructor
      · rintro ⟨s, hs, rfl⟩
        rw [strOf_toList]; exact hs
      · intro h
        exact ⟨_, h, strOf_list l⟩
    rw [← List.mem_append]
    constructor
    · rintro ⟨l, hl, rfl⟩
      exact (hm l).1 hl
    · intro h
      exact ⟨x.data.toList, (hm _).2 (by rw [strOf_toList]; exact h), strOf_toList x⟩
end Go.Proofs.YtbpfcjdjhponaaaGreat
namespace Go.Proofs.YtbpfcjdjhponaaaGreat
open Go.RowKit Sp Go.Lib
theorem info_str : (Tryz.prog.info? 9).map (fun i => (i.zero, i.size, i.bytes)) = some (some (.string ⟨#[]⟩), 1, 16) := by kernel_rfl
set_option maxRecDepth 100000 in
theorem growStr_calls (n : Nat) (w : World) (hn : n ≤ 1048576) :
    Calls Tryz.prog 169 #[.slice none 0 0, .int .i64 n] w fun e w' => ∃ v, e = .returned v ∧ Own enS 1 9 w' w.heap.size v [] ∧ Below w.heap.size w w' := by
  by_cases h0 : n = 0
  · subst h0
    go_enter Tryz.func169, Tryz.ntmps169
    go_wp2
    go_ret
    exact ⟨_, rfl, Own.nil _ _ _ _ _, Below.refl _ _⟩
  · have hp : 0 < n := by omega
    clear h0
    obtain ⟨i0, hi, hz0, hz1, hz2⟩ := info_parts info_str
    have hrun := fun ty => run_append_nil_zeros (P := Tryz.prog) w 51 3 ty 9 i0 (.string ⟨#[]⟩) .i64 .i64 Tryz.underlying51 Tryz.underlying3 hi hz0 n hp (by omega) (by omega) (by rw [hz2]; omega)
    have hg1 := grownCap_ge w n 0 9
    have hg2 := grownCap_le_maxLen w n 0 9 (by simp only [maxLen]; omega)
    have HR := Lib.hid hrun
    clear hrun
    go_enter Tryz.func169, Tryz.ntmps169
    go_wp2_with (at_builtin; refine wpList_append_run w rfl (.tmp 20) (.tmp 21) 51 3 rfl (.slice none 0 0) (.int .i64 n) rfl rfl _ _ (HR.out _) ?_)
    go_ret
    refine ⟨_, rfl, ?_, (Below.refl _ _).drew.alloc (Nat.le_refl _) _⟩
    have h := World.ownsRow_made (base := w.heap.size) (e := 9) (size := 1) w.drew (Builtin.zeroCells (Value.string ⟨#[]⟩).cells n ++ Builtin.zeroCells (Value.string ⟨#[]⟩).cells (grownCap w n 0 9 - n)) (grownCap w n 0 9) (Nat.le_refl _) hg2 ?_
    · exact h
    · have hz : (Value.string ⟨#[]⟩).cells.size = 1 := rfl
      rw [Array.size_append, size_zeroCells, size_zeroCells, hz]
      omega
def twoTo (a b : List ByteArray) (k : Nat) : List ByteArray := if k = 0 then [] else if k = 1 then a else a ++ b
set_option maxHeartbeats 1000000 in
set_option maxRecDepth 100000 in
theorem concatStr_calls (g n1 c1 n2 c2 : Nat) (A1 A2 : Option Addr) (a b : List ByteArray) (w : World) (h0 : w.cell? ⟨g, 0, none⟩ = some (.slice A1 n1 c1)) (h1 : w.cell? ⟨g, 1, none⟩ = some (.slice A2 n2 c2))
    (ha : Row enS 1 w (.slice A1 n1 c1) a) (hb : Row enS 1 w (.slice A2 n2 c2) b) (hn1 : n1 ≤ 524288) (hn2 : n2 ≤ 524288) :
    Calls Tryz.prog 128 #[.slice (some ⟨g, 0, none⟩) 2 2] w fun e w' => ∃ v, e = .returned v ∧ Own enS 1 9 w' w.heap.size v (a ++ b) ∧ Below w.heap.size w w' := by
  have ea := ha.len_eq
  have eb := hb.len_eq
  have EA := Lib.hid ea
  have EB := Lib.hid eb
  clear ea eb
  have hgl : g < w.heap.size := World.block_lt_of_cell? w ⟨g, 0, none⟩ h0
  go_enter Tryz.func128, Tryz.ntmps128
  go_wp2
  go_loop [3, 11] (fun v3 v11 => ∃ k m : Nat, v11 = .int .i64 k ∧ k ≤ 2 ∧ v3 = .int .i64 m ∧ Hid (m = if k = 0 then 0 else if k = 1 then n1 else n1 + n2) ∧ m ≤ 1048576) (fun _ v11 => (2 - intOf v11).toNat)
  case atStart => exact ⟨0, 0, rfl, by omega, rfl, rfl, by omega⟩
  case round =>
    obtain ⟨k, m, rfl, hk, rfl, HM, hm⟩ := hrel
    obtain hk0 | hk1 | hk2 : k = 0 ∨ k = 1 ∨ k = 2 := by omega
    · subst hk0
      have hm0 : m ≤ 0 := by have := HM.out; simp at this; omega
      go_wp2
      go_round
      case rel => exact ⟨1, m + n1, by go_num, by omega, by go_num, by have := HM.out; simp at this; subst this; show _ = _; simp, by omega⟩
      case measure => simp [intOf]
    · subst hk1
      have hm1 : m ≤ 524288 := by have := HM.out; simp at this; omega
      go_wp2
      go_round
      case rel => exact ⟨2, m + n2, by go_num, by omega, by go_num, by have := HM.out; simp at this; subst this; show _ = _; simp, by omega⟩
      case measure => simp [intOf]
    · subst hk2
      go_wp2_with fail
      refine (growStr_calls m _ (by omega)).mono ?_
      rintro e w1 ⟨v, rfl, hO0, hB0⟩
      go_wp2
      go_loopw [6, 27] (fun v6 v27 wr => ∃ k : Nat, v27 = .int .i64 k ∧ k ≤ 2 ∧ Own enS 1 9 wr w.heap.size v6 (twoTo a b k) ∧ Below w.heap.size w wr) (fun _ v27 _ => (2 - intOf v27).toNat)
      case atStart => exact ⟨0, rfl, by omega, hO0, hB0⟩
      case round =>
        obtain ⟨k, rfl, hk, hO, hB⟩ := hrel
        have h0' := cell_below hB h0
        have h1' := cell_below hB h1
        obtain hk0 | hk1 | hk2 : k = 0 ∨ k = 1 ∨ k = 2 := by omega
        · subst hk0
          go_wp2_with (at_builtin; refine Own.appendRow (w0 := w) w.heap.size rfl (.tmp 31) (.tmp 32) 51 9 (.string ⟨#[]⟩) 1 16 rfl Tryz.underlying51 info_str rfl (by decide) u6 (.slice A1 n1 c1) [] a rfl rfl enS_one hO (ha.below hB) hB hB.size (by have := EA.out; simp; omega) (by have := EA.out; simp; omega) ?_; intro v1 w2 hO1 hB1 _ _)
          go_roundw
          case rel => exact ⟨1, by go_num, by omega, hO1, hB1⟩
          case measure => simp [intOf]
        · subst hk1
          go_wp2_with (at_builtin; refine Own.appendRow (w0 := w) w.heap.size rfl (.tmp 31) (.tmp 32) 51 9 (.string ⟨#[]⟩) 1 16 rfl Tryz.underlying51 info_str rfl (by decide) u6 (.slice A2 n2 c2) a b rfl rfl enS_one hO (hb.below hB) hB hB.size (by have := EA.out; have := EB.out; omega) (by have := EA.out; have := EB.out; omega) ?_; intro v1 w2 hO1 hB1 _ _)
          go_roundw
          case rel => exact ⟨2, by go_num, by omega, hO1, hB1⟩
          case measure => simp [intOf]
        · subst hk2
          go_wp2
          go_ret
          exact ⟨_, rfl, hO, hB⟩
theorem sort_none (p : Option Addr) (cap : Nat) (fv : Value) (w : World) : Calls Tryz.prog 129 #[.slice p 0 cap, fv] w fun e w' => e = .returned (.tuple #[]) ∧ w' = w :=
  AnyF.slices_SortFunc_none (P := Tryz.prog) (ρ := Tryz.laysSlF6_f129_ren) { Tryz.laysSlF6_f129 with } p cap fv w
theorem cmpLays (blk off size : Nat) (w : World) : CmpLays1 Tryz.prog 126 #[] encStr cfL blk off size w := by
  intro m os dk _ x y
  refine (compare_exact (strOf x) (strOf y) _).mono ?_
  rintro e w' ⟨rfl, o, rfl⟩
  exact ⟨rfl, 0, #[o], (Go.Sort.alloc_eq_grow _ _)⟩
theorem sort_own (v : Value) (xs : List ByteArray) (base : Nat) (w : World) (hO : Own enS 1 9 w base v xs) (hn : 0 < xs.length) (hx : xs.length ≤ 1048576) :
    Calls Tryz.prog 129 #[v, .func (.func 126) #[] #[]] w fun e w' => e = .returned (.tuple #[]) ∧ ∃ (g cap : Nat) (zs : List (List UInt8)), v = .slice (some ⟨g, 0, none⟩) xs.length cap ∧ zs.length = xs.length ∧ xs.length ≤ cap ∧ base ≤ g ∧
      zs.Perm (xs.map fun s => s.data.toList) ∧ (∀ i j, i < j → j < zs.toArray.size → ltOf cfL zs.toArray[j]! zs.toArray[i]! = false) ∧ w'.ownsRow base 9 1 v xs.length (zs.map encStr) ∧ w.grownBy w' (some g) := by
  rcases hO.2 with ⟨_, h0⟩ | ⟨g, cap, cur, rfl, hbase, hb, h1, h2, h3, h4⟩
  · omega
  · have hmap : xs.flatMap enS = (xs.map fun s => s.data.toList).map encStr := by
      rw [List.map_map]
      clear h1 h2 h3 h4 hb hO hn hx
      induction xs with
      | nil => rfl
      | cons x xs ih =>
        rw [List.flatMap_cons, ih, List.map_cons]
        show Value.string x :: _ = Value.string ⟨x.data.toList.toArray⟩ :: _
        rw [ofList_toList]
        rfl
    have hH : Go.Sort.Holds encStr w g 0 (xs.map fun s => s.data.toList).toArray := holds_of_block hb (by rw [← hmap]; simpa using h4)
    have eg : ∀ args w, (callFunc 126 args).run Tryz.prog w = .ok (.enter 126 args) w := enters_of Tryz.func126 (by kernel_rfl) rfl
    have hS := Tryz.slices_SortFunc encStr (fun _ => rfl) cfL swo_cfL 126 #[] g 0 cap (xs.map fun s => s.data.toList).toArray w eg (cmpLays g 0 _ w) hH (Array.getElem?_eq_some_iff.1 hb).1 (by simp only [List.size_toArray, List.length_map]; omega)
    simp only [List.size_toArray, List.length_map] at hS
    refine hS.mono ?_
    rintro e w' ⟨rfl, d', n, os, ⟨hp1, _, hp3⟩, hs, rfl⟩
    simp only [List.size_toArray, List.length_map] at hp1 hs
    have hl : d'.toList.length = (xs.map fun s => s.data.toList).length := by simpa using hp1
    have hto : d'.toList.toArray = d' := by simp
    refine ⟨rfl, g, cap, d'.toList, rfl, by simpa using hp1, h1, hbase, ?_, ?_, ?_, ?_⟩
    · have e1 : d'.extract 0 (xs.length) = d' := by rw [← hp1]; simp
      have e2 : (xs.map fun s => s.data.toList).toArray.extract 0 xs.length = (xs.map fun s => s.data.toList).toArray := by
        have : xs.length = (xs.map fun s => s.data.toList).toArray.size := by simp
        rw [this, Array.extract_size]
      rw [e1, e2] at hp3
      simpa using hp3
    · rw [hto]
      intro i j hij hj
      exact hs i j (Nat.zero_le _) hij (by omega)
    · have := ownsRow_sorted (w := w) (base := base) (g := g) (cap := cap) (n := n) (os := os) (cur := cur) (e := 9) (ss := xs.map fun s => s.data.toList) (ts := d'.toList) hl hbase hb (by simpa using h1) h2 h3
      rw [hto, List.length_map] at this
      exact this
    · exact grownBy_sorted d'
theorem strings_flat (zs : List (List UInt8)) : zs.map encStr = (zs.map strOf).flatMap enS := by
  induction zs with
  | nil => rfl
  | cons z zs ih => rw [List.map_cons, List.map_cons, List.flatMap_cons, ih]; rfl
theorem compact_own (g cap n : Nat) (zs : List (List UInt8)) (base : Nat) (w : World) (hn : zs.length = n) (hO : w.ownsRow base 9 1 (.slice (some ⟨g, 0, none⟩) n cap) n (zs.map encStr)) :
    Calls Tryz.prog 130 #[.slice (some ⟨g, 0, none⟩) n cap] w fun e w' => ∃ v, e = .returned v ∧ Row enS 1 w' v ((compact zs).map strOf) ∧ w.grownBy w' (some g) := by
  subst hn
  rcases hO.2 with ⟨h0, _⟩ | ⟨g', cap', cur, hv, hbase, hb, h1, h2, h3, h4⟩
  · cases h0
  · cases hv
    have hH : Go.Sort.Holds encStr w g 0 zs.toArray := holds_of_block hb (by simpa using h4)
    have hcl := compact_length_le zs
    refine (Tryz.slices_Compact_string g 0 cap zs w hH (by simp only [maxLen] at h2; omega) h1).mono ?_
    rintro e w' ⟨rfl, q, rfl⟩
    refine ⟨_, rfl, ?_, ?_⟩
    · have hts : (compact zs ++ List.replicate (zs.length - (compact zs).length) []).length = zs.length := by
        rw [List.length_append, List.length_replicate]; omega
      have ho := ownsRow_sorted (w := w) (base := base) (g := g) (cap := cap) (n := q) (os := #[]) (cur := cur) (e := 9) (ss := zs) (ts := compact zs ++ List.replicate (zs.length - (compact zs).length) []) hts hbase hb h1 h2 h3
      rw [Go.Sort.grow_empty] at ho
      have hlen : ((compact zs).map strOf).length = (compact zs).length := List.length_map _
      refine ⟨_, cap, by rw [hlen], by rw [hlen]; omega, h2, flat_length enS_len _, fun _ => ⟨_, rfl, fun j u hu => ?_⟩⟩
      refine ho.cells (g := g) rfl j u ?_
      rw [← strings_flat] at hu
      rw [List.map_append]
      have hj : j < ((compact zs).map encStr).length := (List.getElem?_eq_some_iff.1 hu).1
      rw [List.getElem?_append_left hj]
      exact hu
    · have := grownBy_sorted (w := w) (g := g) (n := q) (os := #[]) (compact zs ++ List.replicate (zs.length - (compact zs).length) []).toArray
      rwa [Go.Sort.grow_empty] at this
set_option maxHeartbeats 1000000 in
set_option maxRecDepth 100000 in
theorem Merge_calls (n1 c1 n2 c2 : Nat) (A1 A2 : Option Addr) (a b : List ByteArray) (w : World)
    (ha : Row enS 1 w (.slice A1 n1 c1) a) (hb : Row enS 1 w (.slice A2 n2 c2) b) (hn1 : n1 ≤ 524288) (hn2 : n2 ≤ 524288) :
    Calls Tryz.prog 79 #[.slice A1 n1 c1, .slice A2 n2 c2] w fun e w' => ∃ v, e = .returned v ∧ Row enS 1 w' v (mergeS a b) ∧ Below w.heap.size w w' := by
  have EA := Lib.hid ha.len_eq
  have EB := Lib.hid hb.len_eq
  go_enter Tryz.func79, Tryz.ntmps79
  go_wp2_with fail
  have hb0 : Below w.heap.size w (w.alloc (.cells #[.slice A1 n1 c1, .slice A2 n2 c2] 51)) := (Below.refl _ _).alloc (Nat.le_refl _) _
  refine (concatStr_calls w.heap.size n1 c1 n2 c2 A1 A2 a b _ (by simp) (by simp) (ha.below hb0) (hb.below hb0) hn1 hn2).mono ?_
  rintro e w1 ⟨v, rfl, hO, hB⟩
  have hB1 := below_call hb0 hB
  by_cases h0 : (a ++ b).length = 0
  · have hnil : mergeS a b = [] := by
      have h1 : a ++ b = [] := List.eq_nil_of_length_eq_zero h0
      unfold mergeS
      rw [h1]
      rfl
    have HNIL := Lib.hid hnil
    have hrow := hO.row
    obtain ⟨A, c, rfl, _⟩ := hO.slice
    rw [h0] at hrow ⊢
    have HN := Lib.hid h0
    clear h0 hnil
    go_wp2_with fail
    refine (sort_none A c _ _).mono ?_
    rintro e w2 ⟨rfl, rfl⟩
    go_wp2_with fail
    refine (Tryz.slices_Compact_string_empty A c _).mono ?_
    rintro e w2 ⟨rfl, rfl⟩
    go_wp2
    go_ret
    refine ⟨_, rfl, ?_, hB1⟩
    rw [HNIL.out]
    obtain ⟨A', c', he, _, h2, _⟩ := hrow
    injection he with e1 e2 e3
    subst e3
    exact ⟨A, c, rfl, Nat.zero_le _, h2, rfl, fun h => absurd h (by simp)⟩
  · go_wp2_with fail
    refine (sort_own v (a ++ b) _ _ hO (by omega) (by have := EA.out; have := EB.out; rw [List.length_append]; omega)).mono ?_
    rintro e w2 ⟨rfl, g, cap, zs, rfl, hz, hcap, hbase, hp, hs, hO2, hg⟩
    have hm := compact_merge a b zs.toArray (by simpa using hp) hs
    simp only at hm
    have HM := Lib.hid hm
    have HZ := Lib.hid hz
    clear hm hz hp hs
    go_wp2_with fail
    refine (compact_own g cap _ zs _ _ (by rw [HZ.out, List.length_append]) (by have h := hO2; rw [List.length_append] at h; exact h)).mono ?_
    rintro e w3 ⟨v3, rfl, hr, hg3⟩
    go_wp2
    go_ret
    refine ⟨_, rfl, ?_, ?_⟩
    · rw [HM.out] at hr
      exact hr
    · have h1 : w.heap.size + 1 ≤ g := by simpa using hbase
      have hsz := hB.size
      have e1 : Below w.heap.size w w2 := hB1.grown hg hB1.size (fun k hk => by injection hk with hk; omega)
      exact e1.grown hg3 e1.size (fun k hk => by injection hk with hk; omega)
end Go.Proofs.YtbpfcjdjhponaaaGreat
namespace Go.Proofs.YtbpfcjdjhponaaaGreat
open Go.RowKit Sp
def LessTo (l : List ByteArray) (s : ByteArray) (i : Nat) : Prop := ∀ j (h : j < l.length), j < i → less l[j] s = true
theorem LessTo.succ {l : List ByteArray} {s : ByteArray} {i : Nat} (h : LessTo l s i) (hi : ∀ h : i < l.length, less l[i] s = true) : LessTo l s (i + 1) := fun j hj hj1 => by
  rcases Nat.lt_or_ge j i with h' | h'
  · exact h j hj h'
  · obtain rfl : j = i := by omega
    exact hi hj
end Go.Proofs.YtbpfcjdjhponaaaGreat
namespace Go.Proofs.YtbpfcjdjhponaaaGreat
open Go.RowKit Sp
theorem take_eq_succ (a b : List ByteArray) (i : Nat) (ha : i < a.length) (hb : i < b.length) (h : a.take i = b.take i) (he : a[i] = b[i]) : a.take (i + 1) = b.take (i + 1) := by
  rw [List.take_succ_eq_append_getElem ha, List.take_succ_eq_append_getElem hb, h, he]
set_option maxHeartbeats 1000000 in
set_option maxRecDepth 100000 in
theorem refSame_calls (n c m d : Nat) (A B : Option Addr) (a b : List ByteArray) (w : World) (ha : Row enS 1 w (.slice A n c) a) (hb : Row enS 1 w (.slice B m d) b) :
    Calls Tryz.prog 24 #[.slice A n c, .slice B m d] w fun e w' => e = .returned (.bool (decide (a = b))) ∧ Below w.heap.size w w' := by
  have hn := ha.len
  have ea := ha.len_eq
  have eb := hb.len_eq
  have hn2 : n ≤ 9223372036854775807 := by omega
  have EA := Lib.hid ea
  have EB := Lib.hid eb
  clear ea eb hn
  by_cases hm : n = m
  · subst hm
    go_enter Tryz.func24, Tryz.ntmps24
    go_wp2
    go_loopw [5] (fun v5 wr => ∃ i q : Nat, v5 = .int .i64 i ∧ i ≤ n ∧ wr = w.drewN q ∧ Hid (a.take i = b.take i)) (fun v5 _ => (n - intOf v5).toNat)
    case atStart => exact ⟨0, 0, rfl, Nat.zero_le _, rfl, by show _ = _; simp⟩
    case round =>
      obtain ⟨i, q, rfl, hi, rfl, HT⟩ := hrel
      by_cases hlt : i < n
      · have hka : i < a.length := by have := EA.out; omega
        have hkb : i < b.length := by have := EB.out; omega
        obtain ⟨ad, rfl, hca⟩ := ha.get1 (f := Value.string) i hka
        obtain ⟨bd, rfl, hcb⟩ := hb.get1 (f := Value.string) i hkb
        by_cases hx : a[i] = b[i]
        · have HT2 : Hid (a.take (i + 1) = b.take (i + 1)) := take_eq_succ a b i hka hkb HT.out hx
          rw [← hx] at hcb
          have hne : (!(a[i].toList == a[i].toList)) = false := by simp
          clear hx
          go_wp2
          go_quiet (fail)
          go_wp2
          exact ⟨⟨i + 1, _, by go_num, by omega, rfl, HT2⟩, by simp [intOf]; omega⟩
        · have HV : Hid (decide (a = b) = false) := by
            refine decide_eq_false fun e => hx ?_
            subst e
            rfl
          have hne : (!(a[i].toList == b[i].toList)) = true := by
            simp only [Bool.not_eq_true', beq_eq_false_iff_ne]
            exact fun e => hx (toList_inj'.1 e)
          clear hx
          go_wp2
          go_quiet (fail)
          go_wp2
          go_ret
          exact ⟨ret_bool HV.out.symm, by repeat (first | exact Below.refl _ _ | apply below_drewN)⟩
      · have HV : Hid (decide (a = b) = true) := by
          refine decide_eq_true ?_
          have := HT.out
          rw [List.take_of_length_le (by have := EA.out; omega), List.take_of_length_le (by have := EB.out; omega)] at this
          exact this
        go_wp2
        go_ret
        exact ⟨ret_bool HV.out.symm, by repeat (first | exact Below.refl _ _ | apply below_drewN)⟩
  · have HV : Hid (decide (a = b) = false) := by
      refine decide_eq_false fun e => hm ?_
      have h1 := EA.out
      have h2 := EB.out
      rw [e] at h1
      omega
    have hb1 : ((n : Int) != m) = true := by simp; omega
    have hb2 : (n != m) = true := by simp; omega
    have hb3 : (!(n == m)) = true := by simp; omega
    clear hm
    go_enter Tryz.func24, Tryz.ntmps24
    go_wp2
    go_ret
    exact ⟨ret_bool HV.out.symm, Below.refl _ _⟩
end Go.Proofs.YtbpfcjdjhponaaaGreat
namespace Go.Proofs.YtbpfcjdjhponaaaGreat
open Go.RowKit Sp
end Go.Proofs.YtbpfcjdjhponaaaGreat
namespace Go.Proofs.YtbpfcjdjhponaaaGreat
open Go.RowKit Sp
def Bld (B b : Nat) (l : List UInt8) (w : World) : Prop := Lib.IsBuilderF 82 5 B b (Lib.byteCells l) w
theorem TextRow.kept {e : TypeId} {w w' : World} {k b n : Nat} {s : ByteArray} (h : TextRow e w k s) (hK : KeepsMarked b n w w') (hkb : k ≠ b) (hn : n ≤ s.size) : TextRow e w' k s := by
  refine h.keep ?_
  obtain ⟨cs, h1, h2, _⟩ := h
  exact hK k cs e _ hkb h1 (by simp; omega)
theorem BuilderAtF_later {T e : TypeId} {B b : Nat} {p : Value} {bs : List Value} {w w' : World} (h : Lib.BuilderAtF T e B b p bs w) (hk : ∀ k, k < w.heap.size → w'.heap[k]? = w.heap[k]?) : Lib.BuilderAtF T e B b p bs w' := by
  obtain ⟨hB, v, hb, hown, hne⟩ := h
  refine ⟨hB, v, (hk b (Array.getElem?_eq_some_iff.1 hb).1).trans hb, ⟨hown.1, ?_⟩, hne⟩
  rcases hown.2 with h | ⟨g, cap, cur, fz, hv, hg, hh, r⟩
  · exact .inl h
  · exact .inr ⟨g, cap, cur, fz, hv, hg, (hk g (Array.getElem?_eq_some_iff.1 hh).1).trans hh, r⟩
theorem Bld.later {B b : Nat} {l : List UInt8} {w w' : World} (h : Bld B b l w) (hk : ∀ k, k < w.heap.size → w'.heap[k]? = w.heap[k]?) : Bld B b l w' := by
  rcases h with h | h
  · exact .inl (BuilderAtF_later h hk)
  · exact .inr (BuilderAtF_later h hk)
theorem Bld.below {B b : Nat} {l : List UInt8} {w w' : World} (h : Bld B b l w) (hb : Below w.heap.size w w') : Bld B b l w' := h.later hb.block
theorem Bld.lt {B b : Nat} {l : List UInt8} {w : World} (h : Bld B b l w) : b < w.heap.size := by
  rcases h with h | h
  · obtain ⟨_, v, hb, _⟩ := h
    exact (Array.getElem?_eq_some_iff.1 hb).1
  · obtain ⟨_, v, hb, _⟩ := h
    exact (Array.getElem?_eq_some_iff.1 hb).1
end Go.Proofs.YtbpfcjdjhponaaaGreat
namespace Go.Proofs.YtbpfcjdjhponaaaGreat
open Go.RowKit Sp
end Go.Proofs.YtbpfcjdjhponaaaGreat
namespace Go.Proofs.YtbpfcjdjhponaaaGreat
open Go.RowKit Sp
theorem below_alloc {w w1 : World} (h : Below w.heap.size w w1) (o : Obj) : Below w.heap.size w (w1.alloc o) := h.alloc h.size o
section
variable (w : World)
theorem refIs_is (s : ByteArray) (b : Bool) (h : Hid (isName s = b)) (hs : s.size ≤ 140737488351232) :
    Calls Tryz.prog 80 #[.string s] w fun e w' => e = .returned (.bool b) ∧ w = w' := re_ (refIs_calls s w hs) (by rw [h.out])
theorem Less_is (s t : ByteArray) (b : Bool) (h : Hid (less s t = b)) :
    Calls Tryz.prog 76 #[.string s, .string t] w fun e w' => e = .returned (.bool b) ∧ Below w.heap.size w w' := re_ (Less_calls s t w) (by rw [h.out])
theorem refLess_is (s t : ByteArray) (b : Bool) (h : Hid (less s t = b)) :
    Calls Tryz.prog 131 #[.string s, .string t] w fun e w' => e = .returned (.bool b) ∧ w = w' := re_ (refLess_calls s t w) (by rw [h.out])
end
end Go.Proofs.YtbpfcjdjhponaaaGreat
namespace Go.Proofs.YtbpfcjdjhponaaaGreat
open Go.RowKit
namespace Sp
abbrev PV := Int × Int × Int × ByteArray
def zeroV : PV := (0, 0, 0, ⟨#[]⟩)
end Sp
open Sp
def encV (v : PV) : Value := .agg #[.int .i64 v.1, .int .i64 v.2.1, .int .i64 v.2.2.1, .string v.2.2.2]
theorem info_val : (Tryz.prog.info? 27).map (·.size) = some 4 := by kernel_rfl
end Go.Proofs.YtbpfcjdjhponaaaGreat
namespace Go.Proofs.YtbpfcjdjhponaaaGreat
open Go.RowKit
namespace Sp
def betR (ai ap as_ bi bp bs : Int) : Bool := if ap ≠ bp then decide (bp < ap) else if as_ ≠ bs then decide (bs < as_) else decide (ai < bi)
def betSe (a b : Se) : Bool := betR a.i a.v.2.1 a.v.2.2.1 b.i b.v.2.1 b.v.2.2.1
def bestSe : Se → List Se → Se
  | b, [] => b
  | b, x :: l => bestSe (if betSe x b then x else b) l
theorem bestSe_snoc (x : Se) : ∀ (l : List Se) (b : Se), bestSe b (l ++ [x]) = if betSe x (bestSe b l) then x else bestSe b l
  | [], b => rfl
  | y :: l, b => bestSe_snoc x l _
def zeroSe : Se := ⟨⟨#[]⟩, 0, zeroV⟩
def bestL (l : List Se) : Se × Bool := match l with
  | [] => (zeroSe, false)
  | x :: r => (bestSe x r, true)
def showL (m : Int) (l : List Se) : Int := l.foldl (fun m y => max m y.v.1) m
theorem showL_snoc (m : Int) (l : List Se) (x : Se) : showL m (l ++ [x]) = max (showL m l) x.v.1 := by unfold showL; rw [List.foldl_append]; rfl
def viewL (l : List Se) : PV × Bool := ((showL (bestL l).1.v.1 l, (bestL l).1.v.2), (bestL l).2)
theorem betR_id {ai ap as_ bi : Int} : betR ai ap as_ bi ap as_ = decide (ai < bi) := by unfold betR; rw [if_neg (fun h2 => h2 rfl), if_neg (fun h2 => h2 rfl)]
end Sp
end Go.Proofs.YtbpfcjdjhponaaaGreat
namespace Go.Proofs.YtbpfcjdjhponaaaGreat
open Go.RowKit
structure Kept (P : World → Prop) : Prop where
  below : ∀ {w w1 : World}, P w → Below w.heap.size w w1 → P w1
  drew : ∀ {w : World}, P w → P w.drew
theorem Kept.row {α : Type} {enc : α → List Value} {k : Nat} {v : Value} {xs : List α} : Kept (fun w => Row enc k w v xs) := ⟨fun h b => h.below b, fun h => h⟩
theorem Kept.own {α : Type} {enc : α → List Value} {k : Nat} {e : TypeId} {base : Nat} {v : Value} {xs : List α} : Kept (fun w => Own enc k e w base v xs) := ⟨fun h b => h.below b, fun h => h⟩
theorem Kept.heap {g : Nat} {o : Obj} : Kept (fun w => w.heap[g]? = some o) := ⟨fun h b => hcall h b, fun h => h⟩
theorem Kept.cell {a : Addr} {v : Value} : Kept (fun w => w.cell? a = some v) := ⟨fun h b => cell_below b h, fun h => h⟩
theorem Kept.lt {n : Nat} : Kept (fun w => n < w.heap.size) := ⟨fun h b => Nat.lt_of_lt_of_le h b.size, fun h => h⟩
theorem Kept.and {P Q : World → Prop} (h : Kept P) (k : Kept Q) : Kept (fun w => P w ∧ Q w) := ⟨fun x b => ⟨h.below x.1 b, k.below x.2 b⟩, fun x => ⟨h.drew x.1, k.drew x.2⟩⟩
theorem Kept.alloc {P : World → Prop} (h : Kept P) {w : World} (x : P w) (o : Obj) : P (w.alloc o) := h.below x (below_box o)
end Go.Proofs.YtbpfcjdjhponaaaGreat
namespace Go.Proofs.YtbpfcjdjhponaaaGreat
open Go.RowKit
open Sp
def cmpL : List Int → List Int → Int
  | [], [] => 0
  | [], _ :: _ => -1
  | _ :: _, [] => 1
  | x :: a, y :: b => if Lib.compareInt x y ≠ 0 then Lib.compareInt x y else cmpL a b
theorem cmpL_drop (xs ys : List Int) (k : Nat) (h : k < xs.length) (h2 : k < ys.length) : cmpL (xs.drop k) (ys.drop k) = if Lib.compareInt xs[k] ys[k] ≠ 0 then Lib.compareInt xs[k] ys[k] else cmpL (xs.drop (k + 1)) (ys.drop (k + 1)) := by
  rw [List.drop_eq_getElem_cons h, List.drop_eq_getElem_cons h2]; rfl
set_option maxHeartbeats 8000000 in
set_option maxRecDepth 100000 in
theorem cmpInts_calls (A B : Option Addr) (n c c2 : Nat) (xs ys : List Int) (w : World) (h : Row enI 1 w (.slice A n c) xs) (h2 : Row enI 1 w (.slice B n c2) ys) (hn : n ≤ 100) :
    Calls Tryz.prog 177 #[.slice A n c, .slice B n c2] w fun e w' => e = .returned (.int .i64 (cmpL xs ys)) ∧ Below w.heap.size w w' := by
  have HL := Lib.hid h.len_eq
  have HL2 := Lib.hid h2.len_eq
  go_enter Tryz.func177, Tryz.ntmps177
  go_wp2
  go_loopw [11] (fun v11 wr => ∃ k : Nat, v11 = .int .i64 k ∧ k ≤ n ∧ Hid (cmpL (xs.drop k) (ys.drop k) = cmpL xs ys) ∧ Below w.heap.size w wr) (fun v11 _ => (n - intOf v11).toNat)
  case atStart => exact ⟨0, rfl, Nat.zero_le _, by show _ = _; rw [List.drop_zero, List.drop_zero], Below.refl _ _⟩
  case round =>
    obtain ⟨k, rfl, hk, HF, D⟩ := hrel
    by_cases hlt : k < n
    · have hk1 : k < xs.length := by have := HL.out; omega
      have hk2 : k < ys.length := by have := HL2.out; omega
      obtain ⟨ad, rfl, hc⟩ := (h.below D).get1 (f := Value.int .i64) k hk1
      obtain ⟨bd, rfl, hd⟩ := (h2.below D).get1 (f := Value.int .i64) k hk2
      have hdr := cmpL_drop xs ys k hk1 hk2
      obtain ⟨x, hx⟩ : ∃ x, xs[k] = x := ⟨_, rfl⟩
      obtain ⟨y, hy⟩ : ∃ y, ys[k] = y := ⟨_, rfl⟩
      rw [hx] at hc hdr
      rw [hy] at hd hdr
      clear hx hy
      rw [HF.out] at hdr
      obtain ⟨r, hr⟩ : ∃ r, Lib.compareInt x y = r := ⟨_, rfl⟩
      rw [hr] at hdr
      have HR := Lib.hid hr
      clear hr
      go_wp2_with fail
      refine (Tryz.cmp_Compare_int _ _ _).mono ?_
      rintro e w1 ⟨rfl, rfl⟩
      rw [HR.out]
      by_cases h0 : r = 0
      · have hb : (r != 0) = false := by simp [h0]
        have HF2 : Hid (cmpL (xs.drop (k + 1)) (ys.drop (k + 1)) = cmpL xs ys) := by rw [hdr, if_neg (by simp [h0])]; rfl
        clear h0 hdr
        go_wp2
        exact ⟨⟨k + 1, by go_num, by omega, HF2, D⟩, by simp [intOf]; omega⟩
      · have hb : (r != 0) = true := by simp [h0]
        have HF2 : Hid (cmpL xs ys = r) := by rw [hdr, if_pos h0]; rfl
        clear h0 hdr
        go_wp2
        go_ret
        exact ⟨ret_int HF2.out.symm, D⟩
    · have HF2 : Hid (cmpL xs ys = 0) := by
        have := HF.out
        rw [List.drop_eq_nil_of_le (by have := HL.out; omega), List.drop_eq_nil_of_le (by have := HL2.out; omega)] at this
        exact this.symm
      go_wp2
      go_ret
      exact ⟨ret_int HF2.out.symm, D⟩
theorem row3 {W : World} {g : Nat} {i x y z : Int} {T : TypeId} (h : W.heap[g]? = some (.cells #[.int .i64 i, .int .i64 x, .int .i64 y, .int .i64 z] T)) : Row enI 1 W (.slice (some ⟨g, 1, none⟩) 3 3) [x, y, z] := by
  refine ⟨_, _, rfl, Nat.le_refl 3, by unfold maxLen; omega, rfl, fun _ => ⟨_, rfl, fun j u hj => ?_⟩⟩
  have e : [x, y, z].flatMap enI = [.int .i64 x, .int .i64 y, .int .i64 z] := rfl
  rw [e] at hj
  match j, hj with
  | 0, hj => injection hj with hj; subst hj; simp [World.cell?, Addr.add, h]
  | 1, hj => injection hj with hj; subst hj; simp [World.cell?, Addr.add, h]
  | 2, hj => injection hj with hj; subst hj; simp [World.cell?, Addr.add, h]
abbrev slotV (i p s : Int) : Value := .agg #[.int .i64 i, .int .i64 p, .int .i64 s, .int .i64 0]
theorem neqRank {t : TypeId} (hu : Tryz.prog.underlying t = some (.array 3 3)) (a b c x y z : Int) (W : World) : (binOp .neq t (.agg #[.int .i64 a, .int .i64 b, .int .i64 c]) (.agg #[.int .i64 x, .int .i64 y, .int .i64 z])).run Tryz.prog W = .ok (.bool (!(a == x && (b == y && c == z)))) W := by
  have hci : Tryz.prog.cellsOf 3 = 1 := by kernel_rfl
  have hint := Tryz.underlying3
  have hpk : Tryz.prog.plainKey 3 = true := by kernel_rfl
  obtain ⟨i, hi⟩ : ∃ i, Tryz.prog.info? 3 = some i := Option.isSome_iff_exists.1 (by kernel_rfl)
  have hp : ∀ (cs : Array Value) (off : Nat) (v : Value) (W : World), cs[off]? = some v → (part 3 cs off).run Tryz.prog W = .ok v W := fun cs off v W h => run_part_plain W hpk h
  have he : ∀ (d : Nat) (p q : Int) (W : World), (Op.equalIn (d + 1) 3 (.int .i64 p) (.int .i64 q)).run Tryz.prog W = .ok (p == q) W := fun d p q W => run_equalIn_int W d _ _ _ _ _ hint
  rw [run_neq_struct, run_equalIn_array W 9999 _ _ hu hi, hci, show List.range 3 = [0, 1, 2] from rfl]
  simp only [Op.eqItems, Sem.run_bind]
  rw [hp _ _ (.int .i64 a) W rfl]
  simp only [Result.andThen_ok]
  rw [hp _ _ (.int .i64 x) W rfl]
  simp only [Result.andThen_ok]
  rw [he]
  simp only [Result.andThen_ok]
  by_cases h1 : a = x
  · rw [if_neg (by simp [h1])]
    simp only [Sem.run_bind]
    rw [hp _ _ (.int .i64 b) W rfl]
    simp only [Result.andThen_ok]
    rw [hp _ _ (.int .i64 y) W rfl]
    simp only [Result.andThen_ok]
    rw [he]
    simp only [Result.andThen_ok]
    by_cases h2 : b = y
    · rw [if_neg (by simp [h2])]
      simp only [Sem.run_bind]
      rw [hp _ _ (.int .i64 c) W rfl]
      simp only [Result.andThen_ok]
      rw [hp _ _ (.int .i64 z) W rfl]
      simp only [Result.andThen_ok]
      rw [he]
      simp only [Result.andThen_ok]
      by_cases h3 : c = z
      · rw [if_neg (by simp [h3])]
        simp [h1, h2, h3]
      · rw [if_pos (by simp [h3])]
        simp [h1, h2, h3]
    · rw [if_pos (by simp [h2])]
      simp [h1, h2]
  · rw [if_pos (by simp [h1])]
    simp [h1]
end Go.Proofs.YtbpfcjdjhponaaaGreat
