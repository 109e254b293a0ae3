/-
Layer 23: what is read into a variable, by the program.
-/
import Derived.Test.YtobhlcogopcbdaaScrG
set_option linter.unusedVariables false
set_option linter.unusedSimpArgs false
namespace Go.Proofs.Ytobhlcogopcbdaa
open Go.RowKit
open Sp

theorem ta_yes {P : Program} (T x e : TypeId) (hu : P.underlying T = some (.pointer e)) (v : Value) (w : World) : (Instr.typeAssert (.iface T v) x T true).run P w = .ok (.tuple #[v, .bool true]) w := by
  simp [Instr.typeAssert, run_underlying hu]
theorem ta_no {P : Program} (T x T' e : TypeId) (hu : P.underlying T' = some (.pointer e)) (hz : ∀ w, (zeroValue T').run P w = .ok (.pointer none) w) (h : T ≠ T') (v : Value) (w : World) : (Instr.typeAssert (.iface T v) x T' true).run P w = .ok (.tuple #[.pointer none, .bool false]) w := by
  simp [Instr.typeAssert, run_underlying hu, h, hz]
theorem zero_ps (w : World) : (zeroValue 101).run Try.prog w = .ok (.pointer none) w := by kernel_rfl
theorem zero_pi (w : World) : (zeroValue 100).run Try.prog w = .ok (.pointer none) w := by kernel_rfl

set_option maxHeartbeats 4000000 in
set_option maxRecDepth 100000 in
theorem take_str (s : ByteArray) (m : Int) (g off : Nat) (x0 : Value) (t : ByteArray) (to er : Int) (w : World) (hs : s.size ≤ 140737488351232) (hc : w.cell? ⟨g, off, none⟩ = some x0) (hf : w.frozen? ⟨g, off, none⟩ = false) (hg : g < w.heap.size) (HT : Hid (takeN s m = (t, to, er))) :
    Calls Try.prog 80 #[.string s, .int .i64 m, .iface 101 (.pointer (some ⟨g, off, none⟩))] w fun e w' => e = .returned (.tuple #[.int .i64 to, .bool (er == 0)]) ∧ ∃ w1, Below w.heap.size w w1 ∧ w' = w1.setCell ⟨g, off, none⟩ (.string t) := by
  have hty := ta_yes (P := Try.prog) 101 20 _ Try.underlying101
  go_enter Try.func80, Try.ntmps80
  go_wp2_with fail
  refine (identTake_is _ s m t to er HT hs).mono ?_
  rintro e w1 ⟨rfl, b1⟩
  obtain ⟨hc1, hf1⟩ := bcell b1
  go_wp2
  go_ret2
  exact ⟨rfl, w1, b1, rfl⟩

set_option maxHeartbeats 4000000 in
set_option maxRecDepth 100000 in
theorem take_int (s : ByteArray) (m : Nat) (g off : Nat) (x0 : Value) (b : Nat) (w : World) (hs : s.size ≤ 140737488351232) (hm : m < s.size) (hb : (s[m]'hm).toNat = b) (hc : w.cell? ⟨g, off, none⟩ = some x0) (hf : w.frozen? ⟨g, off, none⟩ = false) :
    Calls Try.prog 80 #[.string s, .int .i64 m, .iface 100 (.pointer (some ⟨g, off, none⟩))] w fun e w' => e = .returned (.tuple #[.int .i64 ((m : Int) + 1), .bool true]) ∧ w' = w.setCell ⟨g, off, none⟩ (.int .i64 b) := by
  have hb2 : b < 256 := by rw [← hb]; exact UInt8.toNat_lt _
  have hlt : (m : Int) < (s.size : Int) := by omega
  have hty := ta_yes (P := Try.prog) 100 20 _ Try.underlying100
  have htn0 := ta_no (P := Try.prog) 100 20 101 _ Try.underlying101 zero_ps (by decide)
  go_enter Try.func80, Try.ntmps80
  go_wp2
  go_ret2
  exact ⟨rfl, rfl⟩

set_option maxHeartbeats 4000000 in
set_option maxRecDepth 100000 in
theorem take_int_no (s : ByteArray) (m : Int) (g off : Nat) (w : World) (hs : s.size ≤ 140737488351232) (hm : (s.size : Int) ≤ m) :
    Calls Try.prog 80 #[.string s, .int .i64 m, .iface 100 (.pointer (some ⟨g, off, none⟩))] w fun e w' => e = .returned (.tuple #[.int .i64 0, .bool false]) ∧ w' = w := by
  have hty := ta_yes (P := Try.prog) 100 20 _ Try.underlying100
  have htn0 := ta_no (P := Try.prog) 100 20 101 _ Try.underlying101 zero_ps (by decide)
  go_enter Try.func80, Try.ntmps80
  go_wp2
  go_ret2
  exact ⟨rfl, rfl⟩

set_option maxHeartbeats 4000000 in
set_option maxRecDepth 100000 in
theorem take_val (s : ByteArray) (m : Int) (g off : Nat) (x0 x1 x2 x3 : Value) (v : PV) (to er : Int) (w : World) (hs : s.size ≤ 140737488351232) (hc0 : w.cell? ⟨g, off, none⟩ = some x0) (hc1 : w.cell? ⟨g, off + 1, none⟩ = some x1) (hc2 : w.cell? ⟨g, off + 2, none⟩ = some x2) (hc3 : w.cell? ⟨g, off + 3, none⟩ = some x3)
    (hf0 : w.frozen? ⟨g, off, none⟩ = false) (hf1 : w.frozen? ⟨g, off + 1, none⟩ = false) (hf2 : w.frozen? ⟨g, off + 2, none⟩ = false) (hf3 : w.frozen? ⟨g, off + 3, none⟩ = false) (hg : g < w.heap.size) (HT : Hid (takeVal s m = (v, to, er))) :
    Calls Try.prog 80 #[.string s, .int .i64 m, .iface 103 (.pointer (some ⟨g, off, none⟩))] w fun e w' => e = .returned (.tuple #[.int .i64 to, .bool (er == 0)]) ∧ ∃ w1, Below w.heap.size w w1 ∧ w' = (((w1.setCell ⟨g, off, none⟩ (.int .i64 v.1)).setCell ⟨g, off + 1, none⟩ (.int .i64 v.2.1)).setCell ⟨g, off + 2, none⟩ (.int .i64 v.2.2.1)).setCell ⟨g, off + 3, none⟩ (.string v.2.2.2) := by
  obtain ⟨va, vp, vn, vt⟩ := v
  have hty := ta_yes (P := Try.prog) 103 20 _ Try.underlying103
  have htn0 := ta_no (P := Try.prog) 103 20 101 _ Try.underlying101 zero_ps (by decide)
  have htn1 := ta_no (P := Try.prog) 103 20 100 _ Try.underlying100 zero_pi (by decide)
  go_enter Try.func80, Try.ntmps80
  go_wp2_with fail
  refine (valTake_is s m (va, vp, vn, vt) to er _ hs HT).mono ?_
  rintro e w1 ⟨rfl, b1⟩
  obtain ⟨hcx, hfx⟩ := bcell b1
  go_wp2
  go_ret2
  exact ⟨rfl, w1, b1, rfl⟩
end Go.Proofs.Ytobhlcogopcbdaa
