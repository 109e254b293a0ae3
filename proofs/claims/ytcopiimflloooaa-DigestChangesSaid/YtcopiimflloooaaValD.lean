/-
Layer 4: a value as bytes, taken.
-/
import Derived.Test.YtcopiimflloooaaValB
import Derived.Test.YtcopiimflloooaaIdentB
import Derived.Laws.Rows
set_option linter.unusedVariables false
set_option linter.unusedSimpArgs false
namespace Go.Proofs.Ytcopiimflloooaa
open Go.RowKit
namespace Sp
abbrev PV := Int × Int × Int × ByteArray
def zeroV : PV := (0, 0, 0, ⟨#[]⟩)
def takeVal (s : ByteArray) (a : Int) : PV × Int × Int :=
  if a < 0 ∨ (s.size : Int) < a then (zeroV, 0, 1)
  else if (s.size : Int) - a < 2 then (zeroV, 0, 2)
  else
    let g := getV s (a + 2)
    if g.2.2 ≠ 0 then (zeroV, 0, g.2.2)
    else
      let t := takeV s g.2.1 32
      if t.2.2 ≠ 0 then (zeroV, 0, t.2.2)
      else
        let v : PV := (((s.data.toList.getD a.toNat 0).toNat : Int), ((s.data.toList.getD (a.toNat + 1) 0).toNat : Int) - 128, (g.1 : Int), t.1)
        if mayV v.1 v.2.1 v.2.2.1 v.2.2.2 then (v, t.2.1, 0) else (zeroV, 0, 3)
end Sp
open Sp
def encV (v : PV) : Value := .agg #[.int .i64 v.1, .int .i64 v.2.1, .int .i64 v.2.2.1, .string v.2.2.2]

theorem refTake_is (s : ByteArray) (a most : Int) (t : ByteArray) (to er : Int) (w : World) (hs : s.size ≤ 140737488351232) (hm : most ≤ 1048576) (hm0 : -1048576 ≤ most) (h : Hid (takeV s a most = (t, to, er))) :
    Calls Try.prog 102 #[.string s, .int .i64 a, .int .i64 most] w fun e w' => e = .returned (.tuple #[.string t, .int .i64 to, .int .i64 er]) ∧ w = w' := by
  have := refTake_calls s a most w hs hm hm0
  rwa [h.out] at this

/-- The end of a function whose first result lies in a variable. -/
theorem bodyPost_ctt {P : Program} {fn : Func} {R : Ending → World → Prop} {a : Act} {w : World} {p u v : Tmp} {ty : TypeId} (h : fn.results = #[.cell p ty, .tmp u, .tmp v]) (g : Nat) (t : TypeId) (cs : Array Value) (fr : Nat × Nat) (d : TypeDesc)
    (hp : a.tmps.getD p undef = .pointer (some ⟨g, 0, none⟩)) (hg : w.heap[g]? = some (.cells cs t fr))
    (hu : P.underlying ty = some d) (hd : (match d with | .struct _ | .array _ _ => true | _ => false) = true) (hi : (P.info? ty).map (·.size) = some cs.size)
    (hde : a.defers = []) (hR : R (.returned (.tuple #[.agg cs, a.tmps.getD u undef, a.tmps.getD v undef])) w) : bodyPost P fn R .ret a w := by
  refine bodyPost_ret ?_ hde hR
  have hp' : a.tmps[p]?.getD undef = .pointer (some ⟨g, 0, none⟩) := by simpa using hp
  simp [results, h, hp', asAddr, run_loadVar_row w g t ty cs fr d hg hu hd hi]
theorem info_val : (Try.prog.info? 32).map (·.size) = some 4 := by kernel_rfl

set_option maxHeartbeats 2000000 in
set_option maxRecDepth 100000 in
theorem refTake04_1 (s : ByteArray) (a : Int) (w : World) (h : a < 0) :
    Calls Try.prog 79 #[.string s, .int .i64 a] w fun e w' => e = .returned (.tuple #[encV zeroV, .int .i64 0, .int .i64 1]) ∧ Below w.heap.size w w' := by
  go_enter Try.func79, Try.ntmps79
  go_wp2
  (try simp only [Exit.inBlock, Exit.then])
  exact bodyPost_ctt rfl w.heap.size _ _ (0, 0) _ rfl (heap_alloc_new w _) Try.underlying32 rfl info_val rfl ⟨rfl, (Below.refl _ _).alloc (Nat.le_refl _) _⟩

set_option maxHeartbeats 2000000 in
set_option maxRecDepth 100000 in
theorem refTake04_2 (s : ByteArray) (a : Int) (w : World) (h0 : 0 ≤ a) (h : (s.size : Int) < a) :
    Calls Try.prog 79 #[.string s, .int .i64 a] w fun e w' => e = .returned (.tuple #[encV zeroV, .int .i64 0, .int .i64 1]) ∧ Below w.heap.size w w' := by
  go_enter Try.func79, Try.ntmps79
  go_wp2
  (try simp only [Exit.inBlock, Exit.then])
  exact bodyPost_ctt rfl w.heap.size _ _ (0, 0) _ rfl (heap_alloc_new w _) Try.underlying32 rfl info_val rfl ⟨rfl, (Below.refl _ _).alloc (Nat.le_refl _) _⟩

set_option maxHeartbeats 2000000 in
set_option maxRecDepth 100000 in
theorem refTake04_3 (s : ByteArray) (a : Int) (w : World) (hs : s.size ≤ 140737488351232) (h0 : 0 ≤ a) (h1 : a ≤ (s.size : Int)) (h : (s.size : Int) - a < 2) :
    Calls Try.prog 79 #[.string s, .int .i64 a] w fun e w' => e = .returned (.tuple #[encV zeroV, .int .i64 0, .int .i64 2]) ∧ Below w.heap.size w w' := by
  go_enter Try.func79, Try.ntmps79
  go_wp2
  (try simp only [Exit.inBlock, Exit.then])
  exact bodyPost_ctt rfl w.heap.size _ _ (0, 0) _ rfl (heap_alloc_new w _) Try.underlying32 rfl info_val rfl ⟨rfl, (Below.refl _ _).alloc (Nat.le_refl _) _⟩

set_option maxHeartbeats 2000000 in
set_option maxRecDepth 100000 in
theorem refTake04_4 (s : ByteArray) (m : Nat) (n : Nat) (next : Int) (w : World) (hs : s.size ≤ 140737488351232) (h : m + 2 ≤ s.size) (er : Int) (he : er ≠ 0) (hg : Hid (getV s ((m : Int) + 2) = (n, next, er))) :
    Calls Try.prog 79 #[.string s, .int .i64 m] w fun e w' => e = .returned (.tuple #[encV zeroV, .int .i64 0, .int .i64 er]) ∧ Below w.heap.size w w' := by
  have hb : (er != 0) = true := by simpa using he
  have HE := Lib.hid he
  clear he
  go_enter Try.func79, Try.ntmps79
  go_wp2_with fail
  refine (refGet_is s _ n next er _ hs hg).mono ?_
  rintro e w1 ⟨rfl, rfl⟩
  go_wp2
  (try simp only [Exit.inBlock, Exit.then])
  exact bodyPost_ctt rfl w.heap.size _ _ (0, 0) _ rfl (heap_alloc_new w _) Try.underlying32 rfl info_val rfl ⟨rfl, (Below.refl _ _).alloc (Nat.le_refl _) _⟩

set_option maxHeartbeats 2000000 in
set_option maxRecDepth 100000 in
theorem refTake04_5 (s : ByteArray) (m : Nat) (n : Nat) (next : Int) (w : World) (hs : s.size ≤ 140737488351232) (h : m + 2 ≤ s.size) (t : ByteArray) (to er : Int) (he : er ≠ 0) (hg : Hid (getV s ((m : Int) + 2) = (n, next, 0))) (ht : Hid (takeV s next 32 = (t, to, er))) :
    Calls Try.prog 79 #[.string s, .int .i64 m] w fun e w' => e = .returned (.tuple #[encV zeroV, .int .i64 0, .int .i64 er]) ∧ Below w.heap.size w w' := by
  have hb : (er != 0) = true := by simpa using he
  have HE := Lib.hid he
  clear he
  go_enter Try.func79, Try.ntmps79
  go_wp2_with fail
  refine (refGet_is s _ n next 0 _ hs hg).mono ?_
  rintro e w1 ⟨rfl, rfl⟩
  go_wp2_with fail
  refine (refTake_is s next 32 t to er _ hs (by omega) (by omega) ht).mono ?_
  rintro e w1 ⟨rfl, rfl⟩
  go_wp2
  (try simp only [Exit.inBlock, Exit.then])
  exact bodyPost_ctt rfl w.heap.size _ _ (0, 0) _ rfl (heap_alloc_new w _) Try.underlying32 rfl info_val rfl ⟨rfl, (Below.refl _ _).alloc (Nat.le_refl _) _⟩

set_option maxHeartbeats 2000000 in
set_option maxRecDepth 100000 in
theorem refTake04_6 (s : ByteArray) (m : Nat) (n : Nat) (next : Int) (w : World) (hs : s.size ≤ 140737488351232) (h : m + 2 ≤ s.size) (t : ByteArray) (to : Int) (hg : Hid (getV s ((m : Int) + 2) = (n, next, 0))) (ht : Hid (takeV s next 32 = (t, to, 0))) (hn : 1099511627776 < n) :
    Calls Try.prog 79 #[.string s, .int .i64 m] w fun e w' => e = .returned (.tuple #[encV zeroV, .int .i64 0, .int .i64 3]) ∧ Below w.heap.size w w' := by
  go_enter Try.func79, Try.ntmps79
  go_wp2_with fail
  refine (refGet_is s _ n next 0 _ hs hg).mono ?_
  rintro e w1 ⟨rfl, rfl⟩
  go_wp2_with fail
  refine (refTake_is s next 32 t to 0 _ hs (by omega) (by omega) ht).mono ?_
  rintro e w1 ⟨rfl, rfl⟩
  go_wp2
  (try simp only [Exit.inBlock, Exit.then])
  exact bodyPost_ctt rfl w.heap.size _ _ (0, 0) _ rfl (heap_alloc_new w _) Try.underlying32 rfl info_val rfl ⟨rfl, (Below.refl _ _).alloc (Nat.le_refl _) _⟩

set_option maxHeartbeats 2000000 in
set_option maxRecDepth 100000 in
theorem refTake04_8 (s : ByteArray) (m : Nat) (x y n : Nat) (next to : Int) (t : ByteArray) (w : World) (hs : s.size ≤ 140737488351232) (h : m + 2 ≤ s.size) (hx : (s[m]'(by omega)).toNat = x) (hy : (s[m + 1]'(by omega)).toNat = y)
    (hg : Hid (getV s ((m : Int) + 2) = (n, next, 0))) (ht : Hid (takeV s next 32 = (t, to, 0))) (hn : n ≤ 1099511627776) (hts : t.size ≤ 32) (hm : Hid (mayV x ((y : Int) - 128) n t = false)) :
    Calls Try.prog 79 #[.string s, .int .i64 m] w fun e w' => e = .returned (.tuple #[encV zeroV, .int .i64 0, .int .i64 3]) ∧ Below w.heap.size w w' := by
  have hx0 : x < 256 := by rw [← hx]; exact UInt8.toNat_lt _
  have hy0 : y < 256 := by rw [← hy]; exact UInt8.toNat_lt _
  go_enter Try.func79, Try.ntmps79
  go_wp2_with fail
  refine (refGet_is s _ n next 0 _ hs hg).mono ?_
  rintro e w1 ⟨rfl, rfl⟩
  go_wp2_with fail
  refine (refTake_is s next 32 t to 0 _ hs (by omega) (by omega) ht).mono ?_
  rintro e w1 ⟨rfl, rfl⟩
  go_wp2_with fail
  go_region
  go_wp2_with fail
  refine (refMay_is _ _ _ t false _ (by omega) hm).mono ?_
  rintro e w2 ⟨rfl, b2⟩
  have hz : (w.alloc (.cells #[.int .i64 0, .int .i64 0, .int .i64 0, .string ⟨#[]⟩] 32)).heap.size = w.heap.size + 1 := Array.size_push ..
  have hnew : S4 (w.heap.size + 1) x ((y : Int) - 128) n t w2 := by
    refine S4.below (W := ((w.alloc (.cells #[.int .i64 0, .int .i64 0, .int .i64 0, .string ⟨#[]⟩] 32)).alloc (.cells #[.int .i64 x, .int .i64 ((y : Int) - 128), .int .i64 n, .string t] 32)).drew) (S4.drew ?_) b2
    rw [← hz]
    exact ⟨cell_new _ _ _ _ _ rfl, cell_new _ _ _ _ _ rfl, cell_new _ _ _ _ _ rfl, cell_new _ _ _ _ _ rfl⟩
  have hold : w2.heap[w.heap.size]? = some (.cells #[.int .i64 0, .int .i64 0, .int .i64 0, .string ⟨#[]⟩] 32 (0, 0)) := by
    refine (b2.block w.heap.size (Nat.lt_of_lt_of_le (by rw [hz]; omega) (Nat.le_of_lt (Nat.lt_of_lt_of_eq (Nat.lt_succ_self _) (Array.size_push ..).symm)))).trans ?_
    refine (Below.heap_alloc _ _ _ (by rw [hz]; omega)).trans ?_
    exact heap_alloc_new w _
  obtain ⟨c0, c1, c2, c3⟩ := hnew
  have o0 : w2.cell? ⟨w.heap.size, 0, none⟩ = some (.int .i64 0) := by simp [World.cell?, hold]
  have o1 : w2.cell? ⟨w.heap.size, 1, none⟩ = some (.int .i64 0) := by simp [World.cell?, hold]
  have o2 : w2.cell? ⟨w.heap.size, 2, none⟩ = some (.int .i64 0) := by simp [World.cell?, hold]
  have o3 : w2.cell? ⟨w.heap.size, 3, none⟩ = some (.string ⟨#[]⟩) := by simp [World.cell?, hold]
  have f0 : w2.frozen? ⟨w.heap.size, 0, none⟩ = false := by simp [World.frozen?, hold]
  have f1 : w2.frozen? ⟨w.heap.size, 1, none⟩ = false := by simp [World.frozen?, hold]
  have f2 : w2.frozen? ⟨w.heap.size, 2, none⟩ = false := by simp [World.frozen?, hold]
  have f3 : w2.frozen? ⟨w.heap.size, 3, none⟩ = false := by simp [World.frozen?, hold]
  have hB : Below w.heap.size w w2 := by
    have e1 : Below w.heap.size w ((w.alloc (.cells #[.int .i64 0, .int .i64 0, .int .i64 0, .string ⟨#[]⟩] 32)).alloc (.cells #[.int .i64 x, .int .i64 ((y : Int) - 128), .int .i64 n, .string t] 32)).drew := Below.drew (below_alloc0 (below_alloc0 (Below.refl _ _) _) _)
    exact below_call e1 b2
  go_wp2
  (try simp only [Exit.inBlock, Exit.then])
  refine bodyPost_ctt rfl w.heap.size 32 #[.int .i64 0, .int .i64 0, .int .i64 0, .string ⟨#[]⟩] (0, 0) _ rfl ?_ Try.underlying32 rfl info_val rfl ⟨rfl, ?_⟩
  · simp [World.setCell, Array.getElem?_modify, hold]
  · exact (((hB.setCell (p := ⟨w.heap.size, 0, none⟩) (Nat.le_refl _) _).setCell (p := ⟨w.heap.size, 1, none⟩) (Nat.le_refl _) _).setCell (p := ⟨w.heap.size, 2, none⟩) (Nat.le_refl _) _).setCell (p := ⟨w.heap.size, 3, none⟩) (Nat.le_refl _) _
set_option maxHeartbeats 2000000 in
set_option maxRecDepth 100000 in
theorem refTake04_9 (s : ByteArray) (m : Nat) (x y n : Nat) (next to : Int) (t : ByteArray) (w : World) (hs : s.size ≤ 140737488351232) (h : m + 2 ≤ s.size) (hx : (s[m]'(by omega)).toNat = x) (hy : (s[m + 1]'(by omega)).toNat = y)
    (hg : Hid (getV s ((m : Int) + 2) = (n, next, 0))) (ht : Hid (takeV s next 32 = (t, to, 0))) (hn : n ≤ 1099511627776) (hts : t.size ≤ 32) (hm : Hid (mayV x ((y : Int) - 128) n t = true)) :
    Calls Try.prog 79 #[.string s, .int .i64 m] w fun e w' => e = .returned (.tuple #[encV ((x : Int), (y : Int) - 128, (n : Int), t), .int .i64 to, .int .i64 0]) ∧ Below w.heap.size w w' := by
  have hx0 : x < 256 := by rw [← hx]; exact UInt8.toNat_lt _
  have hy0 : y < 256 := by rw [← hy]; exact UInt8.toNat_lt _
  go_enter Try.func79, Try.ntmps79
  go_wp2_with fail
  refine (refGet_is s _ n next 0 _ hs hg).mono ?_
  rintro e w1 ⟨rfl, rfl⟩
  go_wp2_with fail
  refine (refTake_is s next 32 t to 0 _ hs (by omega) (by omega) ht).mono ?_
  rintro e w1 ⟨rfl, rfl⟩
  go_wp2_with fail
  go_region
  go_wp2_with fail
  refine (refMay_is _ _ _ t true _ (by omega) hm).mono ?_
  rintro e w2 ⟨rfl, b2⟩
  have hz : (w.alloc (.cells #[.int .i64 0, .int .i64 0, .int .i64 0, .string ⟨#[]⟩] 32)).heap.size = w.heap.size + 1 := Array.size_push ..
  have hnew : S4 (w.heap.size + 1) x ((y : Int) - 128) n t w2 := by
    refine S4.below (W := ((w.alloc (.cells #[.int .i64 0, .int .i64 0, .int .i64 0, .string ⟨#[]⟩] 32)).alloc (.cells #[.int .i64 x, .int .i64 ((y : Int) - 128), .int .i64 n, .string t] 32)).drew) (S4.drew ?_) b2
    rw [← hz]
    exact ⟨cell_new _ _ _ _ _ rfl, cell_new _ _ _ _ _ rfl, cell_new _ _ _ _ _ rfl, cell_new _ _ _ _ _ rfl⟩
  have hold : w2.heap[w.heap.size]? = some (.cells #[.int .i64 0, .int .i64 0, .int .i64 0, .string ⟨#[]⟩] 32 (0, 0)) := by
    refine (b2.block w.heap.size (Nat.lt_of_lt_of_le (by rw [hz]; omega) (Nat.le_of_lt (Nat.lt_of_lt_of_eq (Nat.lt_succ_self _) (Array.size_push ..).symm)))).trans ?_
    refine (Below.heap_alloc _ _ _ (by rw [hz]; omega)).trans ?_
    exact heap_alloc_new w _
  obtain ⟨c0, c1, c2, c3⟩ := hnew
  have o0 : w2.cell? ⟨w.heap.size, 0, none⟩ = some (.int .i64 0) := by simp [World.cell?, hold]
  have o1 : w2.cell? ⟨w.heap.size, 1, none⟩ = some (.int .i64 0) := by simp [World.cell?, hold]
  have o2 : w2.cell? ⟨w.heap.size, 2, none⟩ = some (.int .i64 0) := by simp [World.cell?, hold]
  have o3 : w2.cell? ⟨w.heap.size, 3, none⟩ = some (.string ⟨#[]⟩) := by simp [World.cell?, hold]
  have f0 : w2.frozen? ⟨w.heap.size, 0, none⟩ = false := by simp [World.frozen?, hold]
  have f1 : w2.frozen? ⟨w.heap.size, 1, none⟩ = false := by simp [World.frozen?, hold]
  have f2 : w2.frozen? ⟨w.heap.size, 2, none⟩ = false := by simp [World.frozen?, hold]
  have f3 : w2.frozen? ⟨w.heap.size, 3, none⟩ = false := by simp [World.frozen?, hold]
  have hB : Below w.heap.size w w2 := by
    have e1 : Below w.heap.size w ((w.alloc (.cells #[.int .i64 0, .int .i64 0, .int .i64 0, .string ⟨#[]⟩] 32)).alloc (.cells #[.int .i64 x, .int .i64 ((y : Int) - 128), .int .i64 n, .string t] 32)).drew := Below.drew (below_alloc0 (below_alloc0 (Below.refl _ _) _) _)
    exact below_call e1 b2
  go_wp2
  (try simp only [Exit.inBlock, Exit.then])
  refine bodyPost_ctt rfl w.heap.size 32 #[.int .i64 x, .int .i64 ((y : Int) - 128), .int .i64 n, .string t] (0, 0) _ rfl ?_ Try.underlying32 rfl info_val rfl ⟨rfl, ?_⟩
  · simp [World.setCell, Array.getElem?_modify, hold]
  · exact (((hB.setCell (p := ⟨w.heap.size, 0, none⟩) (Nat.le_refl _) _).setCell (p := ⟨w.heap.size, 1, none⟩) (Nat.le_refl _) _).setCell (p := ⟨w.heap.size, 2, none⟩) (Nat.le_refl _) _).setCell (p := ⟨w.heap.size, 3, none⟩) (Nat.le_refl _) _
end Go.Proofs.Ytcopiimflloooaa
