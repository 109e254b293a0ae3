/-
Blocks of rows whose elements have k cells: copy, clear, append in place, as run equations; laws for the walk.
-/
import Derived.Test.YtpmafghknafhaaaLib
import Derived.Lib.Overlaps
import Derived.Lib.AppendZeros
import Derived.Lib.AppendZerosOnto
import Derived.Deep.RegionLaw
import Derived.Laws.Externs
set_option linter.unusedVariables false
set_option linter.unusedSimpArgs false
namespace Go.Proofs.Ytpmafghknafhaaa
open Go.RowKit

theorem run_copyK {P : Program} (w : World) (dT sT ty elem : TypeId) (k g o dLen dCap : Nat) (a : Addr) (sLen sCap : Nat) (cur : Array Value) (t : TypeId) (cs : List Value)
    (hu : P.underlying dT = some (.slice elem)) (hs : (P.info? elem).map (·.size) = some k)
    (hg : w.heap[g]? = some (.cells cur t (0, 0))) (hn : cs.length = Nat.min sLen dLen * k)
    (hsrc : ∀ j v, cs[j]? = some v → w.cell? (a.add j) = some v) (hfit : o + cs.length ≤ cur.size) (h1 : ∀ v ∈ cs, v.oneCell' = true) :
    (Builtin.copy_ #[dT, sT] ty #[.slice (some ⟨g, o, none⟩) dLen dCap, .slice (some a) sLen sCap]).run P w =
      .ok (goInt (Nat.min sLen dLen)) (w.setRow g (splice cur.toList o cs).toArray) := by
  have hl := run_loadCells_list (P := P) w a cs hsrc
  have hst := run_storeCells_at P g o t cs 0 cur w hg (by simpa using hfit) h1
  cases hq : P.info? elem with
  | none => simp [hq] at hs
  | some i =>
    have hi : i.size = k := by simpa [hq] using hs
    simp [Builtin.copy_, run_underlying hu, Builtin.lenOf, Builtin.firstCells, sizeOf, typeInfo, hq, hi, ← hn, hl, hst, splice]
theorem run_copyK_none {P : Program} (w : World) (dT sT ty elem : TypeId) (k : Nat) (d a : Option Addr) (dLen dCap sLen sCap : Nat) (hu : P.underlying dT = some (.slice elem)) (hs : (P.info? elem).map (·.size) = some k) (hn : Nat.min sLen dLen = 0) :
    (Builtin.copy_ #[dT, sT] ty #[.slice d dLen dCap, .slice a sLen sCap]).run P w = .ok (goInt 0) w := by
  cases hq : P.info? elem with
  | none => simp [hq] at hs
  | some i =>
    have hl : ∀ (x : Addr), (loadCells x 0).run P w = .ok #[] w := fun x => by simpa using run_loadCells_list (P := P) w x [] (by simp)
    cases d <;> cases a <;> simp [Builtin.copy_, run_underlying hu, Builtin.lenOf, Builtin.firstCells, sizeOf, typeInfo, hq, hn, storeCells, hl]
/-- copy into a row known whole: the row behind it is 'splice'. -/
theorem wpList_copyK {P : Program} {w : World} {ops : Array Oper} {rest : List Oper} {o : Oper} {a : Act} {Q : Exit → Act → World → Prop} (hgd : o.guard = none) (d s : Operand) (dT sT : TypeId)
    (ho : o.op = .call { callee := .builtin .copy, args := #[d, s], argTypes := #[dT, sT] }) (elem : TypeId) (k : Nat) (hu : P.underlying dT = some (.slice elem)) (hsz : (P.info? elem).map (·.size) = some k) (hk : 0 < k)
    (dp sp : Option Addr) (dLen dCap sLen sCap : Nat) (hd : a.eval d = .slice dp dLen dCap) (hs : a.eval s = .slice sp sLen sCap)
    (g off : Nat) (cur : List Value) (t : TypeId) (hg : w.heap[g]? = some (.cells cur.toArray t (0, 0))) (cs : List Value) (hn : cs.length = Nat.min sLen dLen * k)
    (hpos : 0 < cs.length → dp = some ⟨g, off, none⟩ ∧ ∃ ad, sp = some ad ∧ ∀ j v, cs[j]? = some v → w.cell? (ad.add j) = some v)
    (hfit : off + cs.length ≤ cur.length) (h1 : ∀ v ∈ cs, v.oneCell' = true) (B : Nat) (w0 : World) (hb : Below B w0 w) (hBg : B ≤ g)
    (h : ∀ w', Hid (w'.heap[g]? = some (.cells (splice cur off cs).toArray t (0, 0))) → Below B w0 w' → w'.heap.size = w.heap.size → (∀ j, j ≠ g → w'.heap[j]? = w.heap[j]?) → wpList P ops Q rest (a.put o.dst (goInt (Nat.min sLen dLen))) w') :
    wpList P ops Q (o :: rest) a w := by
  refine wpList_plain hgd fun K hK => ?_
  by_cases h0 : cs.length = 0
  · obtain rfl : cs = [] := List.eq_nil_of_length_eq_zero h0
    have hm : Nat.min sLen dLen = 0 := by
      rcases Nat.eq_zero_or_pos (Nat.min sLen dLen) with h | h
      · exact h
      · have := Nat.mul_pos h hk
        rw [← hn] at this
        simp at this
    have hrun := run_copyK_none (P := P) w dT sT o.type elem k dp sp dLen dCap sLen sCap hu hsz hm
    rw [hm] at h
    unfold Oper.wp
    simp [execOp, ho, resolve, invoke, builtin, hd, hs, hrun, Result.andThen]
    exact hK _ _ (h w (show _ = _ by simpa [splice] using hg) hb rfl fun _ _ => rfl)
  · obtain ⟨rfl, ad, rfl, hsrc⟩ := hpos (by omega)
    have hrun := run_copyK (P := P) w dT sT o.type elem k g off dLen dCap ad sLen sCap cur.toArray t cs hu hsz hg hn hsrc (by simpa using hfit) h1
    unfold Oper.wp
    simp [execOp, ho, resolve, invoke, builtin, hd, hs, hrun, Result.andThen]
    exact hK _ _ (h _ (show _ = _ by simpa using setRow_heap w g _ _ t _ hg) (below_setRow hb hBg _) (by simp [World.setRow]) fun j hj => setRow_other w g j _ hj)

/-- .. as a step of a region that draws. -/
theorem step_copyK {P : Program} {ops : Array Oper} {o : Oper} {a : Act} {w : World} {K : Act → World → Prop} {Q : Exit → Act → World → Prop} {E : Prop} (hgd : o.guard = none) (d s : Operand) (dT sT : TypeId)
    (ho : o.op = .call { callee := .builtin .copy, args := #[d, s], argTypes := #[dT, sT] }) (elem : TypeId) (k : Nat) (hu : P.underlying dT = some (.slice elem)) (hsz : (P.info? elem).map (·.size) = some k) (hk : 0 < k)
    (dp sp : Option Addr) (dLen dCap sLen sCap : Nat) (hd : a.eval d = .slice dp dLen dCap) (hs : a.eval s = .slice sp sLen sCap)
    (g off : Nat) (cur : List Value) (t : TypeId) (hg : w.heap[g]? = some (.cells cur.toArray t (0, 0))) (cs : List Value) (hn : cs.length = Nat.min sLen dLen * k)
    (hpos : 0 < cs.length → dp = some ⟨g, off, none⟩ ∧ ∃ ad, sp = some ad ∧ ∀ j v, cs[j]? = some v → w.cell? (ad.add j) = some v)
    (hfit : off + cs.length ≤ cur.length) (h1 : ∀ v ∈ cs, v.oneCell' = true) (B : Nat) (w0 : World) (hb : Below B w0 w) (hBg : B ≤ g)
    (h : ∀ w', Hid (w'.heap[g]? = some (.cells (splice cur off cs).toArray t (0, 0))) → Below B w0 w' → w'.heap.size = w.heap.size → (∀ j, j ≠ g → w'.heap[j]? = w.heap[j]?) → K (a.put o.dst (goInt (Nat.min sLen dLen))) w') :
    if Region.wanted o (yielded ops a.tmps) = true then Oper.wp P o a w K Q else E := by
  have hw : Region.wanted o (yielded ops a.tmps) = true := by simp [Region.wanted, hgd]
  rw [if_pos hw]
  by_cases h0 : cs.length = 0
  · obtain rfl : cs = [] := List.eq_nil_of_length_eq_zero h0
    have hm : Nat.min sLen dLen = 0 := by
      rcases Nat.eq_zero_or_pos (Nat.min sLen dLen) with h | h
      · exact h
      · have := Nat.mul_pos h hk
        rw [← hn] at this
        simp at this
    have hrun := run_copyK_none (P := P) w dT sT o.type elem k dp sp dLen dCap sLen sCap hu hsz hm
    rw [hm] at h
    unfold Oper.wp
    simp [execOp, ho, resolve, invoke, builtin, hd, hs, hrun, Result.andThen]
    exact h w (show _ = _ by simpa [splice] using hg) hb rfl fun _ _ => rfl
  · obtain ⟨rfl, ad, rfl, hsrc⟩ := hpos (by omega)
    have hrun := run_copyK (P := P) w dT sT o.type elem k g off dLen dCap ad sLen sCap cur.toArray t cs hu hsz hg hn hsrc (by simpa using hfit) h1
    unfold Oper.wp
    simp [execOp, ho, resolve, invoke, builtin, hd, hs, hrun, Result.andThen]
    exact h _ (show _ = _ by simpa using setRow_heap w g _ _ t _ hg) (below_setRow hb hBg _) (by simp [World.setRow]) fun j hj => setRow_other w g j _ hj
/-- append(s, x...) in place, a step of a region that draws: s a head of a row known whole. -/
theorem step_appendK {P : Program} {ops : Array Oper} {o : Oper} {a : Act} {w : World} {K : Act → World → Prop} {Q : Exit → Act → World → Prop} {E : Prop} (hgd : o.guard = none) (s x : Operand) (t : TypeId)
    (ho : o.op = .call { callee := .builtin .append, args := #[s, x], argTypes := #[t, t] }) (e : TypeId) (k : Nat) (ht : P.underlying t = some (.slice e)) (hsz : (P.info? e).map (·.size) = some k)
    (g n c : Nat) (hs : a.eval s = .slice (some ⟨g, 0, none⟩) n c) (sp : Option Addr) (m sc : Nat) (hx : a.eval x = .slice sp m sc)
    (cur : List Value) (hg : w.heap[g]? = some (.cells cur.toArray e (0, 0))) (cs : List Value) (hn : cs.length = m * k) (hpos : 0 < cs.length → ∃ ad, sp = some ad ∧ ∀ j v, cs[j]? = some v → w.cell? (ad.add j) = some v)
    (hk : 0 < k) (hroom : n + m ≤ c) (hfit : n * k + cs.length ≤ cur.length) (h1 : ∀ v ∈ cs, v.oneCell' = true) (B : Nat) (w0 : World) (hb : Below B w0 w) (hBg : B ≤ g)
    (h : ∀ w', Hid (w'.heap[g]? = some (.cells (splice cur (n * k) cs).toArray e (0, 0))) → Below B w0 w' → w'.heap.size = w.heap.size → (∀ j, j ≠ g → w'.heap[j]? = w.heap[j]?) → K (a.put o.dst (.slice (some ⟨g, 0, none⟩) (n + m) c)) w') :
    if Region.wanted o (yielded ops a.tmps) = true then Oper.wp P o a w K Q else E := by
  have hw : Region.wanted o (yielded ops a.tmps) = true := by simp [Region.wanted, hgd]
  rw [if_pos hw]
  cases hq : P.info? e with
  | none => simp [hq] at hsz
  | some i =>
  have hik : i.size = k := by simpa [hq] using hsz
  subst hik
  by_cases h0 : cs.length = 0
  · obtain rfl : cs = [] := List.eq_nil_of_length_eq_zero h0
    obtain rfl : m = 0 := by
      rcases Nat.eq_zero_or_pos m with h | h
      · exact h
      · have := Nat.mul_pos h hk
        rw [← hn] at this
        simp at this
    have hl : ∀ (x : Addr), (loadCells x 0).run P w = .ok #[] w := fun x => by simpa using run_loadCells_list (P := P) w x [] (by simp)
    have hrun : (Builtin.append_ #[t, t] o.type #[.slice (some ⟨g, 0, none⟩) n c, .slice sp 0 sc]).run P w = .ok (.slice (some ⟨g, 0, none⟩) n c) w := by
      have hnc : n ≤ c := by omega
      cases sp <;> simp [Builtin.append_, run_underlying ht, sizeOf, typeInfo, hq, Builtin.lenOf, Builtin.firstCells, hnc, storeCells, hl]
    unfold Oper.wp
    simp [execOp, ho, resolve, invoke, builtin, hs, hx, hrun, Result.andThen]
    exact h w (show _ = _ by simpa [splice] using hg) hb rfl fun _ _ => rfl
  · obtain ⟨ad, rfl, hsrc⟩ := hpos (by omega)
    have hrun := run_append_room (P := P) w t o.type e i ht hq g n c cur.toArray hg ad m sc cs hn hsrc h1 hroom (by simpa using hfit)
    unfold Oper.wp
    simp [execOp, ho, resolve, invoke, builtin, hs, hx, hrun, Result.andThen]
    refine h _ (show _ = _ by simpa [splice] using setRow_heap w g _ _ e _ hg) (below_setRow hb hBg _) (by simp [World.setRow]) fun j hj => setRow_other w g j _ hj
/-- append(s[:n], make([]T, m)...) where there is no room. -/
theorem wpList_append_zerosK {P : Program} {w : World} {ops : Array Oper} {rest : List Oper} {o : Oper} {a : Act} {Q : Exit → Act → World → Prop} (hgd : o.guard = none) (s x : Operand) (t tn : TypeId)
    (ho : o.op = .call { callee := .builtin .append, args := #[s, x], argTypes := #[t, tn] }) (e : TypeId) (z : Value) (k bytes : Nat) (kq kn : IntKind) (ht : P.underlying t = some (.slice e)) (htn : P.underlying tn = some (.int kn))
    (hinfo : (P.info? e).map (fun i => (i.zero, i.size, i.bytes)) = some (some z, k, bytes)) (hz : z.cells.size = k) (hk : 0 < k)
    (b n c m : Nat) (hs : a.eval s = .slice (some ⟨b, 0, none⟩) n c) (hx : a.eval x = .int kq m) (X1 : List Value) (h1 : X1.length = n * k) (hc : ∀ j v, X1[j]? = some v → w.cell? ⟨b, j, none⟩ = some v)
    (hgrow : c < n + m) (h0 : 0 < m) (hl : (n + m) * bytes ≤ 140737488355328) (hl2 : n + m ≤ 140737488355328)
    (h : ∀ nc (cur : List Value) w', n + m ≤ nc → nc ≤ 9223372036854775807 → cur.length = nc * k → Hid (cur.take (n * k) = X1) → w'.heap[w.heap.size]? = some (.cells cur.toArray e (0, 0)) → w'.heap.size = w.heap.size + 1 → Below w.heap.size w w' → wpList P ops Q rest (a.put o.dst (.slice (some ⟨w.heap.size, 0, none⟩) (n + m) nc)) w') :
    wpList P ops Q (o :: rest) a w := by
  obtain ⟨i, hi, hzz⟩ := Option.map_eq_some_iff.1 hinfo
  simp only [Prod.mk.injEq] at hzz
  obtain ⟨hz0, hz1, hz2⟩ := hzz
  have hf := run_firstCells_some (P := P) w.drew i.size n ⟨b, 0, none⟩ n c X1 (by rw [hz1]; exact h1) (fun j v hj => by rw [add_plain]; exact hc j v hj)
  have hmb : m * bytes ≤ (n + m) * bytes := Nat.mul_le_mul_right _ (by omega)
  have hrun := Lib.run_append_grow_zeros (P := P) w t tn o.type e i z kq kn ht htn hi hz0 (some ⟨b, 0, none⟩) n c X1 hf m h0 (by omega) hgrow (by omega) (by rw [hz2]; omega) (by rw [hz2]; exact growslice_fits (by omega) hl)
  have hge := grownCap_ge w (n + m) c e
  have hcm := grownCap_le_maxLen w (n + m) c e (by simp only [maxLen]; omega)
  refine Lib.wpList_append_run w hgd s x t tn ho _ _ hs hx _ _ hrun ?_
  have hzs : ∀ q, (Builtin.zeroCells z.cells q).toList.length = q * k := fun q => by rw [Array.length_toList, size_zeroCells, hz]
  refine h (grownCap w (n + m) c e) (X1 ++ ((Builtin.zeroCells z.cells m).toList ++ (Builtin.zeroCells z.cells (grownCap w (n + m) c e - (n + m))).toList)) _ hge (by simpa [maxLen] using hcm) ?_ ?_ ?_ (by simp) ?_
  · rw [List.length_append, List.length_append, h1, hzs, hzs, ← Nat.add_mul, ← Nat.add_mul]
    congr 1
    omega
  · show _ = _
    rw [← h1, List.take_left]
  · have := heap_alloc_new w.drew (.cells (X1.toArray ++ Builtin.zeroCells z.cells m ++ Builtin.zeroCells z.cells (grownCap w (n + m) c e - (n + m))) e)
    rw [show w.drew.heap.size = w.heap.size from rfl] at this
    rw [this]
    congr 2
    apply Array.toList_inj.1
    simp
  · exact ((Below.refl w.heap.size w).drew).alloc (Nat.le_refl _) _
theorem splice_ins {α : Type} (L X1 X2 Y : List α) (n k : Nat) (h : L.take n = X1 ++ X2) (hY : Y.length = k) (hL : n + k ≤ L.length) : (splice (splice L (X1.length + k) X2) X1.length Y).take (n + k) = X1 ++ (Y ++ X2) ∧ (splice (splice L (X1.length + k) X2) X1.length Y).length = L.length := by
  have hn : n = X1.length + X2.length := by
    have := congrArg List.length h
    rw [List.length_take, List.length_append] at this
    omega
  obtain ⟨D, hD⟩ : ∃ D, L = X1 ++ (X2 ++ D) := ⟨L.drop n, by rw [← List.append_assoc, ← h, List.take_append_drop]⟩
  subst hD
  have hDk : k ≤ D.length := by simp only [List.length_append] at hL; omega
  have e1 : splice (X1 ++ (X2 ++ D)) (X1.length + k) X2 = X1 ++ ((X2 ++ D).take k ++ (X2 ++ D.drop k)) := by
    unfold splice
    rw [List.take_append, List.take_of_length_le (Nat.le_add_right _ _), Nat.add_sub_cancel_left, List.append_assoc]
    congr 2
    congr 1
    rw [List.drop_append, List.drop_eq_nil_of_le (by omega), List.nil_append, show X1.length + k + X2.length - X1.length = k + X2.length by omega, List.drop_append, List.drop_eq_nil_of_le (by omega), List.nil_append]
    congr 1
    omega
  rw [e1]
  have e2 : splice (X1 ++ ((X2 ++ D).take k ++ (X2 ++ D.drop k))) X1.length Y = X1 ++ (Y ++ (X2 ++ D.drop k)) := by
    unfold splice
    rw [List.take_left]
    congr 2
    have hk : ((X2 ++ D).take k).length = k := by rw [List.length_take, List.length_append]; omega
    rw [List.drop_append, List.drop_eq_nil_of_le (by omega), List.nil_append, show X1.length + Y.length - X1.length = k by omega]
    exact List.drop_left' hk
  rw [e2]
  constructor
  · rw [← List.append_assoc Y, ← List.append_assoc X1, show n + k = (X1 ++ (Y ++ X2)).length by simp only [List.length_append]; omega, List.take_left]
  · simp only [List.length_append, List.length_drop]
    omega

theorem splice_app {α : Type} (L X1 X2 Y : List α) (a : Nat) (h : L.take a = X1) (ha : X1.length = a) (hL : a + Y.length + X2.length ≤ L.length) : (splice (splice L a Y) (a + Y.length) X2).take (a + Y.length + X2.length) = X1 ++ (Y ++ X2) ∧ (splice (splice L a Y) (a + Y.length) X2).length = L.length ∧ (splice L a Y).length = L.length := by
  subst ha
  obtain ⟨D, hD⟩ : ∃ D, L = X1 ++ D := ⟨L.drop X1.length, (by have e := List.take_append_drop X1.length L; rw [h] at e; exact e.symm)⟩
  subst hD
  have hl := length_splice (X1 ++ D) X1.length Y (by omega)
  have e1 : splice (X1 ++ D) X1.length Y = X1 ++ (Y ++ D.drop Y.length) := by
    unfold splice
    rw [List.take_left, List.drop_append, List.drop_eq_nil_of_le (by omega), List.nil_append, Nat.add_sub_cancel_left]
  have hl2 := length_splice (splice (X1 ++ D) X1.length Y) (X1.length + Y.length) X2 (by rw [hl]; omega)
  refine ⟨?_, by rw [hl2, hl], hl⟩
  rw [e1]
  unfold splice
  have e2 : (X1 ++ (Y ++ D.drop Y.length)).take (X1.length + Y.length) = X1 ++ Y := by
    rw [← List.append_assoc, ← List.length_append, List.take_left]
  rw [e2, ← List.append_assoc (X1 ++ Y), show X1.length + Y.length + X2.length = (X1 ++ Y ++ X2).length by simp only [List.length_append], List.take_left, List.append_assoc]

/-- The cells of n zero elements. -/
def zerosK (z : List Value) (n : Nat) : List Value := (Builtin.zeroCells z.toArray n).toList
theorem zerosK_len (z : List Value) (n : Nat) : (zerosK z n).length = n * z.length := by simp [zerosK, Builtin.zeroCells]
theorem zerosK_one (z : List Value) (n : Nat) (h1 : ∀ v ∈ z, v.oneCell' = true) : ∀ v ∈ zerosK z n, v.oneCell' = true := by
  intro v hv
  simp only [zerosK, Builtin.zeroCells, Array.toList_map, List.mem_map, Array.mem_toList_iff, Array.mem_range] at hv
  obtain ⟨i, hi, rfl⟩ := hv
  have hp : 0 < z.length := by
    rcases Nat.eq_zero_or_pos z.length with h | h
    · simp [h] at hi
    · exact h
  have hlt : i % z.length < z.length := Nat.mod_lt _ hp
  refine h1 _ ?_
  simp only [List.size_toArray]
  rw [getElem!_pos z.toArray _ (by simpa using hlt)]
  simp
/-- clear of a piece of a row. -/
theorem run_clearK {P : Program} (w : World) (t ty elem : TypeId) (z : Value) (k g o n c : Nat) (cur : Array Value) (T : TypeId)
    (hu : P.underlying t = some (.slice elem)) (hz : ∀ w, (zeroValue elem).run P w = .ok z w) (hk : z.cells.size = k) (h1 : ∀ v ∈ z.cells.toList, v.oneCell' = true)
    (hg : w.heap[g]? = some (.cells cur T (0, 0))) (hfit : o + n * k ≤ cur.size) (hn : 0 < n) :
    (Builtin.clear_ #[t] ty #[.slice (some ⟨g, o, none⟩) n c]).run P w = .ok (.tuple #[]) (w.setRow g (splice cur.toList o (zerosK z.cells.toList n)).toArray) := by
  have hl : (zerosK z.cells.toList n).length = n * k := by rw [zerosK_len, Array.length_toList, hk]
  have hst := run_storeCells_at P g o T (zerosK z.cells.toList n) 0 cur w hg (by rw [hl]; simpa using hfit) (zerosK_one _ _ h1)
  have hne : n ≠ 0 := by omega
  obtain ⟨m, rfl⟩ : ∃ m, n = m + 1 := ⟨n - 1, by omega⟩
  have e : (Builtin.zeroCells z.cells (m + 1)).toList = zerosK z.cells.toList (m + 1) := by simp [zerosK]
  simp [Builtin.clear_, run_underlying hu, hz, e, hst, splice]
/-- clear of a piece of a row known whole. -/
theorem wpList_clearK {P : Program} {w : World} {ops : Array Oper} {rest : List Oper} {o : Oper} {a : Act} {Q : Exit → Act → World → Prop} (hgd : o.guard = none) (s : Operand) (t : TypeId)
    (ho : o.op = .call { callee := .builtin .clear, args := #[s], argTypes := #[t] }) (elem : TypeId) (z : Value) (k : Nat) (hu : P.underlying t = some (.slice elem)) (hz : ∀ w, (zeroValue elem).run P w = .ok z w) (hk : z.cells.size = k) (h1 : ∀ v ∈ z.cells.toList, v.oneCell' = true)
    (g off n c : Nat) (hs : a.eval s = .slice (some ⟨g, off, none⟩) n c) (cur : List Value) (T : TypeId) (hg : w.heap[g]? = some (.cells cur.toArray T (0, 0))) (hfit : off + n * k ≤ cur.length) (hn : 0 < n)
    (B : Nat) (w0 : World) (hb : Below B w0 w) (hBg : B ≤ g)
    (h : ∀ w', Hid (w'.heap[g]? = some (.cells (splice cur off (zerosK z.cells.toList n)).toArray T (0, 0))) → Below B w0 w' → w'.heap.size = w.heap.size → (∀ j, j ≠ g → w'.heap[j]? = w.heap[j]?) → wpList P ops Q rest (a.put o.dst (.tuple #[])) w') :
    wpList P ops Q (o :: rest) a w := by
  refine wpList_plain hgd fun K hK => ?_
  have hrun := run_clearK (P := P) w t o.type elem z k g off n c cur.toArray T hu hz hk h1 hg (by simpa using hfit) hn
  unfold Oper.wp
  simp [execOp, ho, resolve, invoke, builtin, hs, hrun, Result.andThen]
  exact hK _ _ (h _ (show _ = _ by simpa using setRow_heap w g _ _ T _ hg) (below_setRow hb hBg _) (by simp [World.setRow]) fun j hj => setRow_other w g j _ hj)
theorem splice_take {α : Type} (L : List α) (off : Nat) (cs : List α) (h : off ≤ L.length) : (splice L off cs).take off = L.take off ∧ (splice L off cs).take (off + cs.length) = L.take off ++ cs := by
  have hl : (L.take off).length = off := by rw [List.length_take]; omega
  unfold splice
  constructor
  · conv => lhs; arg 1; rw [← hl]
    rw [List.take_left]
  · rw [← List.append_assoc, show off + cs.length = (L.take off ++ cs).length by rw [List.length_append, hl], List.take_left]
theorem splice_mid {α : Type} (X1 Y X2 D cs : List α) (a : Nat) (ha : X1.length = a) (h : cs.length = Y.length) : splice (X1 ++ (Y ++ (X2 ++ D))) a cs = X1 ++ (cs ++ (X2 ++ D)) := by
  subst ha
  unfold splice
  rw [List.take_left, List.drop_append, List.drop_eq_nil_of_le (by omega), List.nil_append, Nat.add_sub_cancel_left, h, List.drop_left]
/-- x[i] = p, x a row of the call's own, p a struct. -/
theorem Own.store {P : Program} {ops : Array Oper} {rest : List Oper} {o : Oper} {a : Act} {Q : Exit → Act → World → Prop} {α : Type} {enc : α → List Value} {k : Nat} {e : TypeId} {base : Nat} {w0 w : World} (hgd : o.guard = none) (ty : TypeId) (x y : Operand) (ho : o.op = .store ty x y)
    (hsz : (P.info? ty).map (·.size) = some k) (b n c i : Nat) (xs : List α) (p : α) (HO : Own enc k e w base (.slice (some ⟨b, 0, none⟩) n c) xs) (hk : ∀ x, (enc x).length = k) (h1 : ∀ u ∈ enc p, u.oneCell' = true) (hi : i < xs.length)
    (hx : a.eval x = .pointer (some ⟨b, i * k, none⟩)) (cs : List Value) (hp : enc p = cs) (hy : a.eval y = .agg cs.toArray) (HB : Below base w0 w)
    (h : ∀ w', Own enc k e w' base (.slice (some ⟨b, 0, none⟩) n c) (xs.set i p) → Below base w0 w' → w'.heap.size = w.heap.size → (∀ j, j ≠ b → w'.heap[j]? = w.heap[j]?) → wpList P ops Q rest (a.put o.dst undef) w') :
    wpList P ops Q (o :: rest) a w := by
  obtain ⟨hlen, h2⟩ := HO
  rcases h2 with ⟨h2, _⟩ | ⟨b', c', cur, he, hbb, hcur, hnc, hcm, hcs, htake⟩
  · cases h2
  simp only [Value.slice.injEq, Option.some.injEq, Addr.mk.injEq] at he
  obtain ⟨⟨rfl, -, -⟩, hn, rfl⟩ := he
  subst hp
  have hpl : (enc p).length = k := hk p
  obtain ⟨L, rfl⟩ : ∃ L : List Value, cur = L.toArray := ⟨cur.toList, by simp⟩
  have hLl : L.length = c * k := by simpa using hcs
  have hLt : L.take (xs.length * k) = xs.flatMap enc := by simpa using htake
  have e1 : xs.flatMap enc = (xs.take i).flatMap enc ++ (enc xs[i] ++ (xs.drop (i + 1)).flatMap enc) := by
    conv => lhs; rw [← List.take_append_drop i xs, ← List.getElem_cons_drop hi]
    rw [List.flatMap_append, List.flatMap_cons]
  have e2 : (xs.set i p).flatMap enc = (xs.take i).flatMap enc ++ (enc p ++ (xs.drop (i + 1)).flatMap enc) := by
    rw [List.set_eq_take_append_cons_drop, if_pos hi, List.flatMap_append, List.flatMap_cons]
  have l1 : ((xs.take i).flatMap enc).length = i * k := by rw [flat_length hk, List.length_take]; congr 1; omega
  have eL : L = (xs.take i).flatMap enc ++ (enc xs[i] ++ ((xs.drop (i + 1)).flatMap enc ++ L.drop (xs.length * k))) := by
    conv => lhs; rw [← List.take_append_drop (xs.length * k) L, hLt, e1]
    simp only [List.append_assoc]
  have e3 : splice L (i * k) (enc p) = (xs.set i p).flatMap enc ++ L.drop (xs.length * k) := by
    conv => lhs; rw [eL]
    rw [splice_mid _ _ _ _ _ _ l1 (by rw [hk, hk]), e2]
    simp only [List.append_assoc]
  have hfit : i * k + (enc p).length ≤ L.length := by
    rw [hk, hLl, ← Nat.succ_mul]
    exact Nat.mul_le_mul_right _ (by omega)
  have hst := run_storeCells_at P b (i * k) e (enc p) 0 L.toArray w hcur (by simpa using hfit) h1
  simp only [Nat.add_zero] at hst
  refine wpList_plain hgd fun K hK => ?_
  cases hq : P.info? ty with
  | none => simp [hq] at hsz
  | some i0 =>
    have hs : i0.size = k := by simpa [hq] using hsz
    unfold Oper.wp execOp
    simp only [ho, hx, hy, Instr.storeAt, Instr.sureAddr, Sem.run_bind, Sem.run_pure, Result.andThen_ok]
    have hrun : (storeVar ty ⟨b, i * k, none⟩ (.agg (enc p).toArray)).run P w = .ok () (w.setRow b (splice L (i * k) (enc p)).toArray) := by
      simp [storeVar, sizeOf, typeInfo, hq, Value.cells, hs, hpl, hst, splice]
    simp only [hrun, Result.andThen_ok]
    refine hK _ _ (h _ ?_ (below_setRow HB hbb _) (by simp [World.setRow]) fun j hj => setRow_other w b j _ hj)
    refine ⟨by rw [flat_length hk], .inr ⟨b, c, _, by rw [List.length_set, hn], hbb, setRow_heap w b _ _ e _ hcur, by rw [List.length_set]; exact hnc, hcm, ?_, ?_⟩⟩
    · rw [e3]
      simp only [List.size_toArray, List.length_append, List.length_drop]
      rw [flat_length hk, List.length_set, hLl]
      have : xs.length * k ≤ c * k := Nat.mul_le_mul_right _ hnc
      omega
    · show (splice L (i * k) (enc p)).take _ = _
      have hl3 : (xs.set i p).length * k = ((xs.set i p).flatMap enc).length := by rw [flat_length hk]
      rw [e3, hl3, List.take_left]
end Go.Proofs.Ytpmafghknafhaaa
