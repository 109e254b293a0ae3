import Derived.Lib.Overlaps
import Derived.Lib.AppendZeros
import Derived.Lib.AppendZerosOnto
import Derived.Deep.RegionLaw
import Derived.Laws.Externs
import Derived.Test.YtbpfcjdjhponaaaGreatPViewHides05
set_option linter.unusedVariables false
set_option linter.unusedSimpArgs false
namespace Go.Proofs.YtbpfcjdjhponaaaGreat
open Go.RowKit
theorem run_copyK {P : Program} (w : World) (dT sT ty elem : TypeId) (k g o dLen dCap : Nat) (a : Addr) (sLen sCap : Nat) (cur : Array Value) (t : TypeId) (cs : List Value)
    (hu : P.underlying dT = some (.slice elem)) (hs : (P.info? elem).map (·.size) = some k)
    (hg : w.heap[g]? = some (.cells cur t (0, 0))) (hn : cs.length = Nat.min sLen dLen * k)
    (hsrc : ∀ j v, cs[j]? = some v → w.cell? (a.add j) = some v) (hfit : o + cs.length ≤ cur.size) (h1 : ∀ v ∈ cs, v.oneCell' = true) :
    (Builtin.copy_ #[dT, sT] ty #[.slice (some ⟨g, o, none⟩) dLen dCap, .slice (some a) sLen sCap]).run P w =
      .ok (goInt (Nat.min sLen dLen)) (w.setRow g (splice cur.toList o cs).toArray) := by
  have hl := run_loadCells_list (P := P) w a cs hsrc
  have hst := run_storeCells_at P g o t cs 0 cur w hg (by simpa using hfit) h1
  cases hq : P.info? elem with
  | none => simp [hq] at hs
  | some i =>
    have hi : i.size = k := by simpa [hq] using hs
    simp [Builtin.copy_, run_underlying hu, Builtin.lenOf, Builtin.firstCells, sizeOf, typeInfo, hq, hi, ← hn, hl, hst, splice]
theorem run_copyK_none {P : Program} (w : World) (dT sT ty elem : TypeId) (k : Nat) (d a : Option Addr) (dLen dCap sLen sCap : Nat) (hu : P.underlying dT = some (.slice elem)) (hs : (P.info? elem).map (·.size) = some k) (hn : Nat.min sLen dLen = 0) :
    (Builtin.copy_ #[dT, sT] ty #[.slice d dLen dCap, .slice a sLen sCap]).run P w = .ok (goInt 0) w := by
  cases hq : P.info? elem with
  | none => simp [hq] at hs
  | some i =>
    have hl : ∀ (x : Addr), (loadCells x 0).run P w = .ok #[] w := fun x => by simpa using run_loadCells_list (P := P) w x [] (by simp)
    cases d <;> cases a <;> simp [Builtin.copy_, run_underlying hu, Builtin.lenOf, Builtin.firstCells, sizeOf, typeInfo, hq, hn, storeCells, hl]
theorem wpList_copyK {P : Program} {w : World} {ops : Array Oper} {rest : List Oper} {o : Oper} {a : Act} {Q : Exit → Act → World → Prop} (hgd : o.guard = none) (d s : Operand) (dT sT : TypeId)
    (ho : o.op = .call { callee := .builtin .copy, args := #[d, s], argTypes := #[dT, sT] }) (elem : TypeId) (k : Nat) (hu : P.underlying dT = some (.slice elem)) (hsz : (P.info? elem).map (·.size) = some k) (hk : 0 < k)
    (dp sp : Option Addr) (dLen dCap sLen sCap : Nat) (hd : a.eval d = .slice dp dLen dCap) (hs : a.eval s = .slice sp sLen sCap)
    (g off : Nat) (cur : List Value) (t : TypeId) (hg : w.heap[g]? = some (.cells cur.toArray t (0, 0))) (cs : List Value) (hn : cs.length = Nat.min sLen dLen * k)
    (hpos : 0 < cs.length → dp = some ⟨g, off, none⟩ ∧ ∃ ad, sp = some ad ∧ ∀ j v, cs[j]? = some v → w.cell? (ad.add j) = some v)
    (hfit : off + cs.length ≤ cur.length) (h1 : ∀ v ∈ cs, v.oneCell' = true) (B : Nat) (w0 : World) (hb : Below B w0 w) (hBg : B ≤ g)
    (h : ∀ w', Hid (w'.heap[g]? = some (.cells (splice cur off cs).toArray t (0, 0))) → Below B w0 w' → w'.heap.size = w.heap.size → (∀ j, j ≠ g → w'.heap[j]? = w.heap[j]?) → wpList P ops Q rest (a.put o.dst (goInt (Nat.min sLen dLen))) w') :
    wpList P ops Q (o :: rest) a w := by
  refine wpList_plain hgd fun K hK => ?_
  by_cases h0 : cs.length = 0
  · obtain rfl : cs = [] := List.eq_nil_of_length_eq_zero h0
    have hm : Nat.min sLen dLen = 0 := by
      rcases Nat.eq_zero_or_pos (Nat.min sLen dLen) with h | h
      · exact h
      · have := Nat.mul_pos h hk
        rw [← hn] at this
        simp at this
    have hrun := run_copyK_none (P := P) w dT sT o.type elem k dp sp dLen dCap sLen sCap hu hsz hm
    rw [hm] at h
    unfold Oper.wp
    simp [execOp, ho, resolve, invoke, builtin, hd, hs, hrun, Result.andThen]
    exact hK _ _ (h w (show _ = _ by simpa [splice] using hg) hb rfl fun _ _ => rfl)
  · obtain ⟨rfl, ad, rfl, hsrc⟩ := hpos (by omega)
    have hrun := run_copyK (P := P) w dT sT o.type elem k g off dLen dCap ad sLen sCap cur.toArray t cs hu hsz hg hn hsrc (by simpa using hfit) h1
    unfold Oper.wp
    simp [execOp, ho, resolve, invoke, builtin, hd, hs, hrun, Result.andThen]
    exact hK _ _ (h _ (show _ = _ by simpa using setRow_heap w g _ _ t _ hg) (below_setRow hb hBg _) (by simp [World.setRow]) fun j hj => setRow_other w g j _ hj)
theorem step_copyK {P : Program} {ops : Array Oper} {o : Oper} {a : Act} {w : World} {K : Act → World → Prop} {Q : Exit → Act → World → Prop} {E : Prop} (hgd : o.guard = none) (d s : Operand) (dT sT : TypeId)
    (ho : o.op = .call { callee := .builtin .copy, args := #[d, s], argTypes := #[dT, sT] }) (elem : TypeId) (k : Nat) (hu : P.underlying dT = some (.slice elem)) (hsz : (P.info? elem).map (·.size) = some k) (hk : 0 < k)
    (dp sp : Option Addr) (dLen dCap sLen sCap : Nat) (hd : a.eval d = .slice dp dLen dCap) (hs : a.eval s = .slice sp sLen sCap)
    (g off : Nat) (cur : List Value) (t : TypeId) (hg : w.heap[g]? = some (.cells cur.toArray t (0, 0))) (cs : List Value) (hn : cs.length = Nat.min sLen dLen * k)
    (hpos : 0 < cs.length → dp = some ⟨g, off, none⟩ ∧ ∃ ad, sp = some ad ∧ ∀ j v, cs[j]? = some v → w.cell? (ad.add j) = some v)
    (hfit : off + cs.length ≤ cur.length) (h1 : ∀ v ∈ cs, v.oneCell' = true) (B : Nat) (w0 : World) (hb : Below B w0 w) (hBg : B ≤ g)
    (h : ∀ w', Hid (w'.heap[g]? = some (.cells (splice cur off cs).toArray t (0, 0))) → Below B w0 w' → w'.heap.size = w.heap.size → (∀ j, j ≠ g → w'.heap[j]? = w.heap[j]?) → K (a.put o.dst (goInt (Nat.min sLen dLen))) w') :
    if Region.wanted o (yielded ops a.tmps) = true then Oper.wp P o a w K Q else E := by
  have hw : Region.wanted o (yielded ops a.tmps) = true := by simp [Region.wanted, hgd]
  rw [if_pos hw]
  by_cases h0 : cs.length = 0
  · obtain rfl : cs = [] := List.eq_nil_of_length_eq_zero h0
    have hm : Nat.min sLen dLen = 0 := by
      rcases Nat.eq_zero_or_pos (Nat.min sLen dLen) with h | h
      · exact h
      · have := Nat.mul_pos h hk
        rw [← hn] at this
        simp at this
    have hrun := run_copyK_none (P := P) w dT sT o.type elem k dp sp dLen dCap sLen sCap hu hsz hm
    rw [hm] at h
    unfold Oper.wp
    simp [execOp, ho, resolve, invoke, builtin, hd, hs, hrun, Result.andThen]
    exact h w (show _ = _ by simpa [splice] using hg) hb rfl fun _ _ => rfl
  · obtain ⟨rfl, ad, rfl, hsrc⟩ := hpos (by omega)
    have hrun := run_copyK (P := P) w dT sT o.type elem k g off dLen dCap ad sLen sCap cur.toArray t cs hu hsz hg hn hsrc (by simpa using hfit) h1
    unfold Oper.wp
    simp [execOp, ho, resolve, invoke, builtin, hd, hs, hrun, Result.andThen]
    exact h _ (show _ = _ by simpa using setRow_heap w g _ _ t _ hg) (below_setRow hb hBg _) (by simp [World.setRow]) fun j hj => setRow_other w g j _ hj
theorem step_appendK {P : Program} {ops : Array Oper} {o : Oper} {a : Act} {w : World} {K : Act → World → Prop} {Q : Exit → Act → World → Prop} {E : Prop} (hgd : o.guard = none) (s x : Operand) (t : TypeId)
    (ho : o.op = .call { callee := .builtin .append, args := #[s, x], argTypes := #[t, t] }) (e : TypeId) (k : Nat) (ht : P.underlying t = some (.slice e)) (hsz : (P.info? e).map (·.size) = some k)
    (g n c : Nat) (hs : a.eval s = .slice (some ⟨g, 0, none⟩) n c) (sp : Option Addr) (m sc : Nat) (hx : a.eval x = .slice sp m sc)
    (cur : List Value) (hg : w.heap[g]? = some (.cells cur.toArray e (0, 0))) (cs : List Value) (hn : cs.length = m * k) (hpos : 0 < cs.length → ∃ ad, sp = some ad ∧ ∀ j v, cs[j]? = some v → w.cell? (ad.add j) = some v)
    (hk : 0 < k) (hroom : n + m ≤ c) (hfit : n * k + cs.length ≤ cur.length) (h1 : ∀ v ∈ cs, v.oneCell' = true) (B : Nat) (w0 : World) (hb : Below B w0 w) (hBg : B ≤ g)
    (h : ∀ w', Hid (w'.heap[g]? = some (.cells (splice cur (n * k) cs).toArray e (0, 0))) → Below B w0 w' → w'.heap.size = w.heap.size → (∀ j, j ≠ g → w'.heap[j]? = w.heap[j]?) → K (a.put o.dst (.slice (some ⟨g, 0, none⟩) (n + m) c)) w') :
    if Region.wanted o (yielded ops a.tmps) = true then Oper.wp P o a w K Q else E := by
  have hw : Region.wanted o (yielded ops a.tmps) = true := by simp [Region.wanted, hgd]
  rw [if_pos hw]
  cases hq : P.info? e with
  | none => simp [hq] at hsz
  | some i =>
  have hik : i.size = k := by simpa [hq] using hsz
  subst hik
  by_cases h0 : cs.length = 0
  · obtain rfl : cs = [] := List.eq_nil_of_length_eq_zero h0
    obtain rfl : m = 0 := by
      rcases Nat.eq_zero_or_pos m with h | h
      · exact h
      · have := Nat.mul_pos h hk
        rw [← hn] at this
        simp at this
    have hl : ∀ (x : Addr), (loadCells x 0).run P w = .ok #[] w := fun x => by simpa using run_loadCells_list (P := P) w x [] (by simp)
    have hrun : (Builtin.append_ #[t, t] o.type #[.slice (some ⟨g, 0, none⟩) n c, .slice sp 0 sc]).run P w = .ok (.slice (some ⟨g, 0, none⟩) n c) w := by
      have hnc : n ≤ c := by omega
      cases sp <;> simp [Builtin.append_, run_underlying ht, sizeOf, typeInfo, hq, Builtin.lenOf, Builtin.firstCells, hnc, storeCells, hl]
    unfold Oper.wp
    simp [execOp, ho, resolve, invoke, builtin, hs, hx, hrun, Result.andThen]
    exact h w (show _ = _ by simpa [splice] using hg) hb rfl fun _ _ => rfl
  · obtain ⟨ad, rfl, hsrc⟩ := hpos (by omega)
    have hrun := run_append_room (P := P) w t o.type e i ht hq g n c cur.toArray hg ad m sc cs hn hsrc h1 hroom (by simpa using hfit)
    unfold Oper.wp
    simp [execOp, ho, resolve, invoke, builtin, hs, hx, hrun, Result.andThen]
    refine h _ (show _ = _ by simpa [splice] using setRow_heap w g _ _ e _ hg) (below_setRow hb hBg _) (by simp [World.setRow]) fun j hj => setRow_other w g j _ hj
theorem wpList_append_zerosK {P : Program} {w : World} {ops : Array Oper} {rest : List Oper} {o : Oper} {a : Act} {Q : Exit → Act → World → Prop} (hgd : o.guard = none) (s x : Operand) (t tn : TypeId)
    (ho : o.op = .call { callee := .builtin .append, args := #[s, x], argTypes := #[t, tn] }) (e : TypeId) (z : Value) (k bytes : Nat) (kq kn : IntKind) (ht : P.underlying t = some (.slice e)) (htn : P.underlying tn = some (.int kn))
    (hinfo : (P.info? e).map (fun i => (i.zero, i.size, i.bytes)) = some (some z, k, bytes)) (hz : z.cells.size = k) (hk : 0 < k)
    (b n c m : Nat) (hs : a.eval s = .slice (some ⟨b, 0, none⟩) n c) (hx : a.eval x = .int kq m) (X1 : List Value) (h1 : X1.length = n * k) (hc : ∀ j v, X1[j]? = some v → w.cell? ⟨b, j, none⟩ = some v)
    (hgrow : c < n + m) (h0 : 0 < m) (hl : (n + m) * bytes ≤ 140737488355328) (hl2 : n + m ≤ 140737488355328)
    (h : ∀ nc (cur : List Value) w', n + m ≤ nc → nc ≤ 9223372036854775807 → cur.length = nc * k → Hid (cur.take (n * k) = X1) → w'.heap[w.heap.size]? = some (.cells cur.toArray e (0, 0)) → w'.heap.size = w.heap.size + 1 → Below w.heap.size w w' → wpList P ops Q rest (a.put o.dst (.slice (some ⟨w.heap.size, 0, none⟩) (n + m) nc)) w') :
    wpList P ops Q (o :: rest) a w := by
  obtain ⟨i, hi, hzz⟩ := Option.map_eq_some_iff.1 hinfo
  simp only [Prod.mk.injEq] at hzz
  obtain ⟨hz0, hz1, hz2⟩ := hzz
  have hf := run_firstCells_some (P := P) w.drew i.size n ⟨b, 0, none⟩ n c X1 (by rw [hz1]; exact h1) (fun j v hj => by rw [add_plain]; exact hc j v hj)
  have hmb : m * bytes ≤ (n + m) * bytes := Nat.mul_le_mul_right _ (by omega)
  have hrun := Lib.run_append_grow_zeros (P := P) w t tn o.type e i z kq kn ht htn hi hz0 (some ⟨b, 0, none⟩) n c X1 hf m h0 (by omega) hgrow (by omega) (by rw [hz2]; omega) (by rw [hz2]; exact growslice_fits (by omega) hl)
  have hge := grownCap_ge w (n + m) c e
  have hcm := grownCap_le_maxLen w (n + m) c e (by simp only [maxLen]; omega)
  refine Lib.wpList_append_run w hgd s x t tn ho _ _ hs hx _ _ hrun ?_
  have hzs : ∀ q, (Builtin.zeroCells z.cells q).toList.length = q * k := fun q => by rw [Array.length_toList, size_zeroCells, hz]
  refine h (grownCap w (n + m) c e) (X1 ++ ((Builtin.zeroCells z.cells m).toList ++ (Builtin.zeroCells z.cells (grownCap w (n + m) c e - (n + m))).toList)) _ hge (by simpa [maxLen] using hcm) ?_ ?_ ?_ (by simp) ?_
  · rw [List.length_append, List.length_append, h1, hzs, hzs, ← Nat.add_mul, ← Nat.add_mul]
    congr 1
    omega
  · show _ = _
    rw [← h1, List.take_left]
  · have := heap_alloc_new w.drew (.cells (X1.toArray ++ Builtin.zeroCells z.cells m ++ Builtin.zeroCells z.cells (grownCap w (n + m) c e - (n + m))) e)
    rw [show w.drew.heap.size = w.heap.size from rfl] at this
    rw [this]
    congr 2
    apply Array.toList_inj.1
    simp
  · exact ((Below.refl w.heap.size w).drew).alloc (Nat.le_refl _) _
theorem splice_ins {α : Type} (L X1 X2 Y : List α) (n k : Nat) (h : L.take n = X1 ++ X2) (hY : Y.length = k) (hL : n + k ≤ L.length) : (splice (splice L (X1.length + k) X2) X1.length Y).take (n + k) = X1 ++ (Y ++ X2) ∧ (splice (splice L (X1.length + k) X2) X1.length Y).length = L.length := by
  have hn : n = X1.length + X2.length := by
    have := congrArg List.length h
    rw [List.length_take, List.length_append] at this
    omega
  obtain ⟨D, hD⟩ : ∃ D, L = X1 ++ (X2 ++ D) := ⟨L.drop n, by rw [← List.append_assoc, ← h, List.take_append_drop]⟩
  subst hD
  have hDk : k ≤ D.length := by simp only [List.length_append] at hL; omega
  have e1 : splice (X1 ++ (X2 ++ D)) (X1.length + k) X2 = X1 ++ ((X2 ++ D).take k ++ (X2 ++ D.drop k)) := by
    unfold splice
    rw [List.take_append, List.take_of_length_le (Nat.le_add_right _ _), Nat.add_sub_cancel_left, List.append_assoc]
    congr 2
    congr 1
    rw [List.drop_append, List.drop_eq_nil_of_le (by omega), List.nil_append, show X1.length + k + X2.length - X1.length = k + X2.length by omega, List.drop_append, List.drop_eq_nil_of_le (by omega), List.nil_append]
    congr 1
    omega
  rw [e1]
  have e2 : splice (X1 ++ ((X2 ++ D).take k ++ (X2 ++ D.drop k))) X1.length Y = X1 ++ (Y ++ (X2 ++ D.drop k)) := by
    unfold splice
    rw [List.take_left]
    congr 2
    have hk : ((X2 ++ D).take k).length = k := by rw [List.length_take, List.length_append]; omega
    rw [List.drop_append, List.drop_eq_nil_of_le (by omega), List.nil_append, show X1.length + Y.length - X1.length = k by omega]
    exact List.drop_left' hk
  rw [e2]
  constructor
  · rw [← List.append_assoc Y, ← List.append_assoc X1, show n + k = (X1 ++ (Y ++ X2)).length by simp only [List.length_append]; omega, List.take_left]
  · simp only [List.length_append, List.length_drop]
    omega
theorem splice_app {α : Type} (L X1 X2 Y : List α) (a : Nat) (h : L.take a = X1) (ha : X1.length = a) (hL : a + Y.length + X2.length ≤ L.length) : (splice (splice L a Y) (a + Y.length) X2).take (a + Y.length + X2.length) = X1 ++ (Y ++ X2) ∧ (splice (splice L a Y) (a + Y.length) X2).length = L.length ∧ (splice L a Y).length = L.length := by
  subst ha
  obtain ⟨D, hD⟩ : ∃ D, L = X1 ++ D := ⟨L.drop X1.length, (by have e := List.take_append_drop X1.length L; rw [h] at e; exact e.symm)⟩
  subst hD
  have hl := length_splice (X1 ++ D) X1.length Y (by omega)
  have e1 : splice (X1 ++ D) X1.length Y = X1 ++ (Y ++ D.drop Y.length) := by
    unfold splice
    rw [List.take_left, List.drop_append, List.drop_eq_nil_of_le (by omega), List.nil_append, Nat.add_sub_cancel_left]
  have hl2 := length_splice (splice (X1 ++ D) X1.length Y) (X1.length + Y.length) X2 (by rw [hl]; omega)
  refine ⟨?_, by rw [hl2, hl], hl⟩
  rw [e1]
  unfold splice
  have e2 : (X1 ++ (Y ++ D.drop Y.length)).take (X1.length + Y.length) = X1 ++ Y := by
    rw [← List.append_assoc, ← List.length_append, List.take_left]
  rw [e2, ← List.append_assoc (X1 ++ Y), show X1.length + Y.length + X2.length = (X1 ++ Y ++ X2).length by simp only [List.length_append], List.take_left, List.append_assoc]
def zerosK (z : List Value) (n : Nat) : List Value := (Builtin.zeroCells z.toArray n).toList
theorem zerosK_len (z : List Value) (n : Nat) : (zerosK z n).length = n * z.length := by simp [zerosK, Builtin.zeroCells]
theorem zerosK_one (z : List Value) (n : Nat) (h1 : ∀ v ∈ z, v.oneCell' = true) : ∀ v ∈ zerosK z n, v.oneCell' = true := by
  intro v hv
  simp only [zerosK, Builtin.zeroCells, Array.toList_map, List.mem_map, Array.mem_toList_iff, Array.mem_range] at hv
  obtain ⟨i, hi, rfl⟩ := hv
  have hp : 0 < z.length := by
    rcases Nat.eq_zero_or_pos z.length with h | h
    · simp [h] at hi
    · exact h
  have hlt : i % z.length < z.length := Nat.mod_lt _ hp
  refine h1 _ ?_
  simp only [List.size_toArray]
  rw [getElem!_pos z.toArray _ (by simpa using hlt)]
  simp
theorem run_clearK {P : Program} (w : World) (t ty elem : TypeId) (z : Value) (k g o n c : Nat) (cur : Array Value) (T : TypeId)
    (hu : P.underlying t = some (.slice elem)) (hz : ∀ w, (zeroValue elem).run P w = .ok z w) (hk : z.cells.size = k) (h1 : ∀ v ∈ z.cells.toList, v.oneCell' = true)
    (hg : w.heap[g]? = some (.cells cur T (0, 0))) (hfit : o + n * k ≤ cur.size) (hn : 0 < n) :
    (Builtin.clear_ #[t] ty #[.slice (some ⟨g, o, none⟩) n c]).run P w = .ok (.tuple #[]) (w.setRow g (splice cur.toList o (zerosK z.cells.toList n)).toArray) := by
  have hl : (zerosK z.cells.toList n).length = n * k := by rw [zerosK_len, Array.length_toList, hk]
  have hst := run_storeCells_at P g o T (zerosK z.cells.toList n) 0 cur w hg (by rw [hl]; simpa using hfit) (zerosK_one _ _ h1)
  have hne : n ≠ 0 := by omega
  obtain ⟨m, rfl⟩ : ∃ m, n = m + 1 := ⟨n - 1, by omega⟩
  have e : (Builtin.zeroCells z.cells (m + 1)).toList = zerosK z.cells.toList (m + 1) := by simp [zerosK]
  simp [Builtin.clear_, run_underlying hu, hz, e, hst, splice]
theorem wpList_clearK {P : Program} {w : World} {ops : Array Oper} {rest : List Oper} {o : Oper} {a : Act} {Q : Exit → Act → World → Prop} (hgd : o.guard = none) (s : Operand) (t : TypeId)
    (ho : o.op = .call { callee := .builtin .clear, args := #[s], argTypes := #[t] }) (elem : TypeId) (z : Value) (k : Nat) (hu : P.underlying t = some (.slice elem)) (hz : ∀ w, (zeroValue elem).run P w = .ok z w) (hk : z.cells.size = k) (h1 : ∀ v ∈ z.cells.toList, v.oneCell' = true)
    (g off n c : Nat) (hs : a.eval s = .slice (some ⟨g, off, none⟩) n c) (cur : List Value) (T : TypeId) (hg : w.heap[g]? = some (.cells cur.toArray T (0, 0))) (hfit : off + n * k ≤ cur.length) (hn : 0 < n)
    (B : Nat) (w0 : World) (hb : Below B w0 w) (hBg : B ≤ g)
    (h : ∀ w', Hid (w'.heap[g]? = some (.cells (splice cur off (zerosK z.cells.toList n)).toArray T (0, 0))) → Below B w0 w' → w'.heap.size = w.heap.size → (∀ j, j ≠ g → w'.heap[j]? = w.heap[j]?) → wpList P ops Q rest (a.put o.dst (.tuple #[])) w') :
    wpList P ops Q (o :: rest) a w := by
  refine wpList_plain hgd fun K hK => ?_
  have hrun := run_clearK (P := P) w t o.type elem z k g off n c cur.toArray T hu hz hk h1 hg (by simpa using hfit) hn
  unfold Oper.wp
  simp [execOp, ho, resolve, invoke, builtin, hs, hrun, Result.andThen]
  exact hK _ _ (h _ (show _ = _ by simpa using setRow_heap w g _ _ T _ hg) (below_setRow hb hBg _) (by simp [World.setRow]) fun j hj => setRow_other w g j _ hj)
theorem splice_take {α : Type} (L : List α) (off : Nat) (cs : List α) (h : off ≤ L.length) : (splice L off cs).take off = L.take off ∧ (splice L off cs).take (off + cs.length) = L.take off ++ cs := by
  have hl : (L.take off).length = off := by rw [List.length_take]; omega
  unfold splice
  constructor
  · conv => lhs; arg 1; rw [← hl]
    rw [List.take_left]
  · rw [← List.append_assoc, show off + cs.length = (L.take off ++ cs).length by rw [List.length_append, hl], List.take_left]
theorem splice_mid {α : Type} (X1 Y X2 D cs : List α) (a : Nat) (ha : X1.length = a) (h : cs.length = Y.length) : splice (X1 ++ (Y ++ (X2 ++ D))) a cs = X1 ++ (cs ++ (X2 ++ D)) := by
  subst ha
  unfold splice
  rw [List.take_left, List.drop_append, List.drop_eq_nil_of_le (by omega), List.nil_append, Nat.add_sub_cancel_left, h, List.drop_left]
theorem Own.store {P : Program} {ops : Array Oper} {rest : List Oper} {o : Oper} {a : Act} {Q : Exit → Act → World → Prop} {α : Type} {enc : α → List Value} {k : Nat} {e : TypeId} {base : Nat} {w0 w : World} (hgd : o.guard = none) (ty : TypeId) (x y : Operand) (ho : o.op = .store ty x y)
    (hsz : (P.info? ty).map (·.size) = some k) (b n c i : Nat) (xs : List α) (p : α) (HO : Own enc k e w base (.slice (some ⟨b, 0, none⟩) n c) xs) (hk : ∀ x, (enc x).length = k) (h1 : ∀ u ∈ enc p, u.oneCell' = true) (hi : i < xs.length)
    (hx : a.eval x = .pointer (some ⟨b, i * k, none⟩)) (cs : List Value) (hp : enc p = cs) (hy : a.eval y = .agg cs.toArray) (HB : Below base w0 w)
    (h : ∀ w', Own enc k e w' base (.slice (some ⟨b, 0, none⟩) n c) (xs.set i p) → Below base w0 w' → w'.heap.size = w.heap.size → (∀ j, j ≠ b → w'.heap[j]? = w.heap[j]?) → wpList P ops Q rest (a.put o.dst undef) w') :
    wpList P ops Q (o :: rest) a w := by
  obtain ⟨hlen, h2⟩ := HO
  rcases h2 with ⟨h2, _⟩ | ⟨b', c', cur, he, hbb, hcur, hnc, hcm, hcs, htake⟩
  · cases h2
  simp only [Value.slice.injEq, Option.some.injEq, Addr.mk.injEq] at he
  obtain ⟨⟨rfl, -, -⟩, hn, rfl⟩ := he
  subst hp
  have hpl : (enc p).length = k := hk p
  obtain ⟨L, rfl⟩ : ∃ L : List Value, cur = L.toArray := ⟨cur.toList, by simp⟩
  have hLl : L.length = c * k := by simpa using hcs
  have hLt : L.take (xs.length * k) = xs.flatMap enc := by simpa using htake
  have e1 : xs.flatMap enc = (xs.take i).flatMap enc ++ (enc xs[i] ++ (xs.drop (i + 1)).flatMap enc) := by
    conv => lhs; rw [← List.take_append_drop i xs, ← List.getElem_cons_drop hi]
    rw [List.flatMap_append, List.flatMap_cons]
  have e2 : (xs.set i p).flatMap enc = (xs.take i).flatMap enc ++ (enc p ++ (xs.drop (i + 1)).flatMap enc) := by
    rw [List.set_eq_take_append_cons_drop, if_pos hi, List.flatMap_append, List.flatMap_cons]
  have l1 : ((xs.take i).flatMap enc).length = i * k := by rw [flat_length hk, List.length_take]; congr 1; omega
  have eL : L = (xs.take i).flatMap enc ++ (enc xs[i] ++ ((xs.drop (i + 1)).flatMap enc ++ L.drop (xs.length * k))) := by
    conv => lhs; rw [← List.take_append_drop (xs.length * k) L, hLt, e1]
    simp only [List.append_assoc]
  have e3 : splice L (i * k) (enc p) = (xs.set i p).flatMap enc ++ L.drop (xs.length * k) := by
    conv => lhs; rw [eL]
    rw [splice_mid _ _ _ _ _ _ l1 (by rw [hk, hk]), e2]
    simp only [List.append_assoc]
  have hfit : i * k + (enc p).length ≤ L.length := by
    rw [hk, hLl, ← Nat.succ_mul]
    exact Nat.mul_le_mul_right _ (by omega)
  have hst := run_storeCells_at P b (i * k) e (enc p) 0 L.toArray w hcur (by simpa using hfit) h1
  simp only [Nat.add_zero] at hst
  refine wpList_plain hgd fun K hK => ?_
  cases hq : P.info? ty with
  | none => simp [hq] at hsz
  | some i0 =>
    have hs : i0.size = k := by simpa [hq] using hsz
    unfold Oper.wp execOp
    simp only [ho, hx, hy, Instr.storeAt, Instr.sureAddr, Sem.run_bind, Sem.run_pure, Result.andThen_ok]
    have hrun : (storeVar ty ⟨b, i * k, none⟩ (.agg (enc p).toArray)).run P w = .ok () (w.setRow b (splice L (i * k) (enc p)).toArray) := by
      simp [storeVar, sizeOf, typeInfo, hq, Value.cells, hs, hpl, hst, splice]
    simp only [hrun, Result.andThen_ok]
    refine hK _ _ (h _ ?_ (below_setRow HB hbb _) (by simp [World.setRow]) fun j hj => setRow_other w b j _ hj)
    refine ⟨by rw [flat_length hk], .inr ⟨b, c, _, by rw [List.length_set, hn], hbb, setRow_heap w b _ _ e _ hcur, by rw [List.length_set]; exact hnc, hcm, ?_, ?_⟩⟩
    · rw [e3]
      simp only [List.size_toArray, List.length_append, List.length_drop]
      rw [flat_length hk, List.length_set, hLl]
      have : xs.length * k ≤ c * k := Nat.mul_le_mul_right _ hnc
      omega
    · show (splice L (i * k) (enc p)).take _ = _
      have hl3 : (xs.set i p).length * k = ((xs.set i p).flatMap enc).length := by rw [flat_length hk]
      rw [e3, hl3, List.take_left]
end Go.Proofs.YtbpfcjdjhponaaaGreat
namespace Go.Proofs.YtbpfcjdjhponaaaGreat
open Go.RowKit
open Sp
set_option maxHeartbeats 8000000 in
set_option maxRecDepth 100000 in
theorem cloneEn_calls (n c : Nat) (A : Option Addr) (l : List En) (w : World) (hl : Row enEn 7 w (.slice A n c) l) (hn : n ≤ 100000) :
    Calls Tryz.prog 99 #[.slice A n c] w fun e w' => ∃ v, e = .returned v ∧ Own enEn 7 105 w' w.heap.size v l ∧ Below w.heap.size w w' := by
  rcases A with _ | ad
  · have hl0 : l = [] := by
      obtain ⟨A', c', he, _, _, _, h4⟩ := hl
      rcases Nat.eq_zero_or_pos l.length with h0 | h0
      · exact List.eq_nil_of_length_eq_zero h0
      · obtain ⟨ad, h, _⟩ := h4 h0
        injection he with e1
        rw [← e1] at h
        cases h
    subst hl0
    have kn := fun (W : World) => Lib.run_eql_slice_nil (P := Tryz.prog) W 22 105 none n c 0 0 Tryz.underlying22
    go_enter Tryz.func99, Tryz.ntmps99
    go_wp2
    go_ret
    exact ⟨_, rfl, Own.nil _ _ _ _ _, Below.refl _ _⟩
  · have EA := Lib.hid hl.len_eq
    have hln : l.length ≤ 100000 := by have := EA.out; omega
    have hB := below_box (w := w) (.cells #[] 105)
    have kn := fun (W : World) => Lib.run_eql_slice_nil (P := Tryz.prog) W 22 105 (some ad) n c 0 0 Tryz.underlying22
    have hO : Own enEn 7 105 (w.alloc (.cells #[] 105)) w.heap.size (.slice (some ⟨w.heap.size, 0, none⟩) 0 0) [] := Own.lit enEn_len w [] #[] 0 rfl rfl (Nat.le_refl _) (by omega)
    go_enter Tryz.func99, Tryz.ntmps99
    go_wp2_with (at_builtin; refine Own.appendRow (w0 := w) w.heap.size rfl (.tmp 5) (.tmp 6) 22 105 zvEn 7 40 rfl Tryz.underlying22 infoEn rfl (by decide) (.slice (some ⟨w.heap.size, 0, none⟩) 0 0) (.slice (some ad) n c) [] l rfl rfl enEn_one hO (hl.below hB) hB hB.size (by simp only [List.length_nil]; omega) (by simp only [List.length_nil]; omega) ?_; intro v2 w2 hO2 hB2 _ _)
    go_ret
    exact ⟨_, rfl, hO2, hB2⟩
theorem szEn : (Tryz.prog.info? 105).map (·.size) = some 7 := by kernel_rfl
theorem szoEn (w : World) : (Go.sizeOf 105).run Tryz.prog w = .ok 7 w := by kernel_rfl
theorem flat_takeEn (xs : List En) (i : Nat) (hi : i ≤ xs.length) : (xs.flatMap enEn) = (xs.take i).flatMap enEn ++ (xs.drop i).flatMap enEn ∧ ((xs.take i).flatMap enEn).length = i * 7 ∧ ((xs.drop i).flatMap enEn).length = (xs.length - i) * 7 := by
  refine ⟨by rw [← List.flatMap_append, List.take_append_drop], ?_, ?_⟩
  · rw [flat_length enEn_len, List.length_take]; congr 1; omega
  · rw [flat_length enEn_len, List.length_drop]
set_option maxHeartbeats 8000000 in
set_option maxRecDepth 100000 in
theorem insertEn_end (base n g : Nat) (v : Value) (xs : List En) (x : En) (w0 w : World) (hO : Own enEn 7 105 w base v xs) (hx : w.heap[g]? = some (.cells (enEn x).toArray 105 (0, 0))) (hn : n = xs.length) (hln : n ≤ 100000)
    (HB : Below base w0 w) (hbase : base ≤ w.heap.size) :
    Calls Tryz.prog 153 #[v, .int .i64 n, .slice (some ⟨g, 0, none⟩) 1 1] w fun e w' => ∃ v', e = .returned v' ∧ Own enEn 7 105 w' base v' (xs ++ [x]) ∧ Below base w0 w' := by
  obtain ⟨A, c, rfl, hnc⟩ := hO.slice
  have hR : Row enEn 7 w (.slice (some ⟨g, 0, none⟩) 1 1) [x] := ⟨_, 1, rfl, Nat.le_refl _, by simp [maxLen], rfl, fun _ => ⟨_, rfl, fun j u hu => by
    rw [add_plain, World.cell?, hx]
    simpa using hu⟩⟩
  rw [← hn] at hnc
  have HN := Lib.hid hn
  have hu : xs.length ≤ 100000 := by omega
  have hO' : Own enEn 7 105 w base (.slice A n c) xs := by rw [HN.out]; exact hO
  rw [← hn]
  clear hO hn
  have x1 : (0 : Int) ≤ (n : Int) := by omega
  have x2 : (n : Int) ≤ (c : Int) := by omega
  have heq : ((n : Int) == (n : Int)) = true := by simp
  go_enter Tryz.func153, Tryz.ntmps153
  go_wp2_with (at_builtin; refine Own.appendRow (w0 := w0) base rfl (.tmp 23) (.tmp 24) 22 105 zvEn 7 40 rfl Tryz.underlying22 infoEn rfl (by decide) (.slice A n c) (.slice (some ⟨g, 0, none⟩) 1 1) xs [x] rfl rfl enEn_one hO' hR HB hbase (by simp only [List.length_cons, List.length_nil]; omega) (by simp only [List.length_cons, List.length_nil]; omega) ?_; intro v2 w2 hO2 hB2 _ _)
  all_goals
    go_ret
    exact ⟨_, rfl, hO2, hB2⟩
set_option maxHeartbeats 8000000 in
set_option maxRecDepth 100000 in
theorem insertEn_shift (base n c i g b : Nat) (xs : List En) (x : En) (w0 w : World) (hO : Own enEn 7 105 w base (.slice (some ⟨b, 0, none⟩) n c) xs) (hx : w.heap[g]? = some (.cells (enEn x).toArray 105 (0, 0))) (hgb : g ≠ b) (hn : n = xs.length) (hln : n ≤ 100000)
    (hi : i < n) (hroom : n + 1 ≤ c) (HB : Below base w0 w) :
    Calls Tryz.prog 153 #[.slice (some ⟨b, 0, none⟩) n c, .int .i64 i, .slice (some ⟨g, 0, none⟩) 1 1] w fun e w' => ∃ v', e = .returned v' ∧ Own enEn 7 105 w' base v' (xs.take i ++ x :: xs.drop i) ∧ Below base w0 w' := by
  obtain ⟨hlen, h2⟩ := hO
  rcases h2 with ⟨h2, _⟩ | ⟨b', c', cur, he, hbb, hcur, hnc, hcm, hcs, htake⟩
  · cases h2
  simp only [Value.slice.injEq, Option.some.injEq, Addr.mk.injEq] at he
  obtain ⟨⟨rfl, -, -⟩, -, rfl⟩ := he
  obtain ⟨f1, f2, f3⟩ := flat_takeEn xs i (by omega)
  obtain ⟨X1, hX1⟩ : ∃ X1, (xs.take i).flatMap enEn = X1 := ⟨_, rfl⟩
  obtain ⟨X2, hX2⟩ : ∃ X2, (xs.drop i).flatMap enEn = X2 := ⟨_, rfl⟩
  obtain ⟨Y, hY⟩ : ∃ Y, enEn x = Y := ⟨_, rfl⟩
  obtain ⟨L, rfl⟩ : ∃ L : List Value, cur = L.toArray := ⟨cur.toList, by simp⟩
  rw [hX1, hX2] at f1
  rw [hX1] at f2
  rw [hX2, ← hn] at f3
  rw [f1] at htake
  rw [← hn] at hnc htake
  rw [hY] at hx
  have hYl : Y.length = 7 := by rw [← hY]; rfl
  have hY1 : ∀ v ∈ Y, v.oneCell' = true := by rw [← hY]; exact enEn_one x
  have hX21 : ∀ v ∈ X2, v.oneCell' = true := by rw [← hX2]; intro v hv; obtain ⟨y, _, hy⟩ := List.mem_flatMap.1 hv; exact enEn_one y v hy
  have hLl : L.length = c * 7 := by simpa using hcs
  have hLt : L.take (n * 7) = X1 ++ X2 := by simpa using htake
  obtain ⟨s1, s2⟩ := splice_ins L X1 X2 Y (n * 7) 7 hLt hYl (by rw [hLl, ← Nat.succ_mul]; exact Nat.mul_le_mul_right _ hroom)
  have hsrc : ∀ j u, X2[j]? = some u → w.cell? ⟨b, i * 7 + j, none⟩ = some u := by
    intro j u hu
    have hj : j < X2.length := (List.getElem?_eq_some_iff.1 hu).1
    have h1 : L[i * 7 + j]? = some u := by
      have h2 : (L.take (n * 7))[i * 7 + j]? = some u := by
        rw [hLt, ← f2, List.getElem?_append_right (by omega), Nat.add_sub_cancel_left]; exact hu
      rw [List.getElem?_take] at h2
      split at h2
      · exact h2
      · cases h2
    rw [World.cell?, hcur]
    simpa using h1
  have hgcell : ∀ j u, Y[j]? = some u → w.cell? ⟨g, j, none⟩ = some u := fun j u hu => by rw [World.cell?, hx]; simpa using hu
  have hov : ∀ lb cb, (callFunc 174 #[.slice (some ⟨g, 0, none⟩) 1 1, .slice (some ⟨b, (i + 1) * 7, none⟩) lb cb]).run Tryz.prog w = .ok (.value (.bool false)) w := fun lb cb => by
    rw [run_callFunc_extern Tryz.func174 (by kernel_rfl) (by kernel_rfl) (by kernel_rfl) (e := Extern.SlicesOverlaps.overlaps #[22, 22] #[4]) (by kernel_rfl),
      Lib.run_overlaps_apart w 22 4 105 Tryz.underlying22 7 szoEn ⟨g, 0, none⟩ ⟨b, (i + 1) * 7, none⟩ 1 1 lb cb hgb 105 105 Y.length L.length (by simp [World.shape?, hx]) (by simp [World.shape?, hcur]) (by rw [hLl]; have : 0 < c * 7 := Nat.mul_pos (by omega) (by omega); omega) (by simp [World.frozen?, hx]) (by simp [World.frozen?, hx])]
    rfl
  have hcur' : w.drew.heap[b]? = some (.cells L.toArray 105 (0, 0)) := hcur
  have hBd : Below base w0 w.drew := HB.drew
  have hdl : X2.length = Nat.min (n + 1 - i) (n - i) * 7 := by rw [f3]; congr 1; simp only [Nat.min_def]; split <;> omega
  have HS1 := Lib.hid s1
  have HS2 := Lib.hid s2
  have HF1 := Lib.hid f1
  have HF2 := Lib.hid f2
  have HLL := Lib.hid hLl
  have HDL := Lib.hid hdl
  have HX1 := Lib.hid hX1
  have HX2 := Lib.hid hX2
  have HY := Lib.hid hY
  have HYL := Lib.hid hYl
  have HXN := Lib.hid hn
  have HG := Lib.hid hx
  have HSRC := Lib.hid hsrc
  have HGC := Lib.hid hgcell
  have HX21 := Lib.hid hX21
  have HY1 := Lib.hid hY1
  have HCUR := Lib.hid hcur'
  have HFIT : Hid (X1.length + 7 + X2.length ≤ L.length ∧ X1.length = i * 7 ∧ X1.length + 7 = (i + 1) * 7) := by
    refine ⟨?_, f2, by rw [f2, Nat.succ_mul]⟩
    have := congrArg List.length hLt
    rw [List.length_take, List.length_append] at this
    have h3 : (n + 1) * 7 ≤ L.length := by rw [hLl]; exact Nat.mul_le_mul_right _ hroom
    omega
  have HMK : Hid (∀ w' : World, w'.heap[b]? = some (.cells (splice (splice L (X1.length + 7) X2) X1.length Y).toArray 105 (0, 0)) → Own enEn 7 105 w' base (.slice (some ⟨b, 0, none⟩) (n + 1) c) (xs.take i ++ x :: xs.drop i)) := by
    intro w' hw'
    have hl2 : (xs.take i ++ x :: xs.drop i).length = n + 1 := by rw [List.length_append, List.length_cons, List.length_take, List.length_drop]; omega
    have hfl : (xs.take i ++ x :: xs.drop i).flatMap enEn = X1 ++ (Y ++ X2) := by rw [List.flatMap_append, List.flatMap_cons, hX1, hX2, hY]
    refine ⟨by rw [flat_length enEn_len], .inr ⟨b, c, _, by rw [hl2], hbb, hw', by omega, hcm, by simpa [s2] using hLl, ?_⟩⟩
    rw [hl2, hfl, ← s1]
    congr 1
    omega
  clear s1 s2 f1 f2 f3 hLl hdl hX1 hX2 hY hYl hn hx hsrc hgcell hX21 hY1 hcur' hlen hcs htake hLt
  have x1 : (0 : Int) ≤ (i : Int) := by omega
  have x2 : (i : Int) ≤ (n : Int) := by omega
  have x3 : (i : Int) < (n : Int) := by omega
  have x4 : (n : Int) + 1 ≤ (c : Int) := by omega
  have x5 : ((i : Int) == (n : Int)) = false := by simp; omega
  have x6 : ¬ ((i : Int) = (n : Int)) := by omega
  have x7 : ¬ (c = i) := by omega
  have x8 : ¬ (c = i + 1) := by omega
  have x9 : IntKind.i64.wrap ((i : Int) + 1) = (i : Int) + 1 := by rw [IntKind.wrap_i64]; omega
  have x10 : (0 : Int) ≤ (i : Int) + 1 := by omega
  have x11 : ((i : Int) + 1).toNat = i + 1 := by omega
  have x12 : (i : Int) + 1 ≤ (n : Int) + 1 := by omega
  have x13 : (i : Int) ≤ (n : Int) + 1 := by omega
  have x14 : i ≤ n := by omega
  go_enter Tryz.func153, Tryz.ntmps153
  go_wp2_with (simp only [hov])
  go_region_law (refine step_copyK rfl _ _ 22 22 rfl 105 7 Tryz.underlying22 szEn (by decide) (some ⟨b, (i + 1) * 7, none⟩) (some ⟨b, i * 7, none⟩) (n - i) (c - (i + 1)) (n + 1 - i) (c - i) (by simp [Act.eval, Act.put]) (by simp [Act.eval, Act.put]) b (X1.length + 7) L 105 HCUR.out X2 HDL.out (fun _ => ⟨by rw [HFIT.out.2.2], _, rfl, fun j v hj => by rw [Addr.add_lit]; exact HSRC.out j v hj⟩) HFIT.out.1 HX21.out base w0 hBd hbb ?_; intro w1 HC1 hB1 hz1 ho1)
  have hg1 := ho1 g hgb
  have hH2 : Y.length = Nat.min 1 (n + 1 - i) * 7 := by rw [HYL.out]; simp only [Nat.min_def]; split <;> omega
  have hF2 : X1.length + Y.length ≤ (splice L (X1.length + 7) X2).length := by rw [HYL.out, length_splice _ _ _ HFIT.out.1]; have := HFIT.out.1; omega
  have hP2 : 0 < Y.length → (some ⟨b, i * 7, none⟩ : Option Addr) = some ⟨b, X1.length, none⟩ ∧ ∃ ad, (some ⟨g, 0, none⟩ : Option Addr) = some ad ∧ ∀ j v, Y[j]? = some v → w1.cell? (ad.add j) = some v := fun _ => ⟨by rw [HFIT.out.2.1], _, rfl, fun j v hj => by rw [add_plain, World.cell?, hg1]; exact HGC.out j v hj⟩
  have HH2 := Lib.hid hH2
  have HF2 := Lib.hid hF2
  have HP2 := Lib.hid hP2
  clear hH2 hF2 hP2 hg1 ho1 hz1
  go_wp2_with (with_reducible refine wpList_copyK rfl (.tmp 80) (.tmp 81) 22 22 rfl 105 7 Tryz.underlying22 szEn (by decide) (some ⟨b, i * 7, none⟩) (some ⟨g, 0, none⟩) (n + 1 - i) (c - i) 1 1 rfl rfl b X1.length (splice L (X1.length + 7) X2) 105 HC1.out Y HH2.out HP2.out HF2.out HY1.out base w0 hB1 hbb ?_; intro w2 HC2 hB2 hz2 ho2)
  go_ret
  exact ⟨_, rfl, HMK.out _ HC2.out, hB2⟩
set_option maxHeartbeats 8000000 in
set_option maxRecDepth 100000 in
theorem insertEn_grow (base n c i g b : Nat) (xs : List En) (x : En) (w0 w : World) (hO : Own enEn 7 105 w base (.slice (some ⟨b, 0, none⟩) n c) xs) (hx : w.heap[g]? = some (.cells (enEn x).toArray 105 (0, 0))) (hn : n = xs.length) (hln : n ≤ 100000)
    (hi : i < n) (hroom : c < n + 1) (HB : Below base w0 w) (hbase : base ≤ w.heap.size) :
    Calls Tryz.prog 153 #[.slice (some ⟨b, 0, none⟩) n c, .int .i64 i, .slice (some ⟨g, 0, none⟩) 1 1] w fun e w' => ∃ v', e = .returned v' ∧ Own enEn 7 105 w' base v' (xs.take i ++ x :: xs.drop i) ∧ Below base w0 w' := by
  obtain ⟨hlen, h2⟩ := hO
  rcases h2 with ⟨h2, _⟩ | ⟨b', c', cur, he, hbb, hcur, hnc, hcm, hcs, htake⟩
  · cases h2
  simp only [Value.slice.injEq, Option.some.injEq, Addr.mk.injEq] at he
  obtain ⟨⟨rfl, -, -⟩, -, rfl⟩ := he
  obtain ⟨f1, f2, f3⟩ := flat_takeEn xs i (by omega)
  obtain ⟨X1, hX1⟩ : ∃ X1, (xs.take i).flatMap enEn = X1 := ⟨_, rfl⟩
  obtain ⟨X2, hX2⟩ : ∃ X2, (xs.drop i).flatMap enEn = X2 := ⟨_, rfl⟩
  obtain ⟨Y, hY⟩ : ∃ Y, enEn x = Y := ⟨_, rfl⟩
  obtain ⟨L, rfl⟩ : ∃ L : List Value, cur = L.toArray := ⟨cur.toList, by simp⟩
  rw [hX1, hX2] at f1
  rw [hX1] at f2
  rw [hX2, ← hn] at f3
  rw [f1] at htake
  rw [← hn] at hnc htake
  rw [hY] at hx
  have hYl : Y.length = 7 := by rw [← hY]; rfl
  have hY1 : ∀ v ∈ Y, v.oneCell' = true := by rw [← hY]; exact enEn_one x
  have hX21 : ∀ v ∈ X2, v.oneCell' = true := by rw [← hX2]; intro v hv; obtain ⟨y, _, hy⟩ := List.mem_flatMap.1 hv; exact enEn_one y v hy
  have hLt : L.take (n * 7) = X1 ++ X2 := by simpa using htake
  have hget : ∀ j u, (X1 ++ X2)[j]? = some u → w.cell? ⟨b, j, none⟩ = some u := by
    intro j u hu
    rw [← hLt, List.getElem?_take] at hu
    rw [World.cell?, hcur]
    split at hu
    · simpa using hu
    · cases hu
  have hsrc1 : ∀ j u, X1[j]? = some u → w.cell? ⟨b, j, none⟩ = some u := fun j u hu => hget j u (by rw [List.getElem?_append_left (List.getElem?_eq_some_iff.1 hu).1]; exact hu)
  have hsrc : ∀ j u, X2[j]? = some u → w.cell? ⟨b, i * 7 + j, none⟩ = some u := fun j u hu => hget _ u (by rw [← f2, List.getElem?_append_right (by omega), Nat.add_sub_cancel_left]; exact hu)
  have hgcell : ∀ j u, Y[j]? = some u → w.cell? ⟨g, j, none⟩ = some u := fun j u hu => by rw [World.cell?, hx]; simpa using hu
  have hglt : g < w.heap.size := (Array.getElem?_eq_some_iff.1 hx).1
  have hblt : b < w.heap.size := (Array.getElem?_eq_some_iff.1 hcur).1
  obtain ⟨m, hm⟩ : ∃ m, n + 1 - i = m := ⟨_, rfl⟩
  have hmi : (n : Int) + 1 - (i : Int) = (m : Int) := by omega
  have hHA : Hid (c < i + m ∧ 0 < m ∧ (i + m) * 40 ≤ 140737488355328 ∧ i + m ≤ 140737488355328 ∧ i + m = n + 1) := ⟨by omega, by omega, by omega, by omega, by omega⟩
  have hm2 : 2 ≤ m := by omega
  have HS0 := Lib.hid f2
  have HSRC1 := Lib.hid hsrc1
  have HSRC := Lib.hid hsrc
  have HGC := Lib.hid hgcell
  have HX21 := Lib.hid hX21
  have HY1 := Lib.hid hY1
  have HYL := Lib.hid hYl
  have HF3 := Lib.hid f3
  have HXN := Lib.hid hn
  have HMI := Lib.hid hm
  have HMK : Hid (∀ (w' : World) (g' nc : Nat) (L' : List Value), base ≤ g' → i + m ≤ nc → nc ≤ 9223372036854775807 → L'.length = nc * 7 → L'.take ((n + 1) * 7) = X1 ++ (Y ++ X2) → w'.heap[g']? = some (.cells L'.toArray 105 (0, 0)) → Own enEn 7 105 w' base (.slice (some ⟨g', 0, none⟩) (i + m) nc) (xs.take i ++ x :: xs.drop i)) := by
    intro w' g' nc L' hbg hnc1 hnc2 hl1 hl3 hw'
    have hl2 : (xs.take i ++ x :: xs.drop i).length = n + 1 := by rw [List.length_append, List.length_cons, List.length_take, List.length_drop]; omega
    have hfl : (xs.take i ++ x :: xs.drop i).flatMap enEn = X1 ++ (Y ++ X2) := by rw [List.flatMap_append, List.flatMap_cons, hX1, hX2, hY]
    refine ⟨by rw [flat_length enEn_len], .inr ⟨g', nc, _, by rw [hl2]; congr 1; omega, hbg, hw', by omega, by simpa [maxLen] using hnc2, by simpa using hl1, ?_⟩⟩
    rw [hl2, hfl, ← hl3]
  clear hsrc1 hsrc hgcell hget hX21 hY1 hYl hn hlen hcs htake hLt hX1 hX2 hY f1 f2 f3
  have x1 : (0 : Int) ≤ (i : Int) := by omega
  have x2 : (i : Int) ≤ (n : Int) := by omega
  have x3 : (i : Int) < (n : Int) := by omega
  have x4 : (c : Int) < (n : Int) + 1 := by omega
  have x5 : ((i : Int) == (n : Int)) = false := by simp; omega
  have x6 : ¬ ((i : Int) = (n : Int)) := by omega
  have x7 : ¬ (c = i) := by omega
  have x9 : IntKind.i64.wrap ((i : Int) + 1) = (i : Int) + 1 := by rw [IntKind.wrap_i64]; omega
  have x10 : (0 : Int) ≤ (i : Int) + 1 := by omega
  have x11 : ((i : Int) + 1).toNat = i + 1 := by omega
  have x12 : (i : Int) + 1 ≤ (i : Int) + (m : Int) := by omega
  have x13 : (i : Int) ≤ (i : Int) + (m : Int) := by omega
  have x14 : i ≤ n := by omega
  have x15 : i ≤ c := by omega
  have x16 : (i : Int) ≤ (c : Int) := by omega
  have x17 : 1 ≤ m := by omega
  clear hm
  go_enter Tryz.func153, Tryz.ntmps153
  go_wp2_with (first | (at_builtin; refine wpList_append_zerosK rfl (.tmp 34) (.tmp 39) 22 3 rfl 105 zvEn 7 40 .i64 .i64 Tryz.underlying22 Tryz.underlying3 infoEn rfl (by decide) b i c m rfl rfl X1 HS0.out HSRC1.out hHA.out.1 hHA.out.2.1 hHA.out.2.2.1 hHA.out.2.2.2.1 ?_; intro nc cur w1 hnc1 hnc2 HCL HCT HC1 hz1 hB1; (have HB1 := HB.trans (hB1.mono hbase)); (have hcx : w1.heap[g]? = w.heap[g]? := hB1.block g hglt); (have hcb : w1.heap[b]? = w.heap[b]? := hB1.block b hblt); (have hgne : g ≠ w.heap.size := (by omega)); (have hbne : b ≠ w.heap.size := (by omega)); (obtain ⟨s1, s2, s3⟩ := splice_app cur X1 X2 Y (i * 7) HCT.out HS0.out (by rw [HYL.out, HF3.out, HCL]; have := hHA.out.2.2.2.2; omega)); (have y1 : ¬ (nc = i) := (by omega)); (have y2 : ¬ (nc = i + 1) := (by omega)); (have hH2 : Y.length = Nat.min 1 m * 7 := (by rw [HYL.out]; simp only [Nat.min_def]; split <;> omega)); (have hF2 : i * 7 + Y.length ≤ cur.length := (by rw [HYL.out, HCL]; have := hHA.out.2.2.2.2; omega)); (have hP2 : ∀ j v, Y[j]? = some v → w1.cell? ⟨g, j, none⟩ = some v := fun j v hj => by rw [World.cell?, hcx]; exact HGC.out j v hj); (have HH2 := Lib.hid hH2); (have HF2 := Lib.hid hF2); (have HP2 := Lib.hid hP2); (have HC1' := Lib.hid HC1); (have HCL' := Lib.hid HCL); (have HS1 := Lib.hid s1); (have HS2 := Lib.hid s2); (have HS3 := Lib.hid s3); (have HCB := Lib.hid hcb); (clear hH2 hF2 hP2 HC1 HCL s1 s2 s3 hcb hcx)) | (with_reducible refine wpList_copyK rfl (.tmp 43) (.tmp 44) 22 22 rfl 105 7 Tryz.underlying22 szEn (by decide) (some ⟨w.heap.size, i * 7, none⟩) (some ⟨g, 0, none⟩) m (nc - i) 1 1 rfl rfl w.heap.size (i * 7) cur 105 HC1'.out Y HH2.out (fun _ => ⟨rfl, _, rfl, fun j v hj => by rw [add_plain]; exact HP2.out j v hj⟩) HF2.out HY1.out base w0 HB1 hbase ?_; intro w2 HC2 hB2 hz2 ho2))
  have hcb2 := (ho2 b hbne).trans HCB.out
  have hH3 : X2.length = Nat.min (n - i) (m - 1) * 7 := by rw [HF3.out]; congr 1; have := hHA.out.2.2.2.2; simp only [Nat.min_def]; split <;> omega
  have hF3 : i * 7 + Y.length + X2.length ≤ (splice cur (i * 7) Y).length := by
    rw [HS3.out, HYL.out, HF3.out, HCL'.out]; have := hHA.out.2.2.2.2; omega
  have hP3 : 0 < X2.length → (some ⟨w.heap.size, (i + 1) * 7, none⟩ : Option Addr) = some ⟨w.heap.size, i * 7 + Y.length, none⟩ ∧ ∃ ad, (some ⟨b, i * 7, none⟩ : Option Addr) = some ad ∧ ∀ j v, X2[j]? = some v → w2.drew.cell? (ad.add j) = some v := fun _ => ⟨by rw [HYL.out, Nat.succ_mul], _, rfl, fun j v hj => by rw [Addr.add_lit]; show w2.cell? _ = _; rw [World.cell?, hcb2]; exact HSRC.out j v hj⟩
  have HH3 := Lib.hid hH3
  have HF3' := Lib.hid hF3
  have HP3 := Lib.hid hP3
  have HC2' : Hid (w2.drew.heap[w.heap.size]? = some (.cells (splice cur (i * 7) Y).toArray 105 (0, 0))) := HC2.out
  have hB2d : Below base w0 w2.drew := hB2.drew
  clear hH3 hF3 hP3 hcb2 ho2 hz2
  go_region_law (refine step_copyK rfl (.tmp 50) (.tmp 53) 22 22 rfl 105 7 Tryz.underlying22 szEn (by decide) (some ⟨w.heap.size, (i + 1) * 7, none⟩) (some ⟨b, i * 7, none⟩) (m - 1) (nc - (i + 1)) (n - i) (c - i) (by simp [Act.eval, Act.put]; omega) (by simp [Act.eval, Act.put]) w.heap.size (i * 7 + Y.length) (splice cur (i * 7) Y) 105 HC2'.out X2 HH3.out HP3.out HF3'.out HX21.out base w0 hB2d hbase ?_; intro w3 HC3 hB3 hz3 ho3)
  go_wp2
  go_ret
  refine ⟨_, rfl, HMK.out w3 w.heap.size nc _ hbase hnc1 hnc2 (by rw [HS2.out, HCL'.out]) ?_ HC3.out, hB3⟩
  rw [← HS1.out]
  congr 1
  rw [HYL.out, HF3.out]
  omega
theorem insertEn_calls (base i g : Nat) (v : Value) (xs : List En) (x : En) (w0 w : World) (hO : Own enEn 7 105 w base v xs) (hx : w.heap[g]? = some (.cells (enEn x).toArray 105 (0, 0))) (hgb : v.ownBlock ≠ some g) (hln : xs.length ≤ 100000)
    (hi : i ≤ xs.length) (HB : Below base w0 w) (hbase : base ≤ w.heap.size) :
    Calls Tryz.prog 153 #[v, .int .i64 i, .slice (some ⟨g, 0, none⟩) 1 1] w fun e w' => ∃ v', e = .returned v' ∧ Own enEn 7 105 w' base v' (xs.take i ++ x :: xs.drop i) ∧ Below base w0 w' := by
  by_cases he : i = xs.length
  · rw [List.take_of_length_le (by omega), List.drop_eq_nil_of_le (by omega)]
    exact insertEn_end base i g v xs x w0 w hO hx he (by omega) HB hbase
  · obtain ⟨A, c, rfl, hnc⟩ := hO.slice
    rcases A with _ | ad
    · rcases hO.2 with ⟨_, h0⟩ | ⟨b, c', cur, h, _⟩
      · omega
      · cases h
    · obtain ⟨b, rfl⟩ : ∃ b, ad = ⟨b, 0, none⟩ := by
        rcases hO.2 with ⟨h, _⟩ | ⟨b, c', cur, h, _⟩
        · cases h
        · injection h with h; injection h with h; exact ⟨b, h⟩
      by_cases hroom : xs.length + 1 ≤ c
      · exact insertEn_shift base xs.length c i g b xs x w0 w hO hx (fun e => hgb (by rw [e]; rfl)) rfl hln (by omega) hroom HB
      · exact insertEn_grow base xs.length c i g b xs x w0 w hO hx rfl hln (by omega) (by omega) HB hbase
end Go.Proofs.YtbpfcjdjhponaaaGreat
