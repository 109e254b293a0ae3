import Derived.Carry
import Derived.RegionTactic
import Derived.ChangeAlike
import Derived.Lib.Overlaps
import Derived.Lib.AppendZeros
import Derived.Lib.AppendZerosOnto
import Derived.Deep.RegionLaw
import Derived.Laws.Externs
import Derived.Test.YtbpfcjdjhponaaaGreatPViewRows04
set_option linter.unusedVariables false
set_option linter.unusedSimpArgs false
namespace Go.Proofs.YtbpfcjdjhponaaaGreat
open Go.RowKit
open Sp
theorem bodyPost_cct {P : Program} {fn : Func} {R : Ending → World → Prop} {a : Act} {w : World} {p q u : Tmp} {ty : TypeId} (h : fn.results = #[.cell p ty, .cell q ty, .tmp u]) (g g2 : Nat) (t t2 : TypeId) (cs cs2 : Array Value) (fr fr2 : Nat × Nat) (d : TypeDesc)
    (hp : a.tmps.getD p undef = .pointer (some ⟨g, 0, none⟩)) (hq : a.tmps.getD q undef = .pointer (some ⟨g2, 0, none⟩)) (hg : w.heap[g]? = some (.cells cs t fr)) (hg2 : w.heap[g2]? = some (.cells cs2 t2 fr2))
    (hu : P.underlying ty = some d) (hd : (match d with | .struct _ | .array _ _ => true | _ => false) = true) (hi : (P.info? ty).map (·.size) = some cs.size) (hi2 : cs2.size = cs.size)
    (hde : a.defers = []) (hR : R (.returned (.tuple #[.agg cs, .agg cs2, a.tmps.getD u undef])) w) : bodyPost P fn R .ret a w := by
  refine bodyPost_ret ?_ hde hR
  have hp' : a.tmps[p]?.getD undef = .pointer (some ⟨g, 0, none⟩) := by simpa using hp
  have hq' : a.tmps[q]?.getD undef = .pointer (some ⟨g2, 0, none⟩) := by simpa using hq
  simp [results, h, hp', hq', asAddr, run_loadVar_row w g t ty cs fr d hg hu hd hi, run_loadVar_row w g2 t2 ty cs2 fr2 d hg2 hu hd (by rw [hi2]; exact hi)]
theorem iopen5 {W : World} {k : Nat} {c d e f g : Bool} (h : W.heap[k]? = some (.cells #[.bool c, .bool d, .bool e, .bool f, .bool g] 103)) : (W.cell? ⟨k, 0, none⟩ = some (.bool c) ∧ W.cell? ⟨k, 1, none⟩ = some (.bool d) ∧ W.cell? ⟨k, 2, none⟩ = some (.bool e) ∧ W.cell? ⟨k, 3, none⟩ = some (.bool f) ∧ W.cell? ⟨k, 4, none⟩ = some (.bool g)) ∧
    (W.frozen? ⟨k, 0, none⟩ = false ∧ W.frozen? ⟨k, 1, none⟩ = false ∧ W.frozen? ⟨k, 2, none⟩ = false ∧ W.frozen? ⟨k, 3, none⟩ = false ∧ W.frozen? ⟨k, 4, none⟩ = false) ∧ k < W.heap.size :=
  ⟨⟨by simp [World.cell?, h], by simp [World.cell?, h], by simp [World.cell?, h], by simp [World.cell?, h], by simp [World.cell?, h]⟩, ⟨by simp [World.frozen?, h], by simp [World.frozen?, h], by simp [World.frozen?, h], by simp [World.frozen?, h], by simp [World.frozen?, h]⟩, (Array.getElem?_eq_some_iff.1 h).1⟩
abbrev put5 (w : World) (g : Nat) (c d e f x : Bool) : World := ((((w.setCell ⟨g, 0, none⟩ (.bool c)).setCell ⟨g, 1, none⟩ (.bool d)).setCell ⟨g, 2, none⟩ (.bool e)).setCell ⟨g, 3, none⟩ (.bool f)).setCell ⟨g, 4, none⟩ (.bool x)
theorem put5_at {w : World} {g : Nat} {c' d' e' f' x' : Bool} (c d e f x : Bool) (h : w.heap[g]? = some (.cells #[.bool c', .bool d', .bool e', .bool f', .bool x'] 103)) : (put5 w g c d e f x).heap[g]? = some (.cells #[.bool c, .bool d, .bool e, .bool f, .bool x] 103) := by
  simp [put5, World.setCell, Array.getElem?_modify, h]
theorem put5_ne {w : World} {g k : Nat} (c d e f x : Bool) (hk : k ≠ g) : (put5 w g c d e f x).heap[k]? = w.heap[k]? := by
  simp [put5, World.setCell, Array.getElem?_modify, Ne.symm hk]
theorem put5_below {B : Nat} {a w : World} (h : Below B a w) (g : Nat) (hg : B ≤ g) (c d e f x : Bool) : Below B a (put5 w g c d e f x) := bset (bset (bset (bset (bset h g 0 _ hg) g 1 _ hg) g 2 _ hg) g 3 _ hg) g 4 _ hg
theorem heap_drew' {w : World} {k : Nat} {o : Option Obj} (h : w.heap[k]? = o) : w.drew.heap[k]? = o := h
theorem info_it5 : (Tryz.prog.info? 103).map (·.size) = some 5 := by kernel_rfl
end Go.Proofs.YtbpfcjdjhponaaaGreat
namespace Go.Proofs.YtbpfcjdjhponaaaGreat
open Go.RowKit
theorem splice_mid {α : Type} (X1 Y X2 D cs : List α) (a : Nat) (ha : X1.length = a) (h : cs.length = Y.length) : splice (X1 ++ (Y ++ (X2 ++ D))) a cs = X1 ++ (cs ++ (X2 ++ D)) := by
  subst ha
  unfold splice
  rw [List.take_left, List.drop_append, List.drop_eq_nil_of_le (by omega), List.nil_append, Nat.add_sub_cancel_left, h, List.drop_left]
theorem Own.store {P : Program} {ops : Array Oper} {rest : List Oper} {o : Oper} {a : Act} {Q : Exit → Act → World → Prop} {α : Type} {enc : α → List Value} {k : Nat} {e : TypeId} {base : Nat} {w0 w : World} (hgd : o.guard = none) (ty : TypeId) (x y : Operand) (ho : o.op = .store ty x y)
    (hsz : (P.info? ty).map (·.size) = some k) (b n c i : Nat) (xs : List α) (p : α) (HO : Own enc k e w base (.slice (some ⟨b, 0, none⟩) n c) xs) (hk : ∀ x, (enc x).length = k) (h1 : ∀ u ∈ enc p, u.oneCell' = true) (hi : i < xs.length)
    (hx : a.eval x = .pointer (some ⟨b, i * k, none⟩)) (cs : List Value) (hp : enc p = cs) (hy : a.eval y = .agg cs.toArray) (HB : Below base w0 w)
    (h : ∀ w', Own enc k e w' base (.slice (some ⟨b, 0, none⟩) n c) (xs.set i p) → Below base w0 w' → w'.heap.size = w.heap.size → (∀ j, j ≠ b → w'.heap[j]? = w.heap[j]?) → wpList P ops Q rest (a.put o.dst undef) w') :
    wpList P ops Q (o :: rest) a w := by
  obtain ⟨hlen, h2⟩ := HO
  rcases h2 with ⟨h2, _⟩ | ⟨b', c', cur, he, hbb, hcur, hnc, hcm, hcs, htake⟩
  · cases h2
  simp only [Value.slice.injEq, Option.some.injEq, Addr.mk.injEq] at he
  obtain ⟨⟨rfl, -, -⟩, hn, rfl⟩ := he
  subst hp
  have hpl : (enc p).length = k := hk p
  obtain ⟨L, rfl⟩ : ∃ L : List Value, cur = L.toArray := ⟨cur.toList, by simp⟩
  have hLl : L.length = c * k := by simpa using hcs
  have hLt : L.take (xs.length * k) = xs.flatMap enc := by simpa using htake
  have e1 : xs.flatMap enc = (xs.take i).flatMap enc ++ (enc xs[i] ++ (xs.drop (i + 1)).flatMap enc) := by
    conv => lhs; rw [← List.take_append_drop i xs, ← List.getElem_cons_drop hi]
    rw [List.flatMap_append, List.flatMap_cons]
  have e2 : (xs.set i p).flatMap enc = (xs.take i).flatMap enc ++ (enc p ++ (xs.drop (i + 1)).flatMap enc) := by
    rw [List.set_eq_take_append_cons_drop, if_pos hi, List.flatMap_append, List.flatMap_cons]
  have l1 : ((xs.take i).flatMap enc).length = i * k := by rw [flat_length hk, List.length_take]; congr 1; omega
  have eL : L = (xs.take i).flatMap enc ++ (enc xs[i] ++ ((xs.drop (i + 1)).flatMap enc ++ L.drop (xs.length * k))) := by
    conv => lhs; rw [← List.take_append_drop (xs.length * k) L, hLt, e1]
    simp only [List.append_assoc]
  have e3 : splice L (i * k) (enc p) = (xs.set i p).flatMap enc ++ L.drop (xs.length * k) := by
    conv => lhs; rw [eL]
    rw [splice_mid _ _ _ _ _ _ l1 (by rw [hk, hk]), e2]
    simp only [List.append_assoc]
  have hfit : i * k + (enc p).length ≤ L.length := by
    rw [hk, hLl, ← Nat.succ_mul]
    exact Nat.mul_le_mul_right _ (by omega)
  have hst := run_storeCells_at P b (i * k) e (enc p) 0 L.toArray w hcur (by simpa using hfit) h1
  simp only [Nat.add_zero] at hst
  refine wpList_plain hgd fun K hK => ?_
  cases hq : P.info? ty with
  | none => simp [hq] at hsz
  | some i0 =>
    have hs : i0.size = k := by simpa [hq] using hsz
    unfold Oper.wp execOp
    simp only [ho, hx, hy, Instr.storeAt, Instr.sureAddr, Sem.run_bind, Sem.run_pure, Result.andThen_ok]
    have hrun : (storeVar ty ⟨b, i * k, none⟩ (.agg (enc p).toArray)).run P w = .ok () (w.setRow b (splice L (i * k) (enc p)).toArray) := by
      simp [storeVar, sizeOf, typeInfo, hq, Value.cells, hs, hpl, hst, splice]
    simp only [hrun, Result.andThen_ok]
    refine hK _ _ (h _ ?_ (below_setRow HB hbb _) (by simp [World.setRow]) fun j hj => setRow_other w b j _ hj)
    refine ⟨by rw [flat_length hk], .inr ⟨b, c, _, by rw [List.length_set, hn], hbb, setRow_heap w b _ _ e _ hcur, by rw [List.length_set]; exact hnc, hcm, ?_, ?_⟩⟩
    · rw [e3]
      simp only [List.size_toArray, List.length_append, List.length_drop]
      rw [flat_length hk, List.length_set, hLl]
      have : xs.length * k ≤ c * k := Nat.mul_le_mul_right _ hnc
      omega
    · show (splice L (i * k) (enc p)).take _ = _
      have hl3 : (xs.set i p).length * k = ((xs.set i p).flatMap enc).length := by rw [flat_length hk]
      rw [e3, hl3, List.take_left]
end Go.Proofs.YtbpfcjdjhponaaaGreat
namespace Go.Proofs.YtbpfcjdjhponaaaGreat
open Go.RowKit
open Sp
namespace Sp
end Sp
end Go.Proofs.YtbpfcjdjhponaaaGreat
namespace Go.Proofs.YtbpfcjdjhponaaaGreat
open Go.RowKit
end Go.Proofs.YtbpfcjdjhponaaaGreat
namespace Go.Proofs.YtbpfcjdjhponaaaGreat
open Go.RowKit
open Sp
def TwoAt (w : World) (g h : Nat) (u v : ByteArray) (m1 m2 m3 m4 m5 o1 o2 o3 o4 o5 : Bool) : Prop :=
  w.heap[g]? = some (.cells #[.slice (some ⟨h, 0, none⟩) 2 2] 22) ∧ w.heap[h]? = some (.cells #[.string u, .string v, .bool m1, .bool m2, .bool m3, .bool m4, .bool m5, .string v, .string u, .bool o1, .bool o2, .bool o3, .bool o4, .bool o5] 105)
theorem TwoAt.call {w w1 : World} {g h : Nat} {u v : ByteArray} {m1 m2 m3 m4 m5 o1 o2 o3 o4 o5 : Bool} (E : TwoAt w g h u v m1 m2 m3 m4 m5 o1 o2 o3 o4 o5) (b : Below w.heap.size w w1) : TwoAt w1 g h u v m1 m2 m3 m4 m5 o1 o2 o3 o4 o5 := ⟨hcall E.1 b, hcall E.2 b⟩
theorem TwoAt.alloc {w : World} {g h : Nat} {u v : ByteArray} {m1 m2 m3 m4 m5 o1 o2 o3 o4 o5 : Bool} (E : TwoAt w g h u v m1 m2 m3 m4 m5 o1 o2 o3 o4 o5) (o : Obj) : TwoAt (w.alloc o) g h u v m1 m2 m3 m4 m5 o1 o2 o3 o4 o5 := ⟨halloc E.1 o, halloc E.2 o⟩
end Go.Proofs.YtbpfcjdjhponaaaGreat
namespace Go.Proofs.YtbpfcjdjhponaaaGreat
open Go.RowKit
noncomputable def opska : Array Oper := Held.inBody 5 Tryz.f37.body
def ordka : List Nat := [0, 1, 2, 3, 4, 5, 6, 7, 8, 9, 10, 11, 12, 13, 14, 15, 16, 17, 18, 19, 20, 21, 22, 23, 24, 25, 26, 27, 28, 29, 30, 31, 32, 33, 34, 35, 36, 37, 38]
set_option maxRecDepth 100000 in
theorem rgka : Held.Reg opska ordka 39 [0, 1, 3, 4, 5, 6, 7, 8, 9, 10, 11, 12, 13, 14, 15, 16, 17, 18, 19, 20, 21, 22, 23, 24, 25, 26, 27, 28, 29, 30, 31, 32, 33, 34, 35, 36, 37, 38] := ⟨by kernel_rfl, by kernel_rfl, by kernel_rfl⟩
noncomputable def opskb : Array Oper := Held.inBody 5 Tryz.f37.body
def ordkb : List Nat := [0, 1, 2, 3, 4, 5, 6, 7, 8, 9, 10, 11, 12, 13, 14, 15, 16, 17, 18, 19, 20, 21, 22, 23, 24, 25, 26, 27, 28, 29, 30, 31, 32, 33, 34, 35, 36, 37, 38]
set_option maxRecDepth 100000 in
theorem rgkb : Held.Reg opskb ordkb 39 [0, 1, 3, 4, 5, 6, 8, 9, 10, 11, 12, 13, 14, 15, 16, 17, 18, 19, 20, 21, 22, 23, 24, 25, 26, 27, 28, 29, 30, 31, 32, 33, 34, 35, 36, 37, 38] := ⟨by kernel_rfl, by kernel_rfl, by kernel_rfl⟩
noncomputable def opskc : Array Oper := Held.inBody 5 Tryz.f37.body
def ordkc : List Nat := [0, 1, 2, 3, 4, 5, 6, 7, 8, 9, 10, 11, 12, 13, 14, 15, 16, 17, 18, 19, 20, 21, 22, 23, 24, 25, 26, 27, 28, 29, 30, 31, 32, 33, 34, 35, 36, 37, 38]
set_option maxRecDepth 100000 in
theorem rgkc : Held.Reg opskc ordkc 39 [0, 1, 3, 4, 5, 6, 8, 9, 10, 11, 12, 13, 14, 15, 16, 17, 18, 19, 20, 21, 22, 23, 24, 25, 26, 27, 28, 29, 30, 31, 32, 33, 34, 35, 36, 37, 38] := ⟨by kernel_rfl, by kernel_rfl, by kernel_rfl⟩
noncomputable def opskd1 : Array Oper := Held.inBody 5 Tryz.f37.body
def ordkd1 : List Nat := [0, 1, 2, 3, 4, 5, 6, 7, 8, 9, 10, 11, 12, 13, 14, 15, 16, 17, 18, 19, 20, 21, 22, 23, 24, 25, 26, 27, 28, 29, 30, 31, 32, 33, 34, 35, 36, 37, 38]
set_option maxRecDepth 100000 in
theorem rgkd1 : Held.Reg opskd1 ordkd1 39 [0, 1, 3, 4, 5, 6, 8, 9, 10, 11, 12, 13, 14, 15, 16, 17, 18, 19, 20, 21, 22, 23, 24, 25, 26, 27, 28, 29, 30, 31, 32, 33, 34, 36, 37, 38] := ⟨by kernel_rfl, by kernel_rfl, by kernel_rfl⟩
noncomputable def opskd2 : Array Oper := Held.inBody 5 Tryz.f37.body
def ordkd2 : List Nat := [0, 1, 2, 3, 4, 5, 6, 7, 8, 9, 10, 11, 12, 13, 14, 15, 16, 17, 18, 19, 20, 21, 22, 23, 24, 25, 26, 27, 28, 29, 30, 31, 32, 33, 34, 35, 36, 37, 38]
set_option maxRecDepth 100000 in
theorem rgkd2 : Held.Reg opskd2 ordkd2 39 [0, 1, 3, 4, 5, 6, 8, 9, 10, 11, 12, 13, 14, 15, 16, 17, 18, 19, 20, 21, 22, 23, 24, 25, 26, 27, 28, 29, 30, 31, 32, 33, 34, 36, 37, 38] := ⟨by kernel_rfl, by kernel_rfl, by kernel_rfl⟩
noncomputable def opske : Array Oper := Held.inBody 5 Tryz.f37.body
def ordke : List Nat := [0, 1, 2, 3, 4, 5, 6, 7, 8, 9, 10, 11, 12, 13, 14, 15, 16, 17, 18, 19, 20, 21, 22, 23, 24, 25, 26, 27, 28, 29, 30, 31, 32, 33, 34, 35, 36, 37, 38]
set_option maxRecDepth 100000 in
theorem rgke : Held.Reg opske ordke 39 [0, 1, 3, 4, 5, 6, 8, 9, 10, 11, 12, 13, 14, 15, 16, 17, 18, 19, 20, 21, 22, 23, 24, 25, 26, 28, 29, 30, 31, 32, 33, 34, 35, 36, 37, 38] := ⟨by kernel_rfl, by kernel_rfl, by kernel_rfl⟩
noncomputable def opskf1 : Array Oper := Held.inBody 5 Tryz.f37.body
def ordkf1 : List Nat := [0, 1, 2, 3, 4, 5, 6, 7, 8, 9, 10, 11, 12, 13, 14, 15, 16, 17, 18, 19, 20, 21, 22, 23, 24, 25, 26, 27, 28, 29, 30, 31, 32, 33, 34, 35, 36, 37, 38]
set_option maxRecDepth 100000 in
theorem rgkf1 : Held.Reg opskf1 ordkf1 39 [0, 1, 3, 4, 5, 6, 8, 9, 10, 11, 12, 13, 14, 15, 16, 17, 18, 19, 20, 21, 22, 23, 24, 25, 26, 28, 29, 30, 31, 32, 33, 34, 36, 37, 38] := ⟨by kernel_rfl, by kernel_rfl, by kernel_rfl⟩
noncomputable def opskf2 : Array Oper := Held.inBody 5 Tryz.f37.body
def ordkf2 : List Nat := [0, 1, 2, 3, 4, 5, 6, 7, 8, 9, 10, 11, 12, 13, 14, 15, 16, 17, 18, 19, 20, 21, 22, 23, 24, 25, 26, 27, 28, 29, 30, 31, 32, 33, 34, 35, 36, 37, 38]
set_option maxRecDepth 100000 in
theorem rgkf2 : Held.Reg opskf2 ordkf2 39 [0, 1, 3, 4, 5, 6, 8, 9, 10, 11, 12, 13, 14, 15, 16, 17, 18, 19, 20, 21, 22, 23, 24, 25, 26, 28, 29, 30, 31, 32, 33, 34, 36, 37, 38] := ⟨by kernel_rfl, by kernel_rfl, by kernel_rfl⟩
end Go.Proofs.YtbpfcjdjhponaaaGreat
namespace Go.Proofs.YtbpfcjdjhponaaaGreat
open Go.RowKit
open Sp
theorem refIs_below (s : ByteArray) (b : Bool) (h : Hid (isName s = b)) (hs : s.size ≤ 140737488351232) (w : World) :
    Calls Tryz.prog 80 #[.string s] w fun e w' => e = .returned (.bool b) ∧ Below w.heap.size w w' := (refIs_is w s b h hs).mono fun e w' ⟨he, hw⟩ => ⟨he, hw ▸ Below.refl _ _⟩
theorem refOfLen (n c : Nat) (A : Option Addr) (l : List En) (q : ByteArray) (w : World) (hl : Row enEn 7 w (.slice A n c) l) (hn : n ≤ 100000) (m : Nat) (h : Hid ((ofRo l q).length = m)) :
    Calls Tryz.prog 68 #[.slice A n c, .string q] w fun e w' => (∃ A' c', e = .returned (.slice A' m c')) ∧ Below w.heap.size w w' :=
  (refOfRo_calls n c A l q w hl hn).mono fun e w' ⟨v, he, ho, hb⟩ => by
    obtain ⟨A', c', hv, _⟩ := ho.slice
    refine ⟨⟨A', c', ?_⟩, hb⟩
    rw [he, hv, ← h.out]
    rfl
set_option maxHeartbeats 32000000 in
set_option maxRecDepth 100000 in
theorem refMayRo_calls (n c : Nat) (A : Option Addr) (l : List En) (w : World) (hl : Row enEn 7 w (.slice A n c) l) (hz : ∀ s ∈ l, s.o.size ≤ 140737488351232 ∧ s.c.size ≤ 140737488351232) (hn : n ≤ 100000) :
    Calls Tryz.prog 37 #[.slice A n c] w fun e w' => e = .returned (.bool (mayRo l)) ∧ Below w.heap.size w w' := by
  have EA := Lib.hid hl.len_eq
  obtain ⟨r, hr⟩ : ∃ r, mayRo l = r := ⟨_, rfl⟩
  rw [hr]
  have HR := Lib.hid hr
  have HZ := Lib.hid hz
  clear hr hz
  go_enter Tryz.func37, Tryz.ntmps37
  go_wp2
  go_loopw [3] (fun v3 wr => ∃ i : Nat, v3 = .int .i64 i ∧ i ≤ n ∧ Below w.heap.size w wr ∧ Hid (∀ j (h : j < l.length), j < i → oneRo l l[j] = true) ∧ Hid (∀ j (h : j + 1 < l.length), j + 1 < i → ltRo (keyRo l[j]) (keyRo l[j + 1]) = true)) (fun v3 _ => (n - intOf v3).toNat)
  case atStart => exact ⟨0, rfl, Nat.zero_le _, Below.refl _ _, fun j _ h => absurd h (by omega), fun j _ h => absurd h (by omega)⟩
  case round =>
    obtain ⟨i, rfl, hi, D, HK, HJ⟩ := hrel
    by_cases hlt : i < n
    · have hil : i < l.length := by have := EA.out; omega
      obtain ⟨⟨a_, b_, c_, d_, e_, f_, g_⟩, he⟩ : ∃ e, l[i] = e := ⟨_, rfl⟩
      obtain ⟨z1, z2⟩ := HZ.out l[i] (List.getElem_mem _)
      rw [he] at z1 z2
      simp only at z1 z2
      obtain ⟨ad, rfl, c0, c1, c2, c3, c4, c5, c6⟩ := rowEn (hl.below D) i hil a_ b_ c_ d_ e_ f_ g_ he
      have HE := Lib.hid he
      have x3 : (0 : Int) ≤ (i : Int) := by omega
      have x4 : (i : Int) < (n : Int) := by omega
      obtain ⟨⟨c', d', e', f', g'⟩, hg1⟩ : ∃ x, getRo l b_ a_ = x := ⟨_, rfl⟩
      obtain ⟨hh, hg2⟩ : ∃ x, hasRo l b_ a_ = x := ⟨_, rfl⟩
      obtain ⟨m, hm⟩ : ∃ m, (ofRo l a_).length = m := ⟨_, rfl⟩
      have hcd : oneRo l l[i] = (isName a_ && (isName b_ && (!decide (a_ = b_) && (decide (m ≤ 16) && (hh && (fitI ⟨c_, d_, e_, f_, g_⟩ ⟨c', d', e', f', g'⟩ && !(emptyI ⟨c_, d_, e_, f_, g_⟩ && emptyI ⟨c', d', e', f', g'⟩))))))) := by
        rw [HE.out, ← hg1, ← hg2, ← hm]
        rfl
      have HCD := Lib.hid hcd
      have HG1 := Lib.hid hg1
      have HG2 := Lib.hid hg2
      have HM := Lib.hid hm
      have HGET := Lib.hid (show ∀ W : World, Row enEn 7 W (.slice (some ad) n c) l → Calls Tryz.prog 82 #[.slice (some ad) n c, .string b_, .string a_] W fun e w' => e = .returned (agI c' d' e' f' g') ∧ Below W.heap.size W w' from fun W h => by
        have := refGetRo_calls n c (some ad) l b_ a_ W h
        rwa [hg1] at this)
      clear he hcd hg1 hg2 hm
      have hbX := heap_alloc_new wr (bxEn a_ b_ c_ d_ e_ f_ g_)
      obtain ⟨u0, u1, u2, u3, u4, u5, u6, uz⟩ := cellsEn a_ b_ c_ d_ e_ f_ g_ hbX
      replace D := below_alloc0 D (bxEn a_ b_ c_ d_ e_ f_ g_)
      obtain ⟨n1, hn1⟩ : ∃ b, isName a_ = b := ⟨_, rfl⟩
      have HNa_ := Lib.hid hn1
      clear hn1
      cases n1 with
      | false =>
        have HF : Hid (r = false) := by
          show _ = _
          rw [← HR.out]
          exact mayRo_no_one (List.getElem_mem hil) (by rw [HCD.out, HNa_.out]; rfl)
        clear uz
        replace hbX : (wr.alloc (bxEn a_ b_ c_ d_ e_ f_ g_)).drew.heap[_]? = _ := hbX
        replace D : Below _ _ (wr.alloc (bxEn a_ b_ c_ d_ e_ f_ g_)).drew := D.drew
        go_wp2_with fail
        refine Held.start (ops := opska) (S := fun w' => w'.cell? ⟨wr.heap.size, 0, none⟩ = some (.string a_) ∧ w'.cell? ⟨wr.heap.size, 1, none⟩ = some (.string b_) ∧ w'.cell? ⟨wr.heap.size, 2, none⟩ = some (.bool c_) ∧ w'.cell? ⟨wr.heap.size, 3, none⟩ = some (.bool d_) ∧ w'.cell? ⟨wr.heap.size, 4, none⟩ = some (.bool e_) ∧ w'.cell? ⟨wr.heap.size, 5, none⟩ = some (.bool f_) ∧ w'.cell? ⟨wr.heap.size, 6, none⟩ = some (.bool g_)) ordka 39 (by kernel_rfl) rgka.siz (by kernel_rfl) ⟨u0, u1, u2, u3, u4, u5, u6⟩ (fun hHeld => ?_)
        iterate 2
          refine Held.tw rgka ?_
          try simp only [Act.put, zA, zB, zC, zD, zE, zF]
        refine Held.only (k := 2) (i := 2) (by kernel_rfl) (by kernel_rfl) rfl (by kernel_rfl) (fun K hK => ?_)
        go_simp
        go_at_call 80
        with_reducible refine (refIs_below a_ _ HNa_ (by omega) _).mono ?_
        rintro e w3 ⟨rfl, hbx⟩
        replace u0 := cell_below hbx u0
        replace u1 := cell_below hbx u1
        replace u2 := cell_below hbx u2
        replace u3 := cell_below hbx u3
        replace u4 := cell_below hbx u4
        replace u5 := cell_below hbx u5
        replace u6 := cell_below hbx u6
        replace hbX := hcall hbX hbx
        replace D := below_call D hbx
        refine hK.out _ _ (by (try dsimp only); (exact ⟨u0, u1, u2, u3, u4, u5, u6⟩)) (fun hHeld => ?_)
        clear hK K
        try simp only [Act.put, zA, zB, zC, zD, zE, zF]
        iterate 2
          refine Held.tw rgka ?_
          try simp only [Act.put, zA, zB, zC, zD, zE, zF]
        iterate 4
          refine Held.tu rgka ?_
          try simp only [Act.put, zA, zB, zC, zD, zE, zF]
        iterate 2
          refine Held.tw rgka ?_
          try simp only [Act.put, zA, zB, zC, zD, zE, zF]
        iterate 5
          refine Held.tu rgka ?_
          try simp only [Act.put, zA, zB, zC, zD, zE, zF]
        iterate 2
          refine Held.tw rgka ?_
          try simp only [Act.put, zA, zB, zC, zD, zE, zF]
        iterate 12
          refine Held.tu rgka ?_
          try simp only [Act.put, zA, zB, zC, zD, zE, zF]
        iterate 2
          refine Held.tw rgka ?_
          try simp only [Act.put, zA, zB, zC, zD, zE, zF]
        iterate 6
          refine Held.tu rgka ?_
          try simp only [Act.put, zA, zB, zC, zD, zE, zF]
        iterate 1
          refine Held.tw rgka ?_
          try simp only [Act.put, zA, zB, zC, zD, zE, zF]
        refine wpAnyH_done (by kernel_rfl) ?_ _
        clear u0 u1 u2 u3 u4 u5 u6
        go_wp2
        go_ret
        rw [HF.out]
        exact ⟨rfl, D⟩
      | true =>
      obtain ⟨n2, hn2⟩ : ∃ b, isName b_ = b := ⟨_, rfl⟩
      have HNb_ := Lib.hid hn2
      clear hn2
      cases n2 with
      | false =>
        have HF : Hid (r = false) := by
          show _ = _
          rw [← HR.out]
          exact mayRo_no_one (List.getElem_mem hil) (by rw [HCD.out, HNa_.out, HNb_.out]; rfl)
        clear uz
        replace hbX : (wr.alloc (bxEn a_ b_ c_ d_ e_ f_ g_)).drew.heap[_]? = _ := hbX
        replace D : Below _ _ (wr.alloc (bxEn a_ b_ c_ d_ e_ f_ g_)).drew := D.drew
        go_wp2_with fail
        refine Held.start (ops := opskb) (S := fun w' => w'.cell? ⟨wr.heap.size, 0, none⟩ = some (.string a_) ∧ w'.cell? ⟨wr.heap.size, 1, none⟩ = some (.string b_) ∧ w'.cell? ⟨wr.heap.size, 2, none⟩ = some (.bool c_) ∧ w'.cell? ⟨wr.heap.size, 3, none⟩ = some (.bool d_) ∧ w'.cell? ⟨wr.heap.size, 4, none⟩ = some (.bool e_) ∧ w'.cell? ⟨wr.heap.size, 5, none⟩ = some (.bool f_) ∧ w'.cell? ⟨wr.heap.size, 6, none⟩ = some (.bool g_)) ordkb 39 (by kernel_rfl) rgkb.siz (by kernel_rfl) ⟨u0, u1, u2, u3, u4, u5, u6⟩ (fun hHeld => ?_)
        iterate 2
          refine Held.tw rgkb ?_
          try simp only [Act.put, zA, zB, zC, zD, zE, zF]
        refine Held.only (k := 2) (i := 2) (by kernel_rfl) (by kernel_rfl) rfl (by kernel_rfl) (fun K hK => ?_)
        go_simp
        go_at_call 80
        with_reducible refine (refIs_below a_ _ HNa_ (by omega) _).mono ?_
        rintro e w3 ⟨rfl, hbx⟩
        replace u0 := cell_below hbx u0
        replace u1 := cell_below hbx u1
        replace u2 := cell_below hbx u2
        replace u3 := cell_below hbx u3
        replace u4 := cell_below hbx u4
        replace u5 := cell_below hbx u5
        replace u6 := cell_below hbx u6
        replace hbX := hcall hbX hbx
        replace D := below_call D hbx
        refine hK.out _ _ (by (try dsimp only); (exact ⟨u0, u1, u2, u3, u4, u5, u6⟩)) (fun hHeld => ?_)
        clear hK K
        try simp only [Act.put, zA, zB, zC, zD, zE, zF]
        iterate 4
          refine Held.tw rgkb ?_
          try simp only [Act.put, zA, zB, zC, zD, zE, zF]
        refine Held.only (k := 7) (i := 7) (by kernel_rfl) (by kernel_rfl) rfl (by kernel_rfl) (fun K hK => ?_)
        go_simp
        go_at_call 80
        with_reducible refine (refIs_below b_ _ HNb_ (by omega) _).mono ?_
        rintro e w4 ⟨rfl, hbx⟩
        replace u0 := cell_below hbx u0
        replace u1 := cell_below hbx u1
        replace u2 := cell_below hbx u2
        replace u3 := cell_below hbx u3
        replace u4 := cell_below hbx u4
        replace u5 := cell_below hbx u5
        replace u6 := cell_below hbx u6
        replace hbX := hcall hbX hbx
        replace D := below_call D hbx
        refine hK.out _ _ (by (try dsimp only); (exact ⟨u0, u1, u2, u3, u4, u5, u6⟩)) (fun hHeld => ?_)
        clear hK K
        try simp only [Act.put, zA, zB, zC, zD, zE, zF]
        iterate 3
          refine Held.tw rgkb ?_
          try simp only [Act.put, zA, zB, zC, zD, zE, zF]
        iterate 5
          refine Held.tu rgkb ?_
          try simp only [Act.put, zA, zB, zC, zD, zE, zF]
        iterate 2
          refine Held.tw rgkb ?_
          try simp only [Act.put, zA, zB, zC, zD, zE, zF]
        iterate 12
          refine Held.tu rgkb ?_
          try simp only [Act.put, zA, zB, zC, zD, zE, zF]
        iterate 2
          refine Held.tw rgkb ?_
          try simp only [Act.put, zA, zB, zC, zD, zE, zF]
        iterate 6
          refine Held.tu rgkb ?_
          try simp only [Act.put, zA, zB, zC, zD, zE, zF]
        iterate 1
          refine Held.tw rgkb ?_
          try simp only [Act.put, zA, zB, zC, zD, zE, zF]
        refine wpAnyH_done (by kernel_rfl) ?_ _
        clear u0 u1 u2 u3 u4 u5 u6
        go_wp2
        go_ret
        rw [HF.out]
        exact ⟨rfl, D⟩
      | true =>
      by_cases hab : a_ = b_
      · have e1 : (a_.toList == b_.toList) = true := by rw [hab]; exact beq_self_eq_true _
        have HF : Hid (r = false) := by
          show _ = _
          rw [← HR.out]
          exact mayRo_no_one (List.getElem_mem hil) (by rw [HCD.out, decide_eq_true hab]; cases isName a_ <;> cases isName b_ <;> rfl)
        clear hab
        clear uz
        replace hbX : (wr.alloc (bxEn a_ b_ c_ d_ e_ f_ g_)).drew.heap[_]? = _ := hbX
        replace D : Below _ _ (wr.alloc (bxEn a_ b_ c_ d_ e_ f_ g_)).drew := D.drew
        go_wp2_with fail
        refine Held.start (ops := opskc) (S := fun w' => w'.cell? ⟨wr.heap.size, 0, none⟩ = some (.string a_) ∧ w'.cell? ⟨wr.heap.size, 1, none⟩ = some (.string b_) ∧ w'.cell? ⟨wr.heap.size, 2, none⟩ = some (.bool c_) ∧ w'.cell? ⟨wr.heap.size, 3, none⟩ = some (.bool d_) ∧ w'.cell? ⟨wr.heap.size, 4, none⟩ = some (.bool e_) ∧ w'.cell? ⟨wr.heap.size, 5, none⟩ = some (.bool f_) ∧ w'.cell? ⟨wr.heap.size, 6, none⟩ = some (.bool g_)) ordkc 39 (by kernel_rfl) rgkc.siz (by kernel_rfl) ⟨u0, u1, u2, u3, u4, u5, u6⟩ (fun hHeld => ?_)
        iterate 2
          refine Held.tw rgkc ?_
          try simp only [Act.put, zA, zB, zC, zD, zE, zF]
        refine Held.only (k := 2) (i := 2) (by kernel_rfl) (by kernel_rfl) rfl (by kernel_rfl) (fun K hK => ?_)
        go_simp
        go_at_call 80
        with_reducible refine (refIs_below a_ _ HNa_ (by omega) _).mono ?_
        rintro e w3 ⟨rfl, hbx⟩
        replace u0 := cell_below hbx u0
        replace u1 := cell_below hbx u1
        replace u2 := cell_below hbx u2
        replace u3 := cell_below hbx u3
        replace u4 := cell_below hbx u4
        replace u5 := cell_below hbx u5
        replace u6 := cell_below hbx u6
        replace hbX := hcall hbX hbx
        replace D := below_call D hbx
        refine hK.out _ _ (by (try dsimp only); (exact ⟨u0, u1, u2, u3, u4, u5, u6⟩)) (fun hHeld => ?_)
        clear hK K
        try simp only [Act.put, zA, zB, zC, zD, zE, zF]
        iterate 4
          refine Held.tw rgkc ?_
          try simp only [Act.put, zA, zB, zC, zD, zE, zF]
        refine Held.only (k := 7) (i := 7) (by kernel_rfl) (by kernel_rfl) rfl (by kernel_rfl) (fun K hK => ?_)
        go_simp
        go_at_call 80
        with_reducible refine (refIs_below b_ _ HNb_ (by omega) _).mono ?_
        rintro e w4 ⟨rfl, hbx⟩
        replace u0 := cell_below hbx u0
        replace u1 := cell_below hbx u1
        replace u2 := cell_below hbx u2
        replace u3 := cell_below hbx u3
        replace u4 := cell_below hbx u4
        replace u5 := cell_below hbx u5
        replace u6 := cell_below hbx u6
        replace hbX := hcall hbX hbx
        replace D := below_call D hbx
        refine hK.out _ _ (by (try dsimp only); (exact ⟨u0, u1, u2, u3, u4, u5, u6⟩)) (fun hHeld => ?_)
        clear hK K
        try simp only [Act.put, zA, zB, zC, zD, zE, zF]
        iterate 10
          refine Held.tw rgkc ?_
          try simp only [Act.put, zA, zB, zC, zD, zE, zF]
        iterate 12
          refine Held.tu rgkc ?_
          try simp only [Act.put, zA, zB, zC, zD, zE, zF]
        iterate 2
          refine Held.tw rgkc ?_
          try simp only [Act.put, zA, zB, zC, zD, zE, zF]
        iterate 6
          refine Held.tu rgkc ?_
          try simp only [Act.put, zA, zB, zC, zD, zE, zF]
        iterate 1
          refine Held.tw rgkc ?_
          try simp only [Act.put, zA, zB, zC, zD, zE, zF]
        refine wpAnyH_done (by kernel_rfl) ?_ _
        clear u0 u1 u2 u3 u4 u5 u6
        go_wp2
        go_ret
        rw [HF.out]
        exact ⟨rfl, D⟩
      have hcd := HCD.out
      rw [HNa_.out, HNb_.out, decide_eq_false hab] at hcd
      simp only [Bool.true_and, Bool.not_false] at hcd
      have HCE := Lib.hid hcd
      have e1 : (a_.toList == b_.toList) = false := by simpa [toList_inj'] using hab
      clear hab hcd
      by_cases hi0 : i = 0
      · have g1 : decide ((0 : Int) < (i : Int)) = false := decide_eq_false (by omega)
        have g1n : decide (0 < i) = false := decide_eq_false (by omega)
        have HJ2 : Hid (∀ j (h : j + 1 < l.length), j + 1 < i + 1 → ltRo (keyRo l[j]) (keyRo l[j + 1]) = true) := fun j _ h => absurd h (by omega)
        clear hi0
        by_cases hm16 : m ≤ 16
        · have d1 : decide ((16 : Int) < (m : Int)) = false := decide_eq_false (by omega)
          have d2 : decide (16 < m) = false := decide_eq_false (by omega)
          clear uz
          replace hbX : (wr.alloc (bxEn a_ b_ c_ d_ e_ f_ g_)).drew.heap[_]? = _ := hbX
          replace D : Below _ _ (wr.alloc (bxEn a_ b_ c_ d_ e_ f_ g_)).drew := D.drew
          go_wp2_with fail
          refine Held.start (ops := opskd1) (S := fun w' => w'.cell? ⟨wr.heap.size, 0, none⟩ = some (.string a_) ∧ w'.cell? ⟨wr.heap.size, 1, none⟩ = some (.string b_) ∧ w'.cell? ⟨wr.heap.size, 2, none⟩ = some (.bool c_) ∧ w'.cell? ⟨wr.heap.size, 3, none⟩ = some (.bool d_) ∧ w'.cell? ⟨wr.heap.size, 4, none⟩ = some (.bool e_) ∧ w'.cell? ⟨wr.heap.size, 5, none⟩ = some (.bool f_) ∧ w'.cell? ⟨wr.heap.size, 6, none⟩ = some (.bool g_)) ordkd1 39 (by kernel_rfl) rgkd1.siz (by kernel_rfl) ⟨u0, u1, u2, u3, u4, u5, u6⟩ (fun hHeld => ?_)
          iterate 2
            refine Held.tw rgkd1 ?_
            try simp only [Act.put, zA, zB, zC, zD, zE, zF]
          refine Held.only (k := 2) (i := 2) (by kernel_rfl) (by kernel_rfl) rfl (by kernel_rfl) (fun K hK => ?_)
          go_simp
          go_at_call 80
          with_reducible refine (refIs_below a_ _ HNa_ (by omega) _).mono ?_
          rintro e w3 ⟨rfl, hbx⟩
          replace u0 := cell_below hbx u0
          replace u1 := cell_below hbx u1
          replace u2 := cell_below hbx u2
          replace u3 := cell_below hbx u3
          replace u4 := cell_below hbx u4
          replace u5 := cell_below hbx u5
          replace u6 := cell_below hbx u6
          replace hbX := hcall hbX hbx
          replace D := below_call D hbx
          refine hK.out _ _ (by (try dsimp only); (exact ⟨u0, u1, u2, u3, u4, u5, u6⟩)) (fun hHeld => ?_)
          clear hK K
          try simp only [Act.put, zA, zB, zC, zD, zE, zF]
          iterate 4
            refine Held.tw rgkd1 ?_
            try simp only [Act.put, zA, zB, zC, zD, zE, zF]
          refine Held.only (k := 7) (i := 7) (by kernel_rfl) (by kernel_rfl) rfl (by kernel_rfl) (fun K hK => ?_)
          go_simp
          go_at_call 80
          with_reducible refine (refIs_below b_ _ HNb_ (by omega) _).mono ?_
          rintro e w4 ⟨rfl, hbx⟩
          replace u0 := cell_below hbx u0
          replace u1 := cell_below hbx u1
          replace u2 := cell_below hbx u2
          replace u3 := cell_below hbx u3
          replace u4 := cell_below hbx u4
          replace u5 := cell_below hbx u5
          replace u6 := cell_below hbx u6
          replace hbX := hcall hbX hbx
          replace D := below_call D hbx
          refine hK.out _ _ (by (try dsimp only); (exact ⟨u0, u1, u2, u3, u4, u5, u6⟩)) (fun hHeld => ?_)
          clear hK K
          try simp only [Act.put, zA, zB, zC, zD, zE, zF]
          iterate 13
            refine Held.tw rgkd1 ?_
            try simp only [Act.put, zA, zB, zC, zD, zE, zF]
          iterate 8
            refine Held.tu rgkd1 ?_
            try simp only [Act.put, zA, zB, zC, zD, zE, zF]
          iterate 6
            refine Held.tw rgkd1 ?_
            try simp only [Act.put, zA, zB, zC, zD, zE, zF]
          refine Held.only (k := 35) (i := 35) (by kernel_rfl) (by kernel_rfl) rfl (by kernel_rfl) (fun K hK => ?_)
          go_simp
          go_at_call 68
          with_reducible refine (refOfLen n c _ l a_ _ (hl.below D) hn m HM).mono ?_
          rintro e w5 ⟨⟨Ao, co, rfl⟩, hbx⟩
          replace u0 := cell_below hbx u0
          replace u1 := cell_below hbx u1
          replace u2 := cell_below hbx u2
          replace u3 := cell_below hbx u3
          replace u4 := cell_below hbx u4
          replace u5 := cell_below hbx u5
          replace u6 := cell_below hbx u6
          replace hbX := hcall hbX hbx
          replace D := below_call D hbx
          refine hK.out _ _ (by (try dsimp only); (exact ⟨u0, u1, u2, u3, u4, u5, u6⟩)) (fun hHeld => ?_)
          clear hK K
          try simp only [Act.put, zA, zB, zC, zD, zE, zF]
          iterate 3
            refine Held.tw rgkd1 ?_
            try simp only [Act.put, zA, zB, zC, zD, zE, zF]
          refine wpAnyH_done (by kernel_rfl) ?_ _
          clear u0 u1 u2 u3 u4 u5 u6
          obtain ⟨u0, u1, u2, u3, u4, u5, u6, uz⟩ := cellsEn a_ b_ c_ d_ e_ f_ g_ hbX
          go_wp2_with fail
          with_reducible refine (HGET.out _ (hl.below D)).mono ?_
          rintro e w6 ⟨rfl, b6⟩
          replace hbX := hcall hbX b6
          replace D := below_call D b6
          clear b6 u0 u1 u2 u3 u4 u5 u6 uz
          have hy := heap_alloc_new w6 (bxIt c' d' e' f' g')
          replace hbX := halloc hbX (bxIt c' d' e' f' g')
          replace D := below_alloc0 D (bxIt c' d' e' f' g')
          obtain ⟨u0, u1, u2, u3, u4, u5, u6, uz⟩ := cellsEn a_ b_ c_ d_ e_ f_ g_ hbX
          obtain ⟨⟨y0, y1, y2, y3, y4⟩, -, yz⟩ := iopen hy
          go_wp2_with fail
          with_reducible refine (re_ (hasRo_calls n c _ l b_ a_ _ (hl.below D)) (ret_bool HG2.out)).mono ?_
          rintro e w7 ⟨rfl, b7⟩
          replace hbX := hcall hbX b7
          replace hy := hcall hy b7
          replace D := below_call D b7
          clear b7 u0 u1 u2 u3 u4 u5 u6 uz y0 y1 y2 y3 y4 yz
          cases hh with
          | false =>
            have HF : Hid (r = false) := by
              show _ = _
              rw [← HR.out]
              exact mayRo_no_one (List.getElem_mem hil) (by rw [HCE.out]; simp)
            go_wp2
            go_ret
            rw [HF.out]
            exact ⟨rfl, D⟩
          | true =>
          obtain ⟨ft, hft⟩ : ∃ b, fitI ⟨c_, d_, e_, f_, g_⟩ ⟨c', d', e', f', g'⟩ = b := ⟨_, rfl⟩
          have HFT := Lib.hid hft
          clear hft
          obtain ⟨u0, u1, u2, u3, u4, u5, u6, uz⟩ := cellsEn a_ b_ c_ d_ e_ f_ g_ hbX
          obtain ⟨⟨y0, y1, y2, y3, y4⟩, -, yz⟩ := iopen hy
          go_wp2_with fail
          with_reducible refine (re_ (refMayI_calls c_ d_ e_ f_ g_ c' d' e' f' g' _) (ret_bool HFT.out)).mono ?_
          rintro e w8 ⟨rfl, b8⟩
          replace hbX := hcall hbX b8
          replace hy := hcall hy b8
          replace D := below_call D b8
          clear b8 u0 u1 u2 u3 u4 u5 u6 uz y0 y1 y2 y3 y4 yz
          cases ft with
          | false =>
            have HF : Hid (r = false) := by
              show _ = _
              rw [← HR.out]
              exact mayRo_no_one (List.getElem_mem hil) (by rw [HCE.out, HFT.out]; simp)
            go_wp2
            go_ret
            rw [HF.out]
            exact ⟨rfl, D⟩
          | true =>
          obtain ⟨m1, hm1⟩ : ∃ b, emptyI ⟨c_, d_, e_, f_, g_⟩ = b := ⟨_, rfl⟩
          have HM1 := Lib.hid hm1
          clear hm1
          obtain ⟨u0, u1, u2, u3, u4, u5, u6, uz⟩ := cellsEn a_ b_ c_ d_ e_ f_ g_ hbX
          obtain ⟨⟨y0, y1, y2, y3, y4⟩, -, yz⟩ := iopen hy
          go_wp2_with fail
          with_reducible refine (re_ (refEmptyI_calls c_ d_ e_ f_ g_ _) (ret_bool HM1.out)).mono ?_
          rintro e w9 ⟨rfl, b9⟩
          replace hbX := hcall hbX b9
          replace hy := hcall hy b9
          replace D := below_call D b9
          clear b9 u0 u1 u2 u3 u4 u5 u6 uz y0 y1 y2 y3 y4 yz
          cases m1 with
          | false =>
            have HK2 : Hid (∀ j (h : j < l.length), j < i + 1 → oneRo l l[j] = true) := fun j h hj => by
              rcases Nat.lt_or_ge j i with h' | h'
              · exact HK.out j h h'
              · obtain rfl : j = i := by omega
                rw [HCE.out, HFT.out, HM1.out, decide_eq_true hm16]
                rfl
            go_wp2
            exact ⟨⟨i + 1, by go_num, by omega, D, HK2, HJ2⟩, by simp [intOf]; omega⟩
          | true =>
          obtain ⟨m2, hm2⟩ : ∃ b, emptyI ⟨c', d', e', f', g'⟩ = b := ⟨_, rfl⟩
          have HM2 := Lib.hid hm2
          clear hm2
          obtain ⟨u0, u1, u2, u3, u4, u5, u6, uz⟩ := cellsEn a_ b_ c_ d_ e_ f_ g_ hbX
          obtain ⟨⟨y0, y1, y2, y3, y4⟩, -, yz⟩ := iopen hy
          go_wp2_with fail
          with_reducible refine (re_ (refEmptyI_calls c' d' e' f' g' _) (ret_bool HM2.out)).mono ?_
          rintro e w10 ⟨rfl, b10⟩
          replace hbX := hcall hbX b10
          replace hy := hcall hy b10
          replace D := below_call D b10
          clear b10 u0 u1 u2 u3 u4 u5 u6 uz y0 y1 y2 y3 y4 yz
          cases m2 with
          | false =>
            have HK2 : Hid (∀ j (h : j < l.length), j < i + 1 → oneRo l l[j] = true) := fun j h hj => by
              rcases Nat.lt_or_ge j i with h' | h'
              · exact HK.out j h h'
              · obtain rfl : j = i := by omega
                rw [HCE.out, HFT.out, HM1.out, decide_eq_true hm16]
                rw [HM2.out]
                rfl
            go_wp2
            exact ⟨⟨i + 1, by go_num, by omega, D, HK2, HJ2⟩, by simp [intOf]; omega⟩
          | true =>
            have HF : Hid (r = false) := by
              show _ = _
              rw [← HR.out]
              exact mayRo_no_one (List.getElem_mem hil) (by rw [HCE.out, HFT.out, HM1.out, HM2.out]; simp)
            go_wp2
            go_ret
            rw [HF.out]
            exact ⟨rfl, D⟩
        · have d1 : decide ((16 : Int) < (m : Int)) = true := decide_eq_true (by omega)
          have d2 : decide (16 < m) = true := decide_eq_true (by omega)
          have HF : Hid (r = false) := by
            show _ = _
            rw [← HR.out]
            exact mayRo_no_one (List.getElem_mem hil) (by rw [HCE.out, decide_eq_false hm16]; rfl)
          clear uz
          replace hbX : (wr.alloc (bxEn a_ b_ c_ d_ e_ f_ g_)).drew.heap[_]? = _ := hbX
          replace D : Below _ _ (wr.alloc (bxEn a_ b_ c_ d_ e_ f_ g_)).drew := D.drew
          go_wp2_with fail
          refine Held.start (ops := opskd2) (S := fun w' => w'.cell? ⟨wr.heap.size, 0, none⟩ = some (.string a_) ∧ w'.cell? ⟨wr.heap.size, 1, none⟩ = some (.string b_) ∧ w'.cell? ⟨wr.heap.size, 2, none⟩ = some (.bool c_) ∧ w'.cell? ⟨wr.heap.size, 3, none⟩ = some (.bool d_) ∧ w'.cell? ⟨wr.heap.size, 4, none⟩ = some (.bool e_) ∧ w'.cell? ⟨wr.heap.size, 5, none⟩ = some (.bool f_) ∧ w'.cell? ⟨wr.heap.size, 6, none⟩ = some (.bool g_)) ordkd2 39 (by kernel_rfl) rgkd2.siz (by kernel_rfl) ⟨u0, u1, u2, u3, u4, u5, u6⟩ (fun hHeld => ?_)
          iterate 2
            refine Held.tw rgkd2 ?_
            try simp only [Act.put, zA, zB, zC, zD, zE, zF]
          refine Held.only (k := 2) (i := 2) (by kernel_rfl) (by kernel_rfl) rfl (by kernel_rfl) (fun K hK => ?_)
          go_simp
          go_at_call 80
          with_reducible refine (refIs_below a_ _ HNa_ (by omega) _).mono ?_
          rintro e w3 ⟨rfl, hbx⟩
          replace u0 := cell_below hbx u0
          replace u1 := cell_below hbx u1
          replace u2 := cell_below hbx u2
          replace u3 := cell_below hbx u3
          replace u4 := cell_below hbx u4
          replace u5 := cell_below hbx u5
          replace u6 := cell_below hbx u6
          replace hbX := hcall hbX hbx
          replace D := below_call D hbx
          refine hK.out _ _ (by (try dsimp only); (exact ⟨u0, u1, u2, u3, u4, u5, u6⟩)) (fun hHeld => ?_)
          clear hK K
          try simp only [Act.put, zA, zB, zC, zD, zE, zF]
          iterate 4
            refine Held.tw rgkd2 ?_
            try simp only [Act.put, zA, zB, zC, zD, zE, zF]
          refine Held.only (k := 7) (i := 7) (by kernel_rfl) (by kernel_rfl) rfl (by kernel_rfl) (fun K hK => ?_)
          go_simp
          go_at_call 80
          with_reducible refine (refIs_below b_ _ HNb_ (by omega) _).mono ?_
          rintro e w4 ⟨rfl, hbx⟩
          replace u0 := cell_below hbx u0
          replace u1 := cell_below hbx u1
          replace u2 := cell_below hbx u2
          replace u3 := cell_below hbx u3
          replace u4 := cell_below hbx u4
          replace u5 := cell_below hbx u5
          replace u6 := cell_below hbx u6
          replace hbX := hcall hbX hbx
          replace D := below_call D hbx
          refine hK.out _ _ (by (try dsimp only); (exact ⟨u0, u1, u2, u3, u4, u5, u6⟩)) (fun hHeld => ?_)
          clear hK K
          try simp only [Act.put, zA, zB, zC, zD, zE, zF]
          iterate 13
            refine Held.tw rgkd2 ?_
            try simp only [Act.put, zA, zB, zC, zD, zE, zF]
          iterate 8
            refine Held.tu rgkd2 ?_
            try simp only [Act.put, zA, zB, zC, zD, zE, zF]
          iterate 6
            refine Held.tw rgkd2 ?_
            try simp only [Act.put, zA, zB, zC, zD, zE, zF]
          refine Held.only (k := 35) (i := 35) (by kernel_rfl) (by kernel_rfl) rfl (by kernel_rfl) (fun K hK => ?_)
          go_simp
          go_at_call 68
          with_reducible refine (refOfLen n c _ l a_ _ (hl.below D) hn m HM).mono ?_
          rintro e w5 ⟨⟨Ao, co, rfl⟩, hbx⟩
          replace u0 := cell_below hbx u0
          replace u1 := cell_below hbx u1
          replace u2 := cell_below hbx u2
          replace u3 := cell_below hbx u3
          replace u4 := cell_below hbx u4
          replace u5 := cell_below hbx u5
          replace u6 := cell_below hbx u6
          replace hbX := hcall hbX hbx
          replace D := below_call D hbx
          refine hK.out _ _ (by (try dsimp only); (exact ⟨u0, u1, u2, u3, u4, u5, u6⟩)) (fun hHeld => ?_)
          clear hK K
          try simp only [Act.put, zA, zB, zC, zD, zE, zF]
          iterate 3
            refine Held.tw rgkd2 ?_
            try simp only [Act.put, zA, zB, zC, zD, zE, zF]
          refine wpAnyH_done (by kernel_rfl) ?_ _
          clear u0 u1 u2 u3 u4 u5 u6
          go_wp2
          go_ret
          rw [HF.out]
          exact ⟨rfl, D⟩
      have g1 : decide ((0 : Int) < (i : Int)) = true := decide_eq_true (by omega)
      have g1n : decide (0 < i) = true := decide_eq_true (by omega)
      obtain ⟨q, hq⟩ : ∃ q, q = i - 1 := ⟨_, rfl⟩
      have hqi : q + 1 = i := by omega
      have hql : q < l.length := by omega
      obtain ⟨⟨p_, q_, r_, s_, t_, v_, x_⟩, heq⟩ : ∃ e, l[q] = e := ⟨_, rfl⟩
      have hw : IntKind.i64.wrap ((i : Int) - 1) = ((q : Nat) : Int) := by
        have : (i : Int) - 1 = (q : Int) := by omega
        rw [this, IntKind.wrap_i64]; omega
      have x1 : (0 : Int) ≤ (q : Int) := by omega
      have x2 : (q : Int) < (n : Int) := by have := EA.out; omega
      obtain ⟨bl, hbl⟩ : ∃ b, ltRo (p_, q_) (a_, b_) = b := ⟨_, rfl⟩
      have HADJ : Hid (∃ h : q + 1 < l.length, ltRo (keyRo l[q]) (keyRo l[q + 1]) = bl) := by
        subst hqi
        exact ⟨hil, by rw [heq, HE.out, ← hbl]; rfl⟩
      have HBL := Lib.hid hbl
      have HEQ := Lib.hid heq
      have HQI := Lib.hid hqi
      obtain ⟨p0, p1, p2, p3, p4, p5, p6⟩ := rowsEn (hl.below D) q hql p_ q_ r_ s_ t_ v_ x_ heq
      clear hbl heq hqi hq hi0
      cases bl with
      | false =>
        have HF : Hid (r = false) := by
          show _ = _
          rw [← HR.out]
          exact mayRo_no_adj q HADJ.out.1 HADJ.out.2
        clear uz
        replace hbX : (wr.alloc (bxEn a_ b_ c_ d_ e_ f_ g_)).drew.heap[_]? = _ := hbX
        replace D : Below _ _ (wr.alloc (bxEn a_ b_ c_ d_ e_ f_ g_)).drew := D.drew
        go_wp2_with fail
        refine Held.start (ops := opske) (S := fun w' => w'.cell? ⟨wr.heap.size, 0, none⟩ = some (.string a_) ∧ w'.cell? ⟨wr.heap.size, 1, none⟩ = some (.string b_) ∧ w'.cell? ⟨wr.heap.size, 2, none⟩ = some (.bool c_) ∧ w'.cell? ⟨wr.heap.size, 3, none⟩ = some (.bool d_) ∧ w'.cell? ⟨wr.heap.size, 4, none⟩ = some (.bool e_) ∧ w'.cell? ⟨wr.heap.size, 5, none⟩ = some (.bool f_) ∧ w'.cell? ⟨wr.heap.size, 6, none⟩ = some (.bool g_) ∧ w'.cell? (ad.add (q * 7)) = some (.string p_) ∧ w'.cell? ⟨(ad.add (q * 7)).block, (ad.add (q * 7)).off + 1, none⟩ = some (.string q_) ∧ w'.cell? ⟨(ad.add (q * 7)).block, (ad.add (q * 7)).off + 2, none⟩ = some (.bool r_) ∧ w'.cell? ⟨(ad.add (q * 7)).block, (ad.add (q * 7)).off + 3, none⟩ = some (.bool s_) ∧ w'.cell? ⟨(ad.add (q * 7)).block, (ad.add (q * 7)).off + 4, none⟩ = some (.bool t_) ∧ w'.cell? ⟨(ad.add (q * 7)).block, (ad.add (q * 7)).off + 5, none⟩ = some (.bool v_) ∧ w'.cell? ⟨(ad.add (q * 7)).block, (ad.add (q * 7)).off + 6, none⟩ = some (.bool x_)) ordke 39 (by kernel_rfl) rgke.siz (by kernel_rfl) ⟨u0, u1, u2, u3, u4, u5, u6, p0, p1, p2, p3, p4, p5, p6⟩ (fun hHeld => ?_)
        iterate 2
          refine Held.tw rgke ?_
          try simp only [Act.put, zA, zB, zC, zD, zE, zF]
        refine Held.only (k := 2) (i := 2) (by kernel_rfl) (by kernel_rfl) rfl (by kernel_rfl) (fun K hK => ?_)
        go_simp
        go_at_call 80
        with_reducible refine (refIs_below a_ _ HNa_ (by omega) _).mono ?_
        rintro e w3 ⟨rfl, hbx⟩
        replace u0 := cell_below hbx u0
        replace u1 := cell_below hbx u1
        replace u2 := cell_below hbx u2
        replace u3 := cell_below hbx u3
        replace u4 := cell_below hbx u4
        replace u5 := cell_below hbx u5
        replace u6 := cell_below hbx u6
        replace p0 := cell_below hbx p0
        replace p1 := cell_below hbx p1
        replace p2 := cell_below hbx p2
        replace p3 := cell_below hbx p3
        replace p4 := cell_below hbx p4
        replace p5 := cell_below hbx p5
        replace p6 := cell_below hbx p6
        replace hbX := hcall hbX hbx
        replace D := below_call D hbx
        refine hK.out _ _ (by (try dsimp only); (exact ⟨u0, u1, u2, u3, u4, u5, u6, p0, p1, p2, p3, p4, p5, p6⟩)) (fun hHeld => ?_)
        clear hK K
        try simp only [Act.put, zA, zB, zC, zD, zE, zF]
        iterate 4
          refine Held.tw rgke ?_
          try simp only [Act.put, zA, zB, zC, zD, zE, zF]
        refine Held.only (k := 7) (i := 7) (by kernel_rfl) (by kernel_rfl) rfl (by kernel_rfl) (fun K hK => ?_)
        go_simp
        go_at_call 80
        with_reducible refine (refIs_below b_ _ HNb_ (by omega) _).mono ?_
        rintro e w4 ⟨rfl, hbx⟩
        replace u0 := cell_below hbx u0
        replace u1 := cell_below hbx u1
        replace u2 := cell_below hbx u2
        replace u3 := cell_below hbx u3
        replace u4 := cell_below hbx u4
        replace u5 := cell_below hbx u5
        replace u6 := cell_below hbx u6
        replace p0 := cell_below hbx p0
        replace p1 := cell_below hbx p1
        replace p2 := cell_below hbx p2
        replace p3 := cell_below hbx p3
        replace p4 := cell_below hbx p4
        replace p5 := cell_below hbx p5
        replace p6 := cell_below hbx p6
        replace hbX := hcall hbX hbx
        replace D := below_call D hbx
        refine hK.out _ _ (by (try dsimp only); (exact ⟨u0, u1, u2, u3, u4, u5, u6, p0, p1, p2, p3, p4, p5, p6⟩)) (fun hHeld => ?_)
        clear hK K
        try simp only [Act.put, zA, zB, zC, zD, zE, zF]
        iterate 19
          refine Held.tw rgke ?_
          try simp only [Act.put, zA, zB, zC, zD, zE, zF]
        refine Held.only (k := 27) (i := 27) (by kernel_rfl) (by kernel_rfl) rfl (by kernel_rfl) (fun K hK => ?_)
        go_simp
        go_at_call 81
        with_reducible refine (re_ (refAheadR_calls p_ q_ r_ s_ t_ v_ x_ a_ b_ c_ d_ e_ f_ g_ _) (ret_bool HBL.out)).mono ?_
        rintro e w5 ⟨rfl, hbx⟩
        replace u0 := cell_below hbx u0
        replace u1 := cell_below hbx u1
        replace u2 := cell_below hbx u2
        replace u3 := cell_below hbx u3
        replace u4 := cell_below hbx u4
        replace u5 := cell_below hbx u5
        replace u6 := cell_below hbx u6
        replace p0 := cell_below hbx p0
        replace p1 := cell_below hbx p1
        replace p2 := cell_below hbx p2
        replace p3 := cell_below hbx p3
        replace p4 := cell_below hbx p4
        replace p5 := cell_below hbx p5
        replace p6 := cell_below hbx p6
        replace hbX := hcall hbX hbx
        replace D := below_call D hbx
        refine hK.out _ _ (by (try dsimp only); (exact ⟨u0, u1, u2, u3, u4, u5, u6, p0, p1, p2, p3, p4, p5, p6⟩)) (fun hHeld => ?_)
        clear hK K
        try simp only [Act.put, zA, zB, zC, zD, zE, zF]
        iterate 4
          refine Held.tw rgke ?_
          try simp only [Act.put, zA, zB, zC, zD, zE, zF]
        iterate 6
          refine Held.tu rgke ?_
          try simp only [Act.put, zA, zB, zC, zD, zE, zF]
        iterate 1
          refine Held.tw rgke ?_
          try simp only [Act.put, zA, zB, zC, zD, zE, zF]
        refine wpAnyH_done (by kernel_rfl) ?_ _
        clear u0 u1 u2 u3 u4 u5 u6 p0 p1 p2 p3 p4 p5 p6
        go_wp2
        go_ret
        rw [HF.out]
        exact ⟨rfl, D⟩
      | true =>
        have HJ2 : Hid (∀ j (h : j + 1 < l.length), j + 1 < i + 1 → ltRo (keyRo l[j]) (keyRo l[j + 1]) = true) := fun j h hj => by
          rcases Nat.lt_or_ge (j + 1) i with h' | h'
          · exact HJ.out j h h'
          · obtain rfl : j = q := by have := HQI.out; omega
            exact HADJ.out.2
        by_cases hm16 : m ≤ 16
        · have d1 : decide ((16 : Int) < (m : Int)) = false := decide_eq_false (by omega)
          have d2 : decide (16 < m) = false := decide_eq_false (by omega)
          clear uz
          replace hbX : (wr.alloc (bxEn a_ b_ c_ d_ e_ f_ g_)).drew.heap[_]? = _ := hbX
          replace D : Below _ _ (wr.alloc (bxEn a_ b_ c_ d_ e_ f_ g_)).drew := D.drew
          go_wp2_with fail
          refine Held.start (ops := opskf1) (S := fun w' => w'.cell? ⟨wr.heap.size, 0, none⟩ = some (.string a_) ∧ w'.cell? ⟨wr.heap.size, 1, none⟩ = some (.string b_) ∧ w'.cell? ⟨wr.heap.size, 2, none⟩ = some (.bool c_) ∧ w'.cell? ⟨wr.heap.size, 3, none⟩ = some (.bool d_) ∧ w'.cell? ⟨wr.heap.size, 4, none⟩ = some (.bool e_) ∧ w'.cell? ⟨wr.heap.size, 5, none⟩ = some (.bool f_) ∧ w'.cell? ⟨wr.heap.size, 6, none⟩ = some (.bool g_) ∧ w'.cell? (ad.add (q * 7)) = some (.string p_) ∧ w'.cell? ⟨(ad.add (q * 7)).block, (ad.add (q * 7)).off + 1, none⟩ = some (.string q_) ∧ w'.cell? ⟨(ad.add (q * 7)).block, (ad.add (q * 7)).off + 2, none⟩ = some (.bool r_) ∧ w'.cell? ⟨(ad.add (q * 7)).block, (ad.add (q * 7)).off + 3, none⟩ = some (.bool s_) ∧ w'.cell? ⟨(ad.add (q * 7)).block, (ad.add (q * 7)).off + 4, none⟩ = some (.bool t_) ∧ w'.cell? ⟨(ad.add (q * 7)).block, (ad.add (q * 7)).off + 5, none⟩ = some (.bool v_) ∧ w'.cell? ⟨(ad.add (q * 7)).block, (ad.add (q * 7)).off + 6, none⟩ = some (.bool x_)) ordkf1 39 (by kernel_rfl) rgkf1.siz (by kernel_rfl) ⟨u0, u1, u2, u3, u4, u5, u6, p0, p1, p2, p3, p4, p5, p6⟩ (fun hHeld => ?_)
          iterate 2
            refine Held.tw rgkf1 ?_
            try simp only [Act.put, zA, zB, zC, zD, zE, zF]
          refine Held.only (k := 2) (i := 2) (by kernel_rfl) (by kernel_rfl) rfl (by kernel_rfl) (fun K hK => ?_)
          go_simp
          go_at_call 80
          with_reducible refine (refIs_below a_ _ HNa_ (by omega) _).mono ?_
          rintro e w3 ⟨rfl, hbx⟩
          replace u0 := cell_below hbx u0
          replace u1 := cell_below hbx u1
          replace u2 := cell_below hbx u2
          replace u3 := cell_below hbx u3
          replace u4 := cell_below hbx u4
          replace u5 := cell_below hbx u5
          replace u6 := cell_below hbx u6
          replace p0 := cell_below hbx p0
          replace p1 := cell_below hbx p1
          replace p2 := cell_below hbx p2
          replace p3 := cell_below hbx p3
          replace p4 := cell_below hbx p4
          replace p5 := cell_below hbx p5
          replace p6 := cell_below hbx p6
          replace hbX := hcall hbX hbx
          replace D := below_call D hbx
          refine hK.out _ _ (by (try dsimp only); (exact ⟨u0, u1, u2, u3, u4, u5, u6, p0, p1, p2, p3, p4, p5, p6⟩)) (fun hHeld => ?_)
          clear hK K
          try simp only [Act.put, zA, zB, zC, zD, zE, zF]
          iterate 4
            refine Held.tw rgkf1 ?_
            try simp only [Act.put, zA, zB, zC, zD, zE, zF]
          refine Held.only (k := 7) (i := 7) (by kernel_rfl) (by kernel_rfl) rfl (by kernel_rfl) (fun K hK => ?_)
          go_simp
          go_at_call 80
          with_reducible refine (refIs_below b_ _ HNb_ (by omega) _).mono ?_
          rintro e w4 ⟨rfl, hbx⟩
          replace u0 := cell_below hbx u0
          replace u1 := cell_below hbx u1
          replace u2 := cell_below hbx u2
          replace u3 := cell_below hbx u3
          replace u4 := cell_below hbx u4
          replace u5 := cell_below hbx u5
          replace u6 := cell_below hbx u6
          replace p0 := cell_below hbx p0
          replace p1 := cell_below hbx p1
          replace p2 := cell_below hbx p2
          replace p3 := cell_below hbx p3
          replace p4 := cell_below hbx p4
          replace p5 := cell_below hbx p5
          replace p6 := cell_below hbx p6
          replace hbX := hcall hbX hbx
          replace D := below_call D hbx
          refine hK.out _ _ (by (try dsimp only); (exact ⟨u0, u1, u2, u3, u4, u5, u6, p0, p1, p2, p3, p4, p5, p6⟩)) (fun hHeld => ?_)
          clear hK K
          try simp only [Act.put, zA, zB, zC, zD, zE, zF]
          iterate 19
            refine Held.tw rgkf1 ?_
            try simp only [Act.put, zA, zB, zC, zD, zE, zF]
          refine Held.only (k := 27) (i := 27) (by kernel_rfl) (by kernel_rfl) rfl (by kernel_rfl) (fun K hK => ?_)
          go_simp
          go_at_call 81
          with_reducible refine (re_ (refAheadR_calls p_ q_ r_ s_ t_ v_ x_ a_ b_ c_ d_ e_ f_ g_ _) (ret_bool HBL.out)).mono ?_
          rintro e w5 ⟨rfl, hbx⟩
          replace u0 := cell_below hbx u0
          replace u1 := cell_below hbx u1
          replace u2 := cell_below hbx u2
          replace u3 := cell_below hbx u3
          replace u4 := cell_below hbx u4
          replace u5 := cell_below hbx u5
          replace u6 := cell_below hbx u6
          replace p0 := cell_below hbx p0
          replace p1 := cell_below hbx p1
          replace p2 := cell_below hbx p2
          replace p3 := cell_below hbx p3
          replace p4 := cell_below hbx p4
          replace p5 := cell_below hbx p5
          replace p6 := cell_below hbx p6
          replace hbX := hcall hbX hbx
          replace D := below_call D hbx
          refine hK.out _ _ (by (try dsimp only); (exact ⟨u0, u1, u2, u3, u4, u5, u6, p0, p1, p2, p3, p4, p5, p6⟩)) (fun hHeld => ?_)
          clear hK K
          try simp only [Act.put, zA, zB, zC, zD, zE, zF]
          iterate 7
            refine Held.tw rgkf1 ?_
            try simp only [Act.put, zA, zB, zC, zD, zE, zF]
          refine Held.only (k := 35) (i := 35) (by kernel_rfl) (by kernel_rfl) rfl (by kernel_rfl) (fun K hK => ?_)
          go_simp
          go_at_call 68
          with_reducible refine (refOfLen n c _ l a_ _ (hl.below D) hn m HM).mono ?_
          rintro e w6 ⟨⟨Ao, co, rfl⟩, hbx⟩
          replace u0 := cell_below hbx u0
          replace u1 := cell_below hbx u1
          replace u2 := cell_below hbx u2
          replace u3 := cell_below hbx u3
          replace u4 := cell_below hbx u4
          replace u5 := cell_below hbx u5
          replace u6 := cell_below hbx u6
          replace p0 := cell_below hbx p0
          replace p1 := cell_below hbx p1
          replace p2 := cell_below hbx p2
          replace p3 := cell_below hbx p3
          replace p4 := cell_below hbx p4
          replace p5 := cell_below hbx p5
          replace p6 := cell_below hbx p6
          replace hbX := hcall hbX hbx
          replace D := below_call D hbx
          refine hK.out _ _ (by (try dsimp only); (exact ⟨u0, u1, u2, u3, u4, u5, u6, p0, p1, p2, p3, p4, p5, p6⟩)) (fun hHeld => ?_)
          clear hK K
          try simp only [Act.put, zA, zB, zC, zD, zE, zF]
          iterate 3
            refine Held.tw rgkf1 ?_
            try simp only [Act.put, zA, zB, zC, zD, zE, zF]
          refine wpAnyH_done (by kernel_rfl) ?_ _
          clear u0 u1 u2 u3 u4 u5 u6 p0 p1 p2 p3 p4 p5 p6
          obtain ⟨u0, u1, u2, u3, u4, u5, u6, uz⟩ := cellsEn a_ b_ c_ d_ e_ f_ g_ hbX
          go_wp2_with fail
          with_reducible refine (HGET.out _ (hl.below D)).mono ?_
          rintro e w7 ⟨rfl, b7⟩
          replace hbX := hcall hbX b7
          replace D := below_call D b7
          clear b7 u0 u1 u2 u3 u4 u5 u6 uz
          have hy := heap_alloc_new w7 (bxIt c' d' e' f' g')
          replace hbX := halloc hbX (bxIt c' d' e' f' g')
          replace D := below_alloc0 D (bxIt c' d' e' f' g')
          obtain ⟨u0, u1, u2, u3, u4, u5, u6, uz⟩ := cellsEn a_ b_ c_ d_ e_ f_ g_ hbX
          obtain ⟨⟨y0, y1, y2, y3, y4⟩, -, yz⟩ := iopen hy
          go_wp2_with fail
          with_reducible refine (re_ (hasRo_calls n c _ l b_ a_ _ (hl.below D)) (ret_bool HG2.out)).mono ?_
          rintro e w8 ⟨rfl, b8⟩
          replace hbX := hcall hbX b8
          replace hy := hcall hy b8
          replace D := below_call D b8
          clear b8 u0 u1 u2 u3 u4 u5 u6 uz y0 y1 y2 y3 y4 yz
          cases hh with
          | false =>
            have HF : Hid (r = false) := by
              show _ = _
              rw [← HR.out]
              exact mayRo_no_one (List.getElem_mem hil) (by rw [HCE.out]; simp)
            go_wp2
            go_ret
            rw [HF.out]
            exact ⟨rfl, D⟩
          | true =>
          obtain ⟨ft, hft⟩ : ∃ b, fitI ⟨c_, d_, e_, f_, g_⟩ ⟨c', d', e', f', g'⟩ = b := ⟨_, rfl⟩
          have HFT := Lib.hid hft
          clear hft
          obtain ⟨u0, u1, u2, u3, u4, u5, u6, uz⟩ := cellsEn a_ b_ c_ d_ e_ f_ g_ hbX
          obtain ⟨⟨y0, y1, y2, y3, y4⟩, -, yz⟩ := iopen hy
          go_wp2_with fail
          with_reducible refine (re_ (refMayI_calls c_ d_ e_ f_ g_ c' d' e' f' g' _) (ret_bool HFT.out)).mono ?_
          rintro e w9 ⟨rfl, b9⟩
          replace hbX := hcall hbX b9
          replace hy := hcall hy b9
          replace D := below_call D b9
          clear b9 u0 u1 u2 u3 u4 u5 u6 uz y0 y1 y2 y3 y4 yz
          cases ft with
          | false =>
            have HF : Hid (r = false) := by
              show _ = _
              rw [← HR.out]
              exact mayRo_no_one (List.getElem_mem hil) (by rw [HCE.out, HFT.out]; simp)
            go_wp2
            go_ret
            rw [HF.out]
            exact ⟨rfl, D⟩
          | true =>
          obtain ⟨m1, hm1⟩ : ∃ b, emptyI ⟨c_, d_, e_, f_, g_⟩ = b := ⟨_, rfl⟩
          have HM1 := Lib.hid hm1
          clear hm1
          obtain ⟨u0, u1, u2, u3, u4, u5, u6, uz⟩ := cellsEn a_ b_ c_ d_ e_ f_ g_ hbX
          obtain ⟨⟨y0, y1, y2, y3, y4⟩, -, yz⟩ := iopen hy
          go_wp2_with fail
          with_reducible refine (re_ (refEmptyI_calls c_ d_ e_ f_ g_ _) (ret_bool HM1.out)).mono ?_
          rintro e w10 ⟨rfl, b10⟩
          replace hbX := hcall hbX b10
          replace hy := hcall hy b10
          replace D := below_call D b10
          clear b10 u0 u1 u2 u3 u4 u5 u6 uz y0 y1 y2 y3 y4 yz
          cases m1 with
          | false =>
            have HK2 : Hid (∀ j (h : j < l.length), j < i + 1 → oneRo l l[j] = true) := fun j h hj => by
              rcases Nat.lt_or_ge j i with h' | h'
              · exact HK.out j h h'
              · obtain rfl : j = i := by omega
                rw [HCE.out, HFT.out, HM1.out, decide_eq_true hm16]
                rfl
            go_wp2
            exact ⟨⟨i + 1, by go_num, by omega, D, HK2, HJ2⟩, by simp [intOf]; omega⟩
          | true =>
          obtain ⟨m2, hm2⟩ : ∃ b, emptyI ⟨c', d', e', f', g'⟩ = b := ⟨_, rfl⟩
          have HM2 := Lib.hid hm2
          clear hm2
          obtain ⟨u0, u1, u2, u3, u4, u5, u6, uz⟩ := cellsEn a_ b_ c_ d_ e_ f_ g_ hbX
          obtain ⟨⟨y0, y1, y2, y3, y4⟩, -, yz⟩ := iopen hy
          go_wp2_with fail
          with_reducible refine (re_ (refEmptyI_calls c' d' e' f' g' _) (ret_bool HM2.out)).mono ?_
          rintro e w11 ⟨rfl, b11⟩
          replace hbX := hcall hbX b11
          replace hy := hcall hy b11
          replace D := below_call D b11
          clear b11 u0 u1 u2 u3 u4 u5 u6 uz y0 y1 y2 y3 y4 yz
          cases m2 with
          | false =>
            have HK2 : Hid (∀ j (h : j < l.length), j < i + 1 → oneRo l l[j] = true) := fun j h hj => by
              rcases Nat.lt_or_ge j i with h' | h'
              · exact HK.out j h h'
              · obtain rfl : j = i := by omega
                rw [HCE.out, HFT.out, HM1.out, decide_eq_true hm16]
                rw [HM2.out]
                rfl
            go_wp2
            exact ⟨⟨i + 1, by go_num, by omega, D, HK2, HJ2⟩, by simp [intOf]; omega⟩
          | true =>
            have HF : Hid (r = false) := by
              show _ = _
              rw [← HR.out]
              exact mayRo_no_one (List.getElem_mem hil) (by rw [HCE.out, HFT.out, HM1.out, HM2.out]; simp)
            go_wp2
            go_ret
            rw [HF.out]
            exact ⟨rfl, D⟩
        · have d1 : decide ((16 : Int) < (m : Int)) = true := decide_eq_true (by omega)
          have d2 : decide (16 < m) = true := decide_eq_true (by omega)
          have HF : Hid (r = false) := by
            show _ = _
            rw [← HR.out]
            exact mayRo_no_one (List.getElem_mem hil) (by rw [HCE.out, decide_eq_false hm16]; rfl)
          clear uz
          replace hbX : (wr.alloc (bxEn a_ b_ c_ d_ e_ f_ g_)).drew.heap[_]? = _ := hbX
          replace D : Below _ _ (wr.alloc (bxEn a_ b_ c_ d_ e_ f_ g_)).drew := D.drew
          go_wp2_with fail
          refine Held.start (ops := opskf2) (S := fun w' => w'.cell? ⟨wr.heap.size, 0, none⟩ = some (.string a_) ∧ w'.cell? ⟨wr.heap.size, 1, none⟩ = some (.string b_) ∧ w'.cell? ⟨wr.heap.size, 2, none⟩ = some (.bool c_) ∧ w'.cell? ⟨wr.heap.size, 3, none⟩ = some (.bool d_) ∧ w'.cell? ⟨wr.heap.size, 4, none⟩ = some (.bool e_) ∧ w'.cell? ⟨wr.heap.size, 5, none⟩ = some (.bool f_) ∧ w'.cell? ⟨wr.heap.size, 6, none⟩ = some (.bool g_) ∧ w'.cell? (ad.add (q * 7)) = some (.string p_) ∧ w'.cell? ⟨(ad.add (q * 7)).block, (ad.add (q * 7)).off + 1, none⟩ = some (.string q_) ∧ w'.cell? ⟨(ad.add (q * 7)).block, (ad.add (q * 7)).off + 2, none⟩ = some (.bool r_) ∧ w'.cell? ⟨(ad.add (q * 7)).block, (ad.add (q * 7)).off + 3, none⟩ = some (.bool s_) ∧ w'.cell? ⟨(ad.add (q * 7)).block, (ad.add (q * 7)).off + 4, none⟩ = some (.bool t_) ∧ w'.cell? ⟨(ad.add (q * 7)).block, (ad.add (q * 7)).off + 5, none⟩ = some (.bool v_) ∧ w'.cell? ⟨(ad.add (q * 7)).block, (ad.add (q * 7)).off + 6, none⟩ = some (.bool x_)) ordkf2 39 (by kernel_rfl) rgkf2.siz (by kernel_rfl) ⟨u0, u1, u2, u3, u4, u5, u6, p0, p1, p2, p3, p4, p5, p6⟩ (fun hHeld => ?_)
          iterate 2
            refine Held.tw rgkf2 ?_
            try simp only [Act.put, zA, zB, zC, zD, zE, zF]
          refine Held.only (k := 2) (i := 2) (by kernel_rfl) (by kernel_rfl) rfl (by kernel_rfl) (fun K hK => ?_)
          go_simp
          go_at_call 80
          with_reducible refine (refIs_below a_ _ HNa_ (by omega) _).mono ?_
          rintro e w3 ⟨rfl, hbx⟩
          replace u0 := cell_below hbx u0
          replace u1 := cell_below hbx u1
          replace u2 := cell_below hbx u2
          replace u3 := cell_below hbx u3
          replace u4 := cell_below hbx u4
          replace u5 := cell_below hbx u5
          replace u6 := cell_below hbx u6
          replace p0 := cell_below hbx p0
          replace p1 := cell_below hbx p1
          replace p2 := cell_below hbx p2
          replace p3 := cell_below hbx p3
          replace p4 := cell_below hbx p4
          replace p5 := cell_below hbx p5
          replace p6 := cell_below hbx p6
          replace hbX := hcall hbX hbx
          replace D := below_call D hbx
          refine hK.out _ _ (by (try dsimp only); (exact ⟨u0, u1, u2, u3, u4, u5, u6, p0, p1, p2, p3, p4, p5, p6⟩)) (fun hHeld => ?_)
          clear hK K
          try simp only [Act.put, zA, zB, zC, zD, zE, zF]
          iterate 4
            refine Held.tw rgkf2 ?_
            try simp only [Act.put, zA, zB, zC, zD, zE, zF]
          refine Held.only (k := 7) (i := 7) (by kernel_rfl) (by kernel_rfl) rfl (by kernel_rfl) (fun K hK => ?_)
          go_simp
          go_at_call 80
          with_reducible refine (refIs_below b_ _ HNb_ (by omega) _).mono ?_
          rintro e w4 ⟨rfl, hbx⟩
          replace u0 := cell_below hbx u0
          replace u1 := cell_below hbx u1
          replace u2 := cell_below hbx u2
          replace u3 := cell_below hbx u3
          replace u4 := cell_below hbx u4
          replace u5 := cell_below hbx u5
          replace u6 := cell_below hbx u6
          replace p0 := cell_below hbx p0
          replace p1 := cell_below hbx p1
          replace p2 := cell_below hbx p2
          replace p3 := cell_below hbx p3
          replace p4 := cell_below hbx p4
          replace p5 := cell_below hbx p5
          replace p6 := cell_below hbx p6
          replace hbX := hcall hbX hbx
          replace D := below_call D hbx
          refine hK.out _ _ (by (try dsimp only); (exact ⟨u0, u1, u2, u3, u4, u5, u6, p0, p1, p2, p3, p4, p5, p6⟩)) (fun hHeld => ?_)
          clear hK K
          try simp only [Act.put, zA, zB, zC, zD, zE, zF]
          iterate 19
            refine Held.tw rgkf2 ?_
            try simp only [Act.put, zA, zB, zC, zD, zE, zF]
          refine Held.only (k := 27) (i := 27) (by kernel_rfl) (by kernel_rfl) rfl (by kernel_rfl) (fun K hK => ?_)
          go_simp
          go_at_call 81
          with_reducible refine (re_ (refAheadR_calls p_ q_ r_ s_ t_ v_ x_ a_ b_ c_ d_ e_ f_ g_ _) (ret_bool HBL.out)).mono ?_
          rintro e w5 ⟨rfl, hbx⟩
          replace u0 := cell_below hbx u0
          replace u1 := cell_below hbx u1
          replace u2 := cell_below hbx u2
          replace u3 := cell_below hbx u3
          replace u4 := cell_below hbx u4
          replace u5 := cell_below hbx u5
          replace u6 := cell_below hbx u6
          replace p0 := cell_below hbx p0
          replace p1 := cell_below hbx p1
          replace p2 := cell_below hbx p2
          replace p3 := cell_below hbx p3
          replace p4 := cell_below hbx p4
          replace p5 := cell_below hbx p5
          replace p6 := cell_below hbx p6
          replace hbX := hcall hbX hbx
          replace D := below_call D hbx
          refine hK.out _ _ (by (try dsimp only); (exact ⟨u0, u1, u2, u3, u4, u5, u6, p0, p1, p2, p3, p4, p5, p6⟩)) (fun hHeld => ?_)
          clear hK K
          try simp only [Act.put, zA, zB, zC, zD, zE, zF]
          iterate 7
            refine Held.tw rgkf2 ?_
            try simp only [Act.put, zA, zB, zC, zD, zE, zF]
          refine Held.only (k := 35) (i := 35) (by kernel_rfl) (by kernel_rfl) rfl (by kernel_rfl) (fun K hK => ?_)
          go_simp
          go_at_call 68
          with_reducible refine (refOfLen n c _ l a_ _ (hl.below D) hn m HM).mono ?_
          rintro e w6 ⟨⟨Ao, co, rfl⟩, hbx⟩
          replace u0 := cell_below hbx u0
          replace u1 := cell_below hbx u1
          replace u2 := cell_below hbx u2
          replace u3 := cell_below hbx u3
          replace u4 := cell_below hbx u4
          replace u5 := cell_below hbx u5
          replace u6 := cell_below hbx u6
          replace p0 := cell_below hbx p0
          replace p1 := cell_below hbx p1
          replace p2 := cell_below hbx p2
          replace p3 := cell_below hbx p3
          replace p4 := cell_below hbx p4
          replace p5 := cell_below hbx p5
          replace p6 := cell_below hbx p6
          replace hbX := hcall hbX hbx
          replace D := below_call D hbx
          refine hK.out _ _ (by (try dsimp only); (exact ⟨u0, u1, u2, u3, u4, u5, u6, p0, p1, p2, p3, p4, p5, p6⟩)) (fun hHeld => ?_)
          clear hK K
          try simp only [Act.put, zA, zB, zC, zD, zE, zF]
          iterate 3
            refine Held.tw rgkf2 ?_
            try simp only [Act.put, zA, zB, zC, zD, zE, zF]
          refine wpAnyH_done (by kernel_rfl) ?_ _
          clear u0 u1 u2 u3 u4 u5 u6 p0 p1 p2 p3 p4 p5 p6
          go_wp2
          go_ret
          rw [HF.out]
          exact ⟨rfl, D⟩
    · have hin : i = n := by omega
      subst hin
      have HF : Hid (r = true) := by
        show _ = _
        rw [← HR.out, mayRo_iff]
        refine ⟨fun s hs => ?_, fun j h => HJ.out j h (by have := EA.out; omega)⟩
        obtain ⟨j, hj, rfl⟩ := List.getElem_of_mem hs
        exact HK.out j hj (by have := EA.out; omega)
      go_wp2
      go_ret
      rw [HF.out]
      exact ⟨rfl, D⟩
end Go.Proofs.YtbpfcjdjhponaaaGreat
namespace Go.Proofs.YtbpfcjdjhponaaaGreat
open Go.RowKit
open Sp
section
variable (n c : Nat) (A : Option Addr) (l : List En) (w : World) (hl : Row enEn 7 w (.slice A n c) l)
include hl
theorem May8_is (b : Bool) (hz : SzRo l) (hn : n ≤ 100000) (h : Hid (mayRo l = b)) : Calls Tryz.prog 94 #[.slice A n c] w fun e w' => e = .returned (.bool b) ∧ Below w.heap.size w w' :=
  re_ (MayRo_calls n c A l w hl hz hn) (ret_bool h.out)
theorem refMay8_is (b : Bool) (hz : SzRo l) (hn : n ≤ 100000) (h : Hid (mayRo l = b)) : Calls Tryz.prog 37 #[.slice A n c] w fun e w' => e = .returned (.bool b) ∧ Below w.heap.size w w' :=
  re_ (refMayRo_calls n c A l w hl hz hn) (ret_bool h.out)
theorem Sees8_is (o q : ByteArray) (b : Bool) (h : Hid (seesRo l o q = b)) : Calls Tryz.prog 32 #[.slice A n c, .string o, .string q] w fun x w' => x = .returned (.bool b) ∧ Below w.heap.size w w' :=
  re_ (SeesRo_calls n c A l o q w hl) (ret_bool h.out)
theorem Watch8_is (q : ByteArray) (r : List ByteArray) (hn : n ≤ 100000) (h : Hid (watchRo l q = r)) : Calls Tryz.prog 69 #[.slice A n c, .string q] w fun e w' => ∃ v, e = .returned v ∧ Row enS 1 w' v r ∧ Below w.heap.size w w' := by
  have := WatchRo_calls n c A l q w hl hn
  rwa [h.out] at this
end
theorem Row.form8 {α : Type} {enc : α → List Value} {k : Nat} {w : World} {v : Value} {xs : List α} (h : Row enc k w v xs) (n : Nat) (hn : xs.length = n) : ∃ A c, v = .slice A n c := by
  obtain ⟨A, c, e, _⟩ := h
  exact ⟨A, c, by rw [e, hn]⟩
end Go.Proofs.YtbpfcjdjhponaaaGreat
namespace Go.Proofs.YtbpfcjdjhponaaaGreat
open Go.RowKit
open Sp
abbrev SzE (l : List En) : Prop := ∀ s ∈ l, s.o.size ≤ 9223372036854775807 ∧ s.c.size ≤ 9223372036854775807
theorem fewRo_sz {l : List En} (h : fewRo l = true) : SzRo l ∧ l.length ≤ 80 := by
  unfold fewRo at h
  rw [Bool.and_eq_true, List.all_eq_true, decide_eq_true_eq] at h
  refine ⟨fun s hs => ?_, h.1⟩
  have := h.2 s hs
  rw [Bool.and_eq_true, decide_eq_true_eq, decide_eq_true_eq] at this
  omega
theorem few8_is (n c : Nat) (A : Option Addr) (l : List En) (w : World) (hl : Row enEn 7 w (.slice A n c) l) (b : Bool) (hz : SzE l) (h : Hid (fewRo l = b)) : Calls Tryz.prog 35 #[.slice A n c] w fun e w' => e = .returned (.bool b) ∧ Below w.heap.size w w' :=
  re_ (few8_calls n c A l w hl hz) (ret_bool h.out)
end Go.Proofs.YtbpfcjdjhponaaaGreat
namespace Go.Proofs.YtbpfcjdjhponaaaGreat
open Go.RowKit
open Sp
theorem szSe : (Tryz.prog.info? 99).map (·.size) = some 6 := by kernel_rfl
end Go.Proofs.YtbpfcjdjhponaaaGreat
