import Derived.Lib.SlicesCompact
import Derived.Sort.OwnSorted
import Derived.Shelf.SlSortCmp.NoneTotal
import Derived.Lib.AppendZeros
import Derived.Deep.QuietTactic
import Derived.BigQuiet
import Derived.WalkMore
import Derived.Test.YtocdoddmaopdbaaPIndexBoth00
set_option linter.unusedVariables false
set_option linter.unusedSimpArgs false
namespace Go.Proofs.Ytocdoddmaopdbaa
open Go.RowKit Go.Maps
open Sp
section
variable {P : Program} (w : World) {ops : Array Oper} {rest : List Oper} {o : Oper} {a : Act} {Q : Exit → Act → World → Prop}
theorem wpList_delete_run (hg : o.guard = none) (m x : Operand) (t k : TypeId) (hop : o.op = Op.call { callee := Callee.builtin Builtin.delete, args := #[m, x], argTypes := #[t, k] }) (vm vx : Value) (hm : a.eval m = vm) (hx : a.eval x = vx) {w' : World}
    (hrun : (Builtin.delete_ #[t, k] o.type #[vm, vx]).run P w = .ok (.tuple #[]) w') (hK : wpList P ops Q rest (a.put o.dst (.tuple #[])) w') : wpList P ops Q (o :: rest) a w := by
  refine wpList_plain hg fun K' hK' => ?_
  unfold Oper.wp
  simp [execOp, hop, resolve, invoke, builtin, hm, hx, hrun, Result.andThen]
  exact hK' _ _ hK
theorem wpList_len_run (hg : o.guard = none) (m : Operand) (t : TypeId) (hop : o.op = Op.call { callee := Callee.builtin Builtin.len, args := #[m], argTypes := #[t] }) (vm : Value) (hm : a.eval m = vm) {v : Value}
    (hrun : (Builtin.len_ #[t] o.type #[vm]).run P w = .ok v w) (hK : wpList P ops Q rest (a.put o.dst v) w) : wpList P ops Q (o :: rest) a w := by
  refine wpList_plain hg fun K' hK' => ?_
  unfold Oper.wp
  simp [execOp, hop, resolve, invoke, builtin, hm, hrun, Result.andThen]
  exact hK' _ _ hK
end
theorem eqMapN (g : Option Nat) (W : World) : (binOp .eql 51 (.map g) (.map none)).run Try.prog W = .ok (.bool g.isNone) W := run_eql_map_nil W _ _ _ g Try.underlying51
theorem IdxAt.at_ {w : World} {own : Whose} {a b : Nat} {c : Bool → Nat} {P : List Pr} {L : Bool → List Pr} {n : Nat} (h : IdxAt w own a b c P L n) (s : Bool) (name : ByteArray) (hs : name.size ≤ maxLen) (hn : n + 1 < 1000000) {g : Nat}
    (hlk : (Instr.lookup 52 (.map (some (c s))) (.string name) false).run Try.prog w = .ok (.map (some g)) w) : own g = some (some (s, some name)) ∧ ∃ m, BMap w g n (fun p q => inP (L s) p q && decide (sd s (p, q) = name)) m := by
  rcases h.look s name hs hn with ⟨g', h1, h2, h3⟩ | ⟨h1, _⟩
  · have := ok_map (hlk.symm.trans h1)
    injection this with this
    rw [this]
    exact ⟨h2, h3⟩
  · have := ok_map (hlk.symm.trans h1)
    cases this
theorem next_P {ops : Array Oper} {rest : List Oper} {o : Oper} {a : Act} {Q : Exit → Act → World → Prop} (w : World) (hg : o.guard = none) (it : Operand) (hop : o.op = Op.next it false) (g r n : Nat) (D : DataW Unit) (left : Lit → Bool) (cnt : Nat)
    (hit : a.eval it = .pointer (some ⟨r, 0, none⟩)) (h : w.ranges Try.prog 56 (plainElem Try.prog 4) g r n D left cnt) (hT : ∀ kl z, Maps.has D kl = true → D.atKey kl z = .lit (.bool true))
    (hDone : cnt = 0 → (∀ kl, left kl = false) → wpList Try.prog ops Q rest (a.put o.dst (.tuple #[.bool false])) w)
    (hMore : ∀ (p q : ByteArray) (w' : World) (cnt' : Nat), p.size ≤ maxLen → q.size ≤ maxLen → left (keyP p q) = true → Maps.has D (keyP p q) = true → w'.ranges Try.prog 56 (plainElem Try.prog 4) g r n D (fun z => left z && !z.sameKey (keyP p q)) cnt' → cnt' < cnt →
      w.grownBy w' (some r) → w'.heap.size = w.heap.size → (Instr.entry (.pointer (some ⟨r, 0, none⟩))).run Try.prog w' = .ok (.tuple #[agPk p q, .bool true]) w' → wpList Try.prog ops Q rest (a.put o.dst (.tuple #[.bool true, agPk p q, .bool true])) w') :
    wpList Try.prog ops Q (o :: rest) a w :=
  wpList_next_ranges w hg it hop 56 mapLawP (plainElem Try.prog 4) (fun x : Pr => agPk x.1 x.2) Value.bool (fun key kl hk => by obtain ⟨x, y, h1, _⟩ := keyOfP_inv hk; exact ⟨(x, y), h1⟩) (fun v y hv => by obtain ⟨x, h1, _⟩ := boolP_inv hv; exact ⟨x, h1⟩) g r n D left cnt hit h hDone
    (fun x bv kl y w' cnt' hkl hl hR hat hrg hlt hg1 hs1 hen => by
      obtain ⟨p, q, e, rfl, hp, hq⟩ := keyOfP_inv hkl
      have e1 : x = (p, q) := by
        simp only [agPk, Value.agg.injEq, Array.mk.injEq, List.cons.injEq, Value.string.injEq, and_true] at e
        exact Prod.ext e.1 e.2
      subst e1
      have hh := has_true_of_atKey hat
      have h2 := hT _ (.lit (.bool true)) hh
      rw [hat] at h2
      obtain ⟨bv', e3, e4⟩ := boolP_inv hR
      cases e3
      rw [e4] at h2
      simp only [DataW.lit.injEq, Lit.bool.injEq] at h2
      subst h2
      exact hMore p q w' cnt' hp hq hl hh hrg hlt hg1 hs1 hen)
abbrev ptr (a : Nat) : Value := .pointer (some ⟨a, 0, none⟩)
theorem IdxAt.cellsA {w : World} {own : Whose} {a b : Nat} {c : Bool → Nat} {P : List Pr} {L : Bool → List Pr} {n : Nat} (h : IdxAt w own a b c P L n) :
    w.cell? ⟨a, 0, none⟩ = some (.map (some b)) ∧ w.cell? ⟨a, 1, none⟩ = some (.map (some (c false))) ∧ w.cell? ⟨a, 2, none⟩ = some (.map (some (c true))) ∧ a < w.heap.size :=
  ⟨by simp [World.cell?, h.box], by simp [World.cell?, h.box], by simp [World.cell?, h.box], (Array.getElem?_eq_some_iff.1 h.box).1⟩
def own0 (k : Nat) : Whose := fun i => if i = k then some none else if i = k + 1 then some (some (false, none)) else if i = k + 2 then some (some (true, none)) else none
theorem idx_new (w : World) : IdxAt ((((w.alloc (.map #[] 0)).alloc (.map #[] 0)).alloc (.map #[] 0)).alloc (.cells #[.map (some w.heap.size), .map (some (w.heap.size + 1)), .map (some (w.heap.size + 1 + 1))] 55)) (own0 w.heap.size)
    (w.heap.size + 1 + 1 + 1) w.heap.size (fun s => if s then w.heap.size + 1 + 1 else w.heap.size + 1) [] (fun _ => []) 0 := by
  have e1 : (w.alloc (.map #[] 0)).heap.size = w.heap.size + 1 := size_alloc _ _
  have e2 : ((w.alloc (.map #[] 0)).alloc (.map #[] 0)).heap.size = w.heap.size + 1 + 1 := by rw [size_alloc, e1]
  have e3 : (((w.alloc (.map #[] 0)).alloc (.map #[] 0)).alloc (.map #[] 0)).heap.size = w.heap.size + 1 + 1 + 1 := by rw [size_alloc, e2]
  have k0 := (BMap.new w).below (below_box (w := w.alloc (.map #[] 0)) (.map #[] 0)) |>.below (below_box (w := (w.alloc (.map #[] 0)).alloc (.map #[] 0)) (.map #[] 0)) |>.below (below_box (w := ((w.alloc (.map #[] 0)).alloc (.map #[] 0)).alloc (.map #[] 0)) (.cells #[.map (some w.heap.size), .map (some (w.heap.size + 1)), .map (some (w.heap.size + 1 + 1))] 55))
  have k1 := NMap.new (w.alloc (.map #[] 0)) |>.below (below_box (w := (w.alloc (.map #[] 0)).alloc (.map #[] 0)) (.map #[] 0)) |>.below (below_box (w := ((w.alloc (.map #[] 0)).alloc (.map #[] 0)).alloc (.map #[] 0)) (.cells #[.map (some w.heap.size), .map (some (w.heap.size + 1)), .map (some (w.heap.size + 1 + 1))] 55))
  have k2 := NMap.new ((w.alloc (.map #[] 0)).alloc (.map #[] 0)) |>.below (below_box (w := ((w.alloc (.map #[] 0)).alloc (.map #[] 0)).alloc (.map #[] 0)) (.cells #[.map (some w.heap.size), .map (some (w.heap.size + 1)), .map (some (w.heap.size + 1 + 1))] 55))
  rw [e1] at k1
  rw [e2] at k2
  have hb := heap_alloc_new (((w.alloc (.map #[] 0)).alloc (.map #[] 0)).alloc (.map #[] 0)) (.cells #[.map (some w.heap.size), .map (some (w.heap.size + 1)), .map (some (w.heap.size + 1 + 1))] 55)
  rw [e3] at hb
  refine ⟨hb, if_pos rfl, fun s => ?_, k0, fun s => ?_, fun i r e => ?_⟩
  · cases s
    · show own0 _ (w.heap.size + 1) = _
      unfold own0
      rw [if_neg (by omega), if_pos rfl]
    · show own0 _ (w.heap.size + 1 + 1) = _
      unfold own0
      rw [if_neg (by omega), if_neg (by omega), if_pos rfl]
  · cases s
    · exact ⟨fun _ => none, k1, fun name => ⟨fun _ x hx => (by cases hx), fun g e => (by cases e)⟩⟩
    · exact ⟨fun _ => none, k2, fun name => ⟨fun _ x hx => (by cases hx), fun g e => (by cases e)⟩⟩
  · unfold own0 at e
    by_cases h0 : i = w.heap.size
    · subst h0
      exact k0.isMap
    · rw [if_neg h0] at e
      by_cases h1 : i = w.heap.size + 1
      · subst h1
        exact k1.isMap
      · rw [if_neg h1] at e
        by_cases h2 : i = w.heap.size + 2
        · subst h2
          exact k2.isMap
        · rw [if_neg h2] at e
          cases e
set_option maxHeartbeats 4000000 in
set_option maxRecDepth 100000 in
theorem new_calls (w : World) : Calls Try.prog 11 #[] w fun e w' => ∃ a b c, e = .returned (ptr a) ∧ IdxAt w' (own0 w.heap.size) a b c [] (fun _ => []) 0 ∧ Below w.heap.size w w' := by
  have hmm := @run_makeMap Try.prog
  go_enter Try.func11, Try.ntmps11
  go_wp2
  refine bodyPost_ret (results_tmp rfl _ _ _) rfl ⟨w.heap.size + 1 + 1 + 1, w.heap.size, fun s => if s then w.heap.size + 1 + 1 else w.heap.size + 1, rfl, ?_, below_alloc0 (below_alloc0 (below_alloc0 (below_box _) _) _) _⟩
  exact idx_new w
set_option maxHeartbeats 4000000 in
set_option maxRecDepth 100000 in
theorem has_calls {w : World} {own : Whose} {a b : Nat} {c : Bool → Nat} {P : List Pr} {L : Bool → List Pr} {n : Nat} (h : IdxAt w own a b c P L n) (p q : ByteArray) (hp : p.size ≤ maxLen) (hq : q.size ≤ maxLen) :
    Calls Try.prog 14 #[ptr a, .string p, .string q] w fun e w' => e = .returned (.bool (inP P p q)) ∧ Below w.heap.size w w' := by
  have hl := h.prs.look p q hp hq
  obtain ⟨c0, c1, c2, hz⟩ := h.cellsA
  go_enter Try.func14, Try.ntmps14
  go_wp2
  go_ret
  exact ⟨rfl, Below.refl _ _⟩
set_option maxHeartbeats 4000000 in
set_option maxRecDepth 100000 in
theorem len_calls {w : World} {own : Whose} {a b : Nat} {c : Bool → Nat} {P : List Pr} {L : Bool → List Pr} {n : Nat} (h : IdxAt w own a b c P L n) :
    Calls Try.prog 18 #[ptr a] w fun e w' => e = .returned (.int .i64 P.length) ∧ Below w.heap.size w w' := by
  have hl := h.prs.lenRun 3
  obtain ⟨c0, c1, c2, hz⟩ := h.cellsA
  go_enter Try.func18, Try.ntmps18
  go_wp2_with (at_len; refine wpList_len_run _ rfl _ _ rfl _ rfl (h.prs.lenRun _) ?_)
  go_ret
  exact ⟨rfl, Below.refl _ _⟩
set_option maxHeartbeats 16000000 in
set_option maxRecDepth 100000 in
theorem turn_calls {w : World} {own : Whose} {a b : Nat} {c : Bool → Nat} {P : List Pr} {n : Nat} (h : IdxAt w own a b c P (fun _ => P) n) (p q : ByteArray) (on : Bool) (hp : p.size ≤ maxLen) (hq : q.size ≤ maxLen) (hn : n + 5 < 1000000) (hnd : P.Nodup) (ho : on = true → inP P p q = false) :
    Calls Try.prog 29 #[ptr a, agPk p q, .bool on] w fun e w' => e = .returned (.tuple #[]) ∧ ∃ own', IdxAt w' own' a b c (tuP P p q on) (fun _ => tuP P p q on) (n + 5) ∧ OwnUp own own' w ∧ Turned own w w' := by
  have hB := below_box (w := w) (.cells #[.string p, .string q] 56)
  have hI0 := h.below hB
  have hp0 := heap_alloc_new w (.cells #[.string p, .string q] 56)
  have hT0 : Turned own w (w.alloc (.cells #[.string p, .string q] 56)) := Turned.of_below hB
  have hU0 : OwnUp own own w := OwnUp.refl own w
  have hmm := @run_makeMap Try.prog
  go_enter Try.func29, Try.ntmps29
  go_wp2_with fail
  go_loopw [12] (fun v12 wr => ∃ i : Nat, v12 = .int .i64 i ∧ i ≤ 2 ∧ wr.heap[w.heap.size]? = some (.cells #[.string p, .string q] 56) ∧ ∃ own', IdxAt wr own' a b c P (fun t => if (if t then 1 else 0) < i then tuP P p q on else P) (n + 2 * i) ∧ OwnUp own own' w ∧ Turned own w wr) (fun v12 _ => (2 - intOf v12).toNat)
  case atStart => exact ⟨0, rfl, by omega, hp0, own, hI0.cong (fun s => by simp), hU0, hT0⟩
  case round =>
    obtain ⟨i, rfl, hi, hpx, own', hI, hU, hT⟩ := hrel
    have hb0 : wr.cell? ⟨w.heap.size, 0, none⟩ = some (.string p) := by simp [World.cell?, hpx]
    have hb1 : wr.cell? ⟨w.heap.size, 1, none⟩ = some (.string q) := by simp [World.cell?, hpx]
    obtain ⟨ca, cb, cc, hz⟩ := hI.cellsA
    have hcase : i = 0 ∨ i = 1 ∨ i = 2 := by omega
    have hdr : Below wr.heap.size wr wr.drew := (Below.refl _ _).drew
    have hTd := hT.below hdr
    have hpd : wr.drew.heap[w.heap.size]? = some (.cells #[.string p, .string q] 56) := hpx
    have hd0 : wr.drew.cell? ⟨w.heap.size, 0, none⟩ = some (.string p) := hb0
    have hd1 : wr.drew.cell? ⟨w.heap.size, 1, none⟩ = some (.string q) := hb1
    have hEq := eqMapN
    rcases hcase with rfl | rfl | rfl
    · have hI1 := (hI.cong (L' := fun _ => P) (fun s => by cases s <;> simp)).below hdr
      rcases hI1.look false p hp (by omega) with ⟨g, hlk, hog, m, hBM⟩ | ⟨hlk0, hno, w2, own2, hr2, hI2, hU2, hT2, hlk, hog, hs2⟩
      · cases on
        · obtain ⟨w3, hr3, hI3, hT3, hs3⟩ := hI1.del false p q hp hq hlk hog hBM 0
          go_wp2_with fail
          go_region
          go_wp2_with (at_delete; refine wpList_delete_run _ rfl _ _ _ _ rfl _ _ rfl rfl hr3 ?_)
          exact ⟨⟨1, by go_num, by omega, hT3.cells hI1.owned hpd, _, (hI3.cong (fun t => by cases t <;> simp)).mono (by omega), hU, hTd.trans hU hT3⟩, by simp [intOf]⟩
        · obtain ⟨w3, hr3, hI3, hT3, hs3⟩ := hI1.put false p q hp hq hlk hog hBM (by omega)
          go_wp2_with fail
          go_region
          go_wp2
          exact ⟨⟨1, by go_num, by omega, hT3.cells hI1.owned hpd, _, (hI3.cong (fun t => by cases t <;> simp)).mono (by omega), hU, hTd.trans hU hT3⟩, by simp [intOf]⟩
      · have hpd2 := hT2.cells hI1.owned hpd
        have hd2 : w2.cell? ⟨w.heap.size, 0, none⟩ = some (.string p) := by simp [World.cell?, hpd2]
        have hd3 : w2.cell? ⟨w.heap.size, 1, none⟩ = some (.string q) := by simp [World.cell?, hpd2]
        have hU3 := hU.trans hTd.low.size hU2
        have hT4 := hTd.trans hU hT2
        replace hr2 : (Instr.mapUpdate 52 (.map (some (c false))) (.string p) (.map (some wr.heap.size))).run Try.prog (wr.alloc (.map #[] 0)).drew = .ok () w2 := hr2
        replace hlk : (Instr.lookup 52 (.map (some (c false))) (.string p) false).run Try.prog w2 = .ok (.map (some wr.heap.size)) w2 := hlk
        obtain ⟨hog, m, hBM⟩ := hI2.at_ false p hp (by omega) hlk
        cases on
        · obtain ⟨w3, hr3, hI3, hT3, hs3⟩ := hI2.del false p q hp hq hlk hog hBM 0
          go_wp2_with fail
          go_region
          go_wp2_with (at_delete; refine wpList_delete_run _ rfl _ _ _ _ rfl _ _ rfl rfl hr3 ?_)
          exact ⟨⟨1, by go_num, by omega, hT3.cells hI2.owned hpd2, _, (hI3.cong (fun t => by cases t <;> simp)).mono (by omega), hU3, hT4.trans hU3 hT3⟩, by simp [intOf]⟩
        · obtain ⟨w3, hr3, hI3, hT3, hs3⟩ := hI2.put false p q hp hq hlk hog hBM (by omega)
          go_wp2_with fail
          go_region
          go_wp2
          exact ⟨⟨1, by go_num, by omega, hT3.cells hI2.owned hpd2, _, (hI3.cong (fun t => by cases t <;> simp)).mono (by omega), hU3, hT4.trans hU3 hT3⟩, by simp [intOf]⟩
    · have hI1 := (hI.cong (L' := fun t => if t = false then tuP P p q on else P) (fun s => by cases s <;> simp)).below hdr
      rcases hI1.look true q hq (by omega) with ⟨g, hlk, hog, m, hBM⟩ | ⟨hlk0, hno, w2, own2, hr2, hI2, hU2, hT2, hlk, hog, hs2⟩
      · cases on
        · obtain ⟨w3, hr3, hI3, hT3, hs3⟩ := hI1.del true p q hp hq hlk hog hBM 0
          go_wp2_with fail
          go_region
          go_wp2_with (at_delete; refine wpList_delete_run _ rfl _ _ _ _ rfl _ _ rfl rfl hr3 ?_)
          exact ⟨⟨2, by go_num, by omega, hT3.cells hI1.owned hpd, _, (hI3.cong (fun t => by cases t <;> simp)).mono (by omega), hU, hTd.trans hU hT3⟩, by simp [intOf]⟩
        · obtain ⟨w3, hr3, hI3, hT3, hs3⟩ := hI1.put true p q hp hq hlk hog hBM (by omega)
          go_wp2_with fail
          go_region
          go_wp2
          exact ⟨⟨2, by go_num, by omega, hT3.cells hI1.owned hpd, _, (hI3.cong (fun t => by cases t <;> simp)).mono (by omega), hU, hTd.trans hU hT3⟩, by simp [intOf]⟩
      · have hpd2 := hT2.cells hI1.owned hpd
        have hd2 : w2.cell? ⟨w.heap.size, 0, none⟩ = some (.string p) := by simp [World.cell?, hpd2]
        have hd3 : w2.cell? ⟨w.heap.size, 1, none⟩ = some (.string q) := by simp [World.cell?, hpd2]
        have hU3 := hU.trans hTd.low.size hU2
        have hT4 := hTd.trans hU hT2
        replace hr2 : (Instr.mapUpdate 52 (.map (some (c true))) (.string q) (.map (some wr.heap.size))).run Try.prog (wr.alloc (.map #[] 0)).drew = .ok () w2 := hr2
        replace hlk : (Instr.lookup 52 (.map (some (c true))) (.string q) false).run Try.prog w2 = .ok (.map (some wr.heap.size)) w2 := hlk
        obtain ⟨hog, m, hBM⟩ := hI2.at_ true q hq (by omega) hlk
        cases on
        · obtain ⟨w3, hr3, hI3, hT3, hs3⟩ := hI2.del true p q hp hq hlk hog hBM 0
          go_wp2_with fail
          go_region
          go_wp2_with (at_delete; refine wpList_delete_run _ rfl _ _ _ _ rfl _ _ rfl rfl hr3 ?_)
          exact ⟨⟨2, by go_num, by omega, hT3.cells hI2.owned hpd2, _, (hI3.cong (fun t => by cases t <;> simp)).mono (by omega), hU3, hT4.trans hU3 hT3⟩, by simp [intOf]⟩
        · obtain ⟨w3, hr3, hI3, hT3, hs3⟩ := hI2.put true p q hp hq hlk hog hBM (by omega)
          go_wp2_with fail
          go_region
          go_wp2
          exact ⟨⟨2, by go_num, by omega, hT3.cells hI2.owned hpd2, _, (hI3.cong (fun t => by cases t <;> simp)).mono (by omega), hU3, hT4.trans hU3 hT3⟩, by simp [intOf]⟩
    · have hI1 := (hI.cong (L' := fun _ => tuP P p q on) (fun s => by cases s <;> simp)).below hdr
      cases on
      · obtain ⟨w3, hr3, hI3, hT3⟩ := hI1.delAll p q hp hq hnd 0
        go_wp2_with fail
        go_region
        go_end0
        exact ⟨rfl, own', hI3.mono (by omega), hU, hTd.trans hU hT3⟩
      · obtain ⟨w3, hr3, hI3, hT3⟩ := hI1.putAll p q hp hq (by omega) hnd (ho rfl)
        go_wp2_with fail
        go_region
        go_end0
        exact ⟨rfl, own', hI3.mono (by omega), hU, hTd.trans hU hT3⟩
end Go.Proofs.Ytocdoddmaopdbaa
namespace Go.Proofs.Ytocdoddmaopdbaa
open Go.RowKit Sp Go.Lib
section
variable {α : Type} [Inhabited α] [DecidableEq α]
theorem compact_spec (lt : α → α → Bool) (htr : ∀ a b c, lt a b = true → lt b c = true → lt a c = true) (hir : ∀ a, lt a a = false) (htot : ∀ a b, a ≠ b → lt a b = true ∨ lt b a = true)
    (d : Array α) (hs : ∀ i j, i < j → j < d.size → lt d[j]! d[i]! = false) : ∀ m, m ≤ d.size → (compactUpTo d m).Pairwise (fun a b => lt a b = true) ∧ ∀ x, x ∈ compactUpTo d m ↔ ∃ j, j < m ∧ d[j]! = x
  | 0, _ => ⟨List.Pairwise.nil, fun x => by simp [compactUpTo]⟩
  | m + 1, hm => by
    obtain ⟨h1, h2⟩ := compact_spec lt htr hir htot d hs m (by omega)
    have hle : ∀ j, j < m → lt d[m]! d[j]! = false := fun j hj => hs j m hj (by omega)
    rw [compactUpTo_succ]
    by_cases hk : keeps d m = true
    · rw [if_pos hk]
      have hlt : ∀ x ∈ compactUpTo d m, lt x d[m]! = true := by
        intro x hx
        obtain ⟨j, hj, rfl⟩ := (h2 x).1 hx
        have hne : d[j]! ≠ d[m]! := by
          intro e
          simp only [keeps, decide_eq_true_eq] at hk
          rcases hk with hk | hk
          · omega
          · apply hk
            by_cases e1 : d[m]! = d[m - 1]!
            · exact e1
            · exfalso
              have hj1 : j ≠ m - 1 := fun e2 => e1 (by rw [← e, e2])
              have a1 := hs j (m - 1) (by omega) (by omega)
              have a2 := hle (m - 1) (by omega)
              rw [e] at a1
              rcases htot _ _ e1 with h | h
              · rw [h] at a2; cases a2
              · rw [h] at a1; cases a1
        rcases htot _ _ hne with h | h
        · exact h
        · rw [hle j hj] at h; cases h
      refine ⟨List.pairwise_append.2 ⟨h1, List.pairwise_singleton _ _, fun a ha b hb => by rw [List.mem_singleton.1 hb]; exact hlt a ha⟩, fun x => ?_⟩
      rw [List.mem_append, h2, List.mem_singleton]
      constructor
      · rintro (⟨j, hj, rfl⟩ | rfl)
        · exact ⟨j, by omega, rfl⟩
        · exact ⟨m, by omega, rfl⟩
      · rintro ⟨j, hj, rfl⟩
        rcases Nat.lt_or_ge j m with h | h
        · exact .inl ⟨j, h, rfl⟩
        · obtain rfl : j = m := by omega
          exact .inr rfl
    · rw [if_neg hk, List.append_nil]
      refine ⟨h1, fun x => ?_⟩
      rw [h2]
      simp only [keeps, decide_eq_true_eq, not_or, Decidable.not_not] at hk
      constructor
      · rintro ⟨j, hj, rfl⟩
        exact ⟨j, by omega, rfl⟩
      · rintro ⟨j, hj, rfl⟩
        rcases Nat.lt_or_ge j m with h | h
        · exact ⟨j, h, rfl⟩
        · obtain rfl : j = m := by omega
          exact ⟨j - 1, by omega, hk.2.symm⟩
end
def cfL (x y : List UInt8) : Int := cmpS (strOf x) (strOf y)
theorem ltOf_cfL (x y : List UInt8) : Go.Proofs.ltOf cfL x y = less (strOf x) (strOf y) := cmpS_neg _ _
theorem swo_cfL : Go.Sort.SWO (Go.Proofs.ltOf cfL) where
  irrefl x := by rw [ltOf_cfL]; exact less_irrefl _
  trans x y z h1 h2 := by rw [ltOf_cfL] at *; exact less_trans _ _ _ h1 h2
  ntrans x y z h1 h2 := by
    rw [ltOf_cfL] at *
    rw [not_less_iff] at *
    rcases h1 with h1 | h1
    · rcases h2 with h2 | h2
      · exact .inl (h1.trans h2)
      · rw [h1]; exact .inr h2
    · rcases h2 with h2 | h2
      · rw [← h2]; exact .inr h1
      · exact .inr (less_trans _ _ _ h2 h1)
theorem tot_cfL (x y : List UInt8) (h : x ≠ y) : Go.Proofs.ltOf cfL x y = true ∨ Go.Proofs.ltOf cfL y x = true := by
  rw [ltOf_cfL, ltOf_cfL]
  exact less_total _ _ (fun e => h (strOf_inj.1 e))
theorem compact_merge (a b : List ByteArray) (d' : Array (List UInt8)) (hp : d'.toList.Perm ((a ++ b).map fun s => s.data.toList)) (hs : ∀ i j, i < j → j < d'.size → Go.Proofs.ltOf cfL d'[j]! d'[i]! = false) :
    (compact d'.toList).map strOf = mergeS a b := by
  have hc := compact_spec (Go.Proofs.ltOf cfL) swo_cfL.trans swo_cfL.irrefl tot_cfL d' hs d'.size (Nat.le_refl _)
  have he : compact d'.toList = compactUpTo d' d'.size := by unfold compact; simp
  rw [he]
  symm
  refine mergeS_eq a b _ ?_ fun x => ?_
  · rw [Sorted, List.pairwise_map]
    exact hc.1.imp fun {x y} h => by rw [ltOf_cfL] at h; exact h
  · rw [List.mem_map]
    have hm : ∀ l, l ∈ compactUpTo d' d'.size ↔ strOf l ∈ a ++ b := by
      intro l
      rw [hc.2]
      have h1 : (∃ j, j < d'.size ∧ d'[j]! = l) ↔ l ∈ d'.toList := by
        rw [List.mem_iff_getElem]
        constructor
        · rintro ⟨j, hj, rfl⟩
          exact ⟨j, by simpa using hj, by simp [hj]⟩
        · rintro ⟨j, hj, rfl⟩
          exact ⟨j, by simpa using hj, by simp [show j < d'.size by simpa using hj]⟩
      rw [h1, hp.mem_iff, List.mem_map]
      constructor
      · rintro ⟨s, hs, rfl⟩
        rw [strOf_toList]; exact hs
      · intro h
        exact ⟨_, h, strOf_list l⟩
    rw [← List.mem_append]
    constructor
    · rintro ⟨l, hl, rfl⟩
      exact (hm l).1 hl
    · intro h
      exact ⟨x.data.toList, (hm _).2 (by rw [strOf_toList]; exact h), strOf_toList x⟩
end Go.Proofs.Ytocdoddmaopdbaa
namespace Go.Proofs.Ytocdoddmaopdbaa
open Go.RowKit Sp Go.Lib
theorem info_str : (Try.prog.info? 9).map (fun i => (i.zero, i.size, i.bytes)) = some (some (.string ⟨#[]⟩), 1, 16) := by kernel_rfl
set_option maxRecDepth 100000 in
theorem growStr_calls (n : Nat) (w : World) (hn : n ≤ 1048576) :
    Calls Try.prog 72 #[.slice none 0 0, .int .i64 n] w fun e w' => ∃ v, e = .returned v ∧ Own enS 1 9 w' w.heap.size v [] ∧ Below w.heap.size w w' := by
  by_cases h0 : n = 0
  · subst h0
    go_enter Try.func72, Try.ntmps72
    go_wp2
    go_ret
    exact ⟨_, rfl, Own.nil _ _ _ _ _, Below.refl _ _⟩
  · have hp : 0 < n := by omega
    clear h0
    obtain ⟨i0, hi, hz0, hz1, hz2⟩ := info_parts info_str
    have hrun := fun ty => run_append_nil_zeros (P := Try.prog) w 38 3 ty 9 i0 (.string ⟨#[]⟩) .i64 .i64 Try.underlying38 Try.underlying3 hi hz0 n hp (by omega) (by omega) (by rw [hz2]; omega)
    have hg1 := grownCap_ge w n 0 9
    have hg2 := grownCap_le_maxLen w n 0 9 (by simp only [maxLen]; omega)
    have HR := Lib.hid hrun
    clear hrun
    go_enter Try.func72, Try.ntmps72
    go_wp2_with (at_builtin; refine wpList_append_run w rfl (.tmp 20) (.tmp 21) 38 3 rfl (.slice none 0 0) (.int .i64 n) rfl rfl _ _ (HR.out _) ?_)
    go_ret
    refine ⟨_, rfl, ?_, (Below.refl _ _).drew.alloc (Nat.le_refl _) _⟩
    have h := World.ownsRow_made (base := w.heap.size) (e := 9) (size := 1) w.drew (Builtin.zeroCells (Value.string ⟨#[]⟩).cells n ++ Builtin.zeroCells (Value.string ⟨#[]⟩).cells (grownCap w n 0 9 - n)) (grownCap w n 0 9) (Nat.le_refl _) hg2 ?_
    · exact h
    · have hz : (Value.string ⟨#[]⟩).cells.size = 1 := rfl
      rw [Array.size_append, size_zeroCells, size_zeroCells, hz]
      omega
def twoTo (a b : List ByteArray) (k : Nat) : List ByteArray := if k = 0 then [] else if k = 1 then a else a ++ b
set_option maxHeartbeats 1000000 in
set_option maxRecDepth 100000 in
theorem concatStr_calls (g n1 c1 n2 c2 : Nat) (A1 A2 : Option Addr) (a b : List ByteArray) (w : World) (h0 : w.cell? ⟨g, 0, none⟩ = some (.slice A1 n1 c1)) (h1 : w.cell? ⟨g, 1, none⟩ = some (.slice A2 n2 c2))
    (ha : Row enS 1 w (.slice A1 n1 c1) a) (hb : Row enS 1 w (.slice A2 n2 c2) b) (hn1 : n1 ≤ 524288) (hn2 : n2 ≤ 524288) :
    Calls Try.prog 63 #[.slice (some ⟨g, 0, none⟩) 2 2] w fun e w' => ∃ v, e = .returned v ∧ Own enS 1 9 w' w.heap.size v (a ++ b) ∧ Below w.heap.size w w' := by
  have ea := ha.len_eq
  have eb := hb.len_eq
  have EA := Lib.hid ea
  have EB := Lib.hid eb
  clear ea eb
  have hgl : g < w.heap.size := World.block_lt_of_cell? w ⟨g, 0, none⟩ h0
  go_enter Try.func63, Try.ntmps63
  go_wp2
  go_loop [3, 11] (fun v3 v11 => ∃ k m : Nat, v11 = .int .i64 k ∧ k ≤ 2 ∧ v3 = .int .i64 m ∧ Hid (m = if k = 0 then 0 else if k = 1 then n1 else n1 + n2) ∧ m ≤ 1048576) (fun _ v11 => (2 - intOf v11).toNat)
  case atStart => exact ⟨0, 0, rfl, by omega, rfl, rfl, by omega⟩
  case round =>
    obtain ⟨k, m, rfl, hk, rfl, HM, hm⟩ := hrel
    obtain hk0 | hk1 | hk2 : k = 0 ∨ k = 1 ∨ k = 2 := by omega
    · subst hk0
      have hm0 : m ≤ 0 := by have := HM.out; simp at this; omega
      go_wp2
      go_round
      case rel => exact ⟨1, m + n1, by go_num, by omega, by go_num, by have := HM.out; simp at this; subst this; show _ = _; simp, by omega⟩
      case measure => simp [intOf]
    · subst hk1
      have hm1 : m ≤ 524288 := by have := HM.out; simp at this; omega
      go_wp2
      go_round
      case rel => exact ⟨2, m + n2, by go_num, by omega, by go_num, by have := HM.out; simp at this; subst this; show _ = _; simp, by omega⟩
      case measure => simp [intOf]
    · subst hk2
      go_wp2_with fail
      refine (growStr_calls m _ (by omega)).mono ?_
      rintro e w1 ⟨v, rfl, hO0, hB0⟩
      go_wp2
      go_loopw [6, 27] (fun v6 v27 wr => ∃ k : Nat, v27 = .int .i64 k ∧ k ≤ 2 ∧ Own enS 1 9 wr w.heap.size v6 (twoTo a b k) ∧ Below w.heap.size w wr) (fun _ v27 _ => (2 - intOf v27).toNat)
      case atStart => exact ⟨0, rfl, by omega, hO0, hB0⟩
      case round =>
        obtain ⟨k, rfl, hk, hO, hB⟩ := hrel
        have h0' := cell_below hB h0
        have h1' := cell_below hB h1
        obtain hk0 | hk1 | hk2 : k = 0 ∨ k = 1 ∨ k = 2 := by omega
        · subst hk0
          go_wp2_with (at_builtin; refine Own.appendRow (w0 := w) w.heap.size rfl (.tmp 31) (.tmp 32) 38 9 (.string ⟨#[]⟩) 1 16 rfl Try.underlying38 info_str rfl (by decide) u6 (.slice A1 n1 c1) [] a rfl rfl enS_one hO (ha.below hB) hB hB.size (by have := EA.out; simp; omega) (by have := EA.out; simp; omega) ?_; intro v1 w2 hO1 hB1 _ _)
          go_roundw
          case rel => exact ⟨1, by go_num, by omega, hO1, hB1⟩
          case measure => simp [intOf]
        · subst hk1
          go_wp2_with (at_builtin; refine Own.appendRow (w0 := w) w.heap.size rfl (.tmp 31) (.tmp 32) 38 9 (.string ⟨#[]⟩) 1 16 rfl Try.underlying38 info_str rfl (by decide) u6 (.slice A2 n2 c2) a b rfl rfl enS_one hO (hb.below hB) hB hB.size (by have := EA.out; have := EB.out; omega) (by have := EA.out; have := EB.out; omega) ?_; intro v1 w2 hO1 hB1 _ _)
          go_roundw
          case rel => exact ⟨2, by go_num, by omega, hO1, hB1⟩
          case measure => simp [intOf]
        · subst hk2
          go_wp2
          go_ret
          exact ⟨_, rfl, hO, hB⟩
theorem sort_none (p : Option Addr) (cap : Nat) (fv : Value) (w : World) : Calls Try.prog 64 #[.slice p 0 cap, fv] w fun e w' => e = .returned (.tuple #[]) ∧ w' = w :=
  AnyF.slices_SortFunc_none (P := Try.prog) (ρ := Try.laysSlF6_f64_ren) { Try.laysSlF6_f64 with } p cap fv w
theorem cmpLays (blk off size : Nat) (w : World) : CmpLays1 Try.prog 65 #[] encStr cfL blk off size w := by
  intro m os dk _ x y
  refine (compare_exact (strOf x) (strOf y) _).mono ?_
  rintro e w' ⟨rfl, o, rfl⟩
  exact ⟨rfl, 0, #[o], (Go.Sort.alloc_eq_grow _ _)⟩
theorem sort_own (v : Value) (xs : List ByteArray) (base : Nat) (w : World) (hO : Own enS 1 9 w base v xs) (hn : 0 < xs.length) (hx : xs.length ≤ 1048576) :
    Calls Try.prog 64 #[v, .func (.func 65) #[] #[]] w fun e w' => e = .returned (.tuple #[]) ∧ ∃ (g cap : Nat) (zs : List (List UInt8)), v = .slice (some ⟨g, 0, none⟩) xs.length cap ∧ zs.length = xs.length ∧ xs.length ≤ cap ∧ base ≤ g ∧
      zs.Perm (xs.map fun s => s.data.toList) ∧ (∀ i j, i < j → j < zs.toArray.size → ltOf cfL zs.toArray[j]! zs.toArray[i]! = false) ∧ w'.ownsRow base 9 1 v xs.length (zs.map encStr) ∧ w.grownBy w' (some g) := by
  rcases hO.2 with ⟨_, h0⟩ | ⟨g, cap, cur, rfl, hbase, hb, h1, h2, h3, h4⟩
  · omega
  · have hmap : xs.flatMap enS = (xs.map fun s => s.data.toList).map encStr := by
      rw [List.map_map]
      clear h1 h2 h3 h4 hb hO hn hx
      induction xs with
      | nil => rfl
      | cons x xs ih =>
        rw [List.flatMap_cons, ih, List.map_cons]
        show Value.string x :: _ = Value.string ⟨x.data.toList.toArray⟩ :: _
        rw [ofList_toList]
        rfl
    have hH : Go.Sort.Holds encStr w g 0 (xs.map fun s => s.data.toList).toArray := holds_of_block hb (by rw [← hmap]; simpa using h4)
    have eg : ∀ args w, (callFunc 65 args).run Try.prog w = .ok (.enter 65 args) w := enters_of Try.func65 (by kernel_rfl) rfl
    have hS := Try.slices_SortFunc encStr (fun _ => rfl) cfL swo_cfL 65 #[] g 0 cap (xs.map fun s => s.data.toList).toArray w eg (cmpLays g 0 _ w) hH (Array.getElem?_eq_some_iff.1 hb).1 (by simp only [List.size_toArray, List.length_map]; omega)
    simp only [List.size_toArray, List.length_map] at hS
    refine hS.mono ?_
    rintro e w' ⟨rfl, d', n, os, ⟨hp1, _, hp3⟩, hs, rfl⟩
    simp only [List.size_toArray, List.length_map] at hp1 hs
    have hl : d'.toList.length = (xs.map fun s => s.data.toList).length := by simpa using hp1
    have hto : d'.toList.toArray = d' := by simp
    refine ⟨rfl, g, cap, d'.toList, rfl, by simpa using hp1, h1, hbase, ?_, ?_, ?_, ?_⟩
    · have e1 : d'.extract 0 (xs.length) = d' := by rw [← hp1]; simp
      have e2 : (xs.map fun s => s.data.toList).toArray.extract 0 xs.length = (xs.map fun s => s.data.toList).toArray := by
        have : xs.length = (xs.map fun s => s.data.toList).toArray.size := by simp
        rw [this, Array.extract_size]
      rw [e1, e2] at hp3
      simpa using hp3
    · rw [hto]
      intro i j hij hj
      exact hs i j (Nat.zero_le _) hij (by omega)
    · have := ownsRow_sorted (w := w) (base := base) (g := g) (cap := cap) (n := n) (os := os) (cur := cur) (e := 9) (ss := xs.map fun s => s.data.toList) (ts := d'.toList) hl hbase hb (by simpa using h1) h2 h3
      rw [hto, List.length_map] at this
      exact this
    · exact grownBy_sorted d'
theorem strings_flat (zs : List (List UInt8)) : zs.map encStr = (zs.map strOf).flatMap enS := by
  induction zs with
  | nil => rfl
  | cons z zs ih => rw [List.map_cons, List.map_cons, List.flatMap_cons, ih]; rfl
theorem compact_own (g cap n : Nat) (zs : List (List UInt8)) (base : Nat) (w : World) (hn : zs.length = n) (hO : w.ownsRow base 9 1 (.slice (some ⟨g, 0, none⟩) n cap) n (zs.map encStr)) :
    Calls Try.prog 66 #[.slice (some ⟨g, 0, none⟩) n cap] w fun e w' => ∃ v, e = .returned v ∧ Row enS 1 w' v ((compact zs).map strOf) ∧ w.grownBy w' (some g) := by
  subst hn
  rcases hO.2 with ⟨h0, _⟩ | ⟨g', cap', cur, hv, hbase, hb, h1, h2, h3, h4⟩
  · cases h0
  · cases hv
    have hH : Go.Sort.Holds encStr w g 0 zs.toArray := holds_of_block hb (by simpa using h4)
    have hcl := compact_length_le zs
    refine (Try.slices_Compact_string g 0 cap zs w hH (by simp only [maxLen] at h2; omega) h1).mono ?_
    rintro e w' ⟨rfl, q, rfl⟩
    refine ⟨_, rfl, ?_, ?_⟩
    · have hts : (compact zs ++ List.replicate (zs.length - (compact zs).length) []).length = zs.length := by
        rw [List.length_append, List.length_replicate]; omega
      have ho := ownsRow_sorted (w := w) (base := base) (g := g) (cap := cap) (n := q) (os := #[]) (cur := cur) (e := 9) (ss := zs) (ts := compact zs ++ List.replicate (zs.length - (compact zs).length) []) hts hbase hb h1 h2 h3
      rw [Go.Sort.grow_empty] at ho
      have hlen : ((compact zs).map strOf).length = (compact zs).length := List.length_map _
      refine ⟨_, cap, by rw [hlen], by rw [hlen]; omega, h2, flat_length enS_len _, fun _ => ⟨_, rfl, fun j u hu => ?_⟩⟩
      refine ho.cells (g := g) rfl j u ?_
      rw [← strings_flat] at hu
      rw [List.map_append]
      have hj : j < ((compact zs).map encStr).length := (List.getElem?_eq_some_iff.1 hu).1
      rw [List.getElem?_append_left hj]
      exact hu
    · have := grownBy_sorted (w := w) (g := g) (n := q) (os := #[]) (compact zs ++ List.replicate (zs.length - (compact zs).length) []).toArray
      rwa [Go.Sort.grow_empty] at this
set_option maxHeartbeats 1000000 in
set_option maxRecDepth 100000 in
theorem Merge_calls (n1 c1 n2 c2 : Nat) (A1 A2 : Option Addr) (a b : List ByteArray) (w : World)
    (ha : Row enS 1 w (.slice A1 n1 c1) a) (hb : Row enS 1 w (.slice A2 n2 c2) b) (hn1 : n1 ≤ 524288) (hn2 : n2 ≤ 524288) :
    Calls Try.prog 46 #[.slice A1 n1 c1, .slice A2 n2 c2] w fun e w' => ∃ v, e = .returned v ∧ Row enS 1 w' v (mergeS a b) ∧ Below w.heap.size w w' := by
  have EA := Lib.hid ha.len_eq
  have EB := Lib.hid hb.len_eq
  go_enter Try.func46, Try.ntmps46
  go_wp2_with fail
  have hb0 : Below w.heap.size w (w.alloc (.cells #[.slice A1 n1 c1, .slice A2 n2 c2] 38)) := (Below.refl _ _).alloc (Nat.le_refl _) _
  refine (concatStr_calls w.heap.size n1 c1 n2 c2 A1 A2 a b _ (by simp) (by simp) (ha.below hb0) (hb.below hb0) hn1 hn2).mono ?_
  rintro e w1 ⟨v, rfl, hO, hB⟩
  have hB1 := below_call hb0 hB
  by_cases h0 : (a ++ b).length = 0
  · have hnil : mergeS a b = [] := by
      have h1 : a ++ b = [] := List.eq_nil_of_length_eq_zero h0
      unfold mergeS
      rw [h1]
      rfl
    have HNIL := Lib.hid hnil
    have hrow := hO.row
    obtain ⟨A, c, rfl, _⟩ := hO.slice
    rw [h0] at hrow ⊢
    have HN := Lib.hid h0
    clear h0 hnil
    go_wp2_with fail
    refine (sort_none A c _ _).mono ?_
    rintro e w2 ⟨rfl, rfl⟩
    go_wp2_with fail
    refine (Try.slices_Compact_string_empty A c _).mono ?_
    rintro e w2 ⟨rfl, rfl⟩
    go_wp2
    go_ret
    refine ⟨_, rfl, ?_, hB1⟩
    rw [HNIL.out]
    obtain ⟨A', c', he, _, h2, _⟩ := hrow
    injection he with e1 e2 e3
    subst e3
    exact ⟨A, c, rfl, Nat.zero_le _, h2, rfl, fun h => absurd h (by simp)⟩
  · go_wp2_with fail
    refine (sort_own v (a ++ b) _ _ hO (by omega) (by have := EA.out; have := EB.out; rw [List.length_append]; omega)).mono ?_
    rintro e w2 ⟨rfl, g, cap, zs, rfl, hz, hcap, hbase, hp, hs, hO2, hg⟩
    have hm := compact_merge a b zs.toArray (by simpa using hp) hs
    simp only at hm
    have HM := Lib.hid hm
    have HZ := Lib.hid hz
    clear hm hz hp hs
    go_wp2_with fail
    refine (compact_own g cap _ zs _ _ (by rw [HZ.out, List.length_append]) (by have h := hO2; rw [List.length_append] at h; exact h)).mono ?_
    rintro e w3 ⟨v3, rfl, hr, hg3⟩
    go_wp2
    go_ret
    refine ⟨_, rfl, ?_, ?_⟩
    · rw [HM.out] at hr
      exact hr
    · have h1 : w.heap.size + 1 ≤ g := by simpa using hbase
      have hsz := hB.size
      have e1 : Below w.heap.size w w2 := hB1.grown hg hB1.size (fun k hk => by injection hk with hk; omega)
      exact e1.grown hg3 e1.size (fun k hk => by injection hk with hk; omega)
end Go.Proofs.Ytocdoddmaopdbaa
namespace Go.Proofs.Ytocdoddmaopdbaa
open Go.RowKit Sp
theorem while_at {α : Type} (p : α → Bool) : ∀ (l : List α) (i : Nat), i ≤ l.length → (∀ j (h : j < l.length), j < i → p l[j] = true) → (∀ h : i < l.length, p l[i] = false) → l.takeWhile p = l.take i ∧ l.dropWhile p = l.drop i
  | [], i, hi, _, _ => by simp
  | a :: l, 0, _, _, h2 => by
    have := h2 (by simp)
    simp only [List.getElem_cons_zero] at this
    simp [this]
  | a :: l, i + 1, hi, h1, h2 => by
    have h0 := h1 0 (by simp) (by omega)
    simp only [List.getElem_cons_zero] at h0
    have ih := while_at p l i (by simpa using hi) (fun j h hj => by have := h1 (j + 1) (by simpa using h) (by omega); simpa using this) (fun h => by have := h2 (by simpa using h); simpa using this)
    simp [h0, ih.1, ih.2]
theorem insS_at (l : List ByteArray) (s : ByteArray) (i : Nat) (hi : i ≤ l.length) (h1 : ∀ j (h : j < l.length), j < i → less l[j] s = true) (h2 : ∀ h : i < l.length, less l[i] s = false) :
    insS l s = if l[i]? = some s then l else l.take i ++ s :: l.drop i := by
  obtain ⟨e1, e2⟩ := while_at (fun x => less x s) l i hi h1 h2
  unfold insS
  simp only [e1, e2, List.head?_drop]
def LessTo (l : List ByteArray) (s : ByteArray) (i : Nat) : Prop := ∀ j (h : j < l.length), j < i → less l[j] s = true
theorem LessTo.succ {l : List ByteArray} {s : ByteArray} {i : Nat} (h : LessTo l s i) (hi : ∀ h : i < l.length, less l[i] s = true) : LessTo l s (i + 1) := fun j hj hj1 => by
  rcases Nat.lt_or_ge j i with h' | h'
  · exact h j hj h'
  · obtain rfl : j = i := by omega
    exact hi hj
set_option maxHeartbeats 1000000 in
set_option maxRecDepth 100000 in
theorem refPutL_calls (n c : Nat) (A : Option Addr) (l : List ByteArray) (s : ByteArray) (w : World) (hl : Row enS 1 w (.slice A n c) l) (hn : n ≤ 1048576) :
    Calls Try.prog 32 #[.slice A n c, .string s] w fun e w' => ∃ v, e = .returned v ∧ Row enS 1 w' v (insS l s) ∧ Below w.heap.size w w' := by
  have EA := Lib.hid hl.len_eq
  have hcap : n ≤ c ∧ c ≤ 9223372036854775807 := by
    obtain ⟨A', c', he, h1, h2, _⟩ := hl
    injection he with e1 e2 e3
    subst e3
    simp only [maxLen] at h2
    omega
  obtain ⟨hc1, hc2⟩ := hcap
  go_enter Try.func32, Try.ntmps32
  go_wp2
  go_loop [5] (fun v5 => ∃ i : Nat, v5 = .int .i64 i ∧ i ≤ n ∧ Hid (LessTo l s i)) (fun v5 => (n - intOf v5).toNat)
  case atStart => exact ⟨0, rfl, Nat.zero_le _, fun j h hj => absurd hj (by omega)⟩
  case round =>
    obtain ⟨i, rfl, hi, HT⟩ := hrel
    by_cases hlt : i < n
    · have hk' : i < l.length := by have := EA.out; omega
      obtain ⟨ad, rfl, hcell⟩ := hl.get1 (f := Value.string) i hk'
      obtain ⟨x, hx⟩ : ∃ x, l[i] = x := ⟨_, rfl⟩
      rw [hx] at hcell
      have HX := Lib.hid hx
      clear hx
      cases hls : less x s with
      | true =>
        have HL := Lib.hid hls
        clear hls
        go_wp2_with (go_at_call 25; refine (re_ (refLess_calls x s _) (ret_bool HL.out)).mono ?_; rintro e w' ⟨rfl, rfl⟩)
        go_round
        case rel => exact ⟨i + 1, by go_num, by omega, HT.out.succ (fun h => by rw [HX.out]; exact HL.out)⟩
        case measure => simp [intOf]; omega
      | false =>
        have HL := Lib.hid hls
        clear hls
        have HI : Hid (insS l s = if l[i]? = some s then l else l.take i ++ s :: l.drop i) := insS_at l s i (by omega) HT.out (fun h => by rw [HX.out]; exact HL.out)
        by_cases hxs : x = s
        · subst hxs
          go_wp2_with (go_at_call 25; refine (re_ (refLess_calls _ _ _) (ret_bool HL.out)).mono ?_; rintro e w' ⟨rfl, rfl⟩)
          go_ret
          refine ⟨_, rfl, ?_, Below.refl _ _⟩
          rw [HI.out, if_pos (by rw [List.getElem?_eq_getElem hk', HX.out])]
          exact hl
        · have hb : (x.toList == s.toList) = false := by
            rw [beq_eq_false_iff_ne]
            exact fun e => hxs (toList_inj'.1 e)
          have hne : ¬ l[i]? = some s := by rw [List.getElem?_eq_getElem hk', HX.out]; simpa using hxs
          rw [Hid, if_neg hne] at HI
          have HI' := Lib.hid HI
          clear HI hne hxs
          have hb0 : Below w.heap.size w (w.alloc (.cells #[] 9)) := (Below.refl _ _).alloc (Nat.le_refl _) _
          have hdr : Row enS 1 w (.slice (some (ad.add i)) (n - i) (c - i)) (l.drop i) := by
            have := hl.drop enS_len i (by omega)
            rw [if_neg (by omega), Nat.mul_one] at this
            exact this
          go_wp2_with (first | (go_at_call 25; refine (re_ (refLess_calls _ _ _) (ret_bool HL.out)).mono ?_; rintro e w' ⟨rfl, rfl⟩) | (at_builtin; refine Own.appendRow (w0 := w) w.heap.size rfl (.tmp 34) (.tmp 37) 38 9 (.string ⟨#[]⟩) 1 16 rfl Try.underlying38 info_str rfl (by decide) (.slice (some ⟨w.heap.size, 0, none⟩) 0 0) (.slice (some ad) i c) [] (l.take i) rfl rfl enS_one (Own.lit enS_len w [] #[] 0 rfl rfl (Nat.le_refl _) (by omega)) ((hl.take enS_len i (by omega)).below hb0) hb0 (by simp) (by have := EA.out; simp <;> omega) (by have := EA.out; simp <;> omega) ?_; intro v1 w1 hO1 hB1 _ _) | (at_builtin; refine Own.append (w0 := w) w.heap.size rfl (.tmp 39) (.tmp 41) 38 9 (.string ⟨#[]⟩) 1 16 rfl Try.underlying38 info_str rfl (by decide) v1 ([] ++ l.take i) s [.string s] rfl rfl rfl rfl (by simp [Value.oneCell']) hO1 hB1 hB1.size (by have := EA.out; simp <;> omega) (by have := EA.out; simp <;> omega) ?_; intro v2 w2 hO2 hB2 _ _) | (at_builtin; (refine Own.appendRow (w0 := w) w.heap.size rfl (.tmp 43) (.tmp 46) 38 9 (.string ⟨#[]⟩) 1 16 rfl Try.underlying38 info_str rfl (by decide) v2 (.slice (some (ad.add i)) (n - i) (c - i)) ([] ++ l.take i ++ [s]) (l.drop i) rfl rfl enS_one hO2 (hdr.below hB2) hB2 hB2.size (by have := EA.out; simp <;> omega) (by have := EA.out; simp <;> omega) ?_); intro v3 w3 hO3 hB3 _ _))
          go_ret
          refine ⟨_, rfl, ?_, hB3⟩
          rw [HI'.out]
          have := hO3.row
          simpa using this
    · have hin : i = n := by omega
      subst hin
      have hb0 : Below w.heap.size w (w.alloc (.cells #[] 9)) := (Below.refl _ _).alloc (Nat.le_refl _) _
      obtain h0 | h0 : i = 0 ∨ 0 < i := by omega
      · subst h0
        have HI : Hid (insS l s = l.take 0 ++ s :: []) := by
          have h1 : 0 = l.length := by have := EA.out; omega
          have := insS_at l s 0 (by omega) HT.out (fun h => by omega)
          rw [this, if_neg (by rw [List.getElem?_eq_none (by omega)]; simp), List.drop_eq_nil_of_le (by omega)]
          rfl
        go_wp2_with (first | (at_builtin; refine Own.appendRow (w0 := w) w.heap.size rfl (.tmp 34) (.tmp 37) 38 9 (.string ⟨#[]⟩) 1 16 rfl Try.underlying38 info_str rfl (by decide) (.slice (some ⟨w.heap.size, 0, none⟩) 0 0) (.slice A 0 c) [] (l.take 0) rfl rfl enS_one (Own.lit enS_len w [] #[] 0 rfl rfl (Nat.le_refl _) (by omega)) ((hl.take enS_len 0 (by omega)).below hb0) hb0 (by simp) (by have := EA.out; simp <;> omega) (by have := EA.out; simp <;> omega) ?_; intro v1 w1 hO1 hB1 _ _) | (at_builtin; refine Own.append (w0 := w) w.heap.size rfl (.tmp 39) (.tmp 41) 38 9 (.string ⟨#[]⟩) 1 16 rfl Try.underlying38 info_str rfl (by decide) v1 ([] ++ l.take 0) s [.string s] rfl rfl rfl rfl (by simp [Value.oneCell']) hO1 hB1 hB1.size (by have := EA.out; simp <;> omega) (by have := EA.out; simp <;> omega) ?_; intro v2 w2 hO2 hB2 _ _) | (at_builtin; (refine Own.appendRow (w0 := w) w.heap.size rfl (.tmp 43) (.tmp 46) 38 9 (.string ⟨#[]⟩) 1 16 rfl Try.underlying38 info_str rfl (by decide) v2 _ ([] ++ l.take 0 ++ [s]) [] rfl rfl enS_one hO2 (Row.empty enS 1 _ _ _ (by omega)) hB2 hB2.size (by have := EA.out; simp <;> omega) (by have := EA.out; simp <;> omega) ?_); intro v3 w3 hO3 hB3 _ _))
        all_goals
          go_ret
          refine ⟨_, rfl, ?_, by assumption⟩
          rw [HI.out]
          have := hO3.row
          simpa using this
      · by_cases hci : c = i
        · subst hci
          have HI : Hid (insS l s = l.take c ++ s :: []) := by
            have h1 : c = l.length := by have := EA.out; omega
            have := insS_at l s c (by omega) HT.out (fun h => by omega)
            rw [this, if_neg (by rw [List.getElem?_eq_none (by omega)]; simp), List.drop_eq_nil_of_le (by omega)]
            rfl
          go_wp2_with (first | (at_builtin; refine Own.appendRow (w0 := w) w.heap.size rfl (.tmp 34) (.tmp 37) 38 9 (.string ⟨#[]⟩) 1 16 rfl Try.underlying38 info_str rfl (by decide) (.slice (some ⟨w.heap.size, 0, none⟩) 0 0) (.slice A c c) [] (l.take c) rfl rfl enS_one (Own.lit enS_len w [] #[] 0 rfl rfl (Nat.le_refl _) (by omega)) ((hl.take enS_len c (by omega)).below hb0) hb0 (by simp) (by have := EA.out; simp <;> omega) (by have := EA.out; simp <;> omega) ?_; intro v1 w1 hO1 hB1 _ _) | (at_builtin; refine Own.append (w0 := w) w.heap.size rfl (.tmp 39) (.tmp 41) 38 9 (.string ⟨#[]⟩) 1 16 rfl Try.underlying38 info_str rfl (by decide) v1 ([] ++ l.take c) s [.string s] rfl rfl rfl rfl (by simp [Value.oneCell']) hO1 hB1 hB1.size (by have := EA.out; simp <;> omega) (by have := EA.out; simp <;> omega) ?_; intro v2 w2 hO2 hB2 _ _) | (at_builtin; (refine Own.appendRow (w0 := w) w.heap.size rfl (.tmp 43) (.tmp 46) 38 9 (.string ⟨#[]⟩) 1 16 rfl Try.underlying38 info_str rfl (by decide) v2 _ ([] ++ l.take c ++ [s]) [] rfl rfl enS_one hO2 (Row.empty enS 1 _ _ _ (by omega)) hB2 hB2.size (by have := EA.out; simp <;> omega) (by have := EA.out; simp <;> omega) ?_); intro v3 w3 hO3 hB3 _ _))
          all_goals
            go_ret
            refine ⟨_, rfl, ?_, by assumption⟩
            rw [HI.out]
            have := hO3.row
            simpa using this
        · have hci' : i < c := by omega
          clear hci
          have HI : Hid (insS l s = l.take i ++ s :: []) := by
            have h1 : i = l.length := by have := EA.out; omega
            have := insS_at l s i (by omega) HT.out (fun h => by omega)
            rw [this, if_neg (by rw [List.getElem?_eq_none (by omega)]; simp), List.drop_eq_nil_of_le (by omega)]
            rfl
          go_wp2_with (first | (at_builtin; refine Own.appendRow (w0 := w) w.heap.size rfl (.tmp 34) (.tmp 37) 38 9 (.string ⟨#[]⟩) 1 16 rfl Try.underlying38 info_str rfl (by decide) (.slice (some ⟨w.heap.size, 0, none⟩) 0 0) (.slice A i c) [] (l.take i) rfl rfl enS_one (Own.lit enS_len w [] #[] 0 rfl rfl (Nat.le_refl _) (by omega)) ((hl.take enS_len i (by omega)).below hb0) hb0 (by simp) (by have := EA.out; simp <;> omega) (by have := EA.out; simp <;> omega) ?_; intro v1 w1 hO1 hB1 _ _) | (at_builtin; refine Own.append (w0 := w) w.heap.size rfl (.tmp 39) (.tmp 41) 38 9 (.string ⟨#[]⟩) 1 16 rfl Try.underlying38 info_str rfl (by decide) v1 ([] ++ l.take i) s [.string s] rfl rfl rfl rfl (by simp [Value.oneCell']) hO1 hB1 hB1.size (by have := EA.out; simp <;> omega) (by have := EA.out; simp <;> omega) ?_; intro v2 w2 hO2 hB2 _ _) | (at_builtin; (refine Own.appendRow (w0 := w) w.heap.size rfl (.tmp 43) (.tmp 46) 38 9 (.string ⟨#[]⟩) 1 16 rfl Try.underlying38 info_str rfl (by decide) v2 _ ([] ++ l.take i ++ [s]) [] rfl rfl enS_one hO2 (Row.empty enS 1 _ _ _ (by omega)) hB2 hB2.size (by have := EA.out; simp <;> omega) (by have := EA.out; simp <;> omega) ?_); intro v3 w3 hO3 hB3 _ _))
          all_goals
            go_ret
            refine ⟨_, rfl, ?_, by assumption⟩
            rw [HI.out]
            have := hO3.row
            simpa using this
end Go.Proofs.Ytocdoddmaopdbaa
namespace Go.Proofs.Ytocdoddmaopdbaa
open Go.RowKit Sp
theorem take_eq_succ (a b : List ByteArray) (i : Nat) (ha : i < a.length) (hb : i < b.length) (h : a.take i = b.take i) (he : a[i] = b[i]) : a.take (i + 1) = b.take (i + 1) := by
  rw [List.take_succ_eq_append_getElem ha, List.take_succ_eq_append_getElem hb, h, he]
set_option maxHeartbeats 1000000 in
set_option maxRecDepth 100000 in
theorem refSame_calls (n c m d : Nat) (A B : Option Addr) (a b : List ByteArray) (w : World) (ha : Row enS 1 w (.slice A n c) a) (hb : Row enS 1 w (.slice B m d) b) :
    Calls Try.prog 19 #[.slice A n c, .slice B m d] w fun e w' => e = .returned (.bool (decide (a = b))) ∧ Below w.heap.size w w' := by
  have hn := ha.len
  have ea := ha.len_eq
  have eb := hb.len_eq
  have hn2 : n ≤ 9223372036854775807 := by omega
  have EA := Lib.hid ea
  have EB := Lib.hid eb
  clear ea eb hn
  by_cases hm : n = m
  · subst hm
    go_enter Try.func19, Try.ntmps19
    go_wp2
    go_loopw [5] (fun v5 wr => ∃ i q : Nat, v5 = .int .i64 i ∧ i ≤ n ∧ wr = w.drewN q ∧ Hid (a.take i = b.take i)) (fun v5 _ => (n - intOf v5).toNat)
    case atStart => exact ⟨0, 0, rfl, Nat.zero_le _, rfl, by show _ = _; simp⟩
    case round =>
      obtain ⟨i, q, rfl, hi, rfl, HT⟩ := hrel
      by_cases hlt : i < n
      · have hka : i < a.length := by have := EA.out; omega
        have hkb : i < b.length := by have := EB.out; omega
        obtain ⟨ad, rfl, hca⟩ := ha.get1 (f := Value.string) i hka
        obtain ⟨bd, rfl, hcb⟩ := hb.get1 (f := Value.string) i hkb
        by_cases hx : a[i] = b[i]
        · have HT2 : Hid (a.take (i + 1) = b.take (i + 1)) := take_eq_succ a b i hka hkb HT.out hx
          rw [← hx] at hcb
          have hne : (!(a[i].toList == a[i].toList)) = false := by simp
          clear hx
          go_wp2
          go_quiet (fail)
          go_wp2
          exact ⟨⟨i + 1, _, by go_num, by omega, rfl, HT2⟩, by simp [intOf]; omega⟩
        · have HV : Hid (decide (a = b) = false) := by
            refine decide_eq_false fun e => hx ?_
            subst e
            rfl
          have hne : (!(a[i].toList == b[i].toList)) = true := by
            simp only [Bool.not_eq_true', beq_eq_false_iff_ne]
            exact fun e => hx (toList_inj'.1 e)
          clear hx
          go_wp2
          go_quiet (fail)
          go_wp2
          go_ret
          exact ⟨ret_bool HV.out.symm, by repeat (first | exact Below.refl _ _ | apply below_drewN)⟩
      · have HV : Hid (decide (a = b) = true) := by
          refine decide_eq_true ?_
          have := HT.out
          rw [List.take_of_length_le (by have := EA.out; omega), List.take_of_length_le (by have := EB.out; omega)] at this
          exact this
        go_wp2
        go_ret
        exact ⟨ret_bool HV.out.symm, by repeat (first | exact Below.refl _ _ | apply below_drewN)⟩
  · have HV : Hid (decide (a = b) = false) := by
      refine decide_eq_false fun e => hm ?_
      have h1 := EA.out
      have h2 := EB.out
      rw [e] at h1
      omega
    have hb1 : ((n : Int) != m) = true := by simp; omega
    have hb2 : (n != m) = true := by simp; omega
    have hb3 : (!(n == m)) = true := by simp; omega
    clear hm
    go_enter Try.func19, Try.ntmps19
    go_wp2
    go_ret
    exact ⟨ret_bool HV.out.symm, Below.refl _ _⟩
set_option maxHeartbeats 1000000 in
set_option maxRecDepth 100000 in
theorem refMerge_calls (n c m d : Nat) (A B : Option Addr) (a b : List ByteArray) (w : World) (ha : Row enS 1 w (.slice A n c) a) (hb : Row enS 1 w (.slice B m d) b) (hn : n ≤ 262144) (hm : m ≤ 262144) :
    Calls Try.prog 24 #[.slice A n c, .slice B m d] w fun e w' => ∃ v, e = .returned v ∧ Row enS 1 w' v (mergeS a b) ∧ Below w.heap.size w w' := by
  have EA := Lib.hid ha.len_eq
  have EB := Lib.hid hb.len_eq
  go_enter Try.func24, Try.ntmps24
  go_wp2
  go_loopw [5, 6] (fun v5 v6 wr => ∃ i : Nat, v6 = .int .i64 i ∧ i ≤ n ∧ Row enS 1 wr v5 ((a.take i).foldl insS []) ∧ Below w.heap.size w wr) (fun _ v6 _ => (n - intOf v6).toNat)
  case atStart => exact ⟨0, rfl, Nat.zero_le _, Row.nil _ _ _, Below.refl _ _⟩
  case round =>
    obtain ⟨i, rfl, hi, hR, hB⟩ := hrel
    have hlen := fold_len (a.take i) []
    have hti : (a.take i).length ≤ i := List.length_take_le _ _
    by_cases hlt : i < n
    · have hk' : i < a.length := by have := EA.out; omega
      obtain ⟨ad, rfl, hcell0⟩ := ha.get1 (f := Value.string) i hk'
      have hcell := cell_below hB hcell0
      clear hcell0
      obtain ⟨A5, c5, rfl, _⟩ := id hR
      have hl5 := hR.len_eq
      obtain ⟨n5, hn5⟩ : ∃ n5, n5 = ((a.take i).foldl insS []).length := ⟨_, rfl⟩
      rw [← hn5] at hR hlen ⊢
      clear hl5 hn5
      go_wp2_with (go_at_call 32; refine (refPutL_calls _ _ _ _ _ _ hR (by simp at hlen; omega)).mono ?_)
      rintro e w1 ⟨v1, rfl, hR1, hB1⟩
      go_wp2
      go_roundw
      case rel =>
        refine ⟨i + 1, by go_num, by omega, ?_, below_call hB hB1⟩
        rw [List.take_succ_eq_append_getElem hk', List.foldl_append]
        exact hR1
      case measure => simp [intOf]; omega
    · have hfull : a.take i = a := List.take_of_length_le (by have := EA.out; omega)
      rw [hfull] at hR hlen
      clear hfull
      go_wp2
      have HF : Hid True := trivial
      obtain ⟨v50, hv50⟩ : ∃ v, v = u5 := ⟨_, rfl⟩
      rw [← hv50] at hR ⊢
      clear hv50
      obtain ⟨wo, hwo⟩ : ∃ wo : World, wo = wr := ⟨_, rfl⟩
      rw [← hwo] at hR hB ⊢
      clear hwo
      have hR0 := hR
      have hB0 := hB
      clear hR hB
      go_loopw [5, 7] (fun v5 v7 wr => ∃ k : Nat, v7 = .int .i64 k ∧ k ≤ m ∧ Row enS 1 wr v5 ((b.take k).foldl insS (a.foldl insS [])) ∧ Below w.heap.size w wr) (fun _ v7 _ => (m - intOf v7).toNat)
      case atStart => exact ⟨0, rfl, Nat.zero_le _, hR0, hB0⟩
      case round =>
        obtain ⟨k, rfl, hk, hR, hB⟩ := hrel
        have hlen2 := fold_len (b.take k) (a.foldl insS [])
        have htk : (b.take k).length ≤ k := List.length_take_le _ _
        have hal : a.length ≤ n := by have := EA.out; omega
        have hlen3 := fold_len a []
        by_cases hlt2 : k < m
        · have hk' : k < b.length := by have := EB.out; omega
          obtain ⟨ad, rfl, hcell0⟩ := hb.get1 (f := Value.string) k hk'
          have hcell := cell_below hB hcell0
          clear hcell0
          obtain ⟨A5, c5, rfl, _⟩ := id hR
          obtain ⟨n5, hn5⟩ : ∃ n5, n5 = ((b.take k).foldl insS (a.foldl insS [])).length := ⟨_, rfl⟩
          rw [← hn5] at hR hlen2 ⊢
          clear hn5
          have hn5b : n5 ≤ 1048576 := by simp at hlen3; omega
          clear hlen2 hlen3 hlen
          go_wp2_with (go_at_call 32; refine (refPutL_calls _ _ _ _ _ _ hR hn5b).mono ?_)
          rintro e w1 ⟨v1, rfl, hR1, hB1⟩
          go_wp2
          go_roundw
          case rel =>
            refine ⟨k + 1, by go_num, by omega, ?_, below_call hB hB1⟩
            rw [List.take_succ_eq_append_getElem hk', List.foldl_append]
            exact hR1
          case measure => simp [intOf]; omega
        · have hfull : b.take k = b := List.take_of_length_le (by have := EB.out; omega)
          rw [hfull, ← List.foldl_append] at hR
          clear hfull
          go_wp2
          go_ret
          exact ⟨_, rfl, hR, hB⟩
end Go.Proofs.Ytocdoddmaopdbaa
namespace Go.Proofs.Ytocdoddmaopdbaa
open Go.RowKit Go.Maps
open Sp
def enPr (x : Pr) : List Value := [.string x.1, .string x.2]
def RefAt (w : World) (k : Nat) (v : Value) (L : List Pr) : Prop := w.heap[k]? = some (.cells #[v] 30) ∧ Own enPr 2 44 w (k + 1) v L
theorem RefAt.below {w w1 : World} {k : Nat} {v : Value} {L : List Pr} (h : RefAt w k v L) (b : Below w.heap.size w w1) : RefAt w1 k v L := ⟨hcall h.1 b, h.2.below b⟩
theorem RefAt.cell {w : World} {k : Nat} {v : Value} {L : List Pr} (h : RefAt w k v L) : w.cell? ⟨k, 0, none⟩ = some v ∧ w.frozen? ⟨k, 0, none⟩ = false ∧ k < w.heap.size :=
  ⟨by simp [World.cell?, h.1], by simp [World.frozen?, h.1], (Array.getElem?_eq_some_iff.1 h.1).1⟩
structure RTurn (k : Nat) (w w' : World) : Prop where
  low : Below k w w'
  same : ∀ i, i < w.heap.size → i ≠ k → (∀ cs fr, w.heap[i]? ≠ some (.cells cs 44 fr)) → w'.heap[i]? = w.heap[i]?
theorem RTurn.refl (k : Nat) (w : World) : RTurn k w w := ⟨Below.refl _ _, fun _ _ _ _ => rfl⟩
theorem RTurn.of_below {k : Nat} {w w1 : World} (b : Below w.heap.size w w1) (hk : k ≤ w.heap.size) : RTurn k w w1 := ⟨b.mono hk, fun i hi _ _ => b.block i hi⟩
theorem RTurn.trans {k : Nat} {w w1 w2 : World} (h : RTurn k w w1) (hs : w.heap.size ≤ w1.heap.size) (hk : k ≤ w.heap.size) (h' : RTurn k w1 w2) : RTurn k w w2 :=
  ⟨h.low.trans h'.low, fun i hi hik hc => by
    have e := h.same i hi hik hc
    rw [h'.same i (Nat.lt_of_lt_of_le hi hs) hik (fun cs fr => by rw [e]; exact hc cs fr), e]⟩
end Go.Proofs.Ytocdoddmaopdbaa
namespace Go.Proofs.Ytocdoddmaopdbaa
open Go.RowKit Go.Maps
open Sp
set_option maxHeartbeats 8000000 in
set_option maxRecDepth 100000 in
theorem set_calls {w : World} {own : Whose} {a b : Nat} {c : Bool → Nat} {P : List Pr} {n : Nat} (h : IdxAt w own a b c P (fun _ => P) n) (p q : ByteArray) (on : Bool) (hp : p.size ≤ maxLen) (hq : q.size ≤ maxLen) (hn : n + 5 < 1000000) (hnd : P.Nodup) :
    Calls Try.prog 12 #[ptr a, .string p, .string q, .bool on] w fun e w' => e = .returned (.bool (setP P p q on).2) ∧ ∃ own', IdxAt w' own' a b c (setP P p q on).1 (fun _ => (setP P p q on).1) (n + 5) ∧ OwnUp own own' w ∧ Turned own w w' := by
  have hl := h.prs.look p q hp hq
  obtain ⟨c0, c1, c2, hz⟩ := h.cellsA
  obtain ⟨x, hx⟩ : ∃ x, inP P p q = x := ⟨_, rfl⟩
  rw [hx] at hl
  unfold setP
  rw [hx]
  by_cases e : x = on
  · subst e
    rw [if_pos rfl]
    clear hx
    go_enter Try.func12, Try.ntmps12
    cases x
    · go_wp2
      go_ret
      exact ⟨rfl, own, h.mono (by omega), OwnUp.refl _ _, Turned.refl _ _⟩
    · go_wp2
      go_ret
      exact ⟨rfl, own, h.mono (by omega), OwnUp.refl _ _, Turned.refl _ _⟩
  · rw [if_neg e]
    have ht := turn_calls h p q on hp hq hn hnd (fun e2 => by cases on; cases e2; cases x; exact hx; exact absurd rfl e)
    clear hx
    go_enter Try.func12, Try.ntmps12
    cases x <;> cases on
    · exact absurd rfl e
    · go_wp2_with fail
      with_reducible refine ht.mono ?_
      rintro e w1 ⟨rfl, own', h1, h2, h3⟩
      go_wp2
      go_ret
      exact ⟨rfl, own', h1, h2, h3⟩
    · go_wp2_with fail
      with_reducible refine ht.mono ?_
      rintro e w1 ⟨rfl, own', h1, h2, h3⟩
      go_wp2
      go_ret
      exact ⟨rfl, own', h1, h2, h3⟩
    · exact absurd rfl e
def prO (s : Bool) (u x : ByteArray) : Pr := if s then (x, u) else (u, x)
theorem sd_eq {s : Bool} {x : Pr} {u : ByteArray} (h : sd s x = u) : x = prO s u (sd (!s) x) := by
  subst h
  cases s <;> rfl
theorem prO_sd (s : Bool) (u x : ByteArray) : sd s (prO s u x) = u ∧ sd (!s) (prO s u x) = x := by cases s <;> exact ⟨rfl, rfl⟩
theorem sideP_of {L : List Pr} {u : ByteArray} {s : Bool} {out : List ByteArray} (h : ∀ x, x ∈ out ↔ prO s u x ∈ L) : mergeS out [] = sideP L u s := by
  refine mergeS_eq _ _ _ (mergeS_sorted _ _) fun x => ?_
  rw [sideP, mergeS_mem]
  simp only [List.mem_map, List.mem_filter, decide_eq_true_eq, List.not_mem_nil, or_false]
  rw [h]
  constructor
  · rintro ⟨y, ⟨hy, e⟩, rfl⟩
    rw [← sd_eq e]
    exact hy
  · intro hx
    exact ⟨prO s u x, ⟨hx, (prO_sd s u x).1⟩, (prO_sd s u x).2⟩
set_option maxHeartbeats 16000000 in
set_option maxRecDepth 100000 in
theorem others_false {w : World} {own : Whose} {a b : Nat} {c : Bool → Nat} {P : List Pr} {n : Nat} (h : IdxAt w own a b c P (fun _ => P) n) (u : ByteArray) (hu : u.size ≤ maxLen) (hn : n ≤ 500000) (hsz : ∀ x ∈ P, x.1.size ≤ maxLen ∧ x.2.size ≤ maxLen) :
    Calls Try.prog 30 #[ptr a, .string u, .int .i64 0] w fun e w' => ∃ v, e = .returned v ∧ Row enS 1 w' v (sideP P u false) ∧ Below w.heap.size w w' := by
  obtain ⟨c0, c1, c2, hz⟩ := h.cellsA
  rcases h.look false u hu (by omega) with ⟨g, hlk, hog, m, D, hown, hD1, hD2, hD3⟩ | ⟨hlk, hno, -⟩
  · have hgm : g < w.heap.size := hown.lt
    have hDm : ∀ x y : ByteArray, x.size ≤ maxLen → y.size ≤ maxLen → Maps.has D (keyP x y) = true → (x, y) ∈ P ∧ x = u := fun x y hx hy hh => by
      rw [hD1 x y hx hy, Bool.and_eq_true, decide_eq_true_eq] at hh
      exact ⟨inP_iff.1 hh.1, hh.2⟩
    have hDn : ∀ x, prO false u x ∈ P → Maps.has D (keyP (prO false u x).1 (prO false u x).2) = true := fun x hx => by
      rw [hD1 _ _ (hsz _ hx).1 (hsz _ hx).2, Bool.and_eq_true, decide_eq_true_eq]
      exact ⟨inP_iff.2 hx, (prO_sd false u x).1⟩
    have hsl := hown.size_le
    clear hD1 hD3 hog
    go_enter Try.func30, Try.ntmps30
    go_wp2_with (first | (at_range; refine wpList_range_own _ rfl _ 51 rfl 56 4 mapLawP Try.underlying51 (plainElem Try.prog 4) g n D rfl hown ?_; intro w0 hrg0 hg0 hs0) | go_in)
    go_frame
    go_loopw [7] (fun v7 wr => ∃ (left : Lit → Bool) (cnt : Nat) (out : List ByteArray), wr.ranges Try.prog 56 (plainElem Try.prog 4) g w.heap.size n D left cnt ∧ Own enS 1 9 wr w.heap.size v7 out ∧ (∀ x, x ∈ out ↔ prO false u x ∈ P ∧ left (keyP (prO false u x).1 (prO false u x).2) = false) ∧ (∀ kl, left kl = true → Maps.has D kl = true) ∧ out.length + cnt ≤ n ∧ Below w.heap.size w wr) (fun _ wr => wr.rangeLeft g w.heap.size)
    case atStart =>
      refine ⟨_, _, [], hrg0, Own.nil _ _ _ _ _, fun x => ⟨fun hx => (by cases hx), fun hx => ?_⟩, fun kl hk => hk, by simpa using hsl, ⟨hg0.os, hg0.tape, hg0.output, hg0.size, fun i hi => hg0.block i hi (by simp)⟩⟩
      rw [hDn x hx.1] at hx
      cases hx.2
    case round =>
      obtain ⟨left, cnt, out, hrg, hO, hm, hlD, hc, hB⟩ := hrel
      obtain ⟨A, cc, rfl, hcc⟩ := hO.slice
      have hBS := hB.size
      have hrlt := hrg.lt
      go_wp2_with (at_next; refine next_P _ rfl _ rfl g w.heap.size n D left cnt rfl hrg hD2 ?_ ?_)
      · intro hc0 hl0
        have hF : Hid (mergeS out [] = sideP P u false) := sideP_of (s := false) fun x => by rw [hm x]; exact ⟨fun hx => hx.1, fun hx => ⟨hx, hl0 _⟩⟩
        have hol : out.length ≤ 524288 := by omega
        go_wp2_with fail
        with_reducible refine (Merge_calls _ _ _ _ _ _ out [] _ hO.row (Row.nil _ _ _) hol (by decide)).mono ?_
        rintro e w3 ⟨v, rfl, hv, b3⟩
        go_wp2
        go_ret
        exact ⟨v, rfl, by rw [← hF.out]; exact hv, below_call hB b3⟩
      · intro x y w1 cnt1 hx hy hlx hDx hrg1 hlt hg1 hs1 hen
        obtain ⟨hxP, hxu⟩ := hDm x y hx hy hDx
        have HXU := Lib.hid hxu
        clear hxu
        have hB1 : Below w.heap.size w w1 := ⟨hg1.os.trans hB.os, hg1.tape.trans hB.tape, hg1.output.trans hB.output, Nat.le_trans hB.size hg1.size, fun i hi => (hg1.block i (Nat.lt_of_lt_of_le hi hB.size) (fun e => by injection e with e; omega)).trans (hB.block i hi)⟩
        have hO1 := hO.kept hg1 (by rcases hq : (Value.slice A out.length cc).ownBlock with _ | q; exact .inl rfl; exact .inr (fun e => row_ne_iter hO hrg (by rw [hq]; exact e.symm)))
        have hB2 := below_alloc0 hB1 (.cells #[.string x, .string y] 56)
        have hO2 := hO1.alloc (.cells #[.string x, .string y] 56)
        have hrg2 := hrg1.alloc (.cells #[.string x, .string y] 56)
        have HZ : Hid ((w1.alloc (.cells #[.string x, .string y] 56)).heap.size = wr.heap.size + 1) := by show _ = _; rw [size_alloc, hs1]
        have hc1 : (w1.alloc (.cells #[.string x, .string y] 56)).cell? ⟨wr.heap.size, 1, none⟩ = some (.string y) := by
          have hnb := heap_alloc_new w1 (.cells #[.string x, .string y] 56)
          rw [← hs1]
          unfold World.cell?
          simp only
          rw [hnb]
          rfl
        go_wp2_with (at_builtin; refine Own.append (w0 := w) w.heap.size rfl (.tmp 24) (.tmp 29) 38 9 (.string ⟨#[]⟩) 1 16 rfl Try.underlying38 info_str rfl (by decide) _ out y [.string y] rfl (by rw [HZ.out]; rfl) rfl rfl (enS_one _) hO2 hB2 hB2.size (by omega) (by omega) ?_; intro v4 w4 hO4 hB4 hg4 hq4)
        have hrg4 := hrg2.kept hg4 (row_ne_low hO2 hgm) (row_ne_iter hO2 hrg2)
        refine ⟨⟨_, cnt1, out ++ [y], hrg4, hO4, fun z => ?_, fun kl hk => ?_, ?_, hB4⟩, ?_⟩
        · rw [List.mem_append, List.mem_singleton, hm z]
          constructor
          · rintro (⟨h1, h2⟩ | ez)
            · exact ⟨h1, by simp [h2]⟩
            · rw [ez]
              have e1 : prO false u y = (x, y) := by rw [← HXU.out]; rfl
              rw [e1]
              exact ⟨hxP, by simp [WideAt.sameKey_self (keyP_key x y)]⟩
          · rintro ⟨h1, h2⟩
            by_cases e : z = y
            · exact .inr e
            · left
              refine ⟨h1, ?_⟩
              rw [sameKey_ne (fun e2 => e ?_)] at h2
              · simpa using h2
              · have h3 := keyP_inj (hsz _ h1).1 (hsz _ h1).2 hx hy e2
                exact h3.2
        · rw [Bool.and_eq_true] at hk
          exact hlD kl hk.1
        · rw [List.length_append, List.length_singleton]
          omega
        · rw [hrg4.left_eq, hrg.left_eq]
          exact hlt
  · have hr := run_range_nilMap (P := Try.prog) w 51 56 4 Try.underlying51
    have hx := fun ty => run_next_nilMap (P := Try.prog) w ty 0 0 #[]
    have hF : Hid (mergeS [] [] = sideP P u false) := sideP_of (s := false) fun x => ⟨fun hx => (by cases hx), fun hx => absurd (prO_sd false u x).1 (hno _ hx)⟩
    go_enter Try.func30, Try.ntmps30
    go_wp2_with fail
    refine wp_loop_rounds 1 ?_
    rw [rounds_succ]
    go_wp2_with fail
    with_reducible refine (Merge_calls _ _ _ _ _ _ [] [] _ (Row.nil _ _ _) (Row.nil _ _ _) (by decide) (by decide)).mono ?_
    rintro e w3 ⟨v, rfl, hv, b3⟩
    go_wp2
    go_ret
    exact ⟨v, rfl, by rw [← hF.out]; exact hv, below_call (below_box _) b3⟩
set_option maxHeartbeats 16000000 in
set_option maxRecDepth 100000 in
theorem others_true {w : World} {own : Whose} {a b : Nat} {c : Bool → Nat} {P : List Pr} {n : Nat} (h : IdxAt w own a b c P (fun _ => P) n) (u : ByteArray) (hu : u.size ≤ maxLen) (hn : n ≤ 500000) (hsz : ∀ x ∈ P, x.1.size ≤ maxLen ∧ x.2.size ≤ maxLen) :
    Calls Try.prog 30 #[ptr a, .string u, .int .i64 1] w fun e w' => ∃ v, e = .returned v ∧ Row enS 1 w' v (sideP P u true) ∧ Below w.heap.size w w' := by
  obtain ⟨c0, c1, c2, hz⟩ := h.cellsA
  rcases h.look true u hu (by omega) with ⟨g, hlk, hog, m, D, hown, hD1, hD2, hD3⟩ | ⟨hlk, hno, -⟩
  · have hgm : g < w.heap.size := hown.lt
    have hDm : ∀ x y : ByteArray, x.size ≤ maxLen → y.size ≤ maxLen → Maps.has D (keyP x y) = true → (x, y) ∈ P ∧ y = u := fun x y hx hy hh => by
      rw [hD1 x y hx hy, Bool.and_eq_true, decide_eq_true_eq] at hh
      exact ⟨inP_iff.1 hh.1, hh.2⟩
    have hDn : ∀ x, prO true u x ∈ P → Maps.has D (keyP (prO true u x).1 (prO true u x).2) = true := fun x hx => by
      rw [hD1 _ _ (hsz _ hx).1 (hsz _ hx).2, Bool.and_eq_true, decide_eq_true_eq]
      exact ⟨inP_iff.2 hx, (prO_sd true u x).1⟩
    have hsl := hown.size_le
    clear hD1 hD3 hog
    go_enter Try.func30, Try.ntmps30
    go_wp2_with (first | (at_range; refine wpList_range_own _ rfl _ 51 rfl 56 4 mapLawP Try.underlying51 (plainElem Try.prog 4) g n D rfl hown ?_; intro w0 hrg0 hg0 hs0) | go_in)
    go_frame
    go_loopw [7] (fun v7 wr => ∃ (left : Lit → Bool) (cnt : Nat) (out : List ByteArray), wr.ranges Try.prog 56 (plainElem Try.prog 4) g w.heap.size n D left cnt ∧ Own enS 1 9 wr w.heap.size v7 out ∧ (∀ x, x ∈ out ↔ prO true u x ∈ P ∧ left (keyP (prO true u x).1 (prO true u x).2) = false) ∧ (∀ kl, left kl = true → Maps.has D kl = true) ∧ out.length + cnt ≤ n ∧ Below w.heap.size w wr) (fun _ wr => wr.rangeLeft g w.heap.size)
    case atStart =>
      refine ⟨_, _, [], hrg0, Own.nil _ _ _ _ _, fun x => ⟨fun hx => (by cases hx), fun hx => ?_⟩, fun kl hk => hk, by simpa using hsl, ⟨hg0.os, hg0.tape, hg0.output, hg0.size, fun i hi => hg0.block i hi (by simp)⟩⟩
      rw [hDn x hx.1] at hx
      cases hx.2
    case round =>
      obtain ⟨left, cnt, out, hrg, hO, hm, hlD, hc, hB⟩ := hrel
      obtain ⟨A, cc, rfl, hcc⟩ := hO.slice
      have hBS := hB.size
      have hrlt := hrg.lt
      go_wp2_with (at_next; refine next_P _ rfl _ rfl g w.heap.size n D left cnt rfl hrg hD2 ?_ ?_)
      · intro hc0 hl0
        have hF : Hid (mergeS out [] = sideP P u true) := sideP_of (s := true) fun x => by rw [hm x]; exact ⟨fun hx => hx.1, fun hx => ⟨hx, hl0 _⟩⟩
        have hol : out.length ≤ 524288 := by omega
        go_wp2_with fail
        with_reducible refine (Merge_calls _ _ _ _ _ _ out [] _ hO.row (Row.nil _ _ _) hol (by decide)).mono ?_
        rintro e w3 ⟨v, rfl, hv, b3⟩
        go_wp2
        go_ret
        exact ⟨v, rfl, by rw [← hF.out]; exact hv, below_call hB b3⟩
      · intro x y w1 cnt1 hx hy hlx hDx hrg1 hlt hg1 hs1 hen
        obtain ⟨hxP, hxu⟩ := hDm x y hx hy hDx
        have HXU := Lib.hid hxu
        clear hxu
        have hB1 : Below w.heap.size w w1 := ⟨hg1.os.trans hB.os, hg1.tape.trans hB.tape, hg1.output.trans hB.output, Nat.le_trans hB.size hg1.size, fun i hi => (hg1.block i (Nat.lt_of_lt_of_le hi hB.size) (fun e => by injection e with e; omega)).trans (hB.block i hi)⟩
        have hO1 := hO.kept hg1 (by rcases hq : (Value.slice A out.length cc).ownBlock with _ | q; exact .inl rfl; exact .inr (fun e => row_ne_iter hO hrg (by rw [hq]; exact e.symm)))
        have hB2 := below_alloc0 hB1 (.cells #[.string x, .string y] 56)
        have hO2 := hO1.alloc (.cells #[.string x, .string y] 56)
        have hrg2 := hrg1.alloc (.cells #[.string x, .string y] 56)
        have HZ : Hid ((w1.alloc (.cells #[.string x, .string y] 56)).heap.size = wr.heap.size + 1) := by show _ = _; rw [size_alloc, hs1]
        have hc1 : (w1.alloc (.cells #[.string x, .string y] 56)).cell? ⟨wr.heap.size, 0, none⟩ = some (.string x) := by
          have hnb := heap_alloc_new w1 (.cells #[.string x, .string y] 56)
          rw [← hs1]
          unfold World.cell?
          simp only
          rw [hnb]
          rfl
        go_wp2_with (at_builtin; refine Own.append (w0 := w) w.heap.size rfl (.tmp 24) (.tmp 29) 38 9 (.string ⟨#[]⟩) 1 16 rfl Try.underlying38 info_str rfl (by decide) _ out x [.string x] rfl (by rw [HZ.out]; rfl) rfl rfl (enS_one _) hO2 hB2 hB2.size (by omega) (by omega) ?_; intro v4 w4 hO4 hB4 hg4 hq4)
        have hrg4 := hrg2.kept hg4 (row_ne_low hO2 hgm) (row_ne_iter hO2 hrg2)
        refine ⟨⟨_, cnt1, out ++ [x], hrg4, hO4, fun z => ?_, fun kl hk => ?_, ?_, hB4⟩, ?_⟩
        · rw [List.mem_append, List.mem_singleton, hm z]
          constructor
          · rintro (⟨h1, h2⟩ | ez)
            · exact ⟨h1, by simp [h2]⟩
            · rw [ez]
              have e1 : prO true u x = (x, y) := by rw [← HXU.out]; rfl
              rw [e1]
              exact ⟨hxP, by simp [WideAt.sameKey_self (keyP_key x y)]⟩
          · rintro ⟨h1, h2⟩
            by_cases e : z = x
            · exact .inr e
            · left
              refine ⟨h1, ?_⟩
              rw [sameKey_ne (fun e2 => e ?_)] at h2
              · simpa using h2
              · have h3 := keyP_inj (hsz _ h1).1 (hsz _ h1).2 hx hy e2
                exact h3.1
        · rw [Bool.and_eq_true] at hk
          exact hlD kl hk.1
        · rw [List.length_append, List.length_singleton]
          omega
        · rw [hrg4.left_eq, hrg.left_eq]
          exact hlt
  · have hr := run_range_nilMap (P := Try.prog) w 51 56 4 Try.underlying51
    have hx := fun ty => run_next_nilMap (P := Try.prog) w ty 0 0 #[]
    have hF : Hid (mergeS [] [] = sideP P u true) := sideP_of (s := true) fun x => ⟨fun hx => (by cases hx), fun hx => absurd (prO_sd true u x).1 (hno _ hx)⟩
    go_enter Try.func30, Try.ntmps30
    go_wp2_with fail
    refine wp_loop_rounds 1 ?_
    rw [rounds_succ]
    go_wp2_with fail
    with_reducible refine (Merge_calls _ _ _ _ _ _ [] [] _ (Row.nil _ _ _) (Row.nil _ _ _) (by decide) (by decide)).mono ?_
    rintro e w3 ⟨v, rfl, hv, b3⟩
    go_wp2
    go_ret
    exact ⟨v, rfl, by rw [← hF.out]; exact hv, below_call (below_box _) b3⟩
set_option maxHeartbeats 16000000 in
set_option maxRecDepth 100000 in
theorem watchers_calls {w : World} {own : Whose} {a b : Nat} {c : Bool → Nat} {P : List Pr} {n : Nat} (h : IdxAt w own a b c P (fun _ => P) n) (u : ByteArray) (hu : u.size ≤ maxLen) (hn : n ≤ 500000) (hsz : ∀ x ∈ P, x.1.size ≤ maxLen ∧ x.2.size ≤ maxLen) :
    Calls Try.prog 20 #[ptr a, .string u] w fun e w' => ∃ v, e = .returned v ∧ Row enS 1 w' v (sideP P u true) ∧ Below w.heap.size w w' := by
  go_enter Try.func20, Try.ntmps20
  go_wp2_with fail
  with_reducible refine (others_true h u hu hn hsz).mono ?_
  rintro e w1 ⟨v, rfl, hv, b⟩
  go_wp2
  go_ret
  exact ⟨v, rfl, hv, b⟩
set_option maxHeartbeats 16000000 in
set_option maxRecDepth 100000 in
theorem contacts_calls {w : World} {own : Whose} {a b : Nat} {c : Bool → Nat} {P : List Pr} {n : Nat} (h : IdxAt w own a b c P (fun _ => P) n) (u : ByteArray) (hu : u.size ≤ maxLen) (hn : n ≤ 500000) (hsz : ∀ x ∈ P, x.1.size ≤ maxLen ∧ x.2.size ≤ maxLen) :
    Calls Try.prog 22 #[ptr a, .string u] w fun e w' => ∃ v, e = .returned v ∧ Row enS 1 w' v (sideP P u false) ∧ Below w.heap.size w w' := by
  go_enter Try.func22, Try.ntmps22
  go_wp2_with fail
  with_reducible refine (others_false h u hu hn hsz).mono ?_
  rintro e w1 ⟨v, rfl, hv, b⟩
  go_wp2
  go_ret
  exact ⟨v, rfl, hv, b⟩
end Go.Proofs.Ytocdoddmaopdbaa
namespace Go.Proofs.Ytocdoddmaopdbaa
open Go.RowKit Go.Maps
open Sp
namespace Sp
def offP (s : Bool) (u : ByteArray) (P : List Pr) (l : List ByteArray) : List Pr := l.foldl (fun P o => tuP P (prO s u o).1 (prO s u o).2 false) P
theorem offP_sub (s : Bool) (u : ByteArray) : ∀ (l : List ByteArray) (P : List Pr), (offP s u P l).Sublist P
  | [], P => List.Sublist.refl _
  | o :: l, P => (offP_sub s u l _).trans (by unfold tuP; exact List.filter_sublist)
theorem offP_eq (s : Bool) (u : ByteArray) : ∀ (l : List ByteArray) (P : List Pr), offP s u P l = P.filter fun x => l.all fun o => !(decide (x.1 = (prO s u o).1) && decide (x.2 = (prO s u o).2))
  | [], P => (List.filter_eq_self.2 fun _ _ => rfl).symm
  | o :: l, P => by
    show offP s u (tuP P _ _ false) l = _
    rw [offP_eq s u l]
    unfold tuP
    simp only [Bool.false_eq_true, if_false, List.filter_filter, List.all_cons]
    exact List.filter_congr fun x _ => Bool.and_comm _ _
theorem offP_all (s : Bool) (u : ByteArray) (P : List Pr) : offP s u P (sideP P u s) = P.filter fun x => !decide (sd s x = u) := by
  rw [offP_eq]
  refine List.filter_congr fun x hx => ?_
  rw [Bool.eq_iff_iff, List.all_eq_true, Bool.not_eq_true', decide_eq_false_iff_not]
  have hmem : ∀ o, o ∈ sideP P u s ↔ prO s u o ∈ P := fun o => by
    unfold sideP
    rw [mergeS_mem]
    simp only [List.mem_map, List.mem_filter, decide_eq_true_eq, List.not_mem_nil, or_false]
    constructor
    · rintro ⟨y, ⟨hy, e⟩, rfl⟩
      rw [← sd_eq e]
      exact hy
    · intro hx
      exact ⟨prO s u o, ⟨hx, (prO_sd s u o).1⟩, (prO_sd s u o).2⟩
  constructor
  · intro h e
    have e2 := sd_eq e
    have h2 := h (sd (!s) x) ((hmem _).2 (by rw [← e2]; exact hx))
    rw [← e2] at h2
    simp at h2
  · intro h o _
    rw [Bool.not_eq_true', Bool.and_eq_false_iff, decide_eq_false_iff_not, decide_eq_false_iff_not]
    by_cases e1 : x.1 = (prO s u o).1
    · right
      intro e2
      exact h (by rw [show x = prO s u o from Prod.ext e1 e2]; exact (prO_sd s u o).1)
    · exact .inl e1
theorem sideP_len (P : List Pr) (u : ByteArray) (s : Bool) : (sideP P u s).length ≤ P.length := by
  unfold sideP
  have h1 := mergeS_len ((P.filter fun x => decide (sd s x = u)).map (sd (!s))) []
  have h2 := List.length_filter_le (fun x => decide (sd s x = u)) P
  simp only [List.length_map, List.length_nil] at h1
  omega
def stP (P : List Pr) (u : ByteArray) (i : Nat) : List Pr := if i = 0 then P else if i = 1 then P.filter (fun x => !decide (x.1 = u)) else forgetP P u
theorem stP_sub (P : List Pr) (u : ByteArray) (i : Nat) : (stP P u i).Sublist P := by
  unfold stP
  split
  · exact List.Sublist.refl _
  · split
    · exact List.filter_sublist
    · exact List.filter_sublist
theorem stP_off0 (P : List Pr) (u : ByteArray) : offP false u (stP P u 0) (sideP (stP P u 0) u false) = stP P u 1 := offP_all false u P
theorem stP_off1 (P : List Pr) (u : ByteArray) : offP true u (stP P u 1) (sideP (stP P u 1) u true) = stP P u 2 := by
  rw [offP_all]
  show (P.filter fun x => !decide (x.1 = u)).filter (fun x => !decide (x.2 = u)) = P.filter _
  rw [List.filter_filter]
  exact List.filter_congr fun x _ => Bool.and_comm _ _
theorem offP_snoc (s : Bool) (u : ByteArray) (P : List Pr) (l : List ByteArray) (i : Nat) (hi : i < l.length) : offP s u P (l.take (i + 1)) = tuP (offP s u P (l.take i)) (prO s u l[i]).1 (prO s u l[i]).2 false := by
  unfold offP
  rw [List.take_succ_eq_append_getElem hi, List.foldl_append]
  rfl
end Sp
set_option maxHeartbeats 16000000 in
set_option maxRecDepth 100000 in
theorem forget_calls {w : World} {own : Whose} {a b : Nat} {c : Bool → Nat} {P : List Pr} {n : Nat} (h : IdxAt w own a b c P (fun _ => P) n) (u : ByteArray) (hu : u.size ≤ maxLen) (hl : P.length ≤ 10000) (hn : n + 10 * P.length + 10 ≤ 500000) (hnd : P.Nodup) (hsz : ∀ x ∈ P, x.1.size ≤ maxLen ∧ x.2.size ≤ maxLen) :
    Calls Try.prog 16 #[ptr a, .string u] w fun e w' => e = .returned (.int .i64 ((P.length : Int) - (forgetP P u).length)) ∧ ∃ own', IdxAt w' own' a b c (forgetP P u) (fun _ => forgetP P u) (n + 10 * P.length) ∧ OwnUp own own' w ∧ Turned own w w' := by
  go_enter Try.func16, Try.ntmps16
  go_wp2
  go_step3
  go_wp2_with fail
  with_reducible refine (len_calls h).mono ?_
  rintro e w1 ⟨rfl, b1⟩
  have hI1 := h.below b1
  have hT1 : Turned own w w1 := Turned.of_below b1
  have hB2 := below_box (w := w1) (.cells #[.string u, .string u] 56)
  have hb2 := heap_alloc_new w1 (.cells #[.string u, .string u] 56)
  have hI2 := hI1.below hB2
  have hT2 := hT1.below hB2
  have hs1 := b1.size
  clear b1
  go_wp2_with fail
  go_step3
  go_wp2_with fail
  go_loopw [16] (fun v16 wr => ∃ (i : Nat) (own1 : Whose), v16 = .int .i64 i ∧ i ≤ 2 ∧ IdxAt wr own1 a b c (stP P u i) (fun _ => stP P u i) (n + 5 * i * P.length) ∧ OwnUp own own1 w ∧ Turned own w wr ∧ wr.heap[w1.heap.size]? = some (.cells #[.string u, .string u] 56)) (fun v16 _ => (2 - intOf v16).toNat)
  case atStart => exact ⟨0, own, rfl, by omega, hI2.mono (by omega), OwnUp.refl _ _, hT2, hb2⟩
  case round =>
    obtain ⟨i, own1, rfl, hi, hI, hU, hT, hb⟩ := hrel
    have hb0 : wr.cell? ⟨w1.heap.size, 0, none⟩ = some (.string u) := by simp [World.cell?, hb]
    have hb1 : wr.cell? ⟨w1.heap.size, 1, none⟩ = some (.string u) := by simp [World.cell?, hb]
    have hcase : i = 0 ∨ i = 1 ∨ i = 2 := by omega
    rcases hcase with rfl | rfl | rfl
    · have hsz1 : ∀ x ∈ stP P u 0, x.1.size ≤ maxLen ∧ x.2.size ≤ maxLen := fun x hx => hsz x ((stP_sub P u 0).subset hx)
      have hle1 := (stP_sub P u 0).length_le
      obtain ⟨ls, hls⟩ : ∃ ls, sideP (stP P u 0) u false = ls := ⟨_, rfl⟩
      have hlsn : ls.length ≤ P.length := by rw [← hls]; exact Nat.le_trans (sideP_len _ _ _) hle1
      have HLS : Hid (∀ o, o ∈ ls → o.size ≤ maxLen) := fun o ho => by
        rw [← hls, sideP, mergeS_mem] at ho
        simp only [List.mem_map, List.mem_filter, List.not_mem_nil, or_false] at ho
        obtain ⟨x, ⟨hx, _⟩, rfl⟩ := ho
        exact (hsz1 x hx).2
      have HEND : Hid (offP false u (stP P u 0) ls = stP P u 1) := by show _ = _; rw [← hls]; exact stP_off0 P u
      go_wp2_with fail
      with_reducible refine (others_false hI u hu (by omega) hsz1).mono ?_
      rintro e w2 ⟨v, rfl, hv, b2⟩
      rw [hls] at hv
      clear hls
      have hv' := hv
      obtain ⟨A2, c2, rfl, -⟩ := hv'
      have hI3 := hI.below b2
      have hT3 := hT.below b2
      have hb3 := hcall hb b2
      clear b2 hb0 hb1
      go_wp2_with fail
      go_loopw [26] (fun v26 wr => ∃ (j : Nat) (own2 : Whose), v26 = .int .i64 j ∧ j ≤ ls.length ∧ IdxAt wr own2 a b c (offP false u (stP P u 0) (ls.take j)) (fun _ => offP false u (stP P u 0) (ls.take j)) (n + 5 * 0 * P.length + 5 * j) ∧ OwnUp own own2 w ∧ Turned own w wr ∧ wr.heap[w1.heap.size]? = some (.cells #[.string u, .string u] 56) ∧ Row enS 1 wr (.slice A2 ls.length c2) ls) (fun v26 _ => (ls.length - intOf v26).toNat)
      case atStart => exact ⟨0, own1, rfl, by omega, hI3.mono (by omega), hU, hT3, hb3, hv⟩
      case round =>
        obtain ⟨j, own2, rfl, hj, hI4, hU4, hT4, hb4, hv4⟩ := hrel
        have hc0 : wr.cell? ⟨w1.heap.size, 0, none⟩ = some (.string u) := by simp [World.cell?, hb4]
        have hc1 : wr.cell? ⟨w1.heap.size, 1, none⟩ = some (.string u) := by simp [World.cell?, hb4]
        by_cases hlt : j < ls.length
        · obtain ⟨ad, rfl, hcell⟩ := hv4.get1 (f := Value.string) j hlt
          have hnw := heap_alloc_new wr (.cells #[.string u, .string u] 56)
          have hn1 : (wr.alloc (.cells #[.string u, .string u] 56)).cell? ⟨wr.heap.size, 1, none⟩ = some (.string u) := by unfold World.cell?; simp only; rw [hnw]; rfl
          have hn2 : (wr.alloc (.cells #[.string u, .string u] 56)).frozen? ⟨wr.heap.size, 1, none⟩ = false := by unfold World.frozen?; simp only; rw [hnw]; rfl
          have hsn := heap_alloc_new wr (.cells #[.string u, .string ls[j]] 56)
          have hW : Below wr.heap.size wr (wr.alloc (.cells #[.string u, .string ls[j]] 56)) := below_box _
          have hs0 : (wr.alloc (.cells #[.string u, .string ls[j]] 56)).cell? ⟨wr.heap.size, 0, none⟩ = some (.string u) := by unfold World.cell?; simp only; rw [hsn]; rfl
          have hs1 : (wr.alloc (.cells #[.string u, .string ls[j]] 56)).cell? ⟨wr.heap.size, 1, none⟩ = some (.string ls[j]) := by unfold World.cell?; simp only; rw [hsn]; rfl
          have hI5 := hI4.below hW
          have hT5 := hT4.below hW
          have hb5 := hcall hb4 hW
          have hv5 := hv4.below hW
          have hon := HLS.out ls[j] (List.getElem_mem _)
          have hnd5 := ((offP_sub false u (ls.take j) (stP P u 0)).trans (stP_sub P u 0)).nodup hnd
          have ht := turn_calls hI5 u ls[j] false hu hon (by omega) hnd5 (fun e => by cases e)
          go_wp2_with fail
          with_reducible refine ht.mono ?_
          rintro e w6 ⟨rfl, own6, hI6, hU6, hT6⟩
          go_wp2
          have hu6 := hU4.trans hT5.low.size hU6
          refine ⟨⟨j + 1, own6, by go_num, by omega, (by rw [offP_snoc false u _ ls j hlt]; exact hI6.mono (by omega)), hu6, hT5.trans hU4 hT6, hT6.cells hI5.owned hb5, hT6.row hI5.owned hv5⟩, by simp [intOf]; omega⟩
        · have hjn : j = ls.length := by omega
          subst hjn
          rw [List.take_length, HEND.out] at hI4
          go_wp2
          refine ⟨⟨1, own2, by go_num, by omega, hI4.mono (by omega), hU4, hT4, hb4⟩, by simp [intOf]⟩
    · have hsz1 : ∀ x ∈ stP P u 1, x.1.size ≤ maxLen ∧ x.2.size ≤ maxLen := fun x hx => hsz x ((stP_sub P u 1).subset hx)
      have hle1 := (stP_sub P u 1).length_le
      obtain ⟨ls, hls⟩ : ∃ ls, sideP (stP P u 1) u true = ls := ⟨_, rfl⟩
      have hlsn : ls.length ≤ P.length := by rw [← hls]; exact Nat.le_trans (sideP_len _ _ _) hle1
      have HLS : Hid (∀ o, o ∈ ls → o.size ≤ maxLen) := fun o ho => by
        rw [← hls, sideP, mergeS_mem] at ho
        simp only [List.mem_map, List.mem_filter, List.not_mem_nil, or_false] at ho
        obtain ⟨x, ⟨hx, _⟩, rfl⟩ := ho
        exact (hsz1 x hx).1
      have HEND : Hid (offP true u (stP P u 1) ls = stP P u 2) := by show _ = _; rw [← hls]; exact stP_off1 P u
      go_wp2_with fail
      with_reducible refine (others_true hI u hu (by omega) hsz1).mono ?_
      rintro e w2 ⟨v, rfl, hv, b2⟩
      rw [hls] at hv
      clear hls
      have hv' := hv
      obtain ⟨A2, c2, rfl, -⟩ := hv'
      have hI3 := hI.below b2
      have hT3 := hT.below b2
      have hb3 := hcall hb b2
      clear b2 hb0 hb1
      go_wp2_with fail
      go_loopw [26] (fun v26 wr => ∃ (j : Nat) (own2 : Whose), v26 = .int .i64 j ∧ j ≤ ls.length ∧ IdxAt wr own2 a b c (offP true u (stP P u 1) (ls.take j)) (fun _ => offP true u (stP P u 1) (ls.take j)) (n + 5 * 1 * P.length + 5 * j) ∧ OwnUp own own2 w ∧ Turned own w wr ∧ wr.heap[w1.heap.size]? = some (.cells #[.string u, .string u] 56) ∧ Row enS 1 wr (.slice A2 ls.length c2) ls) (fun v26 _ => (ls.length - intOf v26).toNat)
      case atStart => exact ⟨0, own1, rfl, by omega, hI3.mono (by omega), hU, hT3, hb3, hv⟩
      case round =>
        obtain ⟨j, own2, rfl, hj, hI4, hU4, hT4, hb4, hv4⟩ := hrel
        have hc0 : wr.cell? ⟨w1.heap.size, 0, none⟩ = some (.string u) := by simp [World.cell?, hb4]
        have hc1 : wr.cell? ⟨w1.heap.size, 1, none⟩ = some (.string u) := by simp [World.cell?, hb4]
        by_cases hlt : j < ls.length
        · obtain ⟨ad, rfl, hcell⟩ := hv4.get1 (f := Value.string) j hlt
          have hnw := heap_alloc_new wr (.cells #[.string u, .string u] 56)
          have hn1 : (wr.alloc (.cells #[.string u, .string u] 56)).cell? ⟨wr.heap.size, 0, none⟩ = some (.string u) := by unfold World.cell?; simp only; rw [hnw]; rfl
          have hn2 : (wr.alloc (.cells #[.string u, .string u] 56)).frozen? ⟨wr.heap.size, 0, none⟩ = false := by unfold World.frozen?; simp only; rw [hnw]; rfl
          have hsn := heap_alloc_new wr (.cells #[.string ls[j], .string u] 56)
          have hW : Below wr.heap.size wr (wr.alloc (.cells #[.string ls[j], .string u] 56)) := below_box _
          have hs0 : (wr.alloc (.cells #[.string ls[j], .string u] 56)).cell? ⟨wr.heap.size, 0, none⟩ = some (.string ls[j]) := by unfold World.cell?; simp only; rw [hsn]; rfl
          have hs1 : (wr.alloc (.cells #[.string ls[j], .string u] 56)).cell? ⟨wr.heap.size, 1, none⟩ = some (.string u) := by unfold World.cell?; simp only; rw [hsn]; rfl
          have hI5 := hI4.below hW
          have hT5 := hT4.below hW
          have hb5 := hcall hb4 hW
          have hv5 := hv4.below hW
          have hon := HLS.out ls[j] (List.getElem_mem _)
          have hnd5 := ((offP_sub true u (ls.take j) (stP P u 1)).trans (stP_sub P u 1)).nodup hnd
          have ht := turn_calls hI5 ls[j] u false hon hu (by omega) hnd5 (fun e => by cases e)
          go_wp2_with fail
          with_reducible refine ht.mono ?_
          rintro e w6 ⟨rfl, own6, hI6, hU6, hT6⟩
          go_wp2
          have hu6 := hU4.trans hT5.low.size hU6
          refine ⟨⟨j + 1, own6, by go_num, by omega, (by rw [offP_snoc true u _ ls j hlt]; exact hI6.mono (by omega)), hu6, hT5.trans hU4 hT6, hT6.cells hI5.owned hb5, hT6.row hI5.owned hv5⟩, by simp [intOf]; omega⟩
        · have hjn : j = ls.length := by omega
          subst hjn
          rw [List.take_length, HEND.out] at hI4
          go_wp2
          refine ⟨⟨2, own2, by go_num, by omega, hI4.mono (by omega), hU4, hT4, hb4⟩, by simp [intOf]⟩
    · go_wp2_with fail
      with_reducible refine (len_calls hI).mono ?_
      rintro e w5 ⟨rfl, b5⟩
      have hle := (stP_sub P u 2).length_le
      go_wp2
      rw [Exit.noGoto_ret]
      go_ret
      exact ⟨ret_int (by show _ = (P.length : Int) - (stP P u 2).length; first | rfl | (simp only [wrap64]; omega)), own1, (hI.below b5).mono (by omega), hU, hT.below b5⟩
end Go.Proofs.Ytocdoddmaopdbaa
namespace Go.Proofs.Ytocdoddmaopdbaa
open Go.RowKit Go.Maps
open Sp
def CellsKept (w w' : World) : Prop := ∀ (g : Nat) (cs : Array Value) (T : TypeId) (fr : Nat × Nat), w.heap[g]? = some (.cells cs T fr) → w'.heap[g]? = some (.cells cs T fr)
theorem CellsKept.refl (w : World) : CellsKept w w := fun _ _ _ _ h => h
theorem CellsKept.trans {w w1 w2 : World} (h : CellsKept w w1) (k : CellsKept w1 w2) : CellsKept w w2 := fun g cs T fr e => k g cs T fr (h g cs T fr e)
theorem CellsKept.below {w w1 : World} (b : Below w.heap.size w w1) : CellsKept w w1 := fun g cs T fr e => hcall e b
theorem CellsKept.row {w w1 : World} (h : CellsKept w w1) {α : Type} {enc : α → List Value} {k : Nat} {v : Value} {xs : List α} (hr : Row enc k w v xs) : Row enc k w1 v xs := by
  obtain ⟨A, c, rfl, h1, h2, h3, h4⟩ := hr
  refine ⟨A, c, rfl, h1, h2, h3, fun hp => ?_⟩
  obtain ⟨ad, e, hc⟩ := h4 hp
  refine ⟨ad, e, fun j u hu => ?_⟩
  have h5 := hc j u hu
  have hb : (ad.add j).block = ad.block := add_block ad j
  have hcell : ∃ cs T fr, w.heap[ad.block]? = some (.cells cs T fr) := by
    unfold World.cell? at h5
    rw [hb] at h5
    split at h5
    · rename_i cs T fr hh
      exact ⟨_, _, _, hh⟩
    · cases h5
  obtain ⟨cs, T, fr, hh⟩ := hcell
  have h6 := h _ _ _ _ hh
  unfold World.cell? at h5 ⊢
  rw [hb] at h5 ⊢
  rw [h6]
  rw [hh] at h5
  exact h5
theorem CellsKept.cell {w w1 : World} (h : CellsKept w w1) {a : Addr} {v : Value} (hc : w.cell? a = some v) : w1.cell? a = some v := by
  have hcell : ∃ cs T fr, w.heap[a.block]? = some (.cells cs T fr) := by
    unfold World.cell? at hc
    split at hc
    · rename_i cs T fr hh
      exact ⟨_, _, _, hh⟩
    · cases hc
  obtain ⟨cs, T, fr, hh⟩ := hcell
  have h6 := h _ _ _ _ hh
  unfold World.cell? at hc ⊢
  rw [h6]
  rw [hh] at hc
  exact hc
theorem Turned.kept {own : Whose} {w w1 : World} (h : Turned own w w1) (hm : Owned own w) : CellsKept w w1 := fun g cs T fr e => h.cells hm e
structure Ix (w0 w : World) (a : Nat) (P : List Pr) (n : Nat) : Prop where
  at_ : ∃ own b c, IdxAt w own a b c P (fun _ => P) n ∧ ∀ i, own i ≠ none → w0.heap.size ≤ i
  nd : P.Nodup
  sz : ∀ x ∈ P, x.1.size ≤ maxLen ∧ x.2.size ≤ maxLen
theorem Ix.below {w0 w w1 : World} {a n : Nat} {P : List Pr} (h : Ix w0 w a P n) (b : Below w.heap.size w w1) : Ix w0 w1 a P n :=
  ⟨by obtain ⟨own, x, c, h1, h2⟩ := h.at_; exact ⟨own, x, c, h1.below b, h2⟩, h.nd, h.sz⟩
theorem Ix.mono {w0 w : World} {a n n' : Nat} {P : List Pr} (h : Ix w0 w a P n) (hn : n ≤ n') : Ix w0 w a P n' :=
  ⟨by obtain ⟨own, x, c, h1, h2⟩ := h.at_; exact ⟨own, x, c, h1.mono hn, h2⟩, h.nd, h.sz⟩
theorem low_turned {w0 w w1 : World} {own : Whose} (D : Below w0.heap.size w0 w) (t : Turned own w w1) (ho : ∀ i, own i ≠ none → w0.heap.size ≤ i) : Below w0.heap.size w0 w1 :=
  ⟨t.low.os.trans D.os, t.low.tape.trans D.tape, t.low.output.trans D.output, Nat.le_trans D.size t.low.size, fun i hi => by
    have e : own i = none := by
      cases e : own i with
      | none => rfl
      | some r => exact absurd (ho i (by rw [e]; simp)) (by omega)
    rw [t.same i (Nat.lt_of_lt_of_le hi D.size) e, D.block i hi]⟩
theorem up_low {w0 w : World} {own own' : Whose} (D : w0.heap.size ≤ w.heap.size) (u : OwnUp own own' w) (ho : ∀ i, own i ≠ none → w0.heap.size ≤ i) : ∀ i, own' i ≠ none → w0.heap.size ≤ i := fun i hi => by
  cases e : own i with
  | none => exact Nat.le_trans D (u.2 i e hi)
  | some r => exact ho i (by rw [e]; simp)
theorem ix_new (w0 w : World) (D : Below w0.heap.size w0 w) : Calls Try.prog 11 #[] w fun e w' => ∃ a, e = .returned (ptr a) ∧ Ix w0 w' a [] 0 ∧ Below w.heap.size w w' := by
  refine (new_calls w).mono ?_
  rintro e w1 ⟨a, b, c, rfl, h, hb⟩
  refine ⟨a, rfl, ⟨⟨_, b, c, h, fun i hi => ?_⟩, List.nodup_nil, fun x hx => by cases hx⟩, hb⟩
  unfold own0 at hi
  have := D.size
  by_cases e0 : i = w.heap.size
  · omega
  · rw [if_neg e0] at hi
    by_cases e1 : i = w.heap.size + 1
    · omega
    · rw [if_neg e1] at hi
      by_cases e2 : i = w.heap.size + 2
      · omega
      · rw [if_neg e2] at hi
        exact absurd rfl hi
theorem setP_ok {P : List Pr} (h : P.Nodup) (hs : ∀ x ∈ P, x.1.size ≤ maxLen ∧ x.2.size ≤ maxLen) (p q : ByteArray) (on : Bool) (hp : p.size ≤ maxLen) (hq : q.size ≤ maxLen) :
    (setP P p q on).1.Nodup ∧ (∀ x ∈ (setP P p q on).1, x.1.size ≤ maxLen ∧ x.2.size ≤ maxLen) ∧ (setP P p q on).1.length ≤ P.length + 1 := by
  unfold setP
  split
  · exact ⟨h, hs, Nat.le_succ _⟩
  · rename_i e
    refine ⟨tuP_nodup h p q on fun ho => ?_, fun x hx => ?_, ?_⟩
    · rw [ho] at e
      cases hh : inP P p q with
      | false => rfl
      | true => exact absurd hh e
    · unfold tuP at hx
      cases on
      · exact hs x (List.mem_filter.1 hx).1
      · simp only [if_true, List.mem_append, List.mem_singleton] at hx
        rcases hx with hx | rfl
        · exact hs x hx
        · exact ⟨hp, hq⟩
    · unfold tuP
      cases on
      · exact Nat.le_trans (List.length_filter_le _ _) (Nat.le_succ _)
      · simp
theorem ix_set {w0 w : World} {a n : Nat} {P : List Pr} (h : Ix w0 w a P n) (D : Below w0.heap.size w0 w) (p q : ByteArray) (on : Bool) (hp : p.size ≤ maxLen) (hq : q.size ≤ maxLen) (hn : n + 5 < 1000000) :
    Calls Try.prog 12 #[ptr a, .string p, .string q, .bool on] w fun e w' => e = .returned (.bool (setP P p q on).2) ∧ Ix w0 w' a (setP P p q on).1 (n + 5) ∧ Below w0.heap.size w0 w' ∧ CellsKept w w' := by
  obtain ⟨⟨own, b, c, h1, h2⟩, h3, h4⟩ := h
  refine (set_calls h1 p q on hp hq hn h3).mono ?_
  rintro e w1 ⟨rfl, own', k1, k2, k3⟩
  obtain ⟨s1, s2, -⟩ := setP_ok h3 h4 p q on hp hq
  exact ⟨rfl, ⟨⟨own', b, c, k1, up_low D.size k2 h2⟩, s1, s2⟩, low_turned D k3 h2, k3.kept h1.owned⟩
theorem ix_forget {w0 w : World} {a n : Nat} {P : List Pr} (h : Ix w0 w a P n) (D : Below w0.heap.size w0 w) (u : ByteArray) (hu : u.size ≤ maxLen) (hl : P.length ≤ 10000) (hn : n + 10 * P.length + 10 ≤ 500000) :
    Calls Try.prog 16 #[ptr a, .string u] w fun e w' => e = .returned (.int .i64 ((P.length : Int) - (forgetP P u).length)) ∧ Ix w0 w' a (forgetP P u) (n + 10 * P.length) ∧ Below w0.heap.size w0 w' ∧ CellsKept w w' := by
  obtain ⟨⟨own, b, c, h1, h2⟩, h3, h4⟩ := h
  refine (forget_calls h1 u hu hl hn h3 h4).mono ?_
  rintro e w1 ⟨rfl, own', k1, k2, k3⟩
  exact ⟨rfl, ⟨⟨own', b, c, k1, up_low D.size k2 h2⟩, nodup_filter _ _ h3, fun x hx => h4 x (List.mem_filter.1 hx).1⟩, low_turned D k3 h2, k3.kept h1.owned⟩
theorem ix_has {w0 w : World} {a n : Nat} {P : List Pr} (h : Ix w0 w a P n) (p q : ByteArray) (hp : p.size ≤ maxLen) (hq : q.size ≤ maxLen) :
    Calls Try.prog 14 #[ptr a, .string p, .string q] w fun e w' => e = .returned (.bool (inP P p q)) ∧ Below w.heap.size w w' := by
  obtain ⟨⟨own, b, c, h1, h2⟩, h3, h4⟩ := h
  exact has_calls h1 p q hp hq
theorem ix_len {w0 w : World} {a n : Nat} {P : List Pr} (h : Ix w0 w a P n) : Calls Try.prog 18 #[ptr a] w fun e w' => e = .returned (.int .i64 P.length) ∧ Below w.heap.size w w' := by
  obtain ⟨⟨own, b, c, h1, h2⟩, h3, h4⟩ := h
  exact len_calls h1
theorem ix_watchers {w0 w : World} {a n : Nat} {P : List Pr} (h : Ix w0 w a P n) (u : ByteArray) (hu : u.size ≤ maxLen) (hn : n ≤ 500000) :
    Calls Try.prog 20 #[ptr a, .string u] w fun e w' => ∃ v, e = .returned v ∧ Row enS 1 w' v (sideP P u true) ∧ Below w.heap.size w w' := by
  obtain ⟨⟨own, b, c, h1, h2⟩, h3, h4⟩ := h
  exact watchers_calls h1 u hu hn h4
theorem ix_contacts {w0 w : World} {a n : Nat} {P : List Pr} (h : Ix w0 w a P n) (u : ByteArray) (hu : u.size ≤ maxLen) (hn : n ≤ 500000) :
    Calls Try.prog 22 #[ptr a, .string u] w fun e w' => ∃ v, e = .returned v ∧ Row enS 1 w' v (sideP P u false) ∧ Below w.heap.size w w' := by
  obtain ⟨⟨own, b, c, h1, h2⟩, h3, h4⟩ := h
  exact contacts_calls h1 u hu hn h4
theorem form_S {w : World} {v : Value} {l : List ByteArray} (h : Row enS 1 w v l) : ∃ A c, v = .slice A l.length c := by
  obtain ⟨A, c, rfl, -⟩ := h
  exact ⟨A, c, rfl⟩
end Go.Proofs.Ytocdoddmaopdbaa
