/-
Layer 13: New, Has, Len and turn of the program.
-/
import Derived.Test.YtocdoddmaopdbaaIxB
set_option linter.unusedVariables false
set_option linter.unusedSimpArgs false
namespace Go.Proofs.Ytocdoddmaopdbaa
open Go.RowKit Go.Maps
open Sp
section
variable {P : Program} (w : World) {ops : Array Oper} {rest : List Oper} {o : Oper} {a : Act} {Q : Exit → Act → World → Prop}
theorem wpList_delete_run (hg : o.guard = none) (m x : Operand) (t k : TypeId) (hop : o.op = Op.call { callee := Callee.builtin Builtin.delete, args := #[m, x], argTypes := #[t, k] }) (vm vx : Value) (hm : a.eval m = vm) (hx : a.eval x = vx) {w' : World}
    (hrun : (Builtin.delete_ #[t, k] o.type #[vm, vx]).run P w = .ok (.tuple #[]) w') (hK : wpList P ops Q rest (a.put o.dst (.tuple #[])) w') : wpList P ops Q (o :: rest) a w := by
  refine wpList_plain hg fun K' hK' => ?_
  unfold Oper.wp
  simp [execOp, hop, resolve, invoke, builtin, hm, hx, hrun, Result.andThen]
  exact hK' _ _ hK
theorem wpList_len_run (hg : o.guard = none) (m : Operand) (t : TypeId) (hop : o.op = Op.call { callee := Callee.builtin Builtin.len, args := #[m], argTypes := #[t] }) (vm : Value) (hm : a.eval m = vm) {v : Value}
    (hrun : (Builtin.len_ #[t] o.type #[vm]).run P w = .ok v w) (hK : wpList P ops Q rest (a.put o.dst v) w) : wpList P ops Q (o :: rest) a w := by
  refine wpList_plain hg fun K' hK' => ?_
  unfold Oper.wp
  simp [execOp, hop, resolve, invoke, builtin, hm, hrun, Result.andThen]
  exact hK' _ _ hK
end
theorem eqMapN (g : Option Nat) (W : World) : (binOp .eql 51 (.map g) (.map none)).run Try.prog W = .ok (.bool g.isNone) W := run_eql_map_nil W _ _ _ g Try.underlying51
theorem IdxAt.at_ {w : World} {own : Whose} {a b : Nat} {c : Bool → Nat} {P : List Pr} {L : Bool → List Pr} {n : Nat} (h : IdxAt w own a b c P L n) (s : Bool) (name : ByteArray) (hs : name.size ≤ maxLen) (hn : n + 1 < 1000000) {g : Nat}
    (hlk : (Instr.lookup 52 (.map (some (c s))) (.string name) false).run Try.prog w = .ok (.map (some g)) w) : own g = some (some (s, some name)) ∧ ∃ m, BMap w g n (fun p q => inP (L s) p q && decide (sd s (p, q) = name)) m := by
  rcases h.look s name hs hn with ⟨g', h1, h2, h3⟩ | ⟨h1, _⟩
  · have := ok_map (hlk.symm.trans h1)
    injection this with this
    rw [this]
    exact ⟨h2, h3⟩
  · have := ok_map (hlk.symm.trans h1)
    cases this
/-- A round of a range over a set of pairs. -/
theorem next_P {ops : Array Oper} {rest : List Oper} {o : Oper} {a : Act} {Q : Exit → Act → World → Prop} (w : World) (hg : o.guard = none) (it : Operand) (hop : o.op = Op.next it false) (g r n : Nat) (D : DataW Unit) (left : Lit → Bool) (cnt : Nat)
    (hit : a.eval it = .pointer (some ⟨r, 0, none⟩)) (h : w.ranges Try.prog 56 (plainElem Try.prog 4) g r n D left cnt) (hT : ∀ kl z, Maps.has D kl = true → D.atKey kl z = .lit (.bool true))
    (hDone : cnt = 0 → (∀ kl, left kl = false) → wpList Try.prog ops Q rest (a.put o.dst (.tuple #[.bool false])) w)
    (hMore : ∀ (p q : ByteArray) (w' : World) (cnt' : Nat), p.size ≤ maxLen → q.size ≤ maxLen → left (keyP p q) = true → Maps.has D (keyP p q) = true → w'.ranges Try.prog 56 (plainElem Try.prog 4) g r n D (fun z => left z && !z.sameKey (keyP p q)) cnt' → cnt' < cnt →
      w.grownBy w' (some r) → w'.heap.size = w.heap.size → (Instr.entry (.pointer (some ⟨r, 0, none⟩))).run Try.prog w' = .ok (.tuple #[agP p q, .bool true]) w' → wpList Try.prog ops Q rest (a.put o.dst (.tuple #[.bool true, agP p q, .bool true])) w') :
    wpList Try.prog ops Q (o :: rest) a w :=
  wpList_next_ranges w hg it hop 56 mapLawP (plainElem Try.prog 4) (fun x : Pr => agP x.1 x.2) Value.bool (fun key kl hk => by obtain ⟨x, y, h1, _⟩ := keyOfP_inv hk; exact ⟨(x, y), h1⟩) (fun v y hv => by obtain ⟨x, h1, _⟩ := boolP_inv hv; exact ⟨x, h1⟩) g r n D left cnt hit h hDone
    (fun x bv kl y w' cnt' hkl hl hR hat hrg hlt hg1 hs1 hen => by
      obtain ⟨p, q, e, rfl, hp, hq⟩ := keyOfP_inv hkl
      have e1 : x = (p, q) := by
        simp only [agP, Value.agg.injEq, Array.mk.injEq, List.cons.injEq, Value.string.injEq, and_true] at e
        exact Prod.ext e.1 e.2
      subst e1
      have hh := has_true_of_atKey hat
      have h2 := hT _ (.lit (.bool true)) hh
      rw [hat] at h2
      obtain ⟨bv', e3, e4⟩ := boolP_inv hR
      cases e3
      rw [e4] at h2
      simp only [DataW.lit.injEq, Lit.bool.injEq] at h2
      subst h2
      exact hMore p q w' cnt' hp hq hl hh hrg hlt hg1 hs1 hen)
abbrev ptr (a : Nat) : Value := .pointer (some ⟨a, 0, none⟩)
theorem IdxAt.cellsA {w : World} {own : Whose} {a b : Nat} {c : Bool → Nat} {P : List Pr} {L : Bool → List Pr} {n : Nat} (h : IdxAt w own a b c P L n) :
    w.cell? ⟨a, 0, none⟩ = some (.map (some b)) ∧ w.cell? ⟨a, 1, none⟩ = some (.map (some (c false))) ∧ w.cell? ⟨a, 2, none⟩ = some (.map (some (c true))) ∧ a < w.heap.size :=
  ⟨by simp [World.cell?, h.box], by simp [World.cell?, h.box], by simp [World.cell?, h.box], (Array.getElem?_eq_some_iff.1 h.box).1⟩
def own0 (k : Nat) : Whose := fun i => if i = k then some none else if i = k + 1 then some (some (false, none)) else if i = k + 2 then some (some (true, none)) else none
theorem idx_new (w : World) : IdxAt ((((w.alloc (.map #[] 0)).alloc (.map #[] 0)).alloc (.map #[] 0)).alloc (.cells #[.map (some w.heap.size), .map (some (w.heap.size + 1)), .map (some (w.heap.size + 1 + 1))] 55)) (own0 w.heap.size)
    (w.heap.size + 1 + 1 + 1) w.heap.size (fun s => if s then w.heap.size + 1 + 1 else w.heap.size + 1) [] (fun _ => []) 0 := by
  have e1 : (w.alloc (.map #[] 0)).heap.size = w.heap.size + 1 := size_alloc _ _
  have e2 : ((w.alloc (.map #[] 0)).alloc (.map #[] 0)).heap.size = w.heap.size + 1 + 1 := by rw [size_alloc, e1]
  have e3 : (((w.alloc (.map #[] 0)).alloc (.map #[] 0)).alloc (.map #[] 0)).heap.size = w.heap.size + 1 + 1 + 1 := by rw [size_alloc, e2]
  have k0 := (BMap.new w).below (below_box (w := w.alloc (.map #[] 0)) (.map #[] 0)) |>.below (below_box (w := (w.alloc (.map #[] 0)).alloc (.map #[] 0)) (.map #[] 0)) |>.below (below_box (w := ((w.alloc (.map #[] 0)).alloc (.map #[] 0)).alloc (.map #[] 0)) (.cells #[.map (some w.heap.size), .map (some (w.heap.size + 1)), .map (some (w.heap.size + 1 + 1))] 55))
  have k1 := NMap.new (w.alloc (.map #[] 0)) |>.below (below_box (w := (w.alloc (.map #[] 0)).alloc (.map #[] 0)) (.map #[] 0)) |>.below (below_box (w := ((w.alloc (.map #[] 0)).alloc (.map #[] 0)).alloc (.map #[] 0)) (.cells #[.map (some w.heap.size), .map (some (w.heap.size + 1)), .map (some (w.heap.size + 1 + 1))] 55))
  have k2 := NMap.new ((w.alloc (.map #[] 0)).alloc (.map #[] 0)) |>.below (below_box (w := ((w.alloc (.map #[] 0)).alloc (.map #[] 0)).alloc (.map #[] 0)) (.cells #[.map (some w.heap.size), .map (some (w.heap.size + 1)), .map (some (w.heap.size + 1 + 1))] 55))
  rw [e1] at k1
  rw [e2] at k2
  have hb := heap_alloc_new (((w.alloc (.map #[] 0)).alloc (.map #[] 0)).alloc (.map #[] 0)) (.cells #[.map (some w.heap.size), .map (some (w.heap.size + 1)), .map (some (w.heap.size + 1 + 1))] 55)
  rw [e3] at hb
  refine ⟨hb, if_pos rfl, fun s => ?_, k0, fun s => ?_, fun i r e => ?_⟩
  · cases s
    · show own0 _ (w.heap.size + 1) = _
      unfold own0
      rw [if_neg (by omega), if_pos rfl]
    · show own0 _ (w.heap.size + 1 + 1) = _
      unfold own0
      rw [if_neg (by omega), if_neg (by omega), if_pos rfl]
  · cases s
    · exact ⟨fun _ => none, k1, fun name => ⟨fun _ x hx => (by cases hx), fun g e => (by cases e)⟩⟩
    · exact ⟨fun _ => none, k2, fun name => ⟨fun _ x hx => (by cases hx), fun g e => (by cases e)⟩⟩
  · unfold own0 at e
    by_cases h0 : i = w.heap.size
    · subst h0
      exact k0.isMap
    · rw [if_neg h0] at e
      by_cases h1 : i = w.heap.size + 1
      · subst h1
        exact k1.isMap
      · rw [if_neg h1] at e
        by_cases h2 : i = w.heap.size + 2
        · subst h2
          exact k2.isMap
        · rw [if_neg h2] at e
          cases e
set_option maxHeartbeats 4000000 in
set_option maxRecDepth 100000 in
theorem new_calls (w : World) : Calls Try.prog 11 #[] w fun e w' => ∃ a b c, e = .returned (ptr a) ∧ IdxAt w' (own0 w.heap.size) a b c [] (fun _ => []) 0 ∧ Below w.heap.size w w' := by
  have hmm := @run_makeMap Try.prog
  go_enter Try.func11, Try.ntmps11
  go_wp2
  refine bodyPost_ret (results_tmp rfl _ _ _) rfl ⟨w.heap.size + 1 + 1 + 1, w.heap.size, fun s => if s then w.heap.size + 1 + 1 else w.heap.size + 1, rfl, ?_, below_alloc0 (below_alloc0 (below_alloc0 (below_box _) _) _) _⟩
  exact idx_new w
set_option maxHeartbeats 4000000 in
set_option maxRecDepth 100000 in
theorem has_calls {w : World} {own : Whose} {a b : Nat} {c : Bool → Nat} {P : List Pr} {L : Bool → List Pr} {n : Nat} (h : IdxAt w own a b c P L n) (p q : ByteArray) (hp : p.size ≤ maxLen) (hq : q.size ≤ maxLen) :
    Calls Try.prog 14 #[ptr a, .string p, .string q] w fun e w' => e = .returned (.bool (inP P p q)) ∧ Below w.heap.size w w' := by
  have hl := h.prs.look p q hp hq
  obtain ⟨c0, c1, c2, hz⟩ := h.cellsA
  go_enter Try.func14, Try.ntmps14
  go_wp2
  go_ret
  exact ⟨rfl, Below.refl _ _⟩
set_option maxHeartbeats 4000000 in
set_option maxRecDepth 100000 in
theorem len_calls {w : World} {own : Whose} {a b : Nat} {c : Bool → Nat} {P : List Pr} {L : Bool → List Pr} {n : Nat} (h : IdxAt w own a b c P L n) :
    Calls Try.prog 18 #[ptr a] w fun e w' => e = .returned (.int .i64 P.length) ∧ Below w.heap.size w w' := by
  have hl := h.prs.lenRun 3
  obtain ⟨c0, c1, c2, hz⟩ := h.cellsA
  go_enter Try.func18, Try.ntmps18
  go_wp2_with (at_len; refine wpList_len_run _ rfl _ _ rfl _ rfl (h.prs.lenRun _) ?_)
  go_ret
  exact ⟨rfl, Below.refl _ _⟩
set_option maxHeartbeats 16000000 in
set_option maxRecDepth 100000 in
theorem turn_calls {w : World} {own : Whose} {a b : Nat} {c : Bool → Nat} {P : List Pr} {n : Nat} (h : IdxAt w own a b c P (fun _ => P) n) (p q : ByteArray) (on : Bool) (hp : p.size ≤ maxLen) (hq : q.size ≤ maxLen) (hn : n + 5 < 1000000) (hnd : P.Nodup) (ho : on = true → inP P p q = false) :
    Calls Try.prog 29 #[ptr a, agP p q, .bool on] w fun e w' => e = .returned (.tuple #[]) ∧ ∃ own', IdxAt w' own' a b c (tuP P p q on) (fun _ => tuP P p q on) (n + 5) ∧ OwnUp own own' w ∧ Turned own w w' := by
  have hB := below_box (w := w) (.cells #[.string p, .string q] 56)
  have hI0 := h.below hB
  have hp0 := heap_alloc_new w (.cells #[.string p, .string q] 56)
  have hT0 : Turned own w (w.alloc (.cells #[.string p, .string q] 56)) := Turned.of_below hB
  have hU0 : OwnUp own own w := OwnUp.refl own w
  have hmm := @run_makeMap Try.prog
  go_enter Try.func29, Try.ntmps29
  go_wp2_with fail
  go_loopw [12] (fun v12 wr => ∃ i : Nat, v12 = .int .i64 i ∧ i ≤ 2 ∧ wr.heap[w.heap.size]? = some (.cells #[.string p, .string q] 56) ∧ ∃ own', IdxAt wr own' a b c P (fun t => if (if t then 1 else 0) < i then tuP P p q on else P) (n + 2 * i) ∧ OwnUp own own' w ∧ Turned own w wr) (fun v12 _ => (2 - intOf v12).toNat)
  case atStart => exact ⟨0, rfl, by omega, hp0, own, hI0.cong (fun s => by simp), hU0, hT0⟩
  case round =>
    obtain ⟨i, rfl, hi, hpx, own', hI, hU, hT⟩ := hrel
    have hb0 : wr.cell? ⟨w.heap.size, 0, none⟩ = some (.string p) := by simp [World.cell?, hpx]
    have hb1 : wr.cell? ⟨w.heap.size, 1, none⟩ = some (.string q) := by simp [World.cell?, hpx]
    obtain ⟨ca, cb, cc, hz⟩ := hI.cellsA
    have hcase : i = 0 ∨ i = 1 ∨ i = 2 := by omega
    have hdr : Below wr.heap.size wr wr.drew := (Below.refl _ _).drew
    have hTd := hT.below hdr
    have hpd : wr.drew.heap[w.heap.size]? = some (.cells #[.string p, .string q] 56) := hpx
    have hd0 : wr.drew.cell? ⟨w.heap.size, 0, none⟩ = some (.string p) := hb0
    have hd1 : wr.drew.cell? ⟨w.heap.size, 1, none⟩ = some (.string q) := hb1
    have hEq := eqMapN
    rcases hcase with rfl | rfl | rfl
    · have hI1 := (hI.cong (L' := fun _ => P) (fun s => by cases s <;> simp)).below hdr
      rcases hI1.look false p hp (by omega) with ⟨g, hlk, hog, m, hBM⟩ | ⟨hlk0, hno, w2, own2, hr2, hI2, hU2, hT2, hlk, hog, hs2⟩
      · cases on
        · obtain ⟨w3, hr3, hI3, hT3, hs3⟩ := hI1.del false p q hp hq hlk hog hBM 0
          go_wp2_with fail
          go_region
          go_wp2_with (at_delete; refine wpList_delete_run _ rfl _ _ _ _ rfl _ _ rfl rfl hr3 ?_)
          exact ⟨⟨1, by go_num, by omega, hT3.cells hI1.owned hpd, _, (hI3.cong (fun t => by cases t <;> simp)).mono (by omega), hU, hTd.trans hU hT3⟩, by simp [intOf]⟩
        · obtain ⟨w3, hr3, hI3, hT3, hs3⟩ := hI1.put false p q hp hq hlk hog hBM (by omega)
          go_wp2_with fail
          go_region
          go_wp2
          exact ⟨⟨1, by go_num, by omega, hT3.cells hI1.owned hpd, _, (hI3.cong (fun t => by cases t <;> simp)).mono (by omega), hU, hTd.trans hU hT3⟩, by simp [intOf]⟩
      · have hpd2 := hT2.cells hI1.owned hpd
        have hd2 : w2.cell? ⟨w.heap.size, 0, none⟩ = some (.string p) := by simp [World.cell?, hpd2]
        have hd3 : w2.cell? ⟨w.heap.size, 1, none⟩ = some (.string q) := by simp [World.cell?, hpd2]
        have hU3 := hU.trans hTd.low.size hU2
        have hT4 := hTd.trans hU hT2
        replace hr2 : (Instr.mapUpdate 52 (.map (some (c false))) (.string p) (.map (some wr.heap.size))).run Try.prog (wr.alloc (.map #[] 0)).drew = .ok () w2 := hr2
        replace hlk : (Instr.lookup 52 (.map (some (c false))) (.string p) false).run Try.prog w2 = .ok (.map (some wr.heap.size)) w2 := hlk
        obtain ⟨hog, m, hBM⟩ := hI2.at_ false p hp (by omega) hlk
        cases on
        · obtain ⟨w3, hr3, hI3, hT3, hs3⟩ := hI2.del false p q hp hq hlk hog hBM 0
          go_wp2_with fail
          go_region
          go_wp2_with (at_delete; refine wpList_delete_run _ rfl _ _ _ _ rfl _ _ rfl rfl hr3 ?_)
          exact ⟨⟨1, by go_num, by omega, hT3.cells hI2.owned hpd2, _, (hI3.cong (fun t => by cases t <;> simp)).mono (by omega), hU3, hT4.trans hU3 hT3⟩, by simp [intOf]⟩
        · obtain ⟨w3, hr3, hI3, hT3, hs3⟩ := hI2.put false p q hp hq hlk hog hBM (by omega)
          go_wp2_with fail
          go_region
          go_wp2
          exact ⟨⟨1, by go_num, by omega, hT3.cells hI2.owned hpd2, _, (hI3.cong (fun t => by cases t <;> simp)).mono (by omega), hU3, hT4.trans hU3 hT3⟩, by simp [intOf]⟩
    · have hI1 := (hI.cong (L' := fun t => if t = false then tuP P p q on else P) (fun s => by cases s <;> simp)).below hdr
      rcases hI1.look true q hq (by omega) with ⟨g, hlk, hog, m, hBM⟩ | ⟨hlk0, hno, w2, own2, hr2, hI2, hU2, hT2, hlk, hog, hs2⟩
      · cases on
        · obtain ⟨w3, hr3, hI3, hT3, hs3⟩ := hI1.del true p q hp hq hlk hog hBM 0
          go_wp2_with fail
          go_region
          go_wp2_with (at_delete; refine wpList_delete_run _ rfl _ _ _ _ rfl _ _ rfl rfl hr3 ?_)
          exact ⟨⟨2, by go_num, by omega, hT3.cells hI1.owned hpd, _, (hI3.cong (fun t => by cases t <;> simp)).mono (by omega), hU, hTd.trans hU hT3⟩, by simp [intOf]⟩
        · obtain ⟨w3, hr3, hI3, hT3, hs3⟩ := hI1.put true p q hp hq hlk hog hBM (by omega)
          go_wp2_with fail
          go_region
          go_wp2
          exact ⟨⟨2, by go_num, by omega, hT3.cells hI1.owned hpd, _, (hI3.cong (fun t => by cases t <;> simp)).mono (by omega), hU, hTd.trans hU hT3⟩, by simp [intOf]⟩
      · have hpd2 := hT2.cells hI1.owned hpd
        have hd2 : w2.cell? ⟨w.heap.size, 0, none⟩ = some (.string p) := by simp [World.cell?, hpd2]
        have hd3 : w2.cell? ⟨w.heap.size, 1, none⟩ = some (.string q) := by simp [World.cell?, hpd2]
        have hU3 := hU.trans hTd.low.size hU2
        have hT4 := hTd.trans hU hT2
        replace hr2 : (Instr.mapUpdate 52 (.map (some (c true))) (.string q) (.map (some wr.heap.size))).run Try.prog (wr.alloc (.map #[] 0)).drew = .ok () w2 := hr2
        replace hlk : (Instr.lookup 52 (.map (some (c true))) (.string q) false).run Try.prog w2 = .ok (.map (some wr.heap.size)) w2 := hlk
        obtain ⟨hog, m, hBM⟩ := hI2.at_ true q hq (by omega) hlk
        cases on
        · obtain ⟨w3, hr3, hI3, hT3, hs3⟩ := hI2.del true p q hp hq hlk hog hBM 0
          go_wp2_with fail
          go_region
          go_wp2_with (at_delete; refine wpList_delete_run _ rfl _ _ _ _ rfl _ _ rfl rfl hr3 ?_)
          exact ⟨⟨2, by go_num, by omega, hT3.cells hI2.owned hpd2, _, (hI3.cong (fun t => by cases t <;> simp)).mono (by omega), hU3, hT4.trans hU3 hT3⟩, by simp [intOf]⟩
        · obtain ⟨w3, hr3, hI3, hT3, hs3⟩ := hI2.put true p q hp hq hlk hog hBM (by omega)
          go_wp2_with fail
          go_region
          go_wp2
          exact ⟨⟨2, by go_num, by omega, hT3.cells hI2.owned hpd2, _, (hI3.cong (fun t => by cases t <;> simp)).mono (by omega), hU3, hT4.trans hU3 hT3⟩, by simp [intOf]⟩
    · have hI1 := (hI.cong (L' := fun _ => tuP P p q on) (fun s => by cases s <;> simp)).below hdr
      cases on
      · obtain ⟨w3, hr3, hI3, hT3⟩ := hI1.delAll p q hp hq hnd 0
        go_wp2_with fail
        go_region
        go_end0
        exact ⟨rfl, own', hI3.mono (by omega), hU, hTd.trans hU hT3⟩
      · obtain ⟨w3, hr3, hI3, hT3⟩ := hI1.putAll p q hp hq (by omega) hnd (ho rfl)
        go_wp2_with fail
        go_region
        go_end0
        exact ⟨rfl, own', hI3.mono (by omega), hU, hTd.trans hU hT3⟩
end Go.Proofs.Ytocdoddmaopdbaa
