import Derived.Test.YtbpfcjdjhponaaaGreatProg
import Derived.Deep.RegionHeld3
import Derived.RegionTactic
import Derived.Deep.QuietTactic
import Derived.BigQuiet
import Derived.Maps.OwnOps
import Derived.Maps.OwnSet
import Derived.MapKept
import Derived.Test.YtbpfcjdjhponaaaGreatPViewHides02
set_option linter.unusedVariables false
set_option linter.unusedSimpArgs false
namespace Go.Proofs.YtbpfcjdjhponaaaGreat
open Go.RowKit
namespace Held
def lst (n : Nat) (o : List Nat) (k : Nat) : Array Bool := (o.take k).foldl (fun L i => L.setIfInBounds i true) (Array.replicate n false)
theorem lst_succ (n : Nat) (o : List Nat) (k i : Nat) (h : o[k]? = some i) : (lst n o k).setIfInBounds i true = lst n o (k + 1) := by
  unfold lst
  rw [List.take_add_one, h, List.foldl_append]
  rfl
def okAt (ops : Array Oper) (o : List Nat) (k : Nat) : Bool :=
  match o[k]? with
  | some i => Region.free .any ops (lst ops.size o k) i && (Region.ready .any ops (lst ops.size o k)).contains i
  | none => false
section
variable {P : Program} {ops : Array Oper} {Q : Exit → Act → World → Prop} {S : World → Prop}
theorem start {ops0 : Array Oper} {id : Nat} {a : Act} {w : World} (o : List Nat) (n : Nat) (he : ops0 = ops) (hn : ops.size = n) (hm : P.follows .mixedOrders = true) (hS : S w.drew)
    (h : S w.drew → wpAnyH P .any ops Q S n (lst n o 0) a w.drew) : (Code.region id ops0 true).wp P Q a w := by
  subst he
  refine wp_region_held_drew hm hS fun hs => ?_
  rw [hn]
  exact h hs
theorem take {o : List Nat} {n k i : Nat} {oi : Oper} {v : Value} {fuel : Nat} {a : Act} {w : World} (hns : Region.noSelect ops = true) (h2 : okAt ops o k = true) (hn : ops.size = n) (hk : o[k]? = some i) (hi : ops.toList[i]? = some oi)
    (hQ : ∀ c a w, Q (.panic c) (a.put oi.dst v) w → Q (.panic c) a w) (hy : YieldsIf P ops S oi v a) (hS : S w)
    (h : wpAnyH P .any ops Q S fuel (lst n o (k + 1)) (a.put oi.dst v) w) : wpAnyH P .any ops Q S (fuel + 1) (lst n o k) a w := by
  subst hn
  unfold okAt at h2
  rw [hk] at h2
  simp only [Bool.and_eq_true] at h2
  refine wpAnyH_take (by simpa using hi) hns h2.1 h2.2 hQ hy hS ?_
  rw [lst_succ _ _ _ _ hk]
  exact h
theorem only {o : List Nat} {n k i : Nat} {oi : Oper} {fuel : Nat} {a : Act} {w : World} (hr : Region.ready .any ops (lst n o k) = [i]) (hk : o[k]? = some i) (hi : ops.toList[i]? = some oi) (hw : Region.wanted oi (yielded ops a.tmps) = true)
    (h : ∀ K' : Act → World → Prop, Shut (∀ a w, S w → (S w → wpAnyH P .any ops Q S fuel (lst n o (k + 1)) a w) → K' a w) → Oper.wp P oi a w K' Q) : wpAnyH P .any ops Q S (fuel + 1) (lst n o k) a w := by
  refine wpAnyH_ready hr (by simp) (AllReadyH.cons (by simpa using hi) (fun K hK => ?_) AllReadyH.nil)
  rw [if_pos hw]
  refine h K ?_
  rw [lst_succ _ _ _ _ hk] at hK
  exact hK
end
end Held
end Go.Proofs.YtbpfcjdjhponaaaGreat
namespace Go.Proofs.YtbpfcjdjhponaaaGreat
namespace Held
def find (n : Nat) : Code → Option (Array Oper)
  | .region id ops _ => if id == n then some ops else none
  | .seq a b => match find n a with
    | some x => some x
    | none => find n b
  | .cond _ a b => match find n a with
    | some x => some x
    | none => find n b
  | .block _ b => find n b
  | .loop b => find n b
  | .scope b => find n b
  | .rangeFunc _ _ _ b => find n b
  | _ => none
def inBody (n : Nat) : Option Code → Array Oper
  | some c => (find n c).getD #[]
  | none => #[]
end Held
end Go.Proofs.YtbpfcjdjhponaaaGreat
namespace Go.Proofs.YtbpfcjdjhponaaaGreat
namespace Held
structure Reg (ops : Array Oper) (o : List Nat) (n : Nat) (ks : List Nat) : Prop where
  siz : ops.size = n
  nos : Region.noSelect ops = true
  ok : (ks.all fun k => okAt ops o k) = true
theorem tk {P : Program} {ops : Array Oper} {Q : Exit → Act → World → Prop} {S : World → Prop} {o ks : List Nat} {n k i : Nat} {oi : Oper} {v : Value} {fuel : Nat} {a : Act} {w : World} (R : Reg ops o n ks) (h2 : ks.contains k = true) (hk : o[k]? = some i) (hi : ops.toList[i]? = some oi)
    (hQ : ∀ c a w, Q (.panic c) (a.put oi.dst v) w → Q (.panic c) a w) (hS : S w) (hy : YieldsIf P ops S oi v a)
    (h : wpAnyH P .any ops Q S fuel (lst n o (k + 1)) (a.put oi.dst v) w) : wpAnyH P .any ops Q S (fuel + 1) (lst n o k) a w :=
  take R.nos (List.all_eq_true.1 R.ok k (by simpa using h2)) R.siz hk hi hQ hy hS h
theorem tu {P : Program} {ops : Array Oper} {Q : Exit → Act → World → Prop} {S : World → Prop} {o ks : List Nat} {n k i : Nat} {oi : Oper} {fuel : Nat} {a : Act} {w : World} (R : Reg ops o n ks)
    (h : wpAnyH P .any ops Q S fuel (lst n o (k + 1)) (a.put oi.dst undef) w) (h2 : ks.contains k = true := by exact rfl) (hk : o[k]? = some i := by exact rfl) (hi : ops.toList[i]? = some oi := by exact rfl)
    (hQ : ∀ c a w, Q (.panic c) (a.put oi.dst undef) w → Q (.panic c) a w := by exact fun _ _ _ h => h) (hS : S w := by assumption) (hy : Region.wanted oi (yielded ops a.tmps) = false := by kernel_rfl) : wpAnyH P .any ops Q S (fuel + 1) (lst n o k) a w :=
  tk R h2 hk hi hQ hS (.inr ⟨hy, rfl⟩) h
theorem tw {P : Program} {ops : Array Oper} {Q : Exit → Act → World → Prop} {S : World → Prop} {o ks : List Nat} {n k i : Nat} {oi : Oper} {v : Value} {fuel : Nat} {a : Act} {w : World} (R : Reg ops o n ks)
    (h : wpAnyH P .any ops Q S fuel (lst n o (k + 1)) (a.put oi.dst v) w) (h2 : ks.contains k = true := by exact rfl) (hk : o[k]? = some i := by exact rfl) (hi : ops.toList[i]? = some oi := by exact rfl)
    (hQ : ∀ c a w, Q (.panic c) (a.put oi.dst v) w → Q (.panic c) a w := by exact fun _ _ _ h => h) (hS : S w := by assumption) (hw : Region.wanted oi (yielded ops a.tmps) = true := by kernel_rfl)
    (hy : ∀ w, S w → (execOp a.eval oi).run P w = .ok (.value v) w := by (intro w hSw; (try dsimp only at hSw); go_simp; (try (first | with_reducible rfl | rw [if_neg (by omega)])))) : wpAnyH P .any ops Q S (fuel + 1) (lst n o k) a w :=
  tk R h2 hk hi hQ hS (.inl ⟨hw, hy⟩) h
end Held
end Go.Proofs.YtbpfcjdjhponaaaGreat
namespace Go.Proofs.YtbpfcjdjhponaaaGreat
open Go.RowKit
open Sp
theorem betR_cmp (ai ap as_ bi bp bs : Int) (h : ¬ (ap = bp ∧ as_ = bs)) : betR ai ap as_ bi bp bs = decide (0 < cmpL [ap, as_, 0] [bp, bs, 0]) := by
  unfold betR cmpL cmpL cmpL cmpL Lib.compareInt
  by_cases h1 : ap = bp
  · have h2 : ¬ as_ = bs := fun e => h ⟨h1, e⟩
    subst h1
    rcases Int.lt_trichotomy as_ bs with h3 | h3 | h3
    · simp [h3, h2, Int.not_lt.2 (Int.le_of_lt h3)]
    · exact absurd h3 h2
    · simp [h3, h2, Int.not_lt.2 (Int.le_of_lt h3)]
  · rcases Int.lt_trichotomy ap bp with h3 | h3 | h3
    · simp [h3, h1, Int.not_lt.2 (Int.le_of_lt h3)]
    · exact absurd h3 h1
    · simp [h3, h1, Int.not_lt.2 (Int.le_of_lt h3)]
set_option maxHeartbeats 4000000 in
set_option maxRecDepth 100000 in
theorem bSlot_calls (u : ByteArray) (i a p n : Int) (t : ByteArray) (w : World) :
    Calls Tryz.prog 162 #[ag6 u i a p n t] w fun e w' => e = .returned (slotV i p n) ∧ Below w.heap.size w w' := by
  go_enter Tryz.func162, Tryz.ntmps162
  go_wp2
  exact bodyPost_ret (v := slotV i p n) (by simp [results, Tryz.results162, go_sem]) rfl ⟨rfl, below_alloc0 (below_alloc0 (Below.refl _ _) _) _⟩
theorem rank_arr : Tryz.prog.underlying 200 = some (.array 3 3) := Tryz.underlying200
abbrev bxSl (i p s : Int) (T : TypeId) : Obj := .cells #[.int .i64 i, .int .i64 p, .int .i64 s, .int .i64 0] T
noncomputable def opsheb : Array Oper := Held.inBody 2 Tryz.f161.body
def ordheb : List Nat := [0, 1, 2, 3, 4, 5, 6]
set_option maxRecDepth 100000 in
theorem rgheb : Held.Reg opsheb ordheb 7 [0, 1, 2, 3, 5, 6] := ⟨by kernel_rfl, by kernel_rfl, by kernel_rfl⟩
set_option maxHeartbeats 8000000 in
set_option maxRecDepth 100000 in
theorem hBetter_calls (ai ap as_ bi bp bs : Int) (w : World) :
    Calls Tryz.prog 161 #[slotV ai ap as_, slotV bi bp bs] w fun e w' => e = .returned (.bool (betR ai ap as_ bi bp bs)) ∧ Below w.heap.size w w' := by
  have hN := neqRank rank_arr ap as_ 0 bp bs 0
  by_cases h : ap = bp ∧ as_ = bs
  · obtain ⟨rfl, rfl⟩ := h
    go_enter Tryz.func161, Tryz.ntmps161
    go_wp2
    go_ret
    exact ⟨ret_bool (by rw [betR_id]), below_alloc0 (below_alloc0 (Below.refl _ _) _) _⟩
  · have hB := betR_cmp ai ap as_ bi bp bs h
    have hb : (!(ap == bp && (as_ == bs && (0 : Int) == 0))) = true := by
      simp only [beq_self_eq_true, Bool.and_true, Bool.not_eq_true', Bool.and_eq_false_iff, beq_eq_false_iff_ne]
      by_cases h1 : ap = bp
      · exact .inr fun e => h ⟨h1, e⟩
      · exact .inl h1
    have HB := Lib.hid hB
    clear h hB
    rw [hb] at hN
    have hg0 := hcall (heap_alloc_new w (bxSl ai ap as_ 202)) (below_alloc0 (Below.refl _ _) (bxSl bi bp bs 202))
    have hg1 := heap_alloc_new (w.alloc (bxSl ai ap as_ 202)) (bxSl bi bp bs 202)
    rw [size_alloc] at hg1
    go_enter Tryz.func161, Tryz.ntmps161
    go_wp2_with fail
    replace hg0 : (((w.alloc (bxSl ai ap as_ 202)).alloc (bxSl bi bp bs 202)).drew).heap[w.heap.size]? = _ := hg0
    replace hg1 : (((w.alloc (bxSl ai ap as_ 202)).alloc (bxSl bi bp bs 202)).drew).heap[w.heap.size + 1]? = _ := hg1
    refine Held.start (ops := opsheb) (S := fun w' => True) ordheb 7 (by kernel_rfl) rgheb.siz (by kernel_rfl) trivial (fun hHeld => ?_)
    iterate 4
      refine Held.tw rgheb ?_
      try simp only [Act.put, zA, zB, zC, zD, zE, zF]
    refine Held.only (k := 4) (i := 4) (by kernel_rfl) (by kernel_rfl) rfl (by kernel_rfl) (fun K hK => ?_)
    go_simp
    go_at_call 177
    with_reducible refine (cmpInts_calls _ _ 3 3 3 [ap, as_, 0] [bp, bs, 0] _ (row3 hg0) (row3 hg1) (by omega)).mono ?_
    rintro e w1 ⟨rfl, b⟩
    obtain ⟨r, hr⟩ : ∃ r, cmpL [ap, as_, 0] [bp, bs, 0] = r := ⟨_, rfl⟩
    rw [hr] at HB ⊢
    have HR := Lib.hid hr
    clear hr
    have D := below_call (below_alloc0 (below_alloc0 (Below.refl _ _) _) _).drew b
    clear b hg0 hg1
    refine hK.out _ _ (by (try dsimp only); (try trivial)) (fun hHeld => ?_)
    clear hK K
    try simp only [Act.put, zA, zB, zC, zD, zE, zF]
    iterate 2
      refine Held.tw rgheb ?_
      try simp only [Act.put, zA, zB, zC, zD, zE, zF]
    refine wpAnyH_done (by kernel_rfl) ?_ _
    go_wp2
    go_ret
    exact ⟨ret_bool HB.out.symm, D⟩
end Go.Proofs.YtbpfcjdjhponaaaGreat
namespace Go.Proofs.YtbpfcjdjhponaaaGreat
open Go.RowKit
open Sp
theorem frozenG {w : World} {g : Nat} {cs : Array Value} {T : TypeId} (h : w.heap[g]? = some (.cells cs T (0, 0))) (k : Nat) : w.frozen? ⟨g, k, none⟩ = false := by simp [World.frozen?, h]
theorem setAt6 {w : World} {g : Nat} {cs : Array Value} {T : TypeId} {fr : Nat × Nat} (h : w.heap[g]? = some (.cells cs T fr)) (k : Nat) (v : Value) : (w.setCell ⟨g, k, none⟩ v).heap[g]? = some (.cells (cs.setIfInBounds k v) T fr) := by
  simp [World.setCell, Array.getElem?_modify, h]
theorem set6Se {w : World} {g : Nat} {u : ByteArray} {i a p q : Int} {t : ByteArray} (h : w.heap[g]? = some (bxSe u i a p q t)) (u' : ByteArray) (i' a' p' q' : Int) (t' : ByteArray) : ((((((w.setCell ⟨g, 0, none⟩ (.string u')).setCell ⟨g, 1, none⟩ (.int .i64 i')).setCell ⟨g, 2, none⟩ (.int .i64 a')).setCell ⟨g, 3, none⟩ (.int .i64 p')).setCell ⟨g, 4, none⟩ (.int .i64 q')).setCell ⟨g, 5, none⟩ (.string t')).heap[g]? = some (bxSe u' i' a' p' q' t') := by
  exact setAt6 (setAt6 (setAt6 (setAt6 (setAt6 (setAt6 h 0 _) 1 _) 2 _) 3 _) 4 _) 5 _
theorem keep6 {w : World} {g k : Nat} {o : Option Obj} (h : w.heap[k]? = o) (hk : g ≠ k) (v0 v1 v2 v3 v4 v5 : Value) : ((((((w.setCell ⟨g, 0, none⟩ v0).setCell ⟨g, 1, none⟩ v1).setCell ⟨g, 2, none⟩ v2).setCell ⟨g, 3, none⟩ v3).setCell ⟨g, 4, none⟩ v4).setCell ⟨g, 5, none⟩ v5).heap[k]? = o := by
  simp [World.setCell, Array.getElem?_modify, h, hk]
theorem below6 {B : Nat} {a w : World} {g : Nat} (h : Below B a w) (hg : B ≤ g) (v0 v1 v2 v3 v4 v5 : Value) : Below B a ((((((w.setCell ⟨g, 0, none⟩ v0).setCell ⟨g, 1, none⟩ v1).setCell ⟨g, 2, none⟩ v2).setCell ⟨g, 3, none⟩ v3).setCell ⟨g, 4, none⟩ v4).setCell ⟨g, 5, none⟩ v5) :=
  bset (bset (bset (bset (bset (bset h g 0 v0 hg) g 1 v1 hg) g 2 v2 hg) g 3 v3 hg) g 4 v4 hg) g 5 v5 hg
theorem addZ6 (ad : Addr) : ad.add (0 * 6) = ad := by unfold Addr.add; split <;> simp_all
theorem row_cap {α : Type} {enc : α → List Value} {k : Nat} {w : World} {A : Option Addr} {n c : Nat} {xs : List α} (h : Row enc k w (.slice A n c) xs) : n ≤ c := by
  have hn := h.len_eq
  obtain ⟨A', c', he, h1, -⟩ := h
  injection he with e1 e2 e3
  omega
noncomputable def opsbba : Array Oper := Held.inBody 7 Tryz.f115.body
def ordbba : List Nat := [0, 2, 1, 3, 4]
set_option maxRecDepth 100000 in
theorem rgbba : Held.Reg opsbba ordbba 5 [0, 1] := ⟨by kernel_rfl, by kernel_rfl, by kernel_rfl⟩
set_option maxHeartbeats 16000000 in
set_option maxRecDepth 100000 in
theorem bBest_calls (n c : Nat) (A : Option Addr) (l : List Se) (w : World) (hl : Row enSe 6 w (.slice A n c) l) :
    Calls Tryz.prog 115 #[.slice A n c] w fun e w' => e = .returned (.tuple #[vaSe (bestL l).1, .bool (bestL l).2]) ∧ Below w.heap.size w w' := by
  have EA := Lib.hid hl.len_eq
  match l, hl with
  | [], hl =>
    have hn0 : n = 0 := EA.out
    subst hn0
    go_enter Tryz.func115, Tryz.ntmps115
    go_wp2_with fail
    exact bodyPost_ret (v := .tuple #[ag6 ⟨#[]⟩ 0 0 0 0 ⟨#[]⟩, .bool false]) (by simp [results, Tryz.results115, go_sem]) rfl ⟨rfl, below_alloc0 (Below.refl _ _) _⟩
  | ⟨u0, i0, (a0, p0, q0, t0)⟩ :: l, hl =>
    have hn : n = l.length + 1 := EA.out
    have hn63 : n ≤ 9223372036854775807 := by have := hl.len; simp only [List.length_cons] at this; omega
    obtain ⟨ad, rfl, c0, c1, c2, c3, c4, c5⟩ := rowSe hl 0 (by simp) u0 i0 a0 p0 q0 t0 rfl
    rw [addZ6] at c0 c1 c2 c3 c4 c5
    have hB := below_box (w := w) (bxSe ⟨#[]⟩ 0 0 0 0 ⟨#[]⟩)
    replace c0 := cell_below hB c0
    replace c1 := cell_below hB c1
    replace c2 := cell_below hB c2
    replace c3 := cell_below hB c3
    replace c4 := cell_below hB c4
    replace c5 := cell_below hB c5
    have hr := hl.drop enSe_len 1 (by omega)
    have hnc : n ≤ c := row_cap hl
    have x1 : (1 : Int) ≤ (n : Int) := by omega
    have x2 : (n : Int) ≤ (c : Int) := by omega
    have hne : ¬ (n : Int) = 0 := by omega
    have hrow : ∃ (X : Addr) (cr : Nat), Row enSe 6 w (.slice (some X) (n - 1) cr) l ∧ (c = 1 → X = ad ∧ cr = 0) ∧ (¬ c = 1 → X = ⟨ad.block, ad.off + 6, none⟩ ∧ cr = c - 1) := by
      by_cases hc : c = 1
      · rw [if_pos hc] at hr
        exact ⟨_, _, hr, fun _ => ⟨rfl, by omega⟩, fun h => absurd hc h⟩
      · rw [if_neg hc] at hr
        exact ⟨_, _, hr, fun h => absurd h hc, fun _ => ⟨by simp [Addr.add], rfl⟩⟩
    obtain ⟨X, cr, hr, hX1, hX2⟩ := hrow
    obtain ⟨m, hm⟩ : ∃ m, n - 1 = m := ⟨_, rfl⟩
    rw [hm] at hr
    have EM := Lib.hid hr.len_eq
    have hm63 : m ≤ 9223372036854775807 := by omega
    have HX1 := Lib.hid hX1
    have HX2 := Lib.hid hX2
    have HM := Lib.hid hm
    have HN := Lib.hid hn
    have hf : ((w.alloc (bxSe ⟨#[]⟩ 0 0 0 0 ⟨#[]⟩)).alloc (bxSe u0 i0 a0 p0 q0 t0)).heap[w.heap.size + 1]? = some (bxSe u0 i0 a0 p0 q0 t0) := by
      have := heap_alloc_new (w.alloc (bxSe ⟨#[]⟩ 0 0 0 0 ⟨#[]⟩)) (bxSe u0 i0 a0 p0 q0 t0)
      rwa [size_alloc] at this
    have hg := hcall (heap_alloc_new w (bxSe ⟨#[]⟩ 0 0 0 0 ⟨#[]⟩)) (below_alloc0 (Below.refl _ _) (bxSe u0 i0 a0 p0 q0 t0))
    have D := below_alloc0 (below_alloc0 (Below.refl w.heap.size w) (bxSe ⟨#[]⟩ 0 0 0 0 ⟨#[]⟩)) (bxSe u0 i0 a0 p0 q0 t0)
    obtain ⟨g, hgg⟩ : ∃ g, w.heap.size = g := ⟨_, rfl⟩
    obtain ⟨W0, hW0⟩ : ∃ W0, (w.alloc (bxSe ⟨#[]⟩ 0 0 0 0 ⟨#[]⟩)).alloc (bxSe u0 i0 a0 p0 q0 t0) = W0 := ⟨_, rfl⟩
    clear hn hnc hm hX1 hX2 hB
    go_enter Tryz.func115, Tryz.ntmps115
    go_wp2_with fail
    case' inl => obtain ⟨rfl, rfl⟩ := HX1.out (by first | assumption | omega)
    case' inr => obtain ⟨hXe, rfl⟩ := HX2.out (by first | assumption | omega); rw [← hXe]; clear hXe
    all_goals
      rw [HM.out]
      rw [hgg] at hf hg
      rw [hW0] at hf hg D
      try rw [hgg]
      try rw [hW0]
      clear hW0 HX1 HX2 c0 c1 c2 c3 c4 c5 HM x1 x2 hne
    all_goals
      go_loopw [17] (fun v17 wr => ∃ (k : Nat) (u : ByteArray) (i a p q : Int) (t : ByteArray), v17 = .int .i64 k ∧ k ≤ m ∧ Hid (bestSe ⟨u0, i0, (a0, p0, q0, t0)⟩ (l.take k) = ⟨u, i, (a, p, q, t)⟩) ∧ wr.heap[g + 1]? = some (bxSe u i a p q t) ∧ wr.heap[g]? = some (bxSe ⟨#[]⟩ 0 0 0 0 ⟨#[]⟩) ∧ Below w.heap.size w wr) (fun v17 _ => (m - intOf v17).toNat)
      case atStart => exact ⟨0, u0, i0, a0, p0, q0, t0, rfl, Nat.zero_le _, rfl, hf, hg, D⟩
      case round =>
        clear hf hg D
        obtain ⟨k, u, i, a, p, q, t, rfl, hk, HB, hf, hg, D⟩ := hrel
        by_cases hkm : k < m
        · have hkl : k < l.length := by have := EM.out; omega
          obtain ⟨⟨u', i', a', p', q', t'⟩, he⟩ : ∃ e, l[k] = e := ⟨_, rfl⟩
          obtain ⟨c0, c1, c2, c3, c4, c5⟩ := rowsSe (hr.below D) k hkl u' i' a' p' q' t' he
          have HE : Hid (bestSe ⟨u0, i0, (a0, p0, q0, t0)⟩ (l.take (k + 1)) = if betR i' p' q' i p q then ⟨u', i', (a', p', q', t')⟩ else ⟨u, i, (a, p, q, t)⟩) := by
            show _ = _
            rw [List.take_succ_eq_append_getElem hkl, bestSe_snoc, he, HB.out]
            rfl
          clear he
          have bb := below_box (w := wr) (bxSe u' i' a' p' q' t')
          have hh := heap_alloc_new wr (bxSe u' i' a' p' q' t')
          replace hf := hcall hf bb
          replace hg := hcall hg bb
          replace D := below_call D bb
          clear bb
          obtain ⟨f0, f1, f2, f3, f4, f5, fz⟩ := cellsSe u i a p q t hf
          obtain ⟨h0, h1, h2, h3, h4, h5, hz⟩ := cellsSe u' i' a' p' q' t' hh
          have x3 : (0 : Int) ≤ (k : Int) := by omega
          have x4 : (k : Int) < (m : Int) := by omega
          obtain ⟨s, hss⟩ : ∃ s, wr.heap.size = s := ⟨_, rfl⟩
          go_wp2_with fail
          rw [hss] at h0 h1 h2 h3 h4 h5 hh
          try rw [hss]
          replace hf : (wr.alloc (bxSe u' i' a' p' q' t')).drew.heap[g + 1]? = _ := hf
          replace hg : (wr.alloc (bxSe u' i' a' p' q' t')).drew.heap[g]? = _ := hg
          replace hh : (wr.alloc (bxSe u' i' a' p' q' t')).drew.heap[s]? = _ := hh
          replace D : Below w.heap.size w (wr.alloc (bxSe u' i' a' p' q' t')).drew := D.drew
          replace f0 : (wr.alloc (bxSe u' i' a' p' q' t')).drew.cell? _ = _ := f0
          replace f1 : (wr.alloc (bxSe u' i' a' p' q' t')).drew.cell? _ = _ := f1
          replace f2 : (wr.alloc (bxSe u' i' a' p' q' t')).drew.cell? _ = _ := f2
          replace f3 : (wr.alloc (bxSe u' i' a' p' q' t')).drew.cell? _ = _ := f3
          replace f4 : (wr.alloc (bxSe u' i' a' p' q' t')).drew.cell? _ = _ := f4
          replace f5 : (wr.alloc (bxSe u' i' a' p' q' t')).drew.cell? _ = _ := f5
          replace h0 : (wr.alloc (bxSe u' i' a' p' q' t')).drew.cell? _ = _ := h0
          replace h1 : (wr.alloc (bxSe u' i' a' p' q' t')).drew.cell? _ = _ := h1
          replace h2 : (wr.alloc (bxSe u' i' a' p' q' t')).drew.cell? _ = _ := h2
          replace h3 : (wr.alloc (bxSe u' i' a' p' q' t')).drew.cell? _ = _ := h3
          replace h4 : (wr.alloc (bxSe u' i' a' p' q' t')).drew.cell? _ = _ := h4
          replace h5 : (wr.alloc (bxSe u' i' a' p' q' t')).drew.cell? _ = _ := h5
          refine Held.start (ops := opsbba) (S := fun w' => w'.cell? ⟨g + 1, 0, none⟩ = some (.string u) ∧ w'.cell? ⟨g + 1, 1, none⟩ = some (.int .i64 i) ∧ w'.cell? ⟨g + 1, 2, none⟩ = some (.int .i64 a) ∧ w'.cell? ⟨g + 1, 3, none⟩ = some (.int .i64 p) ∧ w'.cell? ⟨g + 1, 4, none⟩ = some (.int .i64 q) ∧ w'.cell? ⟨g + 1, 5, none⟩ = some (.string t) ∧ w'.cell? ⟨s, 0, none⟩ = some (.string u') ∧ w'.cell? ⟨s, 1, none⟩ = some (.int .i64 i') ∧ w'.cell? ⟨s, 2, none⟩ = some (.int .i64 a') ∧ w'.cell? ⟨s, 3, none⟩ = some (.int .i64 p') ∧ w'.cell? ⟨s, 4, none⟩ = some (.int .i64 q') ∧ w'.cell? ⟨s, 5, none⟩ = some (.string t')) ordbba 5 (by kernel_rfl) rgbba.siz (by kernel_rfl) ⟨f0,f1,f2,f3,f4,f5,h0,h1,h2,h3,h4,h5⟩ (fun hHeld => ?_)
          iterate 2
            refine Held.tw rgbba ?_
            try simp only [Act.put, zA, zB, zC, zD, zE, zF]
          refine Held.only (k := 2) (i := 1) (by kernel_rfl) (by kernel_rfl) rfl (by kernel_rfl) (fun K hK => ?_)
          go_simp
          go_at_call 162
          with_reducible refine (bSlot_calls u' i' a' p' q' t' _).mono ?_
          rintro e y1 ⟨rfl, b⟩
          replace hf := hcall hf b
          replace hg := hcall hg b
          replace hh := hcall hh b
          replace D := below_call D b
          replace f0 := cell_below b f0
          replace f1 := cell_below b f1
          replace f2 := cell_below b f2
          replace f3 := cell_below b f3
          replace f4 := cell_below b f4
          replace f5 := cell_below b f5
          replace h0 := cell_below b h0
          replace h1 := cell_below b h1
          replace h2 := cell_below b h2
          replace h3 := cell_below b h3
          replace h4 := cell_below b h4
          replace h5 := cell_below b h5
          clear b
          refine hK.out _ _ (by (try dsimp only); (exact ⟨f0,f1,f2,f3,f4,f5,h0,h1,h2,h3,h4,h5⟩)) (fun hHeld => ?_)
          clear hK K
          try simp only [Act.put, zA, zB, zC, zD, zE, zF]
          refine Held.only (k := 3) (i := 3) (by kernel_rfl) (by kernel_rfl) rfl (by kernel_rfl) (fun K hK => ?_)
          go_simp
          go_at_call 162
          with_reducible refine (bSlot_calls u i a p q t _).mono ?_
          rintro e y2 ⟨rfl, b⟩
          replace hf := hcall hf b
          replace hg := hcall hg b
          replace hh := hcall hh b
          replace D := below_call D b
          replace f0 := cell_below b f0
          replace f1 := cell_below b f1
          replace f2 := cell_below b f2
          replace f3 := cell_below b f3
          replace f4 := cell_below b f4
          replace f5 := cell_below b f5
          replace h0 := cell_below b h0
          replace h1 := cell_below b h1
          replace h2 := cell_below b h2
          replace h3 := cell_below b h3
          replace h4 := cell_below b h4
          replace h5 := cell_below b h5
          clear b
          refine hK.out _ _ (by (try dsimp only); (exact ⟨f0,f1,f2,f3,f4,f5,h0,h1,h2,h3,h4,h5⟩)) (fun hHeld => ?_)
          clear hK K
          try simp only [Act.put, zA, zB, zC, zD, zE, zF]
          refine Held.only (k := 4) (i := 4) (by kernel_rfl) (by kernel_rfl) rfl (by kernel_rfl) (fun K hK => ?_)
          go_simp
          go_at_call 161
          with_reducible refine (hBetter_calls i' p' q' i p q _).mono ?_
          rintro e y3 ⟨rfl, b⟩
          replace hf := hcall hf b
          replace hg := hcall hg b
          replace hh := hcall hh b
          replace D := below_call D b
          replace f0 := cell_below b f0
          replace f1 := cell_below b f1
          replace f2 := cell_below b f2
          replace f3 := cell_below b f3
          replace f4 := cell_below b f4
          replace f5 := cell_below b f5
          replace h0 := cell_below b h0
          replace h1 := cell_below b h1
          replace h2 := cell_below b h2
          replace h3 := cell_below b h3
          replace h4 := cell_below b h4
          replace h5 := cell_below b h5
          clear b
          refine hK.out _ _ (by (try dsimp only); (exact ⟨f0,f1,f2,f3,f4,f5,h0,h1,h2,h3,h4,h5⟩)) (fun hHeld => ?_)
          clear hK K
          try simp only [Act.put, zA, zB, zC, zD, zE, zF]
          refine wpAnyH_done (by kernel_rfl) ?_ _
          obtain ⟨r, hr'⟩ : ∃ r, betR i' p' q' i p q = r := ⟨_, rfl⟩
          rw [hr'] at HE
          try rw [hr']
          clear hr'
          have fz : g + 1 < y3.heap.size := (Array.getElem?_eq_some_iff.1 hf).1
          have fr := frozenG hf
          cases r
          · go_wp2
            exact ⟨⟨k + 1, u, i, a, p, q, t, by go_num, by omega, HE, hf, hg, D⟩, by simp [intOf]; omega⟩
          · go_wp2_with fail
            exact ⟨⟨k + 1, u', i', a', p', q', t', by go_num, by omega, HE, set6Se hf u' i' a' p' q' t', keep6 hg (by omega) _ _ _ _ _ _, below6 D (by omega) _ _ _ _ _ _⟩, by simp [intOf]; omega⟩
        · have hkm2 : k = m := by omega
          subst hkm2
          obtain ⟨f0, f1, f2, f3, f4, f5, fz⟩ := cellsSe u i a p q t hf
          obtain ⟨g0, g1, g2, g3, g4, g5, gz⟩ := cellsSe _ _ _ _ _ _ hg
          have fr := frozenG hg
          have HF : Hid ((bestL (⟨u0, i0, (a0, p0, q0, t0)⟩ :: l)) = (⟨u, i, (a, p, q, t)⟩, true)) := by
            show _ = _
            have := HB.out
            rw [List.take_of_length_le (Nat.le_of_eq EM.out.symm)] at this
            unfold bestL
            simp only [this]
          go_wp2_with fail
          exact bodyPost_ret (v := .tuple #[ag6 u i a p q t, .bool true]) (by simp [results, Tryz.results115, go_sem, World.cell?, World.setCell, Array.getElem?_modify, hg]) rfl ⟨by rw [HF.out], below6 D (by omega) _ _ _ _ _ _⟩
end Go.Proofs.YtbpfcjdjhponaaaGreat
namespace Go.Proofs.YtbpfcjdjhponaaaGreat
open Go.RowKit
open Sp
theorem keep1 {w : World} {g k i : Nat} {v : Value} {o : Option Obj} (h : w.heap[k]? = o) (hk : g ≠ k) : (w.setCell ⟨g, i, none⟩ v).heap[k]? = o := by
  simp [World.setCell, Array.getElem?_modify, hk, h]
abbrev bxPv (a p q : Int) (t : ByteArray) : Obj := .cells #[.int .i64 a, .int .i64 p, .int .i64 q, .string t] 27
theorem cellsPv {W : World} {g : Nat} {a p q : Int} {t : ByteArray} (h : W.heap[g]? = some (bxPv a p q t)) : W.cell? ⟨g, 0, none⟩ = some (.int .i64 a) ∧ W.cell? ⟨g, 1, none⟩ = some (.int .i64 p) ∧ W.cell? ⟨g, 2, none⟩ = some (.int .i64 q) ∧ W.cell? ⟨g, 3, none⟩ = some (.string t) ∧ g < W.heap.size :=
  ⟨by simp [World.cell?, h], by simp [World.cell?, h], by simp [World.cell?, h], by simp [World.cell?, h], (Array.getElem?_eq_some_iff.1 h).1⟩
theorem below4 {B : Nat} {a w : World} {g : Nat} (h : Below B a w) (hg : B ≤ g) (v0 v1 v2 v3 : Value) : Below B a ((((w.setCell ⟨g, 0, none⟩ v0).setCell ⟨g, 1, none⟩ v1).setCell ⟨g, 2, none⟩ v2).setCell ⟨g, 3, none⟩ v3) :=
  bset (bset (bset (bset h g 0 v0 hg) g 1 v1 hg) g 2 v2 hg) g 3 v3 hg
set_option maxHeartbeats 16000000 in
set_option maxRecDepth 100000 in
theorem bValue_calls (n c : Nat) (A : Option Addr) (l : List Se) (a p q : Int) (t : ByteArray) (b : Bool) (w : World) (hl : Row enSe 6 w (.slice A n c) l) (hv : Hid (viewL l = ((a, p, q, t), b))) :
    Calls Tryz.prog 63 #[.slice A n c] w fun e w' => e = .returned (.tuple #[.agg #[.int .i64 a, .int .i64 p, .int .i64 q, .string t], .bool b]) ∧ Below w.heap.size w w' := by
  have EA := Lib.hid hl.len_eq
  have hn63 : n ≤ 9223372036854775807 := by have := hl.len; have := EA.out; omega
  have hB := below_box (w := w) (bxPv 0 0 0 ⟨#[]⟩)
  have hg := heap_alloc_new w (bxPv 0 0 0 ⟨#[]⟩)
  have hl1 := hl.below hB
  obtain ⟨g, hgg⟩ : ∃ g, w.heap.size = g := ⟨_, rfl⟩
  obtain ⟨W0, hW0⟩ : ∃ W0, w.alloc (bxPv 0 0 0 ⟨#[]⟩) = W0 := ⟨_, rfl⟩
  go_enter Tryz.func63, Tryz.ntmps63
  go_wp2_with fail
  rw [hW0] at hl1 hg hB
  rw [hgg] at hg
  try rw [hgg]
  try rw [hW0]
  clear hW0
  go_at_call 115
  with_reducible refine (bBest_calls n c A l _ hl1).mono ?_
  rintro e w1 ⟨rfl, b1⟩
  obtain ⟨⟨⟨u1, i1, a1, p1, q1, t1⟩, y⟩, hy⟩ : ∃ r, bestL l = r := ⟨_, rfl⟩
  have HV : Hid (showL a1 l = a) ∧ Hid (p1 = p) ∧ Hid (q1 = q) ∧ Hid (t1 = t) ∧ Hid (y = b) := by
    have := hv.out
    unfold viewL at this
    rw [hy] at this
    simp only [Prod.mk.injEq] at this
    obtain ⟨⟨h1, h2, h3, h4⟩, h5⟩ := this
    exact ⟨h1, h2, h3, h4, h5⟩
  obtain ⟨HA, HP, HQ, HT, HY⟩ := HV
  rw [hy]
  clear hy
  have D := below_call hB b1
  replace hg := hcall hg b1
  clear b1
  have hs := heap_alloc_new w1 (bxSe u1 i1 a1 p1 q1 t1)
  have bs := below_box (w := w1) (bxSe u1 i1 a1 p1 q1 t1)
  have hz := heap_alloc_new (w1.alloc (bxSe u1 i1 a1 p1 q1 t1)) (bxPv a1 p1 q1 t1)
  have bz := below_box (w := w1.alloc (bxSe u1 i1 a1 p1 q1 t1)) (bxPv a1 p1 q1 t1)
  rw [size_alloc] at hz
  have hgz := (Array.getElem?_eq_some_iff.1 hg).1
  replace hg := hcall (hcall hg bs) bz
  replace D := below_call (below_call D bs) bz
  obtain ⟨s0, s1, s2, s3, s4, s5, sz⟩ := cellsSe u1 i1 a1 p1 q1 t1 hs
  clear bs bz hs
  obtain ⟨s, hss⟩ : ∃ s, w1.heap.size = s := ⟨_, rfl⟩
  obtain ⟨W1, hW1⟩ : ∃ W1, (w1.alloc (bxSe u1 i1 a1 p1 q1 t1)).alloc (bxPv a1 p1 q1 t1) = W1 := ⟨_, rfl⟩
  have hgs : g < s := by omega
  go_wp2_with fail
  rw [hss] at hz
  rw [hW1] at hz hg D
  try rw [hss]
  try rw [hW1]
  clear hW1 hl1 s0 s1 s2 s3 s4 s5 sz hgz
  go_loopw [18] (fun v18 wr => ∃ (k : Nat) (m : Int), v18 = .int .i64 k ∧ k ≤ n ∧ Hid (showL a1 (l.take k) = m) ∧ wr.heap[s + 1]? = some (bxPv m p1 q1 t1) ∧ wr.heap[g]? = some (bxPv 0 0 0 ⟨#[]⟩) ∧ Below w.heap.size w wr) (fun v18 _ => (n - intOf v18).toNat)
  case atStart => exact ⟨0, a1, rfl, Nat.zero_le _, rfl, hz, hg, D⟩
  case round =>
    clear hz hg D
    obtain ⟨k, m, rfl, hk, HM, hz, hg, D⟩ := hrel
    by_cases hkn : k < n
    · have hkl : k < l.length := by have := EA.out; omega
      obtain ⟨⟨u', i', a', p', q', t'⟩, he⟩ : ∃ e, l[k] = e := ⟨_, rfl⟩
      obtain ⟨ad, rfl, c0, c1, c2, c3, c4, c5⟩ := rowSe (hl.below D) k hkl u' i' a' p' q' t' he
      have HM2 : Hid (showL a1 (l.take (k + 1)) = max m a') := by
        show _ = _
        rw [List.take_succ_eq_append_getElem hkl, showL_snoc, HM.out, he]
      clear he
      obtain ⟨f0, f1, f2, f3, fz⟩ := cellsPv hz
      have fr := frozenG hz
      have x3 : (0 : Int) ≤ (k : Int) := by omega
      have x4 : (k : Int) < (n : Int) := by omega
      have bb := below_box (w := wr) (bxSe u' i' a' p' q' t')
      have hh := heap_alloc_new wr (bxSe u' i' a' p' q' t')
      replace c0 := c0
      have hz1 := hcall hz bb
      obtain ⟨h0, h1, h2, h3, h4, h5, hhz⟩ := cellsSe u' i' a' p' q' t' hh
      obtain ⟨f0', f1', f2', f3', fz'⟩ := cellsPv hz1
      have fr' := frozenG hz1
      have hg1 := hcall hg bb
      have D1 := below_call D bb
      go_wp2_with fail
      exact ⟨⟨k + 1, max m a', by go_num, by omega, HM2, halloc (setAt6 hz 0 _) _, halloc (keep1 hg (by omega)) _, below_alloc0 (bset D (s + 1) 0 _ (by omega)) _⟩, by simp [intOf]; omega⟩
    · have hkn2 : k = n := by omega
      subst hkn2
      obtain ⟨f0, f1, f2, f3, fz⟩ := cellsPv hz
      obtain ⟨g0, g1, g2, g3, gz⟩ := cellsPv hg
      have fr := frozenG hg
      have HF : Hid (m = a) := by
        show _ = _
        rw [← HA.out, ← HM.out, List.take_of_length_le (Nat.le_of_eq EA.out.symm)]
      go_wp2_with fail
      exact bodyPost_ret (v := .tuple #[.agg #[.int .i64 m, .int .i64 p1, .int .i64 q1, .string t1], .bool y]) (by simp [results, Tryz.results63, go_sem, World.cell?, World.setCell, Array.getElem?_modify, hg]) rfl ⟨by rw [HF.out, HP.out, HQ.out, HT.out, HY.out], below4 D (by omega) _ _ _ _⟩
end Go.Proofs.YtbpfcjdjhponaaaGreat
namespace Go.Proofs.YtbpfcjdjhponaaaGreat
open Go.RowKit
open Sp
abbrev vaIt (x : It) : Value := .agg #[.bool x.to, .bool x.fr, .bool x.ou, .bool x.in_, .bool x.bl]
set_option maxHeartbeats 8000000 in
set_option maxRecDepth 100000 in
theorem eqlIt (a_ b_ c_ d_ e_ a_' b_' c_' d_' e_' : Bool) (W : World) :
    (binOp .eql 103 (.agg #[.bool a_, .bool b_, .bool c_, .bool d_, .bool e_]) (.agg #[.bool a_', .bool b_', .bool c_', .bool d_', .bool e_'])).run Tryz.prog W = .ok (.bool ((a_ == a_' && (b_ == b_' && (c_ == c_' && (d_ == d_' && (e_ == e_'))))))) W := by
  cases h0 : a_ == a_'
  · simp [go_sem, h0]
  cases h1 : b_ == b_'
  · simp [go_sem, h0, h1]
  cases h2 : c_ == c_'
  · simp [go_sem, h0, h1, h2]
  cases h3 : d_ == d_'
  · simp [go_sem, h0, h1, h2, h3]
  cases h4 : e_ == e_' <;> simp [go_sem, h0, h1, h2, h3, h4]
theorem eqvIt (a_ b_ c_ d_ e_ a_' b_' c_' d_' e_' : Bool) : (a_ == a_' && (b_ == b_' && (c_ == c_' && (d_ == d_' && (e_ == e_'))))) = decide ((⟨a_, b_, c_, d_, e_⟩ : It) = ⟨a_', b_', c_', d_', e_'⟩) := by
  rw [Bool.eq_iff_iff, decide_eq_true_eq]
  simp only [Bool.and_eq_true, beq_iff_eq, It.mk.injEq]
end Go.Proofs.YtbpfcjdjhponaaaGreat
namespace Go.Proofs.YtbpfcjdjhponaaaGreat
open Go.RowKit
open Sp
abbrev agI (a b c d e : Bool) : Value := .agg #[.bool a, .bool b, .bool c, .bool d, .bool e]
abbrev agP (a b c d e a' b' c' d' e' : Bool) : Value := .agg #[.bool a, .bool b, .bool c, .bool d, .bool e, .bool a', .bool b', .bool c', .bool d', .bool e']
set_option maxHeartbeats 8000000 in
set_option maxRecDepth 100000 in
theorem blocked_calls (a b c d e a' b' c' d' e' : Bool) (w : World) :
    Calls Tryz.prog 127 #[agP a b c d e a' b' c' d' e'] w fun x w' => x = .returned (.bool (e || e')) ∧ Below w.heap.size w w' := by
  have hB := below_box (w := w) (.cells #[.bool a, .bool b, .bool c, .bool d, .bool e, .bool a', .bool b', .bool c', .bool d', .bool e'] 169)
  go_enter Tryz.func127, Tryz.ntmps127
  cases e <;> cases e'
  all_goals go_wp2
  all_goals go_ret
  all_goals exact ⟨rfl, hB⟩
set_option maxHeartbeats 8000000 in
set_option maxRecDepth 100000 in
theorem refMayI_calls (a b c d e a' b' c' d' e' : Bool) (w : World) :
    Calls Tryz.prog 84 #[agI a b c d e, agI a' b' c' d' e'] w fun x w' => x = .returned (.bool (fitI ⟨a, b, c, d, e⟩ ⟨a', b', c', d', e'⟩)) ∧ Below w.heap.size w w' := by
  go_enter Tryz.func84, Tryz.ntmps84
  go_wp2
  all_goals (try go_ret)
  all_goals (refine ⟨ret_bool ?_, by first | assumption | exact below_alloc0 (below_box _) _⟩)
  all_goals (unfold fitI)
  all_goals (simp_all)
set_option maxHeartbeats 8000000 in
set_option maxRecDepth 100000 in
theorem fits_calls (a b c d e a' b' c' d' e' : Bool) (w : World) :
    Calls Tryz.prog 148 #[agP a b c d e a' b' c' d' e'] w fun x w' => x = .returned (.bool (fitI ⟨a, b, c, d, e⟩ ⟨a', b', c', d', e'⟩)) ∧ Below w.heap.size w w' := by
  go_enter Tryz.func148, Tryz.ntmps148
  go_wp2_with fail
  go_region
  all_goals go_wp2
  all_goals (try go_ret)
  all_goals (refine ⟨ret_bool ?_, ?_⟩)
  all_goals (first | exact (below_alloc0 (below_alloc0 (below_box _) _) _).drew | exact below_alloc0 (below_alloc0 (below_box _) _) _ | skip)
  all_goals (unfold fitI)
  all_goals (simp_all)
set_option maxHeartbeats 8000000 in
set_option maxRecDepth 100000 in
theorem MayI_calls (a b c d e a' b' c' d' e' : Bool) (w : World) :
    Calls Tryz.prog 140 #[agI a b c d e, agI a' b' c' d' e'] w fun x w' => x = .returned (.bool (fitI ⟨a, b, c, d, e⟩ ⟨a', b', c', d', e'⟩)) ∧ Below w.heap.size w w' := by
  have hB := below_alloc0 (below_box (w := w) (.cells #[.bool a, .bool b, .bool c, .bool d, .bool e] 103)) (.cells #[.bool a', .bool b', .bool c', .bool d', .bool e'] 103)
  obtain ⟨r, hr⟩ : ∃ r, fitI ⟨a, b, c, d, e⟩ ⟨a', b', c', d', e'⟩ = r := ⟨_, rfl⟩
  rw [hr]
  have HR := Lib.hid hr
  clear hr
  go_enter Tryz.func140, Tryz.ntmps140
  go_wp2_with fail
  with_reducible refine (re_ (fits_calls a b c d e a' b' c' d' e' _) (ret_bool HR.out)).mono ?_
  rintro x w1 ⟨rfl, b1⟩
  go_wp2
  go_ret
  exact ⟨rfl, below_call hB b1⟩
set_option maxHeartbeats 8000000 in
set_option maxRecDepth 100000 in
theorem EmptyI_calls (a b c d e : Bool) (w : World) :
    Calls Tryz.prog 100 #[agI a b c d e] w fun x w' => x = .returned (.bool (emptyI ⟨a, b, c, d, e⟩)) ∧ Below w.heap.size w w' := by
  have hB := below_box (w := w) (.cells #[.bool a, .bool b, .bool c, .bool d, .bool e] 103)
  have hc := eqlIt a b c d e false false false false false
  rw [eqvIt] at hc
  go_enter Tryz.func100, Tryz.ntmps100
  go_wp2
  go_ret
  exact ⟨ret_bool (by cases a <;> cases b <;> cases c <;> cases d <;> cases e <;> rfl), hB⟩
set_option maxHeartbeats 8000000 in
set_option maxRecDepth 100000 in
theorem refEmptyI_calls (a b c d e : Bool) (w : World) :
    Calls Tryz.prog 85 #[agI a b c d e] w fun x w' => x = .returned (.bool (emptyI ⟨a, b, c, d, e⟩)) ∧ Below w.heap.size w w' := by
  have hB := below_box (w := w) (.cells #[.bool a, .bool b, .bool c, .bool d, .bool e] 103)
  have hc := eqlIt a b c d e false false false false false
  rw [eqvIt] at hc
  go_enter Tryz.func85, Tryz.ntmps85
  go_wp2
  go_ret
  exact ⟨ret_bool (by cases a <;> cases b <;> cases c <;> cases d <;> cases e <;> rfl), hB⟩
set_option maxHeartbeats 8000000 in
set_option maxRecDepth 100000 in
theorem SeesI_calls (a b c d e a' b' c' d' e' : Bool) (w : World) :
    Calls Tryz.prog 77 #[agI a b c d e, agI a' b' c' d' e'] w fun x w' => x = .returned (.bool (seesI ⟨a, b, c, d, e⟩ ⟨a', b', c', d', e'⟩)) ∧ Below w.heap.size w w' := by
  unfold seesI
  cases a with
  | false =>
    go_enter Tryz.func77, Tryz.ntmps77
    go_wp2
    go_ret
    exact ⟨rfl, below_alloc0 (below_box _) _⟩
  | true =>
    obtain ⟨r, hr⟩ : ∃ r, (e || e') = r := ⟨_, rfl⟩
    have hR : (!e && !e') = !r := by rw [← hr]; cases e <;> cases e' <;> rfl
    have HR := Lib.hid hr
    rw [show (true && (!e && !e')) = !r by rw [hR]; rfl]
    clear hr hR
    go_enter Tryz.func77, Tryz.ntmps77
    go_wp2_with fail
    with_reducible refine (re_ (blocked_calls true b c d e a' b' c' d' e' _) (ret_bool HR.out)).mono ?_
    rintro x w1 ⟨rfl, b1⟩
    go_wp2
    go_ret
    exact ⟨rfl, below_call (below_alloc0 (below_box _) _) b1⟩
end Go.Proofs.YtbpfcjdjhponaaaGreat
namespace Go.Proofs.YtbpfcjdjhponaaaGreat
open Go.RowKit
open Sp
abbrev bxP (a b c d e a' b' c' d' e' : Bool) : Obj := .cells #[.bool a, .bool b, .bool c, .bool d, .bool e, .bool a', .bool b', .bool c', .bool d', .bool e'] 169
theorem popen {W : World} {k : Nat} {a b c d e a' b' c' d' e' : Bool} (h : W.heap[k]? = some (bxP a b c d e a' b' c' d' e')) :
    (W.cell? ⟨k, 0, none⟩ = some (.bool a) ∧ W.cell? ⟨k, 1, none⟩ = some (.bool b) ∧ W.cell? ⟨k, 2, none⟩ = some (.bool c) ∧ W.cell? ⟨k, 3, none⟩ = some (.bool d) ∧ W.cell? ⟨k, 4, none⟩ = some (.bool e) ∧ W.cell? ⟨k, 5, none⟩ = some (.bool a') ∧ W.cell? ⟨k, 6, none⟩ = some (.bool b') ∧ W.cell? ⟨k, 7, none⟩ = some (.bool c') ∧ W.cell? ⟨k, 8, none⟩ = some (.bool d') ∧ W.cell? ⟨k, 9, none⟩ = some (.bool e')) ∧
    (W.frozen? ⟨k, 0, none⟩ = false ∧ W.frozen? ⟨k, 1, none⟩ = false ∧ W.frozen? ⟨k, 2, none⟩ = false ∧ W.frozen? ⟨k, 3, none⟩ = false ∧ W.frozen? ⟨k, 4, none⟩ = false ∧ W.frozen? ⟨k, 5, none⟩ = false ∧ W.frozen? ⟨k, 6, none⟩ = false ∧ W.frozen? ⟨k, 7, none⟩ = false ∧ W.frozen? ⟨k, 8, none⟩ = false ∧ W.frozen? ⟨k, 9, none⟩ = false) ∧ k < W.heap.size :=
  ⟨⟨by simp [World.cell?, h], by simp [World.cell?, h], by simp [World.cell?, h], by simp [World.cell?, h], by simp [World.cell?, h], by simp [World.cell?, h], by simp [World.cell?, h], by simp [World.cell?, h], by simp [World.cell?, h], by simp [World.cell?, h]⟩, ⟨by simp [World.frozen?, h], by simp [World.frozen?, h], by simp [World.frozen?, h], by simp [World.frozen?, h], by simp [World.frozen?, h], by simp [World.frozen?, h], by simp [World.frozen?, h], by simp [World.frozen?, h], by simp [World.frozen?, h], by simp [World.frozen?, h]⟩, (Array.getElem?_eq_some_iff.1 h).1⟩
set_option maxHeartbeats 8000000 in
set_option maxRecDepth 100000 in
theorem in_calls (a b c d e a' b' c' d' e' : Bool) (x y : Bool) (g : Nat) (w : World) (hg : w.heap[g]? = some (bxP a b c d e a' b' c' d' e')) :
    Calls Tryz.prog 172 #[.pointer (some ⟨g, 0, none⟩), .bool x, .bool y] w fun r w' => r = .returned (.tuple #[]) ∧ w'.heap[g]? = some (bxP x b y d e a' x c' y e') ∧ Below g w w' := by
  obtain ⟨⟨k0, k1, k2, k3, k4, k5, k6, k7, k8, k9⟩, ⟨f0, f1, f2, f3, f4, f5, f6, f7, f8, f9⟩, kz⟩ := popen hg
  go_enter Tryz.func172, Tryz.ntmps172
  go_wp2
  refine bodyPost_end (by simp [results, Tryz.results172]) rfl ⟨rfl, ?_, ?_⟩
  · simp [World.setCell, Array.getElem?_modify, hg]
  · exact (bset (bset (bset (bset (Below.refl g w) g 0 _ (Nat.le_refl _)) g 2 _ (Nat.le_refl _)) g 6 _ (Nat.le_refl _)) g 8 _ (Nat.le_refl _))
set_option maxHeartbeats 8000000 in
set_option maxRecDepth 100000 in
theorem from_calls (a b c d e a' b' c' d' e' : Bool) (x y : Bool) (g : Nat) (w : World) (hg : w.heap[g]? = some (bxP a b c d e a' b' c' d' e')) :
    Calls Tryz.prog 173 #[.pointer (some ⟨g, 0, none⟩), .bool x, .bool y] w fun r w' => r = .returned (.tuple #[]) ∧ w'.heap[g]? = some (bxP a x c y e x b' y d' e') ∧ Below g w w' := by
  obtain ⟨⟨k0, k1, k2, k3, k4, k5, k6, k7, k8, k9⟩, ⟨f0, f1, f2, f3, f4, f5, f6, f7, f8, f9⟩, kz⟩ := popen hg
  go_enter Tryz.func173, Tryz.ntmps173
  go_wp2
  refine bodyPost_end (by simp [results, Tryz.results173]) rfl ⟨rfl, ?_, ?_⟩
  · simp [World.setCell, Array.getElem?_modify, hg]
  · exact (bset (bset (bset (bset (Below.refl g w) g 1 _ (Nat.le_refl _)) g 3 _ (Nat.le_refl _)) g 5 _ (Nat.le_refl _)) g 7 _ (Nat.le_refl _))
abbrev bx2 (r : It × It × Int) : Obj := bxP r.1.to r.1.fr r.1.ou r.1.in_ r.1.bl r.2.1.to r.2.1.fr r.2.1.ou r.2.1.in_ r.2.1.bl
def doI (k : Nat) (a b : It) : It × It × Int :=
  if k = 1 then (if a.bl || b.bl then (a, b, 8) else if a.to || a.ou then (a, b, 7) else (⟨false, a.fr, true, a.in_, a.bl⟩, ⟨b.to, false, b.ou, true, b.bl⟩, 0))
  else if k = 2 then (if a.bl || b.bl then (a, b, 8) else if a.in_ then (⟨a.to, true, a.ou, false, a.bl⟩, ⟨true, b.fr, false, b.in_, b.bl⟩, 0) else (a, b, 7))
  else if k = 3 then (if a.to || a.ou then (⟨false, a.fr, false, a.in_, a.bl⟩, ⟨b.to, false, b.ou, false, b.bl⟩, 0) else (a, b, 7))
  else if k = 4 then (if a.fr || a.in_ then (⟨a.to, false, a.ou, false, a.bl⟩, ⟨false, b.fr, false, b.in_, b.bl⟩, 0) else (a, b, 7))
  else if k = 5 then (if a.bl then (a, b, 7) else (⟨a.to, a.fr, a.ou, a.in_, true⟩, b, 0))
  else (if a.bl then (⟨a.to, a.fr, a.ou, a.in_, false⟩, b, 0) else (a, b, 7))
theorem doI_fit {a b : It} (h : fitI a b = true) (k : Nat) (h1 : 1 ≤ k) (h6 : k ≤ 6) : actI a b (k : Int) = doI k a b := by
  obtain ⟨a1, a2, a3, a4, a5⟩ := a
  obtain ⟨b1, b2, b3, b4, b5⟩ := b
  unfold actI
  rw [if_neg (by rw [h]; decide)]
  unfold fitI at h
  obtain rfl | rfl | rfl | rfl | rfl | rfl : k = 1 ∨ k = 2 ∨ k = 3 ∨ k = 4 ∨ k = 5 ∨ k = 6 := by omega
  all_goals (unfold doI; cases a1 <;> cases a2 <;> cases a3 <;> cases a4 <;> cases b1 <;> cases b2 <;> simp_all)
set_option maxHeartbeats 8000000 in
set_option maxRecDepth 100000 in
theorem sub1_calls (a b c d e a' b' c' d' e' : Bool) (g : Nat) (w : World) (hg : w.heap[g]? = some (bxP a b c d e a' b' c' d' e')) :
    Calls Tryz.prog 142 #[.pointer (some ⟨g, 0, none⟩)] w fun r w' => r = .returned (.int .i64 (doI 1 ⟨a, b, c, d, e⟩ ⟨a', b', c', d', e'⟩).2.2) ∧ w'.heap[g]? = some (bx2 (doI 1 ⟨a, b, c, d, e⟩ ⟨a', b', c', d', e'⟩)) ∧ Below g w w' := by
  obtain ⟨⟨k0, k1, k2, k3, k4, k5, k6, k7, k8, k9⟩, ⟨f0, f1, f2, f3, f4, f5, f6, f7, f8, f9⟩, kz⟩ := popen hg
  cases e <;> cases e' <;> cases a <;> cases c
  all_goals (go_enter Tryz.func142, Tryz.ntmps142)
  all_goals (go_wp2_with (first | (go_at_call 127; refine (blocked_calls _ _ _ _ _ _ _ _ _ _ _).mono ?_; rintro r w1 ⟨rfl, b1⟩; replace hg := hcall hg b1; (obtain ⟨⟨j0, j1, j2, j3, j4, j5, j6, j7, j8, j9⟩, ⟨l0, l1, l2, l3, l4, l5, l6, l7, l8, l9⟩, jz⟩ := popen hg); have hB : Below g w w1 := b1.mono (Nat.le_of_lt kz); clear b1) | (go_at_call 172; refine (in_calls _ _ _ _ _ _ _ _ _ _ false true g _ hg).mono ?_; rintro r w2 ⟨rfl, hg2, hB2⟩)))
  all_goals (try go_ret)
  all_goals (first | exact ⟨rfl, hg2, hB.trans hB2⟩ | exact ⟨rfl, hg, hB⟩)
set_option maxHeartbeats 8000000 in
set_option maxRecDepth 100000 in
theorem sub2_calls (a b c d e a' b' c' d' e' : Bool) (g : Nat) (w : World) (hg : w.heap[g]? = some (bxP a b c d e a' b' c' d' e')) :
    Calls Tryz.prog 143 #[.pointer (some ⟨g, 0, none⟩)] w fun r w' => r = .returned (.int .i64 (doI 2 ⟨a, b, c, d, e⟩ ⟨a', b', c', d', e'⟩).2.2) ∧ w'.heap[g]? = some (bx2 (doI 2 ⟨a, b, c, d, e⟩ ⟨a', b', c', d', e'⟩)) ∧ Below g w w' := by
  obtain ⟨⟨k0, k1, k2, k3, k4, k5, k6, k7, k8, k9⟩, ⟨f0, f1, f2, f3, f4, f5, f6, f7, f8, f9⟩, kz⟩ := popen hg
  cases e <;> cases e' <;> cases d
  all_goals (go_enter Tryz.func143, Tryz.ntmps143)
  all_goals (go_wp2_with (first | (go_at_call 127; refine (blocked_calls _ _ _ _ _ _ _ _ _ _ _).mono ?_; rintro r w1 ⟨rfl, b1⟩; replace hg := hcall hg b1; (obtain ⟨⟨j0, j1, j2, j3, j4, j5, j6, j7, j8, j9⟩, ⟨l0, l1, l2, l3, l4, l5, l6, l7, l8, l9⟩, jz⟩ := popen hg); have hB : Below g w w1 := b1.mono (Nat.le_of_lt kz); clear b1) | (go_at_call 173; refine (from_calls _ _ _ _ _ _ _ _ _ _ true false g _ hg).mono ?_; rintro r w2 ⟨rfl, hg2, hB2⟩)))
  all_goals (try go_ret)
  all_goals (first | exact ⟨rfl, hg2, hB.trans hB2⟩ | exact ⟨rfl, hg, hB⟩)
set_option maxHeartbeats 8000000 in
set_option maxRecDepth 100000 in
theorem sub3_calls (a b c d e a' b' c' d' e' : Bool) (g : Nat) (w : World) (hg : w.heap[g]? = some (bxP a b c d e a' b' c' d' e')) :
    Calls Tryz.prog 144 #[.pointer (some ⟨g, 0, none⟩)] w fun r w' => r = .returned (.int .i64 (doI 3 ⟨a, b, c, d, e⟩ ⟨a', b', c', d', e'⟩).2.2) ∧ w'.heap[g]? = some (bx2 (doI 3 ⟨a, b, c, d, e⟩ ⟨a', b', c', d', e'⟩)) ∧ Below g w w' := by
  obtain ⟨⟨k0, k1, k2, k3, k4, k5, k6, k7, k8, k9⟩, ⟨f0, f1, f2, f3, f4, f5, f6, f7, f8, f9⟩, kz⟩ := popen hg
  cases a <;> cases c
  all_goals (go_enter Tryz.func144, Tryz.ntmps144)
  all_goals (go_wp2_with (go_at_call 172; refine (in_calls _ _ _ _ _ _ _ _ _ _ false false g _ hg).mono ?_; rintro r w2 ⟨rfl, hg2, hB2⟩))
  all_goals (try go_ret)
  all_goals (first | exact ⟨rfl, hg2, hB2⟩ | exact ⟨rfl, hg, Below.refl _ _⟩)
set_option maxHeartbeats 8000000 in
set_option maxRecDepth 100000 in
theorem sub4_calls (a b c d e a' b' c' d' e' : Bool) (g : Nat) (w : World) (hg : w.heap[g]? = some (bxP a b c d e a' b' c' d' e')) :
    Calls Tryz.prog 145 #[.pointer (some ⟨g, 0, none⟩)] w fun r w' => r = .returned (.int .i64 (doI 4 ⟨a, b, c, d, e⟩ ⟨a', b', c', d', e'⟩).2.2) ∧ w'.heap[g]? = some (bx2 (doI 4 ⟨a, b, c, d, e⟩ ⟨a', b', c', d', e'⟩)) ∧ Below g w w' := by
  obtain ⟨⟨k0, k1, k2, k3, k4, k5, k6, k7, k8, k9⟩, ⟨f0, f1, f2, f3, f4, f5, f6, f7, f8, f9⟩, kz⟩ := popen hg
  cases b <;> cases d
  all_goals (go_enter Tryz.func145, Tryz.ntmps145)
  all_goals (go_wp2_with (go_at_call 173; refine (from_calls _ _ _ _ _ _ _ _ _ _ false false g _ hg).mono ?_; rintro r w2 ⟨rfl, hg2, hB2⟩))
  all_goals (try go_ret)
  all_goals (first | exact ⟨rfl, hg2, hB2⟩ | exact ⟨rfl, hg, Below.refl _ _⟩)
set_option maxHeartbeats 8000000 in
set_option maxRecDepth 100000 in
theorem sub5_calls (a b c d e a' b' c' d' e' : Bool) (g : Nat) (w : World) (hg : w.heap[g]? = some (bxP a b c d e a' b' c' d' e')) :
    Calls Tryz.prog 146 #[.pointer (some ⟨g, 0, none⟩)] w fun r w' => r = .returned (.int .i64 (doI 5 ⟨a, b, c, d, e⟩ ⟨a', b', c', d', e'⟩).2.2) ∧ w'.heap[g]? = some (bx2 (doI 5 ⟨a, b, c, d, e⟩ ⟨a', b', c', d', e'⟩)) ∧ Below g w w' := by
  obtain ⟨⟨k0, k1, k2, k3, k4, k5, k6, k7, k8, k9⟩, ⟨f0, f1, f2, f3, f4, f5, f6, f7, f8, f9⟩, kz⟩ := popen hg
  cases e
  all_goals (go_enter Tryz.func146, Tryz.ntmps146)
  all_goals go_wp2
  all_goals (try go_ret)
  all_goals (first | exact ⟨rfl, hg, Below.refl _ _⟩ | exact ⟨rfl, by simp [World.setCell, Array.getElem?_modify, hg, doI], bset (Below.refl g w) g 4 _ (Nat.le_refl _)⟩)
set_option maxHeartbeats 8000000 in
set_option maxRecDepth 100000 in
theorem sub6_calls (a b c d e a' b' c' d' e' : Bool) (g : Nat) (w : World) (hg : w.heap[g]? = some (bxP a b c d e a' b' c' d' e')) :
    Calls Tryz.prog 147 #[.pointer (some ⟨g, 0, none⟩)] w fun r w' => r = .returned (.int .i64 (doI 6 ⟨a, b, c, d, e⟩ ⟨a', b', c', d', e'⟩).2.2) ∧ w'.heap[g]? = some (bx2 (doI 6 ⟨a, b, c, d, e⟩ ⟨a', b', c', d', e'⟩)) ∧ Below g w w' := by
  obtain ⟨⟨k0, k1, k2, k3, k4, k5, k6, k7, k8, k9⟩, ⟨f0, f1, f2, f3, f4, f5, f6, f7, f8, f9⟩, kz⟩ := popen hg
  cases e
  all_goals (go_enter Tryz.func147, Tryz.ntmps147)
  all_goals go_wp2
  all_goals (try go_ret)
  all_goals (first | exact ⟨rfl, hg, Below.refl _ _⟩ | exact ⟨rfl, by simp [World.setCell, Array.getElem?_modify, hg, doI], bset (Below.refl g w) g 4 _ (Nat.le_refl _)⟩)
end Go.Proofs.YtbpfcjdjhponaaaGreat
namespace Go.Proofs.YtbpfcjdjhponaaaGreat
open Go.RowKit
open Sp
abbrev agKr (u v : ByteArray) : Value := .agg #[.string u, .string v]
abbrev bxKr (u v : ByteArray) : Obj := .cells #[.string u, .string v] 145
theorem eqlKr (u v u' v' : ByteArray) (W : World) :
    (binOp .eql 145 (agKr u v) (agKr u' v')).run Tryz.prog W = .ok (.bool (decide (((u, v) : EnK) = (u', v')))) W := by
  have e : decide (((u, v) : EnK) = (u', v')) = (u.toList == u'.toList && (v.toList == v'.toList)) := by
    rw [Bool.eq_iff_iff, decide_eq_true_eq]
    simp only [Bool.and_eq_true, beq_iff_eq, toList_inj', Prod.mk.injEq]
  rw [e]
  cases h0 : u.toList == u'.toList
  · simp [go_sem, h0]
  cases h1 : v.toList == v'.toList <;> simp [go_sem, h0, h1]
set_option maxHeartbeats 8000000 in
set_option maxRecDepth 100000 in
theorem ofK_calls (a_ b_ : ByteArray) (c_ d_ e_ f_ g_ : Bool) (w : World) :
    Calls Tryz.prog 103 #[(.agg #[.string a_, .string b_, .bool c_, .bool d_, .bool e_, .bool f_, .bool g_])] w fun e w' => e = .returned (agKr a_ b_) ∧ Below w.heap.size w w' := by
  go_enter Tryz.func103, Tryz.ntmps103
  go_wp2
  exact bodyPost_ret (v := agKr a_ b_) (by simp [results, Tryz.results103, go_sem]) rfl ⟨rfl, below_alloc0 (below_alloc0 (Below.refl _ _) _) _⟩
set_option maxHeartbeats 8000000 in
set_option maxRecDepth 100000 in
theorem findR1_calls (a_ b_ : ByteArray) (c_ d_ e_ f_ g_ : Bool) (g : Nat) (ku kv : ByteArray) (w : World) (hg : w.heap[g]? = some (bxKr ku kv)) :
    Calls Tryz.prog 150 #[(.agg #[.string a_, .string b_, .bool c_, .bool d_, .bool e_, .bool f_, .bool g_]), .pointer (some ⟨g, 0, none⟩)] w fun e w' => e = .returned (.bool (decide (keyRo ⟨a_, b_, c_, d_, e_, f_, g_⟩ = (ku, kv)))) ∧ Below w.heap.size w w' := by
  have hgl : g < w.heap.size := (Array.getElem?_eq_some_iff.1 hg).1
  have k0 : w.cell? ⟨g, 0, none⟩ = some (.string ku) := by simp [World.cell?, hg]
  have k1 : w.cell? ⟨g, 1, none⟩ = some (.string kv) := by simp [World.cell?, hg]
  have hB := below_box (w := w) (bxEn a_ b_ c_ d_ e_ f_ g_)
  have h0 := heap_alloc_new w (bxEn a_ b_ c_ d_ e_ f_ g_)
  obtain ⟨c0, c1, c2, c3, c4, c5, c6, hz⟩ := cellsEn a_ b_ c_ d_ e_ f_ g_ h0
  have j0 := cell_below hB k0
  have j1 := cell_below hB k1
  have hE := eqlKr a_ b_ ku kv
  clear hg k0 k1
  go_enter Tryz.func150, Tryz.ntmps150
  go_wp2_with fail
  go_region_held3 (fun w' => w'.cell? ⟨w.heap.size, 0, none⟩ = some (.string a_) ∧ w'.cell? ⟨w.heap.size, 1, none⟩ = some (.string b_) ∧ w'.cell? ⟨w.heap.size, 2, none⟩ = some (.bool c_) ∧ w'.cell? ⟨w.heap.size, 3, none⟩ = some (.bool d_) ∧ w'.cell? ⟨w.heap.size, 4, none⟩ = some (.bool e_) ∧ w'.cell? ⟨w.heap.size, 5, none⟩ = some (.bool f_) ∧ w'.cell? ⟨w.heap.size, 6, none⟩ = some (.bool g_) ∧ w'.cell? ⟨g, 0, none⟩ = some (.string ku) ∧ w'.cell? ⟨g, 1, none⟩ = some (.string kv)) (first | exact ⟨c0, c1, c2, c3, c4, c5, c6, j0, j1⟩ | exact ⟨cell_below hbx c0, cell_below hbx c1, cell_below hbx c2, cell_below hbx c3, cell_below hbx c4, cell_below hbx c5, cell_below hbx c6, cell_below hbx j0, cell_below hbx j1⟩) ((go_at_call 103; refine (ofK_calls a_ b_ c_ d_ e_ f_ g_ _).mono ?_; rintro e wx ⟨rfl, hbx⟩))
  have hBx := below_call (w1 := (w.alloc (bxEn a_ b_ c_ d_ e_ f_ g_)).drew) hB.drew hbx
  clear hbx
  go_wp2
  go_ret
  exact ⟨ret_bool (by rw [Bool.eq_iff_iff]; simp [keyRo]), hBx⟩
set_option maxHeartbeats 8000000 in
set_option maxRecDepth 100000 in
theorem idxFindR_calls (n c : Nat) (A : Option Addr) (l : List En) (g : Nat) (ku kv : ByteArray) (w : World) (hl : Row enEn 7 w (.slice A n c) l) (hg : w.heap[g]? = some (bxKr ku kv)) :
    Calls Tryz.prog 151 #[.slice A n c, .func (.func 150) #[] #[.pointer (some ⟨g, 0, none⟩)]] w fun e w' => e = .returned (.int .i64 (idxI (l.findIdx? (fun s : En => decide (keyRo s = (ku, kv)))))) ∧ Below w.heap.size w w' := by
  have EA := Lib.hid hl.len_eq
  have hnl : n ≤ 9223372036854775807 := by rw [EA.out]; exact hl.len
  obtain ⟨r, hr⟩ : ∃ r, idxI (l.findIdx? (fun s : En => decide (keyRo s = (ku, kv)))) = r := ⟨_, rfl⟩
  rw [hr]
  have HR := Lib.hid hr
  clear hr
  have HG := Lib.hid hg
  clear hg
  go_enter Tryz.func151, Tryz.ntmps151
  go_wp2
  go_loopw [8] (fun v8 wr => ∃ i : Nat, v8 = .int .i64 i ∧ i ≤ n ∧ Below w.heap.size w wr ∧ Hid (∀ j (h : j < l.length), j < i → ((fun s : En => decide (keyRo s = (ku, kv)))) l[j] = false)) (fun v8 _ => (n - intOf v8).toNat)
  case atStart => exact ⟨0, rfl, Nat.zero_le _, Below.refl _ _, fun j _ h => absurd h (by omega)⟩
  case round =>
    obtain ⟨i, rfl, hi, hB, HT⟩ := hrel
    by_cases hlt : i < n
    · have hil : i < l.length := by have := EA.out; omega
      obtain ⟨⟨a_, b_, c_, d_, e_, f_, g_⟩, he⟩ : ∃ e, l[i] = e := ⟨_, rfl⟩
      obtain ⟨ad, rfl, c0, c1, c2, c3, c4, c5, c6⟩ := rowEn (hl.below hB) i hil a_ b_ c_ d_ e_ f_ g_ he
      have HE := Lib.hid he
      clear he
      obtain ⟨b, hb⟩ : ∃ b, ((fun s : En => decide (keyRo s = (ku, kv)))) ⟨a_, b_, c_, d_, e_, f_, g_⟩ = b := ⟨_, rfl⟩
      have HB := Lib.hid hb
      clear hb
      go_wp2_with fail
      refine (re_ (findR1_calls a_ b_ c_ d_ e_ f_ g_ g ku kv _ (hcall HG.out hB)) (ret_bool HB.out)).mono ?_
      rintro e w1 ⟨rfl, b1⟩
      have hB1 := below_call hB b1
      clear c0 c1 c2 c3 c4 c5 c6 b1 hB
      cases b with
      | true =>
        have HF : Hid (r = (i : Int)) := by
          show _ = _
          rw [← HR.out, idx_at _ l i hil HT.out (by rw [HE.out]; exact HB.out)]; rfl
        go_wp2
        go_ret
        rw [HF.out]
        exact ⟨rfl, hB1⟩
      | false =>
        go_wp2
        exact ⟨⟨i + 1, by go_num, by omega, hB1, fun j h hj => by
          rcases Nat.lt_or_ge j i with h' | h'
          · exact HT.out j h h'
          · obtain rfl : j = i := by omega
            rw [HE.out]; exact HB.out⟩, by simp [intOf]; omega⟩
    · have hin : i = n := by omega
      subst hin
      have HF : Hid (r = -1) := by
        show _ = _
        rw [← HR.out, idx_no _ l (fun j hj => HT.out j hj (by rw [EA.out]; exact hj))]; rfl
      go_wp2
      go_ret
      rw [HF.out]
      exact ⟨rfl, hB⟩
def placeRo (l : List En) (u v : ByteArray) : Option Nat := l.findIdx? fun s => decide (keyRo s = (u, v))
def maxI (x : Int) : Int := if 0 ≤ x then x else 0
set_option maxHeartbeats 8000000 in
set_option maxRecDepth 100000 in
theorem seekR_calls (n c : Nat) (A : Option Addr) (l : List En) (g : Nat) (ku kv : ByteArray) (w : World) (hl : Row enEn 7 w (.slice A n c) l) (hg : w.heap[g]? = some (bxKr ku kv)) :
    Calls Tryz.prog 149 #[.slice A n c, .func (.func 150) #[] #[.pointer (some ⟨g, 0, none⟩)]] w fun e w' => e = .returned (.tuple #[.int .i64 (maxI (idxI (placeRo l ku kv))), .bool (decide (0 ≤ idxI (placeRo l ku kv)))]) ∧ Below w.heap.size w w' := by
  obtain ⟨r, hr⟩ : ∃ r, idxI (placeRo l ku kv) = r := ⟨_, rfl⟩
  have HC := idxFindR_calls n c A l g ku kv w hl hg
  rw [show l.findIdx? (fun s : En => decide (keyRo s = (ku, kv))) = placeRo l ku kv from rfl] at HC
  rw [hr] at HC ⊢
  clear hr
  unfold maxI
  go_enter Tryz.func149, Tryz.ntmps149
  go_wp2_with fail
  refine HC.mono ?_
  rintro e w1 ⟨rfl, b1⟩
  go_wp2
  all_goals go_ret2
  all_goals refine ⟨?_, b1⟩
  all_goals (by_cases h0 : 0 ≤ r <;> simp_all)
  all_goals (try omega)
set_option maxHeartbeats 8000000 in
set_option maxRecDepth 100000 in
theorem findRo_calls (n c : Nat) (A : Option Addr) (l : List En) (ku kv : ByteArray) (w : World) (hl : Row enEn 7 w (.slice A n c) l) :
    Calls Tryz.prog 97 #[.slice A n c, agKr ku kv] w fun e w' => e = .returned (.tuple #[.int .i64 (maxI (idxI (placeRo l ku kv))), .bool (decide (0 ≤ idxI (placeRo l ku kv)))]) ∧ Below w.heap.size w w' := by
  have hb := below_box (w := w) (bxKr ku kv)
  have HC := seekR_calls n c A l w.heap.size ku kv _ (hl.below hb) (heap_alloc_new w (bxKr ku kv))
  obtain ⟨r, hr⟩ : ∃ r, maxI (idxI (placeRo l ku kv)) = r := ⟨_, rfl⟩
  obtain ⟨s, hs⟩ : ∃ s, decide (0 ≤ idxI (placeRo l ku kv)) = s := ⟨_, rfl⟩
  rw [hr, hs] at HC ⊢
  clear hr hs
  have hmf : ∀ W : World, (Instr.makeFunc (.func 150) #[] #[.pointer (some ⟨w.heap.size, 0, none⟩)]).run Tryz.prog W = .ok (.func (.func 150) #[] #[.pointer (some ⟨w.heap.size, 0, none⟩)]) W := fun W => by kernel_rfl
  go_enter Tryz.func97, Tryz.ntmps97
  go_wp2_with fail
  refine HC.mono ?_
  rintro e w1 ⟨rfl, b1⟩
  have B1 := below_call hb b1
  clear b1 hb
  go_wp2
  go_ret2
  exact ⟨rfl, B1⟩
set_option maxHeartbeats 8000000 in
set_option maxRecDepth 100000 in
theorem OfRo_calls (n c : Nat) (A : Option Addr) (l : List En) (q : ByteArray) (w : World) (hl : Row enEn 7 w (.slice A n c) l) (hn : n ≤ 100000) :
    Calls Tryz.prog 98 #[.slice A n c, .string q] w fun e w' => ∃ v, e = .returned v ∧ Own enS 1 9 w' w.heap.size v ((l.filter (fun s : En => decide (s.o = q))).map En.c) ∧ Below w.heap.size w w' := by
  have EA := Lib.hid hl.len_eq
  go_enter Tryz.func98, Tryz.ntmps98
  go_wp2
  go_loopw [5, 10] (fun vo vc wr => ∃ (i : Nat) (ys : List ByteArray), vc = .int .i64 i ∧ i ≤ n ∧ ys.length ≤ i ∧ Hid ((((l.take i).filter (fun s : En => decide (s.o = q))).map En.c) = ys) ∧ Own enS 1 9 wr w.heap.size vo ys ∧ Below w.heap.size w wr) (fun _ vc _ => (n - intOf vc).toNat)
  case atStart => exact ⟨0, [], rfl, Nat.zero_le _, Nat.le_refl _, rfl, Own.nil _ _ _ _ _, Below.refl _ _⟩
  case round =>
    obtain ⟨i, ys, rfl, hi, hys, HT, hO, hB⟩ := hrel
    by_cases hlt : i < n
    · have hil : i < l.length := by have := EA.out; omega
      obtain ⟨⟨a_, b_, c_, d_, e_, f_, g_⟩, he⟩ : ∃ e, l[i] = e := ⟨_, rfl⟩
      obtain ⟨ad, rfl, c0, c1, c2, c3, c4, c5, c6⟩ := rowEn (hl.below hB) i hil a_ b_ c_ d_ e_ f_ g_ he
      have HE := Lib.hid he
      clear he
      by_cases hq : a_ = q
      · replace hq := hq.symm
        subst hq
        have HT2 : Hid ((((l.take (i + 1)).filter (fun s : En => decide (s.o = q))).map En.c) = ys ++ [b_]) := by
          show _ = _
          rw [List.take_succ_eq_append_getElem hil, HE.out, List.filter_append, List.map_append, HT.out]
          congr 1; simp
        have hO1 := hO.alloc (bxEn q b_ c_ d_ e_ f_ g_)
        have hB1 := below_alloc0 hB (bxEn q b_ c_ d_ e_ f_ g_)
        have HZ1 : Hid ((wr.alloc (bxEn q b_ c_ d_ e_ f_ g_)).heap.size = wr.heap.size + 1) := size_alloc _ _
        go_wp2_with (at_builtin; refine Own.append (w0 := w) w.heap.size rfl (.tmp 18) (.tmp 21) 51 9 (.string ⟨#[]⟩) 1 16 rfl Tryz.underlying51 info_str rfl (by decide) _ ys b_ [.string b_] rfl (by rw [HZ1.out]; rfl) rfl rfl (enS_one _) hO1 hB1 hB1.size (by omega) (by omega) ?_; intro v2 w2 hO2 hB2 _ _)
        exact ⟨⟨i + 1, ys ++ [b_], by go_num, by omega, by rw [List.length_append]; simp only [List.length_cons, List.length_nil]; omega, HT2, hO2, hB2⟩, by simp [intOf]; omega⟩
      · have hne : ¬ a_ = q := hq
        have hne2 : (a_.toList == q.toList) = false := by simpa [toList_inj'] using hne
        have hne3 : ¬ a_.toList = q.toList := by simpa [toList_inj'] using hne
        clear hq
        have HT2 : Hid ((((l.take (i + 1)).filter (fun s : En => decide (s.o = q))).map En.c) = ys) := by
          show _ = _
          rw [List.take_succ_eq_append_getElem hil, HE.out, List.filter_append, List.map_append, HT.out]
          simp [hne]
        have hO1 := hO.alloc (bxEn a_ b_ c_ d_ e_ f_ g_)
        have hB1 := below_alloc0 hB (bxEn a_ b_ c_ d_ e_ f_ g_)
        go_wp2
        exact ⟨⟨i + 1, ys, by go_num, by omega, by omega, HT2, hO1, hB1⟩, by simp [intOf]; omega⟩
    · have hin : i = n := by omega
      subst hin
      have HF : Hid (((l.filter (fun s : En => decide (s.o = q))).map En.c) = ys) := by
        show _ = _
        have := HT.out
        rwa [List.take_of_length_le (by rw [EA.out]; exact Nat.le_refl _)] at this
      go_wp2
      go_ret
      rw [HF.out]
      exact ⟨_, rfl, hO, hB⟩
set_option maxHeartbeats 8000000 in
set_option maxRecDepth 100000 in
theorem refOfRo_calls (n c : Nat) (A : Option Addr) (l : List En) (q : ByteArray) (w : World) (hl : Row enEn 7 w (.slice A n c) l) (hn : n ≤ 100000) :
    Calls Tryz.prog 68 #[.slice A n c, .string q] w fun e w' => ∃ v, e = .returned v ∧ Own enS 1 9 w' w.heap.size v ((l.filter (fun s : En => decide (s.o = q))).map En.c) ∧ Below w.heap.size w w' := by
  have EA := Lib.hid hl.len_eq
  go_enter Tryz.func68, Tryz.ntmps68
  go_wp2
  go_loopw [5, 6] (fun vo vc wr => ∃ (i : Nat) (ys : List ByteArray), vc = .int .i64 i ∧ i ≤ n ∧ ys.length ≤ i ∧ Hid ((((l.take i).filter (fun s : En => decide (s.o = q))).map En.c) = ys) ∧ Own enS 1 9 wr w.heap.size vo ys ∧ Below w.heap.size w wr) (fun _ vc _ => (n - intOf vc).toNat)
  case atStart => exact ⟨0, [], rfl, Nat.zero_le _, Nat.le_refl _, rfl, Own.nil _ _ _ _ _, Below.refl _ _⟩
  case round =>
    obtain ⟨i, ys, rfl, hi, hys, HT, hO, hB⟩ := hrel
    by_cases hlt : i < n
    · have hil : i < l.length := by have := EA.out; omega
      obtain ⟨⟨a_, b_, c_, d_, e_, f_, g_⟩, he⟩ : ∃ e, l[i] = e := ⟨_, rfl⟩
      obtain ⟨ad, rfl, c0, c1, c2, c3, c4, c5, c6⟩ := rowEn (hl.below hB) i hil a_ b_ c_ d_ e_ f_ g_ he
      have HE := Lib.hid he
      clear he
      by_cases hq : a_ = q
      · replace hq := hq.symm
        subst hq
        have HT2 : Hid ((((l.take (i + 1)).filter (fun s : En => decide (s.o = q))).map En.c) = ys ++ [b_]) := by
          show _ = _
          rw [List.take_succ_eq_append_getElem hil, HE.out, List.filter_append, List.map_append, HT.out]
          congr 1; simp
        go_wp2_with (at_builtin; refine Own.append (w0 := w) w.heap.size rfl (.tmp 20) (.tmp 26) 51 9 (.string ⟨#[]⟩) 1 16 rfl Tryz.underlying51 info_str rfl (by decide) _ ys b_ [.string b_] rfl rfl rfl rfl (enS_one _) hO hB hB.size (by omega) (by omega) ?_; intro v2 w2 hO2 hB2 _ _)
        exact ⟨⟨i + 1, ys ++ [b_], by go_num, by omega, by rw [List.length_append]; simp only [List.length_cons, List.length_nil]; omega, HT2, hO2, hB2⟩, by simp [intOf]; omega⟩
      · have hne : ¬ a_ = q := hq
        have hne2 : (a_.toList == q.toList) = false := by simpa [toList_inj'] using hne
        have hne3 : ¬ a_.toList = q.toList := by simpa [toList_inj'] using hne
        clear hq
        have HT2 : Hid ((((l.take (i + 1)).filter (fun s : En => decide (s.o = q))).map En.c) = ys) := by
          show _ = _
          rw [List.take_succ_eq_append_getElem hil, HE.out, List.filter_append, List.map_append, HT.out]
          simp [hne]
        go_wp2
        exact ⟨⟨i + 1, ys, by go_num, by omega, by omega, HT2, hO, hB⟩, by simp [intOf]; omega⟩
    · have hin : i = n := by omega
      subst hin
      have HF : Hid (((l.filter (fun s : En => decide (s.o = q))).map En.c) = ys) := by
        show _ = _
        have := HT.out
        rwa [List.take_of_length_le (by rw [EA.out]; exact Nat.le_refl _)] at this
      go_wp2
      go_ret
      rw [HF.out]
      exact ⟨_, rfl, hO, hB⟩
end Go.Proofs.YtbpfcjdjhponaaaGreat
namespace Go.Proofs.YtbpfcjdjhponaaaGreat
open Go.RowKit
open Sp
theorem bodyPost_vc {P : Program} {fn : Func} {R : Ending → World → Prop} {a : Act} {w : World} {p : Tmp} {ty : TypeId} (h : fn.results = #[.cell p ty]) (g : Nat) (t : TypeId) (cs : Array Value) (fr : Nat × Nat) (d : TypeDesc)
    (hp : a.tmps.getD p undef = .pointer (some ⟨g, 0, none⟩)) (hg : w.heap[g]? = some (.cells cs t fr))
    (hu : P.underlying ty = some d) (hd : (match d with | .struct _ | .array _ _ => true | _ => false) = true) (hi : (P.info? ty).map (·.size) = some cs.size)
    (hde : a.defers = []) (hR : R (.returned (.agg cs)) w) : bodyPost P fn R .ret a w := by
  refine bodyPost_ret ?_ hde hR
  have hp' : a.tmps[p]?.getD undef = .pointer (some ⟨g, 0, none⟩) := by simpa using hp
  simp [results, h, hp', asAddr, run_loadVar_row w g t ty cs fr d hg hu hd hi]
abbrev bxIt (c d e f g : Bool) : Obj := .cells #[.bool c, .bool d, .bool e, .bool f, .bool g] 103
theorem iopen {W : World} {k : Nat} {c d e f g : Bool} (h : W.heap[k]? = some (bxIt c d e f g)) : (W.cell? ⟨k, 0, none⟩ = some (.bool c) ∧ W.cell? ⟨k, 1, none⟩ = some (.bool d) ∧ W.cell? ⟨k, 2, none⟩ = some (.bool e) ∧ W.cell? ⟨k, 3, none⟩ = some (.bool f) ∧ W.cell? ⟨k, 4, none⟩ = some (.bool g)) ∧
    (W.frozen? ⟨k, 0, none⟩ = false ∧ W.frozen? ⟨k, 1, none⟩ = false ∧ W.frozen? ⟨k, 2, none⟩ = false ∧ W.frozen? ⟨k, 3, none⟩ = false ∧ W.frozen? ⟨k, 4, none⟩ = false) ∧ k < W.heap.size :=
  ⟨⟨by simp [World.cell?, h], by simp [World.cell?, h], by simp [World.cell?, h], by simp [World.cell?, h], by simp [World.cell?, h]⟩, ⟨by simp [World.frozen?, h], by simp [World.frozen?, h], by simp [World.frozen?, h], by simp [World.frozen?, h], by simp [World.frozen?, h]⟩, (Array.getElem?_eq_some_iff.1 h).1⟩
theorem info_it : (Tryz.prog.info? 103).map (·.size) = some 5 := by kernel_rfl
theorem place_some {l : List En} {u v : ByteArray} {i : Nat} (h : placeRo l u v = some i) : ∃ hi : i < l.length, keyRo l[i] = (u, v) ∧ ∀ j (hj : j < l.length), j < i → keyRo l[j] ≠ (u, v) := by
  unfold placeRo at h
  rw [List.findIdx?_eq_some_iff_getElem] at h
  obtain ⟨hi, h1, h2⟩ := h
  exact ⟨hi, by simpa using h1, fun j hj hji => by simpa using h2 j hji⟩
theorem place_none {l : List En} {u v : ByteArray} (h : placeRo l u v = none) : ∀ j (hj : j < l.length), keyRo l[j] ≠ (u, v) := by
  unfold placeRo at h
  rw [List.findIdx?_eq_none_iff] at h
  intro j hj
  simpa using h l[j] (List.getElem_mem hj)
set_option maxHeartbeats 8000000 in
set_option maxRecDepth 100000 in
theorem GetRo_calls (n c : Nat) (A : Option Addr) (l : List En) (o q : ByteArray) (w : World) (hl : Row enEn 7 w (.slice A n c) l) :
    Calls Tryz.prog 78 #[.slice A n c, .string o, .string q] w fun e w' => e = .returned (vaIt (getRo l o q)) ∧ Below w.heap.size w w' := by
  have EA := Lib.hid hl.len_eq
  have hB := below_box (w := w) (bxIt false false false false false)
  have HX := heap_alloc_new w (bxIt false false false false false)
  have HC := findRo_calls n c A l o q _ (hl.below hB)
  cases hp : placeRo l o q with
  | some i =>
    obtain ⟨hil, hk, hb4⟩ := place_some hp
    obtain ⟨⟨a_, b_, c_, d_, e_, f_, g_⟩, he⟩ : ∃ e, l[i] = e := ⟨_, rfl⟩
    have HF : Hid (getRo l o q = ⟨c_, d_, e_, f_, g_⟩) := by
      show _ = _
      rw [(getRo_at l o q i hil hb4 hk).1, he]
    have e1 : maxI (idxI (placeRo l o q)) = (i : Int) := by rw [hp]; unfold maxI idxI; simp
    have e2 : decide (0 ≤ idxI (placeRo l o q)) = true := by rw [hp]; unfold idxI; simp
    rw [e1, e2] at HC
    have HE := Lib.hid he
    clear e1 e2 hp hk hb4 he
    go_enter Tryz.func78, Tryz.ntmps78
    go_wp2_with fail
    refine HC.mono ?_
    rintro e w1 ⟨rfl, b1⟩
    have HX1 := hcall HX b1
    have hB1 := below_call hB b1
    obtain ⟨ad, rfl, c0, c1, c2, c3, c4, c5, c6⟩ := rowEn (hl.below hB1) i hil a_ b_ c_ d_ e_ f_ g_ HE.out
    obtain ⟨⟨o0, o1, o2, o3, o4⟩, ⟨f0, f1, f2, f3, f4⟩, og⟩ := iopen HX1
    have x1 : (0 : Int) ≤ (i : Int) := by omega
    have x2 : (i : Int) < (n : Int) := by have := EA.out; omega
    go_wp2
    (try simp only [Exit.inBlock, Exit.then])
    refine bodyPost_vc rfl w.heap.size 103 #[.bool c_, .bool d_, .bool e_, .bool f_, .bool g_] (0, 0) _ rfl ?_ Tryz.underlying103 rfl info_it rfl ⟨?_, ?_⟩
    · simp [World.setCell, Array.getElem?_modify, HX1]
    · rw [HF.out]
    · exact bset (bset (bset (bset (bset hB1 w.heap.size 0 _ (Nat.le_refl _)) w.heap.size 1 _ (Nat.le_refl _)) w.heap.size 2 _ (Nat.le_refl _)) w.heap.size 3 _ (Nat.le_refl _)) w.heap.size 4 _ (Nat.le_refl _)
  | none =>
    have HF : Hid (getRo l o q = noI) := (getRo_no l o q (place_none hp)).1
    have e1 : maxI (idxI (placeRo l o q)) = 0 := by rw [hp]; rfl
    have e2 : decide (0 ≤ idxI (placeRo l o q)) = false := by rw [hp]; rfl
    rw [e1, e2] at HC
    clear e1 e2 hp
    go_enter Tryz.func78, Tryz.ntmps78
    go_wp2_with fail
    refine HC.mono ?_
    rintro e w1 ⟨rfl, b1⟩
    have HX1 := hcall HX b1
    have hB1 := below_call hB b1
    obtain ⟨⟨o0, o1, o2, o3, o4⟩, ⟨f0, f1, f2, f3, f4⟩, og⟩ := iopen HX1
    go_wp2
    (try simp only [Exit.inBlock, Exit.then])
    refine bodyPost_vc rfl w.heap.size 103 #[.bool false, .bool false, .bool false, .bool false, .bool false] (0, 0) _ rfl ?_ Tryz.underlying103 rfl info_it rfl ⟨?_, ?_⟩
    · simp [World.setCell, Array.getElem?_modify, HX1]
    · rw [HF.out]; rfl
    · exact bset (bset (bset (bset (bset hB1 w.heap.size 0 _ (Nat.le_refl _)) w.heap.size 1 _ (Nat.le_refl _)) w.heap.size 2 _ (Nat.le_refl _)) w.heap.size 3 _ (Nat.le_refl _)) w.heap.size 4 _ (Nat.le_refl _)
set_option maxHeartbeats 8000000 in
set_option maxRecDepth 100000 in
theorem refGetRo_calls (n c : Nat) (A : Option Addr) (l : List En) (o q : ByteArray) (w : World) (hl : Row enEn 7 w (.slice A n c) l) :
    Calls Tryz.prog 82 #[.slice A n c, .string o, .string q] w fun e w' => e = .returned (vaIt (getRo l o q)) ∧ Below w.heap.size w w' := by
  have EA := Lib.hid hl.len_eq
  have hnl : n ≤ 9223372036854775807 := by rw [EA.out]; exact hl.len
  go_enter Tryz.func82, Tryz.ntmps82
  go_wp2
  go_loopw [7] (fun vc wr => ∃ (i : Nat), vc = .int .i64 i ∧ i ≤ n ∧ Below w.heap.size w wr ∧ wr.heap[w.heap.size]? = some (bxIt false false false false false) ∧ Hid (∀ j (h : j < l.length), j < i → keyRo l[j] ≠ (o, q))) (fun vc _ => (n - intOf vc).toNat)
  case atStart => exact ⟨0, rfl, Nat.zero_le _, below_box _, heap_alloc_new w _, fun j _ h => absurd h (by omega)⟩
  case round =>
    obtain ⟨i, rfl, hi, hB, HX, HT⟩ := hrel
    by_cases hlt : i < n
    · have hil : i < l.length := by have := EA.out; omega
      obtain ⟨⟨a_, b_, c_, d_, e_, f_, g_⟩, he⟩ : ∃ e, l[i] = e := ⟨_, rfl⟩
      obtain ⟨ad, rfl, c0, c1, c2, c3, c4, c5, c6⟩ := rowEn (hl.below hB) i hil a_ b_ c_ d_ e_ f_ g_ he
      have HX1 := HX
      have hB1 := hB
      by_cases hq : a_ = o ∧ b_ = q
      · have HAT := getRo_at l o q i hil HT.out (by rw [he]; exact Prod.ext hq.1 hq.2)
        have HF : Hid (getRo l o q = ⟨c_, d_, e_, f_, g_⟩) := by
          show _ = _
          rw [HAT.1, he]
        obtain ⟨q1, q2⟩ := hq
        have hs1 : a_.toList = o.toList := by rw [q1]
        have hs2 : b_.toList = q.toList := by rw [q2]
        have hs3 : (a_.toList == o.toList) = true := by rw [q1]; exact beq_self_eq_true _
        have hs4 : (b_.toList == q.toList) = true := by rw [q2]; exact beq_self_eq_true _
        clear he HT HAT q1 q2
        obtain ⟨⟨o0, o1, o2, o3, o4⟩, ⟨f0, f1, f2, f3, f4⟩, og⟩ := iopen HX1
        go_wp2
        (try simp only [Exit.inBlock, Exit.then])
        refine bodyPost_vc rfl w.heap.size 103 #[.bool c_, .bool d_, .bool e_, .bool f_, .bool g_] (0, 0) _ rfl ?_ Tryz.underlying103 rfl info_it rfl ⟨?_, ?_⟩
        · simp [World.setCell, Array.getElem?_modify, HX1]
        · rw [HF.out]
        · exact bset (bset (bset (bset (bset hB1 w.heap.size 0 _ (Nat.le_refl _)) w.heap.size 1 _ (Nat.le_refl _)) w.heap.size 2 _ (Nat.le_refl _)) w.heap.size 3 _ (Nat.le_refl _)) w.heap.size 4 _ (Nat.le_refl _)
      · have HN : Hid (∀ j (h : j < l.length), j < i + 1 → keyRo l[j] ≠ (o, q)) := fun j h hj => by
          rcases Nat.lt_or_ge j i with h' | h'
          · exact HT.out j h h'
          · obtain rfl : j = i := by omega
            rw [he]
            exact fun e => hq ⟨congrArg Prod.fst e, congrArg Prod.snd e⟩
        by_cases q1 : a_ = o
        · have q2 : ¬ b_ = q := fun e => hq ⟨q1, e⟩
          have hs1 : a_.toList = o.toList := by rw [q1]
          have hs3 : (a_.toList == o.toList) = true := by rw [q1]; exact beq_self_eq_true _
          have hs2 : ¬ b_.toList = q.toList := by simpa [toList_inj'] using q2
          have hs4 : (b_.toList == q.toList) = false := by simpa [toList_inj'] using q2
          clear he q1 q2 hq
          go_wp2
          exact ⟨⟨i + 1, by go_num, by omega, hB1, HX1, HN⟩, by simp [intOf]; omega⟩
        · have hs1 : ¬ a_.toList = o.toList := by simpa [toList_inj'] using q1
          have hs3 : (a_.toList == o.toList) = false := by simpa [toList_inj'] using q1
          clear he q1 hq
          go_wp2
          exact ⟨⟨i + 1, by go_num, by omega, hB1, HX1, HN⟩, by simp [intOf]; omega⟩
    · have hin : i = n := by omega
      subst hin
      have HNO := getRo_no l o q (fun j hj => HT.out j hj (by rw [EA.out]; exact hj))
      have HF : Hid (getRo l o q = noI) := HNO.1
      have HX1 := HX
      have hB1 := hB
      clear HT HNO
      obtain ⟨⟨o0, o1, o2, o3, o4⟩, ⟨f0, f1, f2, f3, f4⟩, og⟩ := iopen HX1
      go_wp2
      (try simp only [Exit.inBlock, Exit.then])
      refine bodyPost_vc rfl w.heap.size 103 #[.bool false, .bool false, .bool false, .bool false, .bool false] (0, 0) _ rfl ?_ Tryz.underlying103 rfl info_it rfl ⟨?_, ?_⟩
      · simp [World.setCell, Array.getElem?_modify, HX1]
      · rw [HF.out]; rfl
      · exact bset (bset (bset (bset (bset hB1 w.heap.size 0 _ (Nat.le_refl _)) w.heap.size 1 _ (Nat.le_refl _)) w.heap.size 2 _ (Nat.le_refl _)) w.heap.size 3 _ (Nat.le_refl _)) w.heap.size 4 _ (Nat.le_refl _)
set_option maxHeartbeats 8000000 in
set_option maxRecDepth 100000 in
theorem hasRo_calls (n c : Nat) (A : Option Addr) (l : List En) (o q : ByteArray) (w : World) (hl : Row enEn 7 w (.slice A n c) l) :
    Calls Tryz.prog 83 #[.slice A n c, .string o, .string q] w fun e w' => e = .returned (.bool (hasRo l o q)) ∧ Below w.heap.size w w' := by
  have EA := Lib.hid hl.len_eq
  have hnl : n ≤ 9223372036854775807 := by rw [EA.out]; exact hl.len
  go_enter Tryz.func83, Tryz.ntmps83
  go_wp2
  go_loopw [7] (fun vc wr => ∃ (i : Nat), vc = .int .i64 i ∧ i ≤ n ∧ Below w.heap.size w wr ∧ Hid (∀ j (h : j < l.length), j < i → keyRo l[j] ≠ (o, q))) (fun vc _ => (n - intOf vc).toNat)
  case atStart => exact ⟨0, rfl, Nat.zero_le _, Below.refl _ _, fun j _ h => absurd h (by omega)⟩
  case round =>
    obtain ⟨i, rfl, hi, hB, HT⟩ := hrel
    by_cases hlt : i < n
    · have hil : i < l.length := by have := EA.out; omega
      obtain ⟨⟨a_, b_, c_, d_, e_, f_, g_⟩, he⟩ : ∃ e, l[i] = e := ⟨_, rfl⟩
      obtain ⟨ad, rfl, c0, c1, c2, c3, c4, c5, c6⟩ := rowEn (hl.below hB) i hil a_ b_ c_ d_ e_ f_ g_ he
      have hB1 := hB
      by_cases hq : a_ = o ∧ b_ = q
      · have HAT := getRo_at l o q i hil HT.out (by rw [he]; exact Prod.ext hq.1 hq.2)
        have HF : Hid (hasRo l o q = true) := by
          show _ = _
          exact HAT.2
        obtain ⟨q1, q2⟩ := hq
        have hs1 : a_.toList = o.toList := by rw [q1]
        have hs2 : b_.toList = q.toList := by rw [q2]
        have hs3 : (a_.toList == o.toList) = true := by rw [q1]; exact beq_self_eq_true _
        have hs4 : (b_.toList == q.toList) = true := by rw [q2]; exact beq_self_eq_true _
        clear he HT HAT q1 q2
        go_wp2
        go_ret
        rw [HF.out]
        exact ⟨rfl, hB1⟩
      · have HN : Hid (∀ j (h : j < l.length), j < i + 1 → keyRo l[j] ≠ (o, q)) := fun j h hj => by
          rcases Nat.lt_or_ge j i with h' | h'
          · exact HT.out j h h'
          · obtain rfl : j = i := by omega
            rw [he]
            exact fun e => hq ⟨congrArg Prod.fst e, congrArg Prod.snd e⟩
        by_cases q1 : a_ = o
        · have q2 : ¬ b_ = q := fun e => hq ⟨q1, e⟩
          have hs1 : a_.toList = o.toList := by rw [q1]
          have hs3 : (a_.toList == o.toList) = true := by rw [q1]; exact beq_self_eq_true _
          have hs2 : ¬ b_.toList = q.toList := by simpa [toList_inj'] using q2
          have hs4 : (b_.toList == q.toList) = false := by simpa [toList_inj'] using q2
          clear he q1 q2 hq
          go_wp2
          exact ⟨⟨i + 1, by go_num, by omega, hB1, HN⟩, by simp [intOf]; omega⟩
        · have hs1 : ¬ a_.toList = o.toList := by simpa [toList_inj'] using q1
          have hs3 : (a_.toList == o.toList) = false := by simpa [toList_inj'] using q1
          clear he q1 hq
          go_wp2
          exact ⟨⟨i + 1, by go_num, by omega, hB1, HN⟩, by simp [intOf]; omega⟩
    · have hin : i = n := by omega
      subst hin
      have HNO := getRo_no l o q (fun j hj => HT.out j hj (by rw [EA.out]; exact hj))
      have HF : Hid (hasRo l o q = false) := HNO.2
      have hB1 := hB
      clear HT HNO
      go_wp2
      go_ret
      rw [HF.out]
      exact ⟨rfl, hB1⟩
set_option maxHeartbeats 8000000 in
set_option maxRecDepth 100000 in
theorem SeesRo_calls (n c : Nat) (A : Option Addr) (l : List En) (o q : ByteArray) (w : World) (hl : Row enEn 7 w (.slice A n c) l) :
    Calls Tryz.prog 32 #[.slice A n c, .string o, .string q] w fun e w' => e = .returned (.bool (seesRo l o q)) ∧ Below w.heap.size w w' := by
  unfold seesRo
  obtain ⟨⟨a, b, c', d, e⟩, h1⟩ : ∃ x, getRo l o q = x := ⟨_, rfl⟩
  obtain ⟨⟨a', b', c'', d', e'⟩, h2⟩ : ∃ x, getRo l q o = x := ⟨_, rfl⟩
  have H1 := GetRo_calls n c A l o q w hl
  have H2 := fun (w1 : World) (h : Below w.heap.size w w1) => GetRo_calls n c A l q o w1 (hl.below h)
  rw [h1] at H1 ⊢
  rw [h2] at H2 ⊢
  have HH2 := Lib.hid H2
  obtain ⟨r, hr⟩ : ∃ r, seesI ⟨a, b, c', d, e⟩ ⟨a', b', c'', d', e'⟩ = r := ⟨_, rfl⟩
  rw [hr]
  have HR := Lib.hid hr
  clear hr h1 h2 H2
  go_enter Tryz.func32, Tryz.ntmps32
  go_wp2_with fail
  refine H1.mono ?_
  rintro x w1 ⟨rfl, b1⟩
  go_wp2_with fail
  refine (HH2.out w1 b1).mono ?_
  rintro x w2 ⟨rfl, b2⟩
  go_wp2_with fail
  with_reducible refine (re_ (SeesI_calls a b c' d e a' b' c'' d' e' _) (ret_bool HR.out)).mono ?_
  rintro x w3 ⟨rfl, b3⟩
  go_wp2
  go_ret
  exact ⟨rfl, below_call (below_call b1 b2) b3⟩
end Go.Proofs.YtbpfcjdjhponaaaGreat
namespace Go.Proofs.YtbpfcjdjhponaaaGreat
open Go.RowKit
open Sp
set_option maxHeartbeats 8000000 in
set_option maxRecDepth 100000 in
theorem few8_calls (n c : Nat) (A : Option Addr) (l : List En) (w : World) (hl : Row enEn 7 w (.slice A n c) l) (hz : ∀ s ∈ l, s.o.size ≤ 9223372036854775807 ∧ s.c.size ≤ 9223372036854775807) :
    Calls Tryz.prog 35 #[.slice A n c] w fun e w' => e = .returned (.bool (fewRo l)) ∧ Below w.heap.size w w' := by
  have EA := Lib.hid hl.len_eq
  have hnl : n ≤ 9223372036854775807 := by rw [EA.out]; exact hl.len
  obtain ⟨r, hr⟩ : ∃ r, fewRo l = r := ⟨_, rfl⟩
  rw [hr]
  unfold fewRo at hr
  have HR := Lib.hid hr
  have HZ := Lib.hid hz
  clear hr hz
  by_cases hm : 80 < (n : Int)
  · have HF : Hid (r = false) := by
      show _ = _
      rw [← HR.out, decide_eq_false (by rw [← EA.out]; omega)]; rfl
    go_enter Tryz.func35, Tryz.ntmps35
    go_wp2
    go_ret
    rw [HF.out]
    exact ⟨rfl, Below.refl _ _⟩
  · have hm' : (n : Int) ≤ 80 := by omega
    clear hm
    go_enter Tryz.func35, Tryz.ntmps35
    go_wp2
    go_loopw [3] (fun v3 wr => ∃ i : Nat, v3 = .int .i64 i ∧ i ≤ n ∧ Below w.heap.size w wr ∧ Hid (∀ j (h : j < l.length), j < i → (decide (l[j].o.size ≤ 40) && decide (l[j].c.size ≤ 40)) = true)) (fun v3 _ => (n - intOf v3).toNat)
    case atStart => exact ⟨0, rfl, Nat.zero_le _, Below.refl _ _, fun j _ h => absurd h (by omega)⟩
    case round =>
      obtain ⟨i, rfl, hi, hB, HT⟩ := hrel
      by_cases hlt : i < n
      · have hil : i < l.length := by have := EA.out; omega
        obtain ⟨z1, z2⟩ := HZ.out l[i] (List.getElem_mem _)
        obtain ⟨⟨a_, b_, c_, d_, e_, f_, g_⟩, he⟩ : ∃ e, l[i] = e := ⟨_, rfl⟩
        rw [he] at z1 z2
        simp only at z1 z2
        obtain ⟨ad, rfl, c0, c1, c2, c3, c4, c5, c6⟩ := rowEn (hl.below hB) i hil a_ b_ c_ d_ e_ f_ g_ he
        have HE := Lib.hid he
        clear he
        by_cases hq : a_.size ≤ 40 ∧ b_.size ≤ 40
        · have HN : Hid (∀ j (h : j < l.length), j < i + 1 → (decide (l[j].o.size ≤ 40) && decide (l[j].c.size ≤ 40)) = true) := fun j h hj => by
            rcases Nat.lt_or_ge j i with h' | h'
            · exact HT.out j h h'
            · obtain rfl : j = i := by omega
              rw [HE.out]
              simp only
              rw [decide_eq_true hq.1, decide_eq_true hq.2]; rfl
          have h1 : ((a_.size : Nat) : Int) ≤ 40 := by omega
          have h2 : ((b_.size : Nat) : Int) ≤ 40 := by omega
          clear hq
          go_wp2
          exact ⟨⟨i + 1, by go_num, by omega, hB, HN⟩, by simp [intOf]; omega⟩
        · have HF : Hid (r = false) := by
            show _ = _
            rw [← HR.out, Bool.and_eq_false_iff]
            right
            rw [List.all_eq_false]
            refine ⟨l[i], List.getElem_mem _, ?_⟩
            rw [HE.out]
            simp only [Bool.and_eq_true, decide_eq_true_eq]
            exact hq
          by_cases h1 : ((a_.size : Nat) : Int) ≤ 40
          · have h2 : 40 < ((b_.size : Nat) : Int) := by omega
            clear hq
            go_wp2
            go_ret
            rw [HF.out]
            exact ⟨rfl, hB⟩
          · have h2 : 40 < ((a_.size : Nat) : Int) := by omega
            clear hq h1
            go_wp2
            go_ret
            rw [HF.out]
            exact ⟨rfl, hB⟩
      · have hin : i = n := by omega
        subst hin
        have HF : Hid (r = true) := by
          show _ = _
          rw [← HR.out, Bool.and_eq_true]
          refine ⟨decide_eq_true (by rw [← EA.out]; omega), ?_⟩
          rw [List.all_eq_true]
          intro e he
          obtain ⟨j, hj, rfl⟩ := List.getElem_of_mem he
          exact HT.out j hj (by rw [EA.out]; exact hj)
        go_wp2
        go_ret
        rw [HF.out]
        exact ⟨rfl, hB⟩
set_option maxHeartbeats 8000000 in
set_option maxRecDepth 100000 in
theorem WatchRo_calls (n c : Nat) (A : Option Addr) (l : List En) (q : ByteArray) (w : World) (hl : Row enEn 7 w (.slice A n c) l) (hn : n ≤ 100000) :
    Calls Tryz.prog 69 #[.slice A n c, .string q] w fun e w' => ∃ v, e = .returned v ∧ Row enS 1 w' v (watchRo l q) ∧ Below w.heap.size w w' := by
  have EA := Lib.hid hl.len_eq
  go_enter Tryz.func69, Tryz.ntmps69
  go_wp2
  go_loopw [5, 10] (fun vo vc wr => ∃ (i : Nat) (ys : List ByteArray), vc = .int .i64 i ∧ i ≤ n ∧ ys.length ≤ i ∧ Hid (((l.take i).filter (fun x : En => decide (x.c = q) && seesRo l x.o q)).map En.o = ys) ∧ Own enS 1 9 wr w.heap.size vo ys ∧ Below w.heap.size w wr) (fun _ vc _ => (n - intOf vc).toNat)
  case atStart => exact ⟨0, [], rfl, Nat.zero_le _, Nat.le_refl _, rfl, Own.nil _ _ _ _ _, Below.refl _ _⟩
  case round =>
    obtain ⟨i, ys, rfl, hi, hys, HT, hO, hB⟩ := hrel
    by_cases hlt : i < n
    · have hil : i < l.length := by have := EA.out; omega
      obtain ⟨⟨a_, b_, c_, d_, e_, f_, g_⟩, he⟩ : ∃ e, l[i] = e := ⟨_, rfl⟩
      obtain ⟨ad, rfl, c0, c1, c2, c3, c4, c5, c6⟩ := rowEn (hl.below hB) i hil a_ b_ c_ d_ e_ f_ g_ he
      have htk : ((l.take (i + 1)).filter (fun x : En => decide (x.c = q) && seesRo l x.o q)).map En.o = ys ++ (if decide (b_ = q) && seesRo l a_ q then [a_] else []) := by
        rw [List.take_succ_eq_append_getElem hil, List.filter_append, List.map_append, HT.out, he, List.filter_cons]
        simp only
        split <;> rfl
      have HTK := Lib.hid htk
      clear he htk HT
      have hO1 := hO.alloc (bxEn a_ b_ c_ d_ e_ f_ g_)
      have hB1 := below_alloc0 hB (bxEn a_ b_ c_ d_ e_ f_ g_)
      obtain ⟨u0, u1, u2, u3, u4, u5, u6, uz⟩ := cellsEn a_ b_ c_ d_ e_ f_ g_ (heap_alloc_new wr (bxEn a_ b_ c_ d_ e_ f_ g_))
      by_cases hq : b_ = q
      · replace hq := hq.symm
        subst hq
        obtain ⟨bs, hbs⟩ : ∃ bs, seesRo l a_ q = bs := ⟨_, rfl⟩
        have HS := Lib.hid hbs
        clear hbs hO hB
        cases bs with
        | true =>
          have HT2 : Hid (((l.take (i + 1)).filter (fun x : En => decide (x.c = q) && seesRo l x.o q)).map En.o = ys ++ [a_]) := by
            show _ = _
            rw [HTK.out, HS.out, decide_eq_true rfl]
            rfl
          go_wp2_with fail
          with_reducible refine (re_ (SeesRo_calls n c _ l a_ q _ (hl.below hB1)) (ret_bool HS.out)).mono ?_
          rintro e w4 ⟨rfl, b4⟩
          replace hO1 := hO1.below b4
          replace hB1 := below_call hB1 b4
          replace u0 := cell_below b4 u0
          clear b4
          go_wp2_with (at_builtin; refine Own.append (w0 := w) w.heap.size rfl (.tmp 25) (.tmp 28) 51 9 (.string ⟨#[]⟩) 1 16 rfl Tryz.underlying51 info_str rfl (by decide) _ ys a_ [.string a_] rfl rfl rfl rfl (enS_one _) hO1 hB1 hB1.size (by omega) (by omega) ?_; intro v2 w2 hO2 hB2 _ _)
          exact ⟨⟨i + 1, ys ++ [a_], by go_num, by omega, by rw [List.length_append]; simp only [List.length_cons, List.length_nil]; omega, HT2, hO2, hB2⟩, by simp [intOf]; omega⟩
        | false =>
          have HT2 : Hid (((l.take (i + 1)).filter (fun x : En => decide (x.c = q) && seesRo l x.o q)).map En.o = ys) := by
            show _ = _
            rw [HTK.out, HS.out, decide_eq_true rfl]
            simp
          go_wp2_with fail
          with_reducible refine (re_ (SeesRo_calls n c _ l a_ q _ (hl.below hB1)) (ret_bool HS.out)).mono ?_
          rintro e w4 ⟨rfl, b4⟩
          replace hO1 := hO1.below b4
          replace hB1 := below_call hB1 b4
          replace u0 := cell_below b4 u0
          clear b4
          go_wp2
          exact ⟨⟨i + 1, ys, by go_num, by omega, by omega, HT2, hO1, hB1⟩, by simp [intOf]; omega⟩
      · have HT2 : Hid (((l.take (i + 1)).filter (fun x : En => decide (x.c = q) && seesRo l x.o q)).map En.o = ys) := by
          show _ = _
          rw [HTK.out, decide_eq_false hq]
          simp
        have hs1 : ¬ b_.toList = q.toList := by simpa [toList_inj'] using hq
        have hs2 : (b_.toList == q.toList) = false := by simpa [toList_inj'] using hq
        clear hq hO hB
        go_wp2
        exact ⟨⟨i + 1, ys, by go_num, by omega, by omega, HT2, hO1, hB1⟩, by simp [intOf]; omega⟩
    · have hin : i = n := by omega
      subst hin
      have HF : Hid ((l.filter (fun x : En => decide (x.c = q) && seesRo l x.o q)).map En.o = ys) := by
        show _ = _
        have := HT.out
        rwa [List.take_of_length_le (by rw [EA.out]; exact Nat.le_refl _)] at this
      obtain ⟨A2, c2, rfl, _⟩ := hO.slice
      go_wp2_with fail
      refine (Merge_calls ys.length c2 0 0 A2 none ys [] _ hO.row (Row.nil _ _ _) (by omega) (by omega)).mono ?_
      rintro e w2 ⟨v2, rfl, hv2, b2⟩
      go_wp2
      go_ret
      refine ⟨_, rfl, ?_, below_call hB b2⟩
      unfold watchRo
      rw [HF.out]
      exact hv2
end Go.Proofs.YtbpfcjdjhponaaaGreat
namespace Go.Proofs.YtbpfcjdjhponaaaGreat
open Go.RowKit
open Sp
def cmpRo (a b : EnK) : Int := if a = b then 0 else if ltRo a b then -1 else 1
theorem cmpRo_ge (a b : EnK) : decide (0 ≤ cmpRo a b) = !ltRo a b := by
  unfold cmpRo
  by_cases h : a = b
  · rw [if_pos h, h, ltRo_ord.irr]; rfl
  · rw [if_neg h]
    cases ltRo a b <;> rfl
theorem cellsKr {W : World} {g : Nat} {u v : ByteArray} (h : W.heap[g]? = some (bxKr u v)) : W.cell? ⟨g, 0, none⟩ = some (.string u) ∧ W.cell? ⟨g, 1, none⟩ = some (.string v) := ⟨by simp [World.cell?, h], by simp [World.cell?, h]⟩
set_option maxHeartbeats 8000000 in
set_option maxRecDepth 100000 in
theorem orderR_calls (u v u' v' : ByteArray) (w : World) :
    Calls Tryz.prog 139 #[agKr u v, agKr u' v'] w fun e w' => e = .returned (.int .i64 (cmpRo (u, v) (u', v'))) ∧ Below w.heap.size w w' := by
  have D := below_alloc0 (below_box (w := w) (bxKr u v)) (bxKr u' v')
  have ha := halloc (heap_alloc_new w (bxKr u v)) (bxKr u' v')
  have hb := heap_alloc_new (w.alloc (bxKr u v)) (bxKr u' v')
  rw [size_alloc] at hb
  have hE := eqlKr u v u' v'
  by_cases h : ((u, v) : EnK) = (u', v')
  · have HF : Hid (cmpRo (u, v) (u', v') = 0) := if_pos h
    rw [decide_eq_true h] at hE
    obtain ⟨k0, k1⟩ := cellsKr ha
    obtain ⟨j0, j1⟩ := cellsKr hb
    clear h
    go_enter Tryz.func139, Tryz.ntmps139
    go_wp2
    go_ret
    rw [HF.out]
    exact ⟨rfl, D⟩
  rw [decide_eq_false h] at hE
  obtain ⟨b1, hb1⟩ : ∃ b, less u u' = b := ⟨_, rfl⟩
  have HL := Lib.hid hb1
  have hcm : cmpRo (u, v) (u', v') = if (b1 || (decide (u = u') && less v v')) then -1 else 1 := by
    unfold cmpRo ltRo
    rw [if_neg h, ← hb1]
  clear hb1 h
  obtain ⟨k0, k1⟩ := cellsKr ha
  obtain ⟨j0, j1⟩ := cellsKr hb
  cases b1 with
  | true =>
    have HF : Hid (cmpRo (u, v) (u', v') = -1) := hcm
    clear hcm
    go_enter Tryz.func139, Tryz.ntmps139
    go_wp2_with fail
    with_reducible refine (Less_is _ u u' true HL).mono ?_
    rintro e w1 ⟨rfl, c1⟩
    have D1 := below_call D c1
    clear k0 k1 j0 j1
    go_wp2
    go_ret
    rw [HF.out]
    exact ⟨rfl, D1⟩
  | false =>
    by_cases hu : u = u'
    · obtain ⟨b2, hb2⟩ : ∃ b, less v v' = b := ⟨_, rfl⟩
      have HL2 := Lib.hid hb2
      rw [decide_eq_true hu, hb2, Bool.false_or, Bool.true_and] at hcm
      have HC := Lib.hid hcm
      have e1 : (u.toList == u'.toList) = true := by rw [hu]; exact beq_self_eq_true _
      have e2 : u.toList = u'.toList := by rw [hu]
      clear hb2 hcm hu
      go_enter Tryz.func139, Tryz.ntmps139
      go_wp2_with fail
      with_reducible refine (Less_is _ u u' false HL).mono ?_
      rintro e w1 ⟨rfl, c1⟩
      replace ha := hcall ha c1
      replace hb := hcall hb c1
      have D1 := below_call D c1
      clear k0 k1 j0 j1 c1
      obtain ⟨k0, k1⟩ := cellsKr ha
      obtain ⟨j0, j1⟩ := cellsKr hb
      go_wp2_with fail
      with_reducible refine (Less_is _ v v' b2 HL2).mono ?_
      rintro e w2 ⟨rfl, c2⟩
      have D2 := below_call D1 c2
      clear k0 k1 j0 j1 c2
      cases b2 with
      | true =>
        have HF : Hid (cmpRo (u, v) (u', v') = -1) := HC.out
        go_wp2
        go_ret
        rw [HF.out]
        exact ⟨rfl, D2⟩
      | false =>
        have HF : Hid (cmpRo (u, v) (u', v') = 1) := HC.out
        go_wp2
        go_ret
        rw [HF.out]
        exact ⟨rfl, D2⟩
    · rw [decide_eq_false hu, Bool.false_and, Bool.or_false] at hcm
      have HF : Hid (cmpRo (u, v) (u', v') = 1) := hcm
      have e1 : (u.toList == u'.toList) = false := by simpa [toList_inj'] using hu
      have e2 : ¬ u.toList = u'.toList := by simpa [toList_inj'] using hu
      clear hcm hu
      go_enter Tryz.func139, Tryz.ntmps139
      go_wp2_with fail
      with_reducible refine (Less_is _ u u' false HL).mono ?_
      rintro e w1 ⟨rfl, c1⟩
      replace ha := hcall ha c1
      replace hb := hcall hb c1
      have D1 := below_call D c1
      clear k0 k1 j0 j1 c1
      obtain ⟨k0, k1⟩ := cellsKr ha
      obtain ⟨j0, j1⟩ := cellsKr hb
      go_wp2
      go_ret
      rw [HF.out]
      exact ⟨rfl, D1⟩
set_option maxHeartbeats 8000000 in
set_option maxRecDepth 100000 in
theorem refAheadR_calls (a b : ByteArray) (c d e f g : Bool) (a' b' : ByteArray) (c' d' e' f' g' : Bool) (w : World) :
    Calls Tryz.prog 81 #[.agg #[.string a, .string b, .bool c, .bool d, .bool e, .bool f, .bool g], .agg #[.string a', .string b', .bool c', .bool d', .bool e', .bool f', .bool g']] w fun x w' => x = .returned (.bool (ltRo (a, b) (a', b'))) ∧ Below w.heap.size w w' := by
  have D := below_alloc0 (below_box (w := w) (bxEn a b c d e f g)) (bxEn a' b' c' d' e' f' g')
  have ha := halloc (heap_alloc_new w (bxEn a b c d e f g)) (bxEn a' b' c' d' e' f' g')
  have hb := heap_alloc_new (w.alloc (bxEn a b c d e f g)) (bxEn a' b' c' d' e' f' g')
  rw [size_alloc] at hb
  obtain ⟨b1, hb1⟩ : ∃ x, less a a' = x := ⟨_, rfl⟩
  have HL := Lib.hid hb1
  have hcm : ltRo (a, b) (a', b') = (b1 || (decide (a = a') && less b b')) := by
    unfold ltRo
    rw [← hb1]
  clear hb1
  obtain ⟨k0, k1, k2, k3, k4, k5, k6, kz⟩ := cellsEn a b c d e f g ha
  obtain ⟨j0, j1, j2, j3, j4, j5, j6, jz⟩ := cellsEn a' b' c' d' e' f' g' hb
  cases b1 with
  | true =>
    have HF : Hid (ltRo (a, b) (a', b') = true) := hcm
    clear hcm
    go_enter Tryz.func81, Tryz.ntmps81
    go_wp2_with fail
    with_reducible refine (refLess_is _ a a' true HL).mono ?_
    rintro x w1 ⟨rfl, c1⟩
    subst c1
    go_wp2
    go_ret
    rw [HF.out]
    exact ⟨rfl, D⟩
  | false =>
    by_cases hu : a = a'
    · obtain ⟨b2, hb2⟩ : ∃ x, less b b' = x := ⟨_, rfl⟩
      have HL2 := Lib.hid hb2
      rw [decide_eq_true hu, hb2, Bool.false_or, Bool.true_and] at hcm
      have HC := Lib.hid hcm
      have e1 : (a.toList == a'.toList) = true := by rw [hu]; exact beq_self_eq_true _
      have e2 : a.toList = a'.toList := by rw [hu]
      clear hb2 hcm hu
      go_enter Tryz.func81, Tryz.ntmps81
      go_wp2_with fail
      with_reducible refine (refLess_is _ a a' false HL).mono ?_
      rintro x w1 ⟨rfl, c1⟩
      subst c1
      go_wp2_with fail
      with_reducible refine (refLess_is _ b b' b2 HL2).mono ?_
      rintro x w2 ⟨rfl, c2⟩
      subst c2
      go_wp2
      go_ret
      rw [HC.out]
      exact ⟨by rfl, D⟩
    · rw [decide_eq_false hu, Bool.false_and, Bool.or_false] at hcm
      have HF : Hid (ltRo (a, b) (a', b') = false) := hcm
      have e1 : (a.toList == a'.toList) = false := by simpa [toList_inj'] using hu
      have e2 : ¬ a.toList = a'.toList := by simpa [toList_inj'] using hu
      clear hcm hu
      go_enter Tryz.func81, Tryz.ntmps81
      go_wp2_with fail
      with_reducible refine (refLess_is _ a a' false HL).mono ?_
      rintro x w1 ⟨rfl, c1⟩
      subst c1
      go_wp2
      go_ret
      rw [HF.out]
      exact ⟨rfl, D⟩
end Go.Proofs.YtbpfcjdjhponaaaGreat
namespace Go.Proofs.YtbpfcjdjhponaaaGreat
open Go.RowKit Go.WideMaps Go.Maps Sp
def keyC (s : ByteArray) : Lit := .string s.data.toList
theorem keyC_key (s : ByteArray) : WideAt.IsKeyLit (keyC s) := trivial
theorem keyC_ne {s t : ByteArray} (h : s ≠ t) : keyC s ≠ keyC t := fun e => h (by
  have e2 : s.data.toList = t.data.toList := by injection e
  exact toList_inj.1 e2)
theorem mapLawC : Keyed Tryz.prog 9 := string_keyed Tryz.underlying9
theorem zeroInt (w : World) : (zeroValue 3).run Tryz.prog w = .ok (.int .i64 0) w := by kernel_rfl
def CntOf (D : DataW Unit) (xs : List ByteArray) : Prop := Tidy D ∧ ∀ s, D.atKey (keyC s) (.lit (.int .i64 0)) = .lit (.int .i64 (cntL xs s : Int))
theorem CntOf.new : CntOf (.map []) [] := ⟨tidy_empty, fun _ => by simp [DataW.atKey, cntL]⟩
theorem CntOf.put {D : DataW Unit} {xs : List ByteArray} (h : CntOf D xs) (s : ByteArray) : CntOf (D.put (keyC s) (.lit (.int .i64 ((cntL xs s + 1 : Nat) : Int)))) (xs ++ [s]) := by
  obtain ⟨h1, h2⟩ := h
  refine ⟨h1.put (keyC_key s) _, fun t => ?_⟩
  rw [cntL_snoc]
  by_cases e : t = s
  · subst e
    rw [atKey_put_same h1.isMap (keyC_key t), if_pos rfl]
  · rw [atKey_put_other (keyC_ne e), h2, if_neg (Ne.symm e), Nat.add_zero]
def CntMap (w : World) (b n : Nat) (xs : List ByteArray) : Prop := ∃ D : DataW Unit, w.ownsMap Tryz.prog 9 (plainElem Tryz.prog 3) b n D ∧ CntOf D xs
theorem CntMap.new (w : World) : CntMap (w.alloc (.map #[] 0)) w.heap.size 0 [] := ⟨_, World.ownsMap_made _ _ _ _, CntOf.new⟩
theorem CntMap.below {w w1 : World} {b n : Nat} {xs : List ByteArray} (h : CntMap w b n xs) (hb : Below w.heap.size w w1) : CntMap w1 b n xs := by
  obtain ⟨D, h1, h2⟩ := h
  exact ⟨D, h1.kept (grown_of_below hb none) (by simp), h2⟩
theorem CntMap.look {w : World} {b n : Nat} {xs : List ByteArray} (h : CntMap w b n xs) (s : ByteArray) (hs : s.size ≤ maxLen) :
    (Instr.lookup 183 (.map (some b)) (.string s) false).run Tryz.prog w = .ok (.int .i64 (cntL xs s)) w := by
  obtain ⟨D, h1, h2⟩ := h
  obtain ⟨v, ps, hrun, hv⟩ := h1.lookup mapLawC Tryz.underlying183 (zeroInt _) (plainElem_int Tryz.underlying3 (by decide)) (keyOf_string_mk Tryz.underlying9 hs)
  rw [show (.string s.data.toList : Lit) = keyC s from rfl, h2.2] at hv
  obtain ⟨x, rfl, e, _⟩ := plainElem_int_inv Tryz.underlying3 hv
  simp only [Prod.mk.injEq, DataW.lit.injEq, Lit.int.injEq, true_and] at e
  rw [hrun, e.1]
end Go.Proofs.YtbpfcjdjhponaaaGreat
namespace Go.Proofs.YtbpfcjdjhponaaaGreat
open Go.RowKit Go.MapKept
theorem upd_new {P : Program} {kt et mty : TypeId} {d : TypeDesc} {es : Array MapEntry} {clock : Nat} {key value : Value} (hm : P.underlying mty = some (.map kt et)) (hd : P.underlying kt = some d) (hk : IsKey d key) (hf : Instr.findNow d key es.toList 0 = some none) (W : World) (b : Nat) (h : W.heap.size = b) :
    (Instr.mapUpdate mty (.map (some b)) key value).run P (W.alloc (.map es clock)) = .ok () (W.alloc (.map (es.push { key, val := value, born := clock }) (clock + 1))) := by
  subst h
  have hb : (W.alloc (.map es clock)).heap[W.heap.size]? = some (.map es clock) := heap_alloc_new _ _
  have hw : ({ W.alloc (.map es clock) with heap := (W.alloc (.map es clock)).heap.setIfInBounds W.heap.size (.map (es.push { key, val := value, born := clock }) (clock + 1)) } : World) = W.alloc (.map (es.push { key, val := value, born := clock }) (clock + 1)) := by
    unfold World.alloc
    simp only [World.mk.injEq, and_true]
    apply Array.ext_getElem?
    intro i
    rw [Array.getElem?_setIfInBounds, Array.getElem?_push, Array.getElem?_push]
    by_cases hi : W.heap.size = i
    · subst hi
      simp
    · rw [if_neg hi, if_neg (fun e => hi e.symm)]
      first | rfl | (rw [if_neg (fun e => hi e.symm)])
  unfold Instr.mapUpdate
  simp only [Sem.run_bind, run_underlying hm, Result.andThen, Go.MapKept.run_getObj_map hb, Go.MapKept.run_checkKey hd hk, Go.MapKept.run_findKey hd hf]
  rw [Go.MapKept.run_setObj_map _ hb, hw]
theorem look_at {P : Program} {kt et mty : TypeId} {d : TypeDesc} {es : Array MapEntry} {clock : Nat} {key value : Value} {i : Nat} (hm : P.underlying mty = some (.map kt et)) (hd : P.underlying kt = some d) (hk : IsKey d key) (hf : Instr.findNow d key es.toList 0 = some (some (i, value))) (W : World) (b : Nat) (hb : W.heap[b]? = some (.map es clock)) :
    (Instr.lookup mty (.map (some b)) key true).run P W = .ok (.tuple #[value, .bool true]) W := by
  unfold Instr.lookup
  simp [run_underlying hm, Result.andThen, Go.MapKept.run_getObj_map hb, Go.MapKept.run_checkKey hd hk, Go.MapKept.run_findKey hd hf]
end Go.Proofs.YtbpfcjdjhponaaaGreat
