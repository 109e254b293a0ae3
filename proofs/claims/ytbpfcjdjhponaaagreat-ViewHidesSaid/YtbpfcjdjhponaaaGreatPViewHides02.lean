import Derived.Laws.BitsLemmas
import Derived.ArgAppend
import Derived.Deep.RegionHeld3
import Derived.Lib.SlicesCompact
import Derived.Sort.OwnSorted
import Derived.Shelf.SlSortCmp.NoneTotal
import Derived.Lib.AppendZeros
import Derived.Deep.QuietTactic
import Derived.BigQuiet
import Derived.Laws.Rows
import Derived.Test.YtbpfcjdjhponaaaGreatPViewHides01
set_option linter.unusedVariables false
set_option linter.unusedSimpArgs false
namespace Go.Proofs.YtbpfcjdjhponaaaGreat
open Go.RowKit
namespace Sp
end Sp
open Sp
end Go.Proofs.YtbpfcjdjhponaaaGreat
namespace Go.Proofs.YtbpfcjdjhponaaaGreat
open Go.RowKit
namespace Sp
end Sp
open Sp
end Go.Proofs.YtbpfcjdjhponaaaGreat
namespace Go.Proofs.YtbpfcjdjhponaaaGreat
open Go.RowKit
def Buf (w : World) (base : Nat) (v : Value) (l : List UInt8) : Prop :=
  ∃ g cap, v = .slice (some ⟨g, 0, none⟩) l.length cap ∧ base ≤ g ∧ l.length ≤ cap ∧ cap ≤ maxLen ∧ g < w.heap.size ∧
    (∀ j (h : j < l.length), w.cell? ⟨g, j, none⟩ = some (.int .u8 l[j].toNat)) ∧ (∀ j, j < cap → (w.cell? ⟨g, j, none⟩).isSome = true) ∧ ∀ j, j < cap → w.frozen? ⟨g, j, none⟩ = false
theorem Buf.below {w w1 : World} {base : Nat} {v : Value} {l : List UInt8} (h : Buf w base v l) (hb : Below w.heap.size w w1) : Buf w1 base v l := by
  obtain ⟨g, cap, rfl, h1, h2, h3, h4, h5, h6, h7⟩ := h
  have hc : ∀ j, w1.cell? ⟨g, j, none⟩ = w.cell? ⟨g, j, none⟩ := fun j => hb.cell (p := ⟨g, j, none⟩) h4
  refine ⟨g, cap, rfl, h1, h2, h3, by have := hb.size; omega, fun j hj => by rw [hc]; exact h5 j hj, fun j hj => by rw [hc]; exact h6 j hj, fun j hj => ?_⟩
  rw [hb.frozen (p := ⟨g, j, none⟩) h4]
  exact h7 j hj
theorem Buf.row {w : World} {base : Nat} {v : Value} {l : List UInt8} (h : Buf w base v l) : Row enB 1 w v l := by
  obtain ⟨g, cap, rfl, h1, h2, h3, h4, h5, h6, h7⟩ := h
  refine ⟨some ⟨g, 0, none⟩, cap, rfl, h2, h3, by rw [enB_flat]; simp, fun _ => ⟨_, rfl, fun j u hu => ?_⟩⟩
  rw [enB_flat, List.getElem?_map] at hu
  obtain ⟨b, hb, rfl⟩ := Option.map_eq_some_iff.mp hu
  obtain ⟨hj, rfl⟩ := List.getElem?_eq_some_iff.mp hb
  rw [add_plain]
  exact h5 j hj
theorem Buf.base_le {w : World} {base : Nat} {v : Value} {l : List UInt8} (h : Buf w base v l) (k : Nat) (hk : v.ownBlock = some k) : base ≤ k := by
  obtain ⟨g, cap, rfl, h1, _⟩ := h
  simp [Value.ownBlock] at hk
  omega
theorem Buf.own {w : World} {base : Nat} {v : Value} {l : List UInt8} (h : w.ownsRow base 5 1 v l.length (l.map fun b => .int .u8 b.toNat)) (hl : 0 < l.length) : Buf w base v l := by
  rcases h.2 with ⟨_, h0⟩ | ⟨g, cap, cur, rfl, hb, hg, h1, h2, h3, h4⟩
  · omega
  refine ⟨g, cap, rfl, hb, h1, h2, (Array.getElem?_eq_some_iff.1 hg).1, fun j hj => ?_, fun j hj => ?_, fun j hj => ?_⟩
  · have := World.ownsRow.cells h (g := g) rfl j (.int .u8 l[j].toNat) (by rw [List.getElem?_map, List.getElem?_eq_getElem hj]; rfl)
    rw [add_plain] at this
    exact this
  · simp only [World.cell?, hg]
    rw [Array.getElem?_eq_getElem (by omega)]
    rfl
  · simp [World.frozen?, hg]
section
variable {ops : Array Oper} {rest : List Oper} {o : Oper} {a : Act} {Q : Exit → Act → World → Prop}
theorem Buf.append {w0 W : World} (base : Nat) (hgd : o.guard = none) (s x : Operand)
    (ho : o.op = .call { callee := .builtin .append, args := #[s, x], argTypes := #[80, 80] })
    (v : Value) (l : List UInt8) (b : UInt8) (c : Value) (hc : c = .int .u8 b.toNat) (hs : a.eval s = v) (hx : a.eval x = .slice (some ⟨W.heap.size, 0, none⟩) 1 1)
    (HO : Buf W base v l) (HB : Below base w0 W) (hbase : base ≤ W.heap.size) (hl : l.length + 1 ≤ 140737488355328)
    (h : ∀ v1 w1, Buf w1 base v1 (l ++ [b]) → Below base w0 w1 → wpList Tryz.prog ops Q rest (a.put o.dst v1) w1) :
    wpList Tryz.prog ops Q (o :: rest) a (W.alloc (.cells #[c] 5)) := by
  subst hc
  obtain ⟨i0, hi, hzz⟩ := Option.map_eq_some_iff.1 info_u8
  simp only [Prod.mk.injEq] at hzz
  obtain ⟨hz0, hz1, hz2⟩ := hzz
  have HO1 : Buf (W.alloc (.cells #[.int .u8 b.toNat] 5)) base v l := HO.below ((Below.refl _ _).alloc (Nat.le_refl _) _)
  have HB1 : Below base w0 (W.alloc (.cells #[.int .u8 b.toNat] 5)) := HB.alloc hbase _
  have hsz : (W.alloc (.cells #[.int .u8 b.toNat] 5)).heap.size = W.heap.size + 1 := Array.size_push ..
  have hnew : (W.alloc (.cells #[.int .u8 b.toNat] 5)).cell? ⟨W.heap.size, 0, none⟩ = some (.int .u8 b.toNat) := by
    have := World.news_of_block (cs := #[.int .u8 b.toNat]) (t := 5) (fr := (0, 0)) (heap_alloc_new W (.cells #[.int .u8 b.toNat] 5)) 0 (.int .u8 b.toNat) (by rfl)
    rw [add_plain] at this
    exact this
  generalize W.alloc (.cells #[.int .u8 b.toNat] 5) = W1 at *
  have HO2 := HO1
  obtain ⟨g, cap, rfl, h1, h2, h3, h4, h5, h6, h7⟩ := HO1
  have hmap : (l.map fun b : UInt8 => (.int .u8 b.toNat : Value)).length = l.length * 1 := by simp
  refine wpList_append_arg W1 hgd s x _ ho 5 i0 (.int .u8 0) 1 1 Tryz.underlying80 hi hz0 hz1 hz2 rfl (by omega) g 0 l.length cap (l.map fun b => .int .u8 b.toNat) hs hmap (fun j u hu => ?_)
    ⟨W.heap.size, 0, none⟩ 1 1 [.int .u8 b.toNat] hx rfl (fun j u hu => ?_) (by simp [Value.oneCell']) (fun hr j hj => ?_) (by simp only [maxLen]; omega) (by omega) (fun hr => ?_) (fun hr v' w' hown hg => ?_)
  · rw [List.getElem?_map] at hu
    obtain ⟨x, hx, rfl⟩ := Option.map_eq_some_iff.mp hu
    obtain ⟨hj, rfl⟩ := List.getElem?_eq_some_iff.mp hx
    rw [Nat.zero_add]
    exact h5 j hj
  · cases j with
    | zero => simp at hu; subst hu; rw [add_plain]; exact hnew
    | succ j => simp at hu
  · simp at hj
    subst hj
    simp only [Nat.zero_add, Nat.mul_one, Nat.add_zero]
    exact ⟨h6 _ (by omega), h7 _ (by omega)⟩
  · simp only [Nat.zero_add, Nat.mul_one]
    refine h _ _ ⟨g, cap, by simp, h1, by simpa using hr, h3, ?_, fun j hj => ?_, fun j hj => ?_, fun j hj => ?_⟩ ?_
    · simpa [World.setCells] using h4
    · simp only [World.setCells]
      by_cases e : j = l.length
      · subst e
        rw [World.cell?_setCell_same _ _ _ (Option.some_get (h6 l.length (by omega))).symm]
        simp
      · have hj' : j < l.length := by simp at hj; omega
        rw [World.cell?_setCell_other _ _ _ _ (by intro e2; injection e2; omega), h5 j hj', List.getElem_append_left hj']
    · simp only [World.setCells]
      by_cases e : j = l.length
      · subst e
        rw [World.cell?_setCell_same _ _ _ (Option.some_get (h6 l.length (by omega))).symm]
        rfl
      · rw [World.cell?_setCell_other _ _ _ _ (by intro e2; injection e2; omega)]
        exact h6 j hj
    · rw [World.frozen?_setCells]
      exact h7 j hj
    · simp only [World.setCells]
      exact HB1.setCell (p := ⟨g, l.length, none⟩) h1 _
  · refine h v' w' ?_ (HB1.grown hg (by omega) (fun k hk => by cases hk))
    have hown2 : w'.ownsRow base 5 1 v' (l ++ [b]).length ((l ++ [b]).map fun b => .int .u8 b.toNat) := by
      have := (show Own enB 1 5 w' W1.heap.size v' (l ++ [b]) by unfold Own; rw [enB_flat]; simpa using hown).lower (base' := base) (by omega)
      unfold Own at this
      rw [enB_flat] at this
      exact this
    exact Buf.own hown2 (by simp)
end
end Go.Proofs.YtbpfcjdjhponaaaGreat
namespace Go.Proofs.YtbpfcjdjhponaaaGreat
open Go.RowKit
namespace Sp
end Sp
open Sp
end Go.Proofs.YtbpfcjdjhponaaaGreat
namespace Go.Proofs.YtbpfcjdjhponaaaGreat
open Go.RowKit
namespace Sp
end Sp
open Sp
def S4 (g : Nat) (a p n : Int) (t : ByteArray) (W : World) : Prop :=
  W.cell? ⟨g, 0, none⟩ = some (.int .i64 a) ∧ W.cell? ⟨g, 1, none⟩ = some (.int .i64 p) ∧ W.cell? ⟨g, 2, none⟩ = some (.int .i64 n) ∧ W.cell? ⟨g, 3, none⟩ = some (.string t)
theorem S4.below {g : Nat} {a p n : Int} {t : ByteArray} {W W' : World} (h : S4 g a p n t W) (hb : Below W.heap.size W W') : S4 g a p n t W' :=
  ⟨cell_below hb h.1, cell_below hb h.2.1, cell_below hb h.2.2.1, cell_below hb h.2.2.2⟩
theorem S4.alloc {g : Nat} {a p n : Int} {t : ByteArray} {W : World} (h : S4 g a p n t W) (o : Obj) : S4 g a p n t (W.alloc o) := h.below ((Below.refl _ _).alloc (Nat.le_refl _) _)
theorem S4.drew {g : Nat} {a p n : Int} {t : ByteArray} {W : World} (h : S4 g a p n t W) : S4 g a p n t W.drew := h
end Go.Proofs.YtbpfcjdjhponaaaGreat
namespace Go.Proofs.YtbpfcjdjhponaaaGreat
open Go.RowKit Sp Go.Lib
section
variable {α : Type} [Inhabited α] [DecidableEq α]
theorem compact_spec (lt : α → α → Bool) (htr : ∀ a b c, lt a b = true → lt b c = true → lt a c = true) (hir : ∀ a, lt a a = false) (htot : ∀ a b, a ≠ b → lt a b = true ∨ lt b a = true)
    (d : Array α) (hs : ∀ i j, i < j → j < d.size → lt d[j]! d[i]! = false) : ∀ m, m ≤ d.size → (compactUpTo d m).Pairwise (fun a b => lt a b = true) ∧ ∀ x, x ∈ compactUpTo d m ↔ ∃ j, j < m ∧ d[j]! = x
  | 0, _ => ⟨List.Pairwise.nil, fun x => by simp [compactUpTo]⟩
  | m + 1, hm => by
    obtain ⟨h1, h2⟩ := compact_spec lt htr hir htot d hs m (by omega)
    have hle : ∀ j, j < m → lt d[m]! d[j]! = false := fun j hj => hs j m hj (by omega)
    rw [compactUpTo_succ]
    by_cases hk : keeps d m = true
    · rw [if_pos hk]
      have hlt : ∀ x ∈ compactUpTo d m, lt x d[m]! = true := by
        intro x hx
        obtain ⟨j, hj, rfl⟩ := (h2 x).1 hx
        have hne : d[j]! ≠ d[m]! := by
          intro e
          simp only [keeps, decide_eq_true_eq] at hk
          rcases hk with hk | hk
          · omega
          · apply hk
            by_cases e1 : d[m]! = d[m - 1]!
            · exact e1
            · exfalso
              have hj1 : j ≠ m - 1 := fun e2 => e1 (by rw [← e, e2])
              have a1 := hs j (m - 1) (by omega) (by omega)
              have a2 := hle (m - 1) (by omega)
              rw [e] at a1
              rcases htot _ _ e1 with h | h
              · rw [h] at a2; cases a2
              · rw [h] at a1; cases a1
        rcases htot _ _ hne with h | h
        · exact h
        · rw [hle j hj] at h; cases h
      refine ⟨List.pairwise_append.2 ⟨h1, List.pairwise_singleton _ _, fun a ha b hb => by rw [List.mem_singleton.1 hb]; exact hlt a ha⟩, fun x => ?_⟩
      rw [List.mem_append, h2, List.mem_singleton]
      constructor
      · rintro (⟨j, hj, rfl⟩ | rfl)
        · exact ⟨j, by omega, rfl⟩
        · exact ⟨m, by omega, rfl⟩
      · rintro ⟨j, hj, rfl⟩
        rcases Nat.lt_or_ge j m with h | h
        · exact .inl ⟨j, h, rfl⟩
        · obtain rfl : j = m := by omega
          exact .inr rfl
    · rw [if_neg hk, List.append_nil]
      refine ⟨h1, fun x => ?_⟩
      rw [h2]
      simp only [keeps, decide_eq_true_eq, not_or, Decidable.not_not] at hk
      constructor
      · rintro ⟨j, hj, rfl⟩
        exact ⟨j, by omega, rfl⟩
      · rintro ⟨j, hj, rfl⟩
        rcases Nat.lt_or_ge j m with h | h
        · exact ⟨j, h, rfl⟩
        · obtain rfl : j = m := by omega
          exact ⟨j - 1, by omega, hk.2.symm⟩
end
def cfL (x y : List UInt8) : Int := cmpS (strOf x) (strOf y)
theorem ltOf_cfL (x y : List UInt8) : Go.Proofs.ltOf cfL x y = less (strOf x) (strOf y) := cmpS_neg _ _
theorem swo_cfL : Go.Sort.SWO (Go.Proofs.ltOf cfL) where
  irrefl x := by rw [ltOf_cfL]; exact less_irrefl _
  trans x y z h1 h2 := by rw [ltOf_cfL] at *; exact less_trans _ _ _ h1 h2
  ntrans x y z h1 h2 := by
    rw [ltOf_cfL] at *
    rw [not_less_iff] at *
    rcases h1 with h1 | h1
    · rcases h2 with h2 | h2
      · exact .inl (h1.trans h2)
      · rw [h1]; exact .inr h2
    · rcases h2 with h2 | h2
      · rw [← h2]; exact .inr h1
      · exact .inr (less_trans _ _ _ h2 h1)
theorem tot_cfL (x y : List UInt8) (h : x ≠ y) : Go.Proofs.ltOf cfL x y = true ∨ Go.Proofs.ltOf cfL y x = true := by
  rw [ltOf_cfL, ltOf_cfL]
  exact less_total _ _ (fun e => h (strOf_inj.1 e))
theorem compact_merge (a b : List ByteArray) (d' : Array (List UInt8)) (hp : d'.toList.Perm ((a ++ b).map fun s => s.data.toList)) (hs : ∀ i j, i < j → j < d'.size → Go.Proofs.ltOf cfL d'[j]! d'[i]! = false) :
    (compact d'.toList).map strOf = mergeS a b := by
  have hc := compact_spec (Go.Proofs.ltOf cfL) swo_cfL.trans swo_cfL.irrefl tot_cfL d' hs d'.size (Nat.le_refl _)
  have he : compact d'.toList = compactUpTo d' d'.size := by unfold compact; simp
  rw [he]
  symm
  refine mergeS_eq a b _ ?_ fun x => ?_
  · rw [Sorted, List.pairwise_map]
    exact hc.1.imp fun {x y} h => by rw [ltOf_cfL] at h; exact h
  · rw [List.mem_map]
    have hm : ∀ l, l ∈ compactUpTo d' d'.size ↔ strOf l ∈ a ++ b := by
      intro l
      rw [hc.2]
      have h1 : (∃ j, j < d'.size ∧ d'[j]! = l) ↔ l ∈ d'.toList := by
        rw [List.mem_iff_getElem]
        constructor
        · rintro ⟨j, hj, rfl⟩
          exact ⟨j, by simpa using hj, by simp [hj]⟩
        · rintro ⟨j, hj, rfl⟩
          exact ⟨j, by simpa using hj, by simp [show j < d'.size by simpa using hj]⟩
      rw [h1, hp.mem_iff, List.mem_map]
      constructor
      · rintro ⟨s, hs, rfl⟩
        rw [strOf_toList]; exact hs
      · intro h
        exact ⟨_, h, strOf_list l⟩
    rw [← List.mem_append]
    constructor
    · rintro ⟨l, hl, rfl⟩
      exact (hm l).1 hl
    · intro h
      exact ⟨x.data.toList, (hm _).2 (by rw [strOf_toList]; exact h), strOf_toList x⟩
end Go.Proofs.YtbpfcjdjhponaaaGreat
namespace Go.Proofs.YtbpfcjdjhponaaaGreat
open Go.RowKit Sp Go.Lib
theorem info_str : (Tryz.prog.info? 9).map (fun i => (i.zero, i.size, i.bytes)) = some (some (.string ⟨#[]⟩), 1, 16) := by kernel_rfl
set_option maxRecDepth 100000 in
theorem growStr_calls (n : Nat) (w : World) (hn : n ≤ 1048576) :
    Calls Tryz.prog 169 #[.slice none 0 0, .int .i64 n] w fun e w' => ∃ v, e = .returned v ∧ Own enS 1 9 w' w.heap.size v [] ∧ Below w.heap.size w w' := by
  by_cases h0 : n = 0
  · subst h0
    go_enter Tryz.func169, Tryz.ntmps169
    go_wp2
    go_ret
    exact ⟨_, rfl, Own.nil _ _ _ _ _, Below.refl _ _⟩
  · have hp : 0 < n := by omega
    clear h0
    obtain ⟨i0, hi, hz0, hz1, hz2⟩ := info_parts info_str
    have hrun := fun ty => run_append_nil_zeros (P := Tryz.prog) w 51 3 ty 9 i0 (.string ⟨#[]⟩) .i64 .i64 Tryz.underlying51 Tryz.underlying3 hi hz0 n hp (by omega) (by omega) (by rw [hz2]; omega)
    have hg1 := grownCap_ge w n 0 9
    have hg2 := grownCap_le_maxLen w n 0 9 (by simp only [maxLen]; omega)
    have HR := Lib.hid hrun
    clear hrun
    go_enter Tryz.func169, Tryz.ntmps169
    go_wp2_with (at_builtin; refine wpList_append_run w rfl (.tmp 20) (.tmp 21) 51 3 rfl (.slice none 0 0) (.int .i64 n) rfl rfl _ _ (HR.out _) ?_)
    go_ret
    refine ⟨_, rfl, ?_, (Below.refl _ _).drew.alloc (Nat.le_refl _) _⟩
    have h := World.ownsRow_made (base := w.heap.size) (e := 9) (size := 1) w.drew (Builtin.zeroCells (Value.string ⟨#[]⟩).cells n ++ Builtin.zeroCells (Value.string ⟨#[]⟩).cells (grownCap w n 0 9 - n)) (grownCap w n 0 9) (Nat.le_refl _) hg2 ?_
    · exact h
    · have hz : (Value.string ⟨#[]⟩).cells.size = 1 := rfl
      rw [Array.size_append, size_zeroCells, size_zeroCells, hz]
      omega
def twoTo (a b : List ByteArray) (k : Nat) : List ByteArray := if k = 0 then [] else if k = 1 then a else a ++ b
set_option maxHeartbeats 1000000 in
set_option maxRecDepth 100000 in
theorem concatStr_calls (g n1 c1 n2 c2 : Nat) (A1 A2 : Option Addr) (a b : List ByteArray) (w : World) (h0 : w.cell? ⟨g, 0, none⟩ = some (.slice A1 n1 c1)) (h1 : w.cell? ⟨g, 1, none⟩ = some (.slice A2 n2 c2))
    (ha : Row enS 1 w (.slice A1 n1 c1) a) (hb : Row enS 1 w (.slice A2 n2 c2) b) (hn1 : n1 ≤ 524288) (hn2 : n2 ≤ 524288) :
    Calls Tryz.prog 128 #[.slice (some ⟨g, 0, none⟩) 2 2] w fun e w' => ∃ v, e = .returned v ∧ Own enS 1 9 w' w.heap.size v (a ++ b) ∧ Below w.heap.size w w' := by
  have ea := ha.len_eq
  have eb := hb.len_eq
  have EA := Lib.hid ea
  have EB := Lib.hid eb
  clear ea eb
  have hgl : g < w.heap.size := World.block_lt_of_cell? w ⟨g, 0, none⟩ h0
  go_enter Tryz.func128, Tryz.ntmps128
  go_wp2
  go_loop [3, 11] (fun v3 v11 => ∃ k m : Nat, v11 = .int .i64 k ∧ k ≤ 2 ∧ v3 = .int .i64 m ∧ Hid (m = if k = 0 then 0 else if k = 1 then n1 else n1 + n2) ∧ m ≤ 1048576) (fun _ v11 => (2 - intOf v11).toNat)
  case atStart => exact ⟨0, 0, rfl, by omega, rfl, rfl, by omega⟩
  case round =>
    obtain ⟨k, m, rfl, hk, rfl, HM, hm⟩ := hrel
    obtain hk0 | hk1 | hk2 : k = 0 ∨ k = 1 ∨ k = 2 := by omega
    · subst hk0
      have hm0 : m ≤ 0 := by have := HM.out; simp at this; omega
      go_wp2
      go_round
      case rel => exact ⟨1, m + n1, by go_num, by omega, by go_num, by have := HM.out; simp at this; subst this; show _ = _; simp, by omega⟩
      case measure => simp [intOf]
    · subst hk1
      have hm1 : m ≤ 524288 := by have := HM.out; simp at this; omega
      go_wp2
      go_round
      case rel => exact ⟨2, m + n2, by go_num, by omega, by go_num, by have := HM.out; simp at this; subst this; show _ = _; simp, by omega⟩
      case measure => simp [intOf]
    · subst hk2
      go_wp2_with fail
      refine (growStr_calls m _ (by omega)).mono ?_
      rintro e w1 ⟨v, rfl, hO0, hB0⟩
      go_wp2
      go_loopw [6, 27] (fun v6 v27 wr => ∃ k : Nat, v27 = .int .i64 k ∧ k ≤ 2 ∧ Own enS 1 9 wr w.heap.size v6 (twoTo a b k) ∧ Below w.heap.size w wr) (fun _ v27 _ => (2 - intOf v27).toNat)
      case atStart => exact ⟨0, rfl, by omega, hO0, hB0⟩
      case round =>
        obtain ⟨k, rfl, hk, hO, hB⟩ := hrel
        have h0' := cell_below hB h0
        have h1' := cell_below hB h1
        obtain hk0 | hk1 | hk2 : k = 0 ∨ k = 1 ∨ k = 2 := by omega
        · subst hk0
          go_wp2_with (at_builtin; refine Own.appendRow (w0 := w) w.heap.size rfl (.tmp 31) (.tmp 32) 51 9 (.string ⟨#[]⟩) 1 16 rfl Tryz.underlying51 info_str rfl (by decide) u6 (.slice A1 n1 c1) [] a rfl rfl enS_one hO (ha.below hB) hB hB.size (by have := EA.out; simp; omega) (by have := EA.out; simp; omega) ?_; intro v1 w2 hO1 hB1 _ _)
          go_roundw
          case rel => exact ⟨1, by go_num, by omega, hO1, hB1⟩
          case measure => simp [intOf]
        · subst hk1
          go_wp2_with (at_builtin; refine Own.appendRow (w0 := w) w.heap.size rfl (.tmp 31) (.tmp 32) 51 9 (.string ⟨#[]⟩) 1 16 rfl Tryz.underlying51 info_str rfl (by decide) u6 (.slice A2 n2 c2) a b rfl rfl enS_one hO (hb.below hB) hB hB.size (by have := EA.out; have := EB.out; omega) (by have := EA.out; have := EB.out; omega) ?_; intro v1 w2 hO1 hB1 _ _)
          go_roundw
          case rel => exact ⟨2, by go_num, by omega, hO1, hB1⟩
          case measure => simp [intOf]
        · subst hk2
          go_wp2
          go_ret
          exact ⟨_, rfl, hO, hB⟩
theorem sort_none (p : Option Addr) (cap : Nat) (fv : Value) (w : World) : Calls Tryz.prog 129 #[.slice p 0 cap, fv] w fun e w' => e = .returned (.tuple #[]) ∧ w' = w :=
  AnyF.slices_SortFunc_none (P := Tryz.prog) (ρ := Tryz.laysSlF6_f129_ren) { Tryz.laysSlF6_f129 with } p cap fv w
theorem cmpLays (blk off size : Nat) (w : World) : CmpLays1 Tryz.prog 126 #[] encStr cfL blk off size w := by
  intro m os dk _ x y
  refine (compare_exact (strOf x) (strOf y) _).mono ?_
  rintro e w' ⟨rfl, o, rfl⟩
  exact ⟨rfl, 0, #[o], (Go.Sort.alloc_eq_grow _ _)⟩
theorem sort_own (v : Value) (xs : List ByteArray) (base : Nat) (w : World) (hO : Own enS 1 9 w base v xs) (hn : 0 < xs.length) (hx : xs.length ≤ 1048576) :
    Calls Tryz.prog 129 #[v, .func (.func 126) #[] #[]] w fun e w' => e = .returned (.tuple #[]) ∧ ∃ (g cap : Nat) (zs : List (List UInt8)), v = .slice (some ⟨g, 0, none⟩) xs.length cap ∧ zs.length = xs.length ∧ xs.length ≤ cap ∧ base ≤ g ∧
      zs.Perm (xs.map fun s => s.data.toList) ∧ (∀ i j, i < j → j < zs.toArray.size → ltOf cfL zs.toArray[j]! zs.toArray[i]! = false) ∧ w'.ownsRow base 9 1 v xs.length (zs.map encStr) ∧ w.grownBy w' (some g) := by
  rcases hO.2 with ⟨_, h0⟩ | ⟨g, cap, cur, rfl, hbase, hb, h1, h2, h3, h4⟩
  · omega
  · have hmap : xs.flatMap enS = (xs.map fun s => s.data.toList).map encStr := by
      rw [List.map_map]
      clear h1 h2 h3 h4 hb hO hn hx
      induction xs with
      | nil => rfl
      | cons x xs ih =>
        rw [List.flatMap_cons, ih, List.map_cons]
        show Value.string x :: _ = Value.string ⟨x.data.toList.toArray⟩ :: _
        rw [ofList_toList]
        rfl
    have hH : Go.Sort.Holds encStr w g 0 (xs.map fun s => s.data.toList).toArray := holds_of_block hb (by rw [← hmap]; simpa using h4)
    have eg : ∀ args w, (callFunc 126 args).run Tryz.prog w = .ok (.enter 126 args) w := enters_of Tryz.func126 (by kernel_rfl) rfl
    have hS := Tryz.slices_SortFunc encStr (fun _ => rfl) cfL swo_cfL 126 #[] g 0 cap (xs.map fun s => s.data.toList).toArray w eg (cmpLays g 0 _ w) hH (Array.getElem?_eq_some_iff.1 hb).1 (by simp only [List.size_toArray, List.length_map]; omega)
    simp only [List.size_toArray, List.length_map] at hS
    refine hS.mono ?_
    rintro e w' ⟨rfl, d', n, os, ⟨hp1, _, hp3⟩, hs, rfl⟩
    simp only [List.size_toArray, List.length_map] at hp1 hs
    have hl : d'.toList.length = (xs.map fun s => s.data.toList).length := by simpa using hp1
    have hto : d'.toList.toArray = d' := by simp
    refine ⟨rfl, g, cap, d'.toList, rfl, by simpa using hp1, h1, hbase, ?_, ?_, ?_, ?_⟩
    · have e1 : d'.extract 0 (xs.length) = d' := by rw [← hp1]; simp
      have e2 : (xs.map fun s => s.data.toList).toArray.extract 0 xs.length = (xs.map fun s => s.data.toList).toArray := by
        have : xs.length = (xs.map fun s => s.data.toList).toArray.size := by simp
        rw [this, Array.extract_size]
      rw [e1, e2] at hp3
      simpa using hp3
    · rw [hto]
      intro i j hij hj
      exact hs i j (Nat.zero_le _) hij (by omega)
    · have := ownsRow_sorted (w := w) (base := base) (g := g) (cap := cap) (n := n) (os := os) (cur := cur) (e := 9) (ss := xs.map fun s => s.data.toList) (ts := d'.toList) hl hbase hb (by simpa using h1) h2 h3
      rw [hto, List.length_map] at this
      exact this
    · exact grownBy_sorted d'
theorem strings_flat (zs : List (List UInt8)) : zs.map encStr = (zs.map strOf).flatMap enS := by
  induction zs with
  | nil => rfl
  | cons z zs ih => rw [List.map_cons, List.map_cons, List.flatMap_cons, ih]; rfl
theorem compact_own (g cap n : Nat) (zs : List (List UInt8)) (base : Nat) (w : World) (hn : zs.length = n) (hO : w.ownsRow base 9 1 (.slice (some ⟨g, 0, none⟩) n cap) n (zs.map encStr)) :
    Calls Tryz.prog 130 #[.slice (some ⟨g, 0, none⟩) n cap] w fun e w' => ∃ v, e = .returned v ∧ Row enS 1 w' v ((compact zs).map strOf) ∧ w.grownBy w' (some g) := by
  subst hn
  rcases hO.2 with ⟨h0, _⟩ | ⟨g', cap', cur, hv, hbase, hb, h1, h2, h3, h4⟩
  · cases h0
  · cases hv
    have hH : Go.Sort.Holds encStr w g 0 zs.toArray := holds_of_block hb (by simpa using h4)
    have hcl := compact_length_le zs
    refine (Tryz.slices_Compact_string g 0 cap zs w hH (by simp only [maxLen] at h2; omega) h1).mono ?_
    rintro e w' ⟨rfl, q, rfl⟩
    refine ⟨_, rfl, ?_, ?_⟩
    · have hts : (compact zs ++ List.replicate (zs.length - (compact zs).length) []).length = zs.length := by
        rw [List.length_append, List.length_replicate]; omega
      have ho := ownsRow_sorted (w := w) (base := base) (g := g) (cap := cap) (n := q) (os := #[]) (cur := cur) (e := 9) (ss := zs) (ts := compact zs ++ List.replicate (zs.length - (compact zs).length) []) hts hbase hb h1 h2 h3
      rw [Go.Sort.grow_empty] at ho
      have hlen : ((compact zs).map strOf).length = (compact zs).length := List.length_map _
      refine ⟨_, cap, by rw [hlen], by rw [hlen]; omega, h2, flat_length enS_len _, fun _ => ⟨_, rfl, fun j u hu => ?_⟩⟩
      refine ho.cells (g := g) rfl j u ?_
      rw [← strings_flat] at hu
      rw [List.map_append]
      have hj : j < ((compact zs).map encStr).length := (List.getElem?_eq_some_iff.1 hu).1
      rw [List.getElem?_append_left hj]
      exact hu
    · have := grownBy_sorted (w := w) (g := g) (n := q) (os := #[]) (compact zs ++ List.replicate (zs.length - (compact zs).length) []).toArray
      rwa [Go.Sort.grow_empty] at this
set_option maxHeartbeats 1000000 in
set_option maxRecDepth 100000 in
theorem Merge_calls (n1 c1 n2 c2 : Nat) (A1 A2 : Option Addr) (a b : List ByteArray) (w : World)
    (ha : Row enS 1 w (.slice A1 n1 c1) a) (hb : Row enS 1 w (.slice A2 n2 c2) b) (hn1 : n1 ≤ 524288) (hn2 : n2 ≤ 524288) :
    Calls Tryz.prog 79 #[.slice A1 n1 c1, .slice A2 n2 c2] w fun e w' => ∃ v, e = .returned v ∧ Row enS 1 w' v (mergeS a b) ∧ Below w.heap.size w w' := by
  have EA := Lib.hid ha.len_eq
  have EB := Lib.hid hb.len_eq
  go_enter Tryz.func79, Tryz.ntmps79
  go_wp2_with fail
  have hb0 : Below w.heap.size w (w.alloc (.cells #[.slice A1 n1 c1, .slice A2 n2 c2] 51)) := (Below.refl _ _).alloc (Nat.le_refl _) _
  refine (concatStr_calls w.heap.size n1 c1 n2 c2 A1 A2 a b _ (by simp) (by simp) (ha.below hb0) (hb.below hb0) hn1 hn2).mono ?_
  rintro e w1 ⟨v, rfl, hO, hB⟩
  have hB1 := below_call hb0 hB
  by_cases h0 : (a ++ b).length = 0
  · have hnil : mergeS a b = [] := by
      have h1 : a ++ b = [] := List.eq_nil_of_length_eq_zero h0
      unfold mergeS
      rw [h1]
      rfl
    have HNIL := Lib.hid hnil
    have hrow := hO.row
    obtain ⟨A, c, rfl, _⟩ := hO.slice
    rw [h0] at hrow ⊢
    have HN := Lib.hid h0
    clear h0 hnil
    go_wp2_with fail
    refine (sort_none A c _ _).mono ?_
    rintro e w2 ⟨rfl, rfl⟩
    go_wp2_with fail
    refine (Tryz.slices_Compact_string_empty A c _).mono ?_
    rintro e w2 ⟨rfl, rfl⟩
    go_wp2
    go_ret
    refine ⟨_, rfl, ?_, hB1⟩
    rw [HNIL.out]
    obtain ⟨A', c', he, _, h2, _⟩ := hrow
    injection he with e1 e2 e3
    subst e3
    exact ⟨A, c, rfl, Nat.zero_le _, h2, rfl, fun h => absurd h (by simp)⟩
  · go_wp2_with fail
    refine (sort_own v (a ++ b) _ _ hO (by omega) (by have := EA.out; have := EB.out; rw [List.length_append]; omega)).mono ?_
    rintro e w2 ⟨rfl, g, cap, zs, rfl, hz, hcap, hbase, hp, hs, hO2, hg⟩
    have hm := compact_merge a b zs.toArray (by simpa using hp) hs
    simp only at hm
    have HM := Lib.hid hm
    have HZ := Lib.hid hz
    clear hm hz hp hs
    go_wp2_with fail
    refine (compact_own g cap _ zs _ _ (by rw [HZ.out, List.length_append]) (by have h := hO2; rw [List.length_append] at h; exact h)).mono ?_
    rintro e w3 ⟨v3, rfl, hr, hg3⟩
    go_wp2
    go_ret
    refine ⟨_, rfl, ?_, ?_⟩
    · rw [HM.out] at hr
      exact hr
    · have h1 : w.heap.size + 1 ≤ g := by simpa using hbase
      have hsz := hB.size
      have e1 : Below w.heap.size w w2 := hB1.grown hg hB1.size (fun k hk => by injection hk with hk; omega)
      exact e1.grown hg3 e1.size (fun k hk => by injection hk with hk; omega)
end Go.Proofs.YtbpfcjdjhponaaaGreat
namespace Go.Proofs.YtbpfcjdjhponaaaGreat
open Go.RowKit Sp
def LessTo (l : List ByteArray) (s : ByteArray) (i : Nat) : Prop := ∀ j (h : j < l.length), j < i → less l[j] s = true
theorem LessTo.succ {l : List ByteArray} {s : ByteArray} {i : Nat} (h : LessTo l s i) (hi : ∀ h : i < l.length, less l[i] s = true) : LessTo l s (i + 1) := fun j hj hj1 => by
  rcases Nat.lt_or_ge j i with h' | h'
  · exact h j hj h'
  · obtain rfl : j = i := by omega
    exact hi hj
end Go.Proofs.YtbpfcjdjhponaaaGreat
namespace Go.Proofs.YtbpfcjdjhponaaaGreat
open Go.RowKit Sp
theorem take_eq_succ (a b : List ByteArray) (i : Nat) (ha : i < a.length) (hb : i < b.length) (h : a.take i = b.take i) (he : a[i] = b[i]) : a.take (i + 1) = b.take (i + 1) := by
  rw [List.take_succ_eq_append_getElem ha, List.take_succ_eq_append_getElem hb, h, he]
set_option maxHeartbeats 1000000 in
set_option maxRecDepth 100000 in
theorem refSame_calls (n c m d : Nat) (A B : Option Addr) (a b : List ByteArray) (w : World) (ha : Row enS 1 w (.slice A n c) a) (hb : Row enS 1 w (.slice B m d) b) :
    Calls Tryz.prog 24 #[.slice A n c, .slice B m d] w fun e w' => e = .returned (.bool (decide (a = b))) ∧ Below w.heap.size w w' := by
  have hn := ha.len
  have ea := ha.len_eq
  have eb := hb.len_eq
  have hn2 : n ≤ 9223372036854775807 := by omega
  have EA := Lib.hid ea
  have EB := Lib.hid eb
  clear ea eb hn
  by_cases hm : n = m
  · subst hm
    go_enter Tryz.func24, Tryz.ntmps24
    go_wp2
    go_loopw [5] (fun v5 wr => ∃ i q : Nat, v5 = .int .i64 i ∧ i ≤ n ∧ wr = w.drewN q ∧ Hid (a.take i = b.take i)) (fun v5 _ => (n - intOf v5).toNat)
    case atStart => exact ⟨0, 0, rfl, Nat.zero_le _, rfl, by show _ = _; simp⟩
    case round =>
      obtain ⟨i, q, rfl, hi, rfl, HT⟩ := hrel
      by_cases hlt : i < n
      · have hka : i < a.length := by have := EA.out; omega
        have hkb : i < b.length := by have := EB.out; omega
        obtain ⟨ad, rfl, hca⟩ := ha.get1 (f := Value.string) i hka
        obtain ⟨bd, rfl, hcb⟩ := hb.get1 (f := Value.string) i hkb
        by_cases hx : a[i] = b[i]
        · have HT2 : Hid (a.take (i + 1) = b.take (i + 1)) := take_eq_succ a b i hka hkb HT.out hx
          rw [← hx] at hcb
          have hne : (!(a[i].toList == a[i].toList)) = false := by simp
          clear hx
          go_wp2
          go_quiet (fail)
          go_wp2
          exact ⟨⟨i + 1, _, by go_num, by omega, rfl, HT2⟩, by simp [intOf]; omega⟩
        · have HV : Hid (decide (a = b) = false) := by
            refine decide_eq_false fun e => hx ?_
            subst e
            rfl
          have hne : (!(a[i].toList == b[i].toList)) = true := by
            simp only [Bool.not_eq_true', beq_eq_false_iff_ne]
            exact fun e => hx (toList_inj'.1 e)
          clear hx
          go_wp2
          go_quiet (fail)
          go_wp2
          go_ret
          exact ⟨ret_bool HV.out.symm, by repeat (first | exact Below.refl _ _ | apply below_drewN)⟩
      · have HV : Hid (decide (a = b) = true) := by
          refine decide_eq_true ?_
          have := HT.out
          rw [List.take_of_length_le (by have := EA.out; omega), List.take_of_length_le (by have := EB.out; omega)] at this
          exact this
        go_wp2
        go_ret
        exact ⟨ret_bool HV.out.symm, by repeat (first | exact Below.refl _ _ | apply below_drewN)⟩
  · have HV : Hid (decide (a = b) = false) := by
      refine decide_eq_false fun e => hm ?_
      have h1 := EA.out
      have h2 := EB.out
      rw [e] at h1
      omega
    have hb1 : ((n : Int) != m) = true := by simp; omega
    have hb2 : (n != m) = true := by simp; omega
    have hb3 : (!(n == m)) = true := by simp; omega
    clear hm
    go_enter Tryz.func24, Tryz.ntmps24
    go_wp2
    go_ret
    exact ⟨ret_bool HV.out.symm, Below.refl _ _⟩
end Go.Proofs.YtbpfcjdjhponaaaGreat
namespace Go.Proofs.YtbpfcjdjhponaaaGreat
open Go.RowKit Sp
end Go.Proofs.YtbpfcjdjhponaaaGreat
namespace Go.Proofs.YtbpfcjdjhponaaaGreat
open Go.RowKit Sp
def Bld (B b : Nat) (l : List UInt8) (w : World) : Prop := Lib.IsBuilderF 82 5 B b (Lib.byteCells l) w
theorem TextRow.kept {e : TypeId} {w w' : World} {k b n : Nat} {s : ByteArray} (h : TextRow e w k s) (hK : KeepsMarked b n w w') (hkb : k ≠ b) (hn : n ≤ s.size) : TextRow e w' k s := by
  refine h.keep ?_
  obtain ⟨cs, h1, h2, _⟩ := h
  exact hK k cs e _ hkb h1 (by simp; omega)
theorem BuilderAtF_later {T e : TypeId} {B b : Nat} {p : Value} {bs : List Value} {w w' : World} (h : Lib.BuilderAtF T e B b p bs w) (hk : ∀ k, k < w.heap.size → w'.heap[k]? = w.heap[k]?) : Lib.BuilderAtF T e B b p bs w' := by
  obtain ⟨hB, v, hb, hown, hne⟩ := h
  refine ⟨hB, v, (hk b (Array.getElem?_eq_some_iff.1 hb).1).trans hb, ⟨hown.1, ?_⟩, hne⟩
  rcases hown.2 with h | ⟨g, cap, cur, fz, hv, hg, hh, r⟩
  · exact .inl h
  · exact .inr ⟨g, cap, cur, fz, hv, hg, (hk g (Array.getElem?_eq_some_iff.1 hh).1).trans hh, r⟩
theorem Bld.later {B b : Nat} {l : List UInt8} {w w' : World} (h : Bld B b l w) (hk : ∀ k, k < w.heap.size → w'.heap[k]? = w.heap[k]?) : Bld B b l w' := by
  rcases h with h | h
  · exact .inl (BuilderAtF_later h hk)
  · exact .inr (BuilderAtF_later h hk)
theorem Bld.below {B b : Nat} {l : List UInt8} {w w' : World} (h : Bld B b l w) (hb : Below w.heap.size w w') : Bld B b l w' := h.later hb.block
theorem Bld.lt {B b : Nat} {l : List UInt8} {w : World} (h : Bld B b l w) : b < w.heap.size := by
  rcases h with h | h
  · obtain ⟨_, v, hb, _⟩ := h
    exact (Array.getElem?_eq_some_iff.1 hb).1
  · obtain ⟨_, v, hb, _⟩ := h
    exact (Array.getElem?_eq_some_iff.1 hb).1
end Go.Proofs.YtbpfcjdjhponaaaGreat
namespace Go.Proofs.YtbpfcjdjhponaaaGreat
open Go.RowKit Sp
end Go.Proofs.YtbpfcjdjhponaaaGreat
namespace Go.Proofs.YtbpfcjdjhponaaaGreat
open Go.RowKit Sp
theorem below_alloc {w w1 : World} (h : Below w.heap.size w w1) (o : Obj) : Below w.heap.size w (w1.alloc o) := h.alloc h.size o
section
variable (w : World)
theorem Is_is (s : ByteArray) (b : Bool) (h : Hid (isName s = b)) (hs : s.size ≤ 140737488351232) :
    Calls Tryz.prog 74 #[.string s] w fun e w' => e = .returned (.bool b) ∧ Below w.heap.size w w' := re_ (Is_calls s w hs) (by rw [h.out])
theorem refIs_is (s : ByteArray) (b : Bool) (h : Hid (isName s = b)) (hs : s.size ≤ 140737488351232) :
    Calls Tryz.prog 80 #[.string s] w fun e w' => e = .returned (.bool b) ∧ w = w' := re_ (refIs_calls s w hs) (by rw [h.out])
theorem Less_is (s t : ByteArray) (b : Bool) (h : Hid (less s t = b)) :
    Calls Tryz.prog 76 #[.string s, .string t] w fun e w' => e = .returned (.bool b) ∧ Below w.heap.size w w' := re_ (Less_calls s t w) (by rw [h.out])
theorem refLess_is (s t : ByteArray) (b : Bool) (h : Hid (less s t = b)) :
    Calls Tryz.prog 131 #[.string s, .string t] w fun e w' => e = .returned (.bool b) ∧ w = w' := re_ (refLess_calls s t w) (by rw [h.out])
end
end Go.Proofs.YtbpfcjdjhponaaaGreat
namespace Go.Proofs.YtbpfcjdjhponaaaGreat
open Go.RowKit
namespace Sp
abbrev PV := Int × Int × Int × ByteArray
def zeroV : PV := (0, 0, 0, ⟨#[]⟩)
end Sp
open Sp
def encV (v : PV) : Value := .agg #[.int .i64 v.1, .int .i64 v.2.1, .int .i64 v.2.2.1, .string v.2.2.2]
theorem info_val : (Tryz.prog.info? 27).map (·.size) = some 4 := by kernel_rfl
end Go.Proofs.YtbpfcjdjhponaaaGreat
namespace Go.Proofs.YtbpfcjdjhponaaaGreat
open Go.RowKit
namespace Sp
def betR (ai ap as_ bi bp bs : Int) : Bool := if ap ≠ bp then decide (bp < ap) else if as_ ≠ bs then decide (bs < as_) else decide (ai < bi)
def betSe (a b : Se) : Bool := betR a.i a.v.2.1 a.v.2.2.1 b.i b.v.2.1 b.v.2.2.1
def bestSe : Se → List Se → Se
  | b, [] => b
  | b, x :: l => bestSe (if betSe x b then x else b) l
theorem bestSe_snoc (x : Se) : ∀ (l : List Se) (b : Se), bestSe b (l ++ [x]) = if betSe x (bestSe b l) then x else bestSe b l
  | [], b => rfl
  | y :: l, b => bestSe_snoc x l _
def zeroSe : Se := ⟨⟨#[]⟩, 0, zeroV⟩
def bestL (l : List Se) : Se × Bool := match l with
  | [] => (zeroSe, false)
  | x :: r => (bestSe x r, true)
def showL (m : Int) (l : List Se) : Int := l.foldl (fun m y => max m y.v.1) m
theorem showL_snoc (m : Int) (l : List Se) (x : Se) : showL m (l ++ [x]) = max (showL m l) x.v.1 := by unfold showL; rw [List.foldl_append]; rfl
def viewL (l : List Se) : PV × Bool := ((showL (bestL l).1.v.1 l, (bestL l).1.v.2), (bestL l).2)
theorem betR_id {ai ap as_ bi : Int} : betR ai ap as_ bi ap as_ = decide (ai < bi) := by unfold betR; rw [if_neg (fun h2 => h2 rfl), if_neg (fun h2 => h2 rfl)]
end Sp
end Go.Proofs.YtbpfcjdjhponaaaGreat
namespace Go.Proofs.YtbpfcjdjhponaaaGreat
open Go.RowKit
structure Kept (P : World → Prop) : Prop where
  below : ∀ {w w1 : World}, P w → Below w.heap.size w w1 → P w1
  drew : ∀ {w : World}, P w → P w.drew
theorem Kept.row {α : Type} {enc : α → List Value} {k : Nat} {v : Value} {xs : List α} : Kept (fun w => Row enc k w v xs) := ⟨fun h b => h.below b, fun h => h⟩
theorem Kept.own {α : Type} {enc : α → List Value} {k : Nat} {e : TypeId} {base : Nat} {v : Value} {xs : List α} : Kept (fun w => Own enc k e w base v xs) := ⟨fun h b => h.below b, fun h => h⟩
theorem Kept.heap {g : Nat} {o : Obj} : Kept (fun w => w.heap[g]? = some o) := ⟨fun h b => hcall h b, fun h => h⟩
theorem Kept.cell {a : Addr} {v : Value} : Kept (fun w => w.cell? a = some v) := ⟨fun h b => cell_below b h, fun h => h⟩
theorem Kept.lt {n : Nat} : Kept (fun w => n < w.heap.size) := ⟨fun h b => Nat.lt_of_lt_of_le h b.size, fun h => h⟩
theorem Kept.and {P Q : World → Prop} (h : Kept P) (k : Kept Q) : Kept (fun w => P w ∧ Q w) := ⟨fun x b => ⟨h.below x.1 b, k.below x.2 b⟩, fun x => ⟨h.drew x.1, k.drew x.2⟩⟩
theorem Kept.alloc {P : World → Prop} (h : Kept P) {w : World} (x : P w) (o : Obj) : P (w.alloc o) := h.below x (below_box o)
end Go.Proofs.YtbpfcjdjhponaaaGreat
namespace Go.Proofs.YtbpfcjdjhponaaaGreat
open Go.RowKit
open Sp
def cmpL : List Int → List Int → Int
  | [], [] => 0
  | [], _ :: _ => -1
  | _ :: _, [] => 1
  | x :: a, y :: b => if Lib.compareInt x y ≠ 0 then Lib.compareInt x y else cmpL a b
theorem cmpL_drop (xs ys : List Int) (k : Nat) (h : k < xs.length) (h2 : k < ys.length) : cmpL (xs.drop k) (ys.drop k) = if Lib.compareInt xs[k] ys[k] ≠ 0 then Lib.compareInt xs[k] ys[k] else cmpL (xs.drop (k + 1)) (ys.drop (k + 1)) := by
  rw [List.drop_eq_getElem_cons h, List.drop_eq_getElem_cons h2]; rfl
set_option maxHeartbeats 8000000 in
set_option maxRecDepth 100000 in
theorem cmpInts_calls (A B : Option Addr) (n c c2 : Nat) (xs ys : List Int) (w : World) (h : Row enI 1 w (.slice A n c) xs) (h2 : Row enI 1 w (.slice B n c2) ys) (hn : n ≤ 100) :
    Calls Tryz.prog 177 #[.slice A n c, .slice B n c2] w fun e w' => e = .returned (.int .i64 (cmpL xs ys)) ∧ Below w.heap.size w w' := by
  have HL := Lib.hid h.len_eq
  have HL2 := Lib.hid h2.len_eq
  go_enter Tryz.func177, Tryz.ntmps177
  go_wp2
  go_loopw [11] (fun v11 wr => ∃ k : Nat, v11 = .int .i64 k ∧ k ≤ n ∧ Hid (cmpL (xs.drop k) (ys.drop k) = cmpL xs ys) ∧ Below w.heap.size w wr) (fun v11 _ => (n - intOf v11).toNat)
  case atStart => exact ⟨0, rfl, Nat.zero_le _, by show _ = _; rw [List.drop_zero, List.drop_zero], Below.refl _ _⟩
  case round =>
    obtain ⟨k, rfl, hk, HF, D⟩ := hrel
    by_cases hlt : k < n
    · have hk1 : k < xs.length := by have := HL.out; omega
      have hk2 : k < ys.length := by have := HL2.out; omega
      obtain ⟨ad, rfl, hc⟩ := (h.below D).get1 (f := Value.int .i64) k hk1
      obtain ⟨bd, rfl, hd⟩ := (h2.below D).get1 (f := Value.int .i64) k hk2
      have hdr := cmpL_drop xs ys k hk1 hk2
      obtain ⟨x, hx⟩ : ∃ x, xs[k] = x := ⟨_, rfl⟩
      obtain ⟨y, hy⟩ : ∃ y, ys[k] = y := ⟨_, rfl⟩
      rw [hx] at hc hdr
      rw [hy] at hd hdr
      clear hx hy
      rw [HF.out] at hdr
      obtain ⟨r, hr⟩ : ∃ r, Lib.compareInt x y = r := ⟨_, rfl⟩
      rw [hr] at hdr
      have HR := Lib.hid hr
      clear hr
      go_wp2_with fail
      refine (Tryz.cmp_Compare_int _ _ _).mono ?_
      rintro e w1 ⟨rfl, rfl⟩
      rw [HR.out]
      by_cases h0 : r = 0
      · have hb : (r != 0) = false := by simp [h0]
        have HF2 : Hid (cmpL (xs.drop (k + 1)) (ys.drop (k + 1)) = cmpL xs ys) := by rw [hdr, if_neg (by simp [h0])]; rfl
        clear h0 hdr
        go_wp2
        exact ⟨⟨k + 1, by go_num, by omega, HF2, D⟩, by simp [intOf]; omega⟩
      · have hb : (r != 0) = true := by simp [h0]
        have HF2 : Hid (cmpL xs ys = r) := by rw [hdr, if_pos h0]; rfl
        clear h0 hdr
        go_wp2
        go_ret
        exact ⟨ret_int HF2.out.symm, D⟩
    · have HF2 : Hid (cmpL xs ys = 0) := by
        have := HF.out
        rw [List.drop_eq_nil_of_le (by have := HL.out; omega), List.drop_eq_nil_of_le (by have := HL2.out; omega)] at this
        exact this.symm
      go_wp2
      go_ret
      exact ⟨ret_int HF2.out.symm, D⟩
theorem row3 {W : World} {g : Nat} {i x y z : Int} {T : TypeId} (h : W.heap[g]? = some (.cells #[.int .i64 i, .int .i64 x, .int .i64 y, .int .i64 z] T)) : Row enI 1 W (.slice (some ⟨g, 1, none⟩) 3 3) [x, y, z] := by
  refine ⟨_, _, rfl, Nat.le_refl 3, by unfold maxLen; omega, rfl, fun _ => ⟨_, rfl, fun j u hj => ?_⟩⟩
  have e : [x, y, z].flatMap enI = [.int .i64 x, .int .i64 y, .int .i64 z] := rfl
  rw [e] at hj
  match j, hj with
  | 0, hj => injection hj with hj; subst hj; simp [World.cell?, Addr.add, h]
  | 1, hj => injection hj with hj; subst hj; simp [World.cell?, Addr.add, h]
  | 2, hj => injection hj with hj; subst hj; simp [World.cell?, Addr.add, h]
abbrev slotV (i p s : Int) : Value := .agg #[.int .i64 i, .int .i64 p, .int .i64 s, .int .i64 0]
theorem neqRank {t : TypeId} (hu : Tryz.prog.underlying t = some (.array 3 3)) (a b c x y z : Int) (W : World) : (binOp .neq t (.agg #[.int .i64 a, .int .i64 b, .int .i64 c]) (.agg #[.int .i64 x, .int .i64 y, .int .i64 z])).run Tryz.prog W = .ok (.bool (!(a == x && (b == y && c == z)))) W := by
  have hci : Tryz.prog.cellsOf 3 = 1 := by kernel_rfl
  have hint := Tryz.underlying3
  have hpk : Tryz.prog.plainKey 3 = true := by kernel_rfl
  obtain ⟨i, hi⟩ : ∃ i, Tryz.prog.info? 3 = some i := Option.isSome_iff_exists.1 (by kernel_rfl)
  have hp : ∀ (cs : Array Value) (off : Nat) (v : Value) (W : World), cs[off]? = some v → (part 3 cs off).run Tryz.prog W = .ok v W := fun cs off v W h => run_part_plain W hpk h
  have he : ∀ (d : Nat) (p q : Int) (W : World), (Op.equalIn (d + 1) 3 (.int .i64 p) (.int .i64 q)).run Tryz.prog W = .ok (p == q) W := fun d p q W => run_equalIn_int W d _ _ _ _ _ hint
  rw [run_neq_struct, run_equalIn_array W 9999 _ _ hu hi, hci, show List.range 3 = [0, 1, 2] from rfl]
  simp only [Op.eqItems, Sem.run_bind]
  rw [hp _ _ (.int .i64 a) W rfl]
  simp only [Result.andThen_ok]
  rw [hp _ _ (.int .i64 x) W rfl]
  simp only [Result.andThen_ok]
  rw [he]
  simp only [Result.andThen_ok]
  by_cases h1 : a = x
  · rw [if_neg (by simp [h1])]
    simp only [Sem.run_bind]
    rw [hp _ _ (.int .i64 b) W rfl]
    simp only [Result.andThen_ok]
    rw [hp _ _ (.int .i64 y) W rfl]
    simp only [Result.andThen_ok]
    rw [he]
    simp only [Result.andThen_ok]
    by_cases h2 : b = y
    · rw [if_neg (by simp [h2])]
      simp only [Sem.run_bind]
      rw [hp _ _ (.int .i64 c) W rfl]
      simp only [Result.andThen_ok]
      rw [hp _ _ (.int .i64 z) W rfl]
      simp only [Result.andThen_ok]
      rw [he]
      simp only [Result.andThen_ok]
      by_cases h3 : c = z
      · rw [if_neg (by simp [h3])]
        simp [h1, h2, h3]
      · rw [if_pos (by simp [h3])]
        simp [h1, h2, h3]
    · rw [if_pos (by simp [h2])]
      simp [h1, h2]
  · rw [if_pos (by simp [h1])]
    simp [h1]
end Go.Proofs.YtbpfcjdjhponaaaGreat
namespace Go.Proofs.YtbpfcjdjhponaaaGreat
open Go.RowKit
open Sp
abbrev ag6 (u : ByteArray) (i a p n : Int) (t : ByteArray) : Value := .agg #[.string u, .int .i64 i, .int .i64 a, .int .i64 p, .int .i64 n, .string t]
abbrev agK (u : ByteArray) (i : Int) : Value := .agg #[.string u, .int .i64 i]
set_option maxHeartbeats 4000000 in
set_option maxRecDepth 100000 in
theorem of_calls (u : ByteArray) (i a p n : Int) (t : ByteArray) (w : World) :
    Calls Tryz.prog 108 #[ag6 u i a p n t] w fun e w' => e = .returned (agK u i) ∧ Below w.heap.size w w' := by
  go_enter Tryz.func108, Tryz.ntmps108
  go_wp2
  exact bodyPost_ret (v := agK u i) (by simp [results, Tryz.results108, go_sem]) rfl ⟨rfl, below_alloc0 (below_alloc0 (Below.refl _ _) _) _⟩
set_option maxHeartbeats 8000000 in
set_option maxRecDepth 100000 in
theorem ahead_calls (u : ByteArray) (i : Int) (u' : ByteArray) (i' : Int) (w : World) :
    Calls Tryz.prog 109 #[agK u i, agK u' i'] w fun e w' => e = .returned (.bool (ltSe (u, i) (u', i'))) ∧ Below w.heap.size w w' := by
  obtain ⟨b, hb⟩ : ∃ b, less u u' = b := ⟨_, rfl⟩
  have HL := Lib.hid hb
  obtain ⟨r, hr⟩ : ∃ r, ltSe (u, i) (u', i') = r := ⟨_, rfl⟩
  rw [hr]
  unfold ltSe at hr
  simp only [hb] at hr
  have HR := Lib.hid hr
  clear hb hr
  go_enter Tryz.func109, Tryz.ntmps109
  go_wp2_with (go_at_call 76; refine (Less_is _ u u' b HL).mono ?_; rintro e w1 ⟨rfl, b1⟩; obtain ⟨hc, hf⟩ := bcell b1; have hz : w.heap.size + 1 < w1.heap.size := (by have := b1.size; simp at this; omega); have B1 := below_call (below_alloc0 (below_alloc0 (Below.refl _ _) _) _) b1; clear b1)
  all_goals (try go_ret)
  all_goals (refine ⟨ret_bool ?_, by assumption⟩)
  all_goals (have hr := HR.out; clear HR HL)
  all_goals (subst hr)
  all_goals (try (simp_all; done))
  all_goals (simp_all [toList_inj'])
set_option maxHeartbeats 8000000 in
set_option maxRecDepth 100000 in
theorem oddS_calls (u : ByteArray) (i a p n : Int) (t : ByteArray) (w : World) (hu : u.size ≤ 140737488351232) (ht : t.size ≤ 140737488351232) :
    Calls Tryz.prog 105 #[ag6 u i a p n t] w fun e w' => e = .returned (.bool (!oneS ⟨u, i, a, p, n, t⟩)) ∧ Below w.heap.size w w' := by
  go_enter Tryz.func105, Tryz.ntmps105
  go_wp2_with (first | (go_at_call 74; refine (Is_calls _ _ (by assumption)).mono ?_; rintro e w2 ⟨rfl, b2⟩; have B2 := below_call (by first | assumption | exact below_box _) b2; obtain ⟨hc2, hf2⟩ := bcell b2; have hz2 : w.heap.size < w2.heap.size := Nat.lt_of_lt_of_le (by first | assumption | simp) b2.size; clear b2) | (go_at_call 75; refine (may_calls _ _ _ _ _ (by assumption)).mono ?_; rintro e w1 ⟨rfl, b1⟩; have B2 := below_call (by first | assumption | exact below_box _) b1))
  all_goals (try go_ret)
  all_goals (refine ⟨ret_bool ?_, by first | assumption | exact below_box _⟩)
  all_goals (unfold oneS)
  all_goals (try (simp_all; done))
  all_goals (try (simp_all; omega))
set_option maxHeartbeats 8000000 in
set_option maxRecDepth 100000 in
theorem refOne_calls (u : ByteArray) (i a p n : Int) (t : ByteArray) (w : World) (hu : u.size ≤ 140737488351232) (ht : t.size ≤ 140737488351232) :
    Calls Tryz.prog 86 #[ag6 u i a p n t] w fun e w' => e = .returned (.bool (oneS ⟨u, i, a, p, n, t⟩)) ∧ Below w.heap.size w w' := by
  go_enter Tryz.func86, Tryz.ntmps86
  go_wp2_with (first | (go_at_call 80; refine (refIs_calls _ _ (by assumption)).mono ?_; rintro e w2 ⟨rfl, rfl⟩) | (go_at_call 132; refine (refMay_calls _ _ _ _ _ (by assumption)).mono ?_; rintro e w1 ⟨rfl, b1⟩; have B2 := below_call (below_box _) b1))
  all_goals (try go_ret)
  all_goals (refine ⟨ret_bool ?_, by first | assumption | exact below_box _⟩)
  all_goals (unfold oneS)
  all_goals (try (simp_all; done))
  all_goals (try (simp_all; omega))
set_option maxHeartbeats 8000000 in
set_option maxRecDepth 100000 in
theorem refAheadS_calls (u : ByteArray) (i a p n : Int) (t u' : ByteArray) (i' a' p' n' : Int) (t' : ByteArray) (w : World) :
    Calls Tryz.prog 87 #[ag6 u i a p n t, ag6 u' i' a' p' n' t'] w fun e w' => e = .returned (.bool (ltSe (u, i) (u', i'))) ∧ Below w.heap.size w w' := by
  obtain ⟨b, hb⟩ : ∃ b, less u u' = b := ⟨_, rfl⟩
  have HL := Lib.hid hb
  obtain ⟨r, hr⟩ : ∃ r, ltSe (u, i) (u', i') = r := ⟨_, rfl⟩
  rw [hr]
  unfold ltSe at hr
  simp only [hb] at hr
  have HR := Lib.hid hr
  clear hb hr
  go_enter Tryz.func87, Tryz.ntmps87
  go_wp2_with (go_at_call 131; refine (refLess_is _ u u' b HL).mono ?_; rintro e w1 ⟨rfl, rfl⟩)
  all_goals (try go_ret)
  all_goals (refine ⟨ret_bool ?_, below_alloc0 (below_alloc0 (Below.refl _ _) _) _⟩)
  all_goals (have hr := HR.out; clear HR HL)
  all_goals (subst hr)
  all_goals (try (simp_all; done))
  all_goals (simp_all [toList_inj'])
end Go.Proofs.YtbpfcjdjhponaaaGreat
namespace Go.Proofs.YtbpfcjdjhponaaaGreat
open Go.RowKit
open Sp
end Go.Proofs.YtbpfcjdjhponaaaGreat
namespace Go.Proofs.YtbpfcjdjhponaaaGreat
open Go.RowKit
open Sp
theorem eqlK (u : ByteArray) (i : Int) (u' : ByteArray) (i' : Int) (W : World) :
    (binOp .eql 154 (agK u i) (agK u' i')).run Tryz.prog W = .ok (.bool (decide (((u, i) : SeK) = (u', i')))) W := by
  have e : decide (((u, i) : SeK) = (u', i')) = (u.toList == u'.toList && (i == i')) := by
    rw [Bool.eq_iff_iff, decide_eq_true_eq]
    simp only [Bool.and_eq_true, beq_iff_eq, toList_inj', Prod.mk.injEq]
  rw [e]
  cases h0 : u.toList == u'.toList
  · simp [go_sem, h0]
  cases h1 : i == i' <;> simp [go_sem, h0, h1]
abbrev bxK (u : ByteArray) (i : Int) : Obj := .cells #[.string u, .int .i64 i] 154
set_option maxHeartbeats 8000000 in
set_option maxRecDepth 100000 in
theorem find1_calls (u : ByteArray) (i a p n : Int) (t : ByteArray) (g : Nat) (ku : ByteArray) (ki : Int) (w : World) (hg : w.heap[g]? = some (bxK ku ki)) :
    Calls Tryz.prog 155 #[ag6 u i a p n t, .pointer (some ⟨g, 0, none⟩)] w fun e w' => e = .returned (.bool (decide (keySe ⟨u, i, a, p, n, t⟩ = (ku, ki)))) ∧ Below w.heap.size w w' := by
  have hgl : g < w.heap.size := (Array.getElem?_eq_some_iff.1 hg).1
  have k0 : w.cell? ⟨g, 0, none⟩ = some (.string ku) := by simp [World.cell?, hg]
  have k1 : w.cell? ⟨g, 1, none⟩ = some (.int .i64 ki) := by simp [World.cell?, hg]
  have hB := below_box (w := w) (bxSe u i a p n t)
  have h0 := heap_alloc_new w (bxSe u i a p n t)
  obtain ⟨c0, c1, c2, c3, c4, c5, hz⟩ := cellsSe u i a p n t h0
  have j0 := cell_below hB k0
  have j1 := cell_below hB k1
  have hE := eqlK u i ku ki
  clear hg k0 k1
  go_enter Tryz.func155, Tryz.ntmps155
  go_wp2_with fail
  go_region_held3 (fun w' => w'.cell? ⟨w.heap.size, 0, none⟩ = some (.string u) ∧ w'.cell? ⟨w.heap.size, 1, none⟩ = some (.int .i64 i) ∧ w'.cell? ⟨w.heap.size, 2, none⟩ = some (.int .i64 a) ∧ w'.cell? ⟨w.heap.size, 3, none⟩ = some (.int .i64 p) ∧ w'.cell? ⟨w.heap.size, 4, none⟩ = some (.int .i64 n) ∧ w'.cell? ⟨w.heap.size, 5, none⟩ = some (.string t) ∧ w'.cell? ⟨g, 0, none⟩ = some (.string ku) ∧ w'.cell? ⟨g, 1, none⟩ = some (.int .i64 ki)) (first | exact ⟨c0, c1, c2, c3, c4, c5, j0, j1⟩ | exact ⟨cell_below hbx c0, cell_below hbx c1, cell_below hbx c2, cell_below hbx c3, cell_below hbx c4, cell_below hbx c5, cell_below hbx j0, cell_below hbx j1⟩) ((go_at_call 108; refine (of_calls u i a p n t _).mono ?_; rintro e wx ⟨rfl, hbx⟩))
  have hBx := below_call (w1 := (w.alloc (bxSe u i a p n t)).drew) hB.drew hbx
  clear hbx
  go_wp2
  go_ret
  exact ⟨ret_bool (by rw [Bool.eq_iff_iff]; simp [keySe]), hBx⟩
set_option maxHeartbeats 8000000 in
set_option maxRecDepth 100000 in
theorem idxFind_calls (n c : Nat) (A : Option Addr) (l : List Se) (g : Nat) (ku : ByteArray) (ki : Int) (w : World) (hl : Row enSe 6 w (.slice A n c) l) (hg : w.heap[g]? = some (bxK ku ki)) :
    Calls Tryz.prog 154 #[.slice A n c, .func (.func 155) #[] #[.pointer (some ⟨g, 0, none⟩)]] w fun e w' => e = .returned (.int .i64 (idxI (l.findIdx? (fun s => decide (keySe s = (ku, ki)))))) ∧ Below w.heap.size w w' := by
  have EA := Lib.hid hl.len_eq
  have hnl : n ≤ 9223372036854775807 := by rw [EA.out]; exact hl.len
  obtain ⟨r, hr⟩ : ∃ r, idxI (l.findIdx? (fun s => decide (keySe s = (ku, ki)))) = r := ⟨_, rfl⟩
  rw [hr]
  have HR := Lib.hid hr
  clear hr
  go_enter Tryz.func154, Tryz.ntmps154
  go_wp2
  go_loopw [8] (fun v8 wr => ∃ i : Nat, v8 = .int .i64 i ∧ i ≤ n ∧ Below w.heap.size w wr ∧ Hid (∀ j (h : j < l.length), j < i → ((fun s => decide (keySe s = (ku, ki)))) l[j] = false)) (fun v8 _ => (n - intOf v8).toNat)
  case atStart => exact ⟨0, rfl, Nat.zero_le _, Below.refl _ _, fun j _ h => absurd h (by omega)⟩
  case round =>
    obtain ⟨i, rfl, hi, hB, HT⟩ := hrel
    by_cases hlt : i < n
    · have hil : i < l.length := by have := EA.out; omega
      obtain ⟨⟨a_, b_, c_, d_, e_, f_⟩, he⟩ : ∃ e, l[i] = e := ⟨_, rfl⟩
      obtain ⟨ad, rfl, c0, c1, c2, c3, c4, c5⟩ := rowSe (hl.below hB) i hil a_ b_ c_ d_ e_ f_ he
      have HE := Lib.hid he
      clear he
      obtain ⟨b, hb⟩ : ∃ b, ((fun s => decide (keySe s = (ku, ki)))) ⟨a_, b_, c_, d_, e_, f_⟩ = b := ⟨_, rfl⟩
      have HB := Lib.hid hb
      clear hb
      go_wp2_with fail
      refine (re_ (find1_calls a_ b_ c_ d_ e_ f_ g ku ki _ (hcall hg hB)) (ret_bool HB.out)).mono ?_
      rintro e w1 ⟨rfl, b1⟩
      have hB1 := below_call hB b1
      clear c0 c1 c2 c3 c4 c5 b1 hB
      cases b with
      | true =>
        have HF : Hid (r = (i : Int)) := by
          show _ = _
          rw [← HR.out, idx_at _ l i hil HT.out (by rw [HE.out]; exact HB.out)]; rfl
        go_wp2
        go_ret
        rw [HF.out]
        exact ⟨rfl, hB1⟩
      | false =>
        go_wp2
        exact ⟨⟨i + 1, by go_num, by omega, hB1, fun j h hj => by
          rcases Nat.lt_or_ge j i with h' | h'
          · exact HT.out j h h'
          · obtain rfl : j = i := by omega
            rw [HE.out]; exact HB.out⟩, by simp [intOf]; omega⟩
    · have hin : i = n := by omega
      subst hin
      have HF : Hid (r = -1) := by
        show _ = _
        rw [← HR.out, idx_no _ l (fun j hj => HT.out j hj (by rw [EA.out]; exact hj))]; rfl
      go_wp2
      go_ret
      rw [HF.out]
      exact ⟨rfl, hB⟩
def SzSe (l : List Se) : Prop := ∀ s ∈ l, s.u.size ≤ 140737488351232 ∧ s.v.2.2.2.size ≤ 140737488351232
set_option maxHeartbeats 8000000 in
set_option maxRecDepth 100000 in
theorem idxOdd_calls (n c : Nat) (A : Option Addr) (l : List Se)  (w : World) (hl : Row enSe 6 w (.slice A n c) l) (hz : SzSe l) :
    Calls Tryz.prog 154 #[.slice A n c, .func (.func 105) #[] #[]] w fun e w' => e = .returned (.int .i64 (idxI (l.findIdx? (fun s => !oneS s)))) ∧ Below w.heap.size w w' := by
  have EA := Lib.hid hl.len_eq
  have hnl : n ≤ 9223372036854775807 := by rw [EA.out]; exact hl.len
  obtain ⟨r, hr⟩ : ∃ r, idxI (l.findIdx? (fun s => !oneS s)) = r := ⟨_, rfl⟩
  rw [hr]
  have HR := Lib.hid hr
  clear hr
  have HZ := Lib.hid hz
  clear hz
  go_enter Tryz.func154, Tryz.ntmps154
  go_wp2
  go_loopw [8] (fun v8 wr => ∃ i : Nat, v8 = .int .i64 i ∧ i ≤ n ∧ Below w.heap.size w wr ∧ Hid (∀ j (h : j < l.length), j < i → ((fun s => !oneS s)) l[j] = false)) (fun v8 _ => (n - intOf v8).toNat)
  case atStart => exact ⟨0, rfl, Nat.zero_le _, Below.refl _ _, fun j _ h => absurd h (by omega)⟩
  case round =>
    obtain ⟨i, rfl, hi, hB, HT⟩ := hrel
    by_cases hlt : i < n
    · have hil : i < l.length := by have := EA.out; omega
      obtain ⟨z1, z2⟩ := HZ.out l[i] (List.getElem_mem _)
      obtain ⟨⟨a_, b_, c_, d_, e_, f_⟩, he⟩ : ∃ e, l[i] = e := ⟨_, rfl⟩
      rw [he] at z1 z2
      simp only at z1 z2
      obtain ⟨ad, rfl, c0, c1, c2, c3, c4, c5⟩ := rowSe (hl.below hB) i hil a_ b_ c_ d_ e_ f_ he
      have HE := Lib.hid he
      clear he
      obtain ⟨b, hb⟩ : ∃ b, ((fun s => !oneS s)) ⟨a_, b_, c_, d_, e_, f_⟩ = b := ⟨_, rfl⟩
      have HB := Lib.hid hb
      clear hb
      go_wp2_with fail
      refine (re_ (oddS_calls a_ b_ c_ d_ e_ f_ _ z1 z2) (ret_bool HB.out)).mono ?_
      rintro e w1 ⟨rfl, b1⟩
      have hB1 := below_call hB b1
      clear c0 c1 c2 c3 c4 c5 b1 hB
      cases b with
      | true =>
        have HF : Hid (r = (i : Int)) := by
          show _ = _
          rw [← HR.out, idx_at _ l i hil HT.out (by rw [HE.out]; exact HB.out)]; rfl
        go_wp2
        go_ret
        rw [HF.out]
        exact ⟨rfl, hB1⟩
      | false =>
        go_wp2
        exact ⟨⟨i + 1, by go_num, by omega, hB1, fun j h hj => by
          rcases Nat.lt_or_ge j i with h' | h'
          · exact HT.out j h h'
          · obtain rfl : j = i := by omega
            rw [HE.out]; exact HB.out⟩, by simp [intOf]; omega⟩
    · have hin : i = n := by omega
      subst hin
      have HF : Hid (r = -1) := by
        show _ = _
        rw [← HR.out, idx_no _ l (fun j hj => HT.out j hj (by rw [EA.out]; exact hj))]; rfl
      go_wp2
      go_ret
      rw [HF.out]
      exact ⟨rfl, hB⟩
set_option maxHeartbeats 8000000 in
set_option maxRecDepth 100000 in
theorem containsOdd9_calls (n c : Nat) (A : Option Addr) (l : List Se)  (w : World) (hl : Row enSe 6 w (.slice A n c) l) (hz : SzSe l) :
    Calls Tryz.prog 141 #[.slice A n c, .func (.func 105) #[] #[]] w fun e w' => e = .returned (.bool (l.any (fun s => !oneS s))) ∧ Below w.heap.size w w' := by
  have hb := idx_any (fun s => !oneS s) l
  obtain ⟨r, hr⟩ : ∃ r, idxI (l.findIdx? (fun s => !oneS s)) = r := ⟨_, rfl⟩
  have HC := idxOdd_calls n c A l  w hl hz
  rw [hr] at HC hb
  have HB := Lib.hid hb
  clear hb hr
  go_enter Tryz.func141, Tryz.ntmps141
  go_wp2_with fail
  refine HC.mono ?_
  rintro e w1 ⟨rfl, b1⟩
  go_wp2
  go_ret
  exact ⟨ret_bool (by rw [← HB.out]), b1⟩
set_option maxHeartbeats 8000000 in
set_option maxRecDepth 100000 in
theorem find_calls (n c : Nat) (A : Option Addr) (l : List Se) (ku : ByteArray) (ki : Int) (w : World) (hl : Row enSe 6 w (.slice A n c) l) :
    Calls Tryz.prog 107 #[.slice A n c, agK ku ki] w fun e w' => e = .returned (.tuple #[.int .i64 (idxI (idxSe l (ku, ki))), .bool (decide (0 ≤ idxI (idxSe l (ku, ki))))]) ∧ Below w.heap.size w w' := by
  obtain ⟨r, hr⟩ : ∃ r, idxI (idxSe l (ku, ki)) = r := ⟨_, rfl⟩
  have hb := below_box (w := w) (bxK ku ki)
  have HC := idxFind_calls n c A l w.heap.size ku ki _ (hl.below hb) (heap_alloc_new w (bxK ku ki))
  rw [show l.findIdx? (fun s => decide (keySe s = (ku, ki))) = idxSe l (ku, ki) from rfl] at HC
  rw [hr] at HC ⊢
  clear hr
  have hmf : ∀ W : World, (Instr.makeFunc (.func 155) #[] #[.pointer (some ⟨w.heap.size, 0, none⟩)]).run Tryz.prog W = .ok (.func (.func 155) #[] #[.pointer (some ⟨w.heap.size, 0, none⟩)]) W := fun W => by kernel_rfl
  go_enter Tryz.func107, Tryz.ntmps107
  go_wp2_with fail
  refine HC.mono ?_
  rintro e w1 ⟨rfl, b1⟩
  have B1 := below_call hb b1
  clear b1 hb
  go_wp2
  go_ret2
  exact ⟨rfl, B1⟩
end Go.Proofs.YtbpfcjdjhponaaaGreat
namespace Go.Proofs.YtbpfcjdjhponaaaGreat
open Go.RowKit
open Sp
set_option maxHeartbeats 8000000 in
set_option maxRecDepth 100000 in
theorem Of9_calls (n c : Nat) (A : Option Addr) (l : List Se) (q : ByteArray) (w : World) (hl : Row enSe 6 w (.slice A n c) l) (hn : n ≤ 100000) :
    Calls Tryz.prog 64 #[.slice A n c, .string q] w fun e w' => ∃ v, e = .returned v ∧ Own enSe 6 99 w' w.heap.size v (l.filter (fun s => decide (s.u = q))) ∧ Below w.heap.size w w' := by
  have EA := Lib.hid hl.len_eq
  go_enter Tryz.func64, Tryz.ntmps64
  go_wp2
  go_loopw [5, 10] (fun vo vc wr => ∃ (i : Nat) (ys : List Se), vc = .int .i64 i ∧ i ≤ n ∧ ys.length ≤ i ∧ Hid (((l.take i).filter (fun s => decide (s.u = q))) = ys) ∧ Own enSe 6 99 wr w.heap.size vo ys ∧ Below w.heap.size w wr) (fun _ vc _ => (n - intOf vc).toNat)
  case atStart => exact ⟨0, [], rfl, Nat.zero_le _, Nat.le_refl _, rfl, Own.nil _ _ _ _ _, Below.refl _ _⟩
  case round =>
    obtain ⟨i, ys, rfl, hi, hys, HT, hO, hB⟩ := hrel
    by_cases hlt : i < n
    · have hil : i < l.length := by have := EA.out; omega
      obtain ⟨⟨a_, b_, c_, d_, e_, f_⟩, he⟩ : ∃ e, l[i] = e := ⟨_, rfl⟩
      obtain ⟨ad, rfl, c0, c1, c2, c3, c4, c5⟩ := rowSe (hl.below hB) i hil a_ b_ c_ d_ e_ f_ he
      have HE := Lib.hid he
      clear he
      by_cases hq : a_ = q
      · replace hq := hq.symm
        subst hq
        have HT2 : Hid (((l.take (i + 1)).filter (fun s => decide (s.u = q))) = ys ++ [⟨q, b_, c_, d_, e_, f_⟩]) := by
          show _ = _
          rw [List.take_succ_eq_append_getElem hil, HE.out, List.filter_append, HT.out]
          congr 1; simp
        have hO1 := hO.alloc (bxSe q b_ c_ d_ e_ f_)
        have hB1 := below_alloc0 hB (bxSe q b_ c_ d_ e_ f_)
        have HZ1 : Hid ((wr.alloc (bxSe q b_ c_ d_ e_ f_)).heap.size = wr.heap.size + 1) := size_alloc _ _
        go_wp2_with (at_builtin; refine Own.append (w0 := w) w.heap.size rfl (.tmp 18) (.tmp 20) 23 99 zvSe 6 64 rfl Tryz.underlying23 infoSe rfl (by decide) _ ys ⟨q, b_, c_, d_, e_, f_⟩ (enSe ⟨q, b_, c_, d_, e_, f_⟩) rfl (by rw [HZ1.out]; rfl) rfl rfl (enSe_one _) hO1 hB1 hB1.size (by omega) (by omega) ?_; intro v2 w2 hO2 hB2 _ _)
        exact ⟨⟨i + 1, ys ++ [⟨q, b_, c_, d_, e_, f_⟩], by go_num, by omega, by rw [List.length_append]; simp only [List.length_cons, List.length_nil]; omega, HT2, hO2, hB2⟩, by simp [intOf]; omega⟩
      · have hne : ¬ a_ = q := hq
        have hne2 : (a_.toList == q.toList) = false := by simpa [toList_inj'] using hne
        have hne3 : ¬ a_.toList = q.toList := by simpa [toList_inj'] using hne
        clear hq
        have HT2 : Hid (((l.take (i + 1)).filter (fun s => decide (s.u = q))) = ys) := by
          show _ = _
          rw [List.take_succ_eq_append_getElem hil, HE.out, List.filter_append, HT.out]
          simp [hne]
        have hO1 := hO.alloc (bxSe a_ b_ c_ d_ e_ f_)
        have hB1 := below_alloc0 hB (bxSe a_ b_ c_ d_ e_ f_)
        go_wp2
        exact ⟨⟨i + 1, ys, by go_num, by omega, by omega, HT2, hO1, hB1⟩, by simp [intOf]; omega⟩
    · have hin : i = n := by omega
      subst hin
      have HF : Hid ((l.filter (fun s => decide (s.u = q))) = ys) := by
        show _ = _
        have := HT.out
        rwa [List.take_of_length_le (by rw [EA.out]; exact Nat.le_refl _)] at this
      go_wp2
      go_ret
      rw [HF.out]
      exact ⟨_, rfl, hO, hB⟩
end Go.Proofs.YtbpfcjdjhponaaaGreat
namespace Go.Proofs.YtbpfcjdjhponaaaGreat
open Go.RowKit
open Sp
namespace Sp
theorem adjS_no (l : List Se) (i : Nat) (h : i + 1 < l.length) (hn : ltSe (keySe l[i]) (keySe l[i + 1]) = false) : adjS l = false := by
  rw [← Bool.not_eq_true, adjS_iff]
  intro h'
  rw [h' i h] at hn
  cases hn
def fewSe (l : List Se) : Bool := decide (l.length ≤ 50) && l.all fun s => decide (s.u.size ≤ 40) && decide (s.v.2.2.2.size ≤ 60)
end Sp
set_option maxHeartbeats 8000000 in
set_option maxRecDepth 100000 in
theorem place_calls (n c : Nat) (A : Option Addr) (l : List Se) (q : ByteArray) (z : Int) (w : World) (hl : Row enSe 6 w (.slice A n c) l) :
    Calls Tryz.prog 160 #[.slice A n c, .string q, .int .i64 z] w fun e w' => e = .returned (.int .i64 (idxI (idxSe l (q, z)))) ∧ Below w.heap.size w w' := by
  have EA := Lib.hid hl.len_eq
  have hnl : n ≤ 9223372036854775807 := by rw [EA.out]; exact hl.len
  obtain ⟨r, hr⟩ : ∃ r, idxI (idxSe l (q, z)) = r := ⟨_, rfl⟩
  rw [hr]
  unfold idxSe at hr
  have HR := Lib.hid hr
  clear hr
  go_enter Tryz.func160, Tryz.ntmps160
  go_wp2
  go_loopw [7] (fun v8 wr => ∃ i : Nat, v8 = .int .i64 i ∧ i ≤ n ∧ Below w.heap.size w wr ∧ Hid (∀ j (h : j < l.length), j < i → (fun s => decide (keySe s = (q, z))) l[j] = false)) (fun v8 _ => (n - intOf v8).toNat)
  case atStart => exact ⟨0, rfl, Nat.zero_le _, Below.refl _ _, fun j _ h => absurd h (by omega)⟩
  case round =>
    obtain ⟨i, rfl, hi, hB, HT⟩ := hrel
    by_cases hlt : i < n
    · have hil : i < l.length := by have := EA.out; omega
      obtain ⟨⟨a_, b_, c_, d_, e_, f_⟩, he⟩ : ∃ e, l[i] = e := ⟨_, rfl⟩
      obtain ⟨ad, rfl, c0, c1, c2, c3, c4, c5⟩ := rowSe (hl.below hB) i hil a_ b_ c_ d_ e_ f_ he
      have HE := Lib.hid he
      clear he
      have hno : ¬ (a_ = q ∧ b_ = z) → Hid (∀ j (h : j < l.length), j < i + 1 → (fun s => decide (keySe s = (q, z))) l[j] = false) := fun hn => fun j h hj => by
        rcases Nat.lt_or_ge j i with h' | h'
        · exact HT.out j h h'
        · obtain rfl : j = i := by omega
          rw [HE.out]
          exact decide_eq_false fun e => hn ⟨congrArg Prod.fst e, congrArg Prod.snd e⟩
      by_cases hq : a_ = q
      · by_cases hz : b_ = z
        · have HF : Hid (r = (i : Int)) := by
            show _ = _
            rw [← HR.out, idx_at _ l i hil HT.out (by rw [HE.out, hq, hz]; exact decide_eq_true rfl)]; rfl
          clear hno
          replace hq := hq.symm
          replace hz := hz.symm
          subst hq hz
          go_wp2
          go_ret
          rw [HF.out]
          exact ⟨rfl, hB⟩
        · have HN := hno (fun h => hz h.2)
          have hz2 : (b_ == z) = false := by simpa using hz
          clear hno
          replace hq := hq.symm
          subst hq
          go_wp2
          exact ⟨⟨i + 1, by go_num, by omega, hB, HN⟩, by simp [intOf]; omega⟩
      · have HN := hno (fun h => hq h.1)
        have hne2 : (a_.toList == q.toList) = false := by simpa [toList_inj'] using hq
        have hne3 : ¬ a_.toList = q.toList := by simpa [toList_inj'] using hq
        clear hno hq
        go_wp2
        exact ⟨⟨i + 1, by go_num, by omega, hB, HN⟩, by simp [intOf]; omega⟩
    · have hin : i = n := by omega
      subst hin
      have HF : Hid (r = -1) := by
        show _ = _
        rw [← HR.out, idx_no _ l (fun j hj => HT.out j hj (by rw [EA.out]; exact hj))]; rfl
      go_wp2
      go_ret
      rw [HF.out]
      exact ⟨rfl, hB⟩
set_option maxHeartbeats 8000000 in
set_option maxRecDepth 100000 in
theorem few9_calls (n c : Nat) (A : Option Addr) (l : List Se) (w : World) (hl : Row enSe 6 w (.slice A n c) l) (hz : ∀ s ∈ l, s.u.size ≤ 9223372036854775807 ∧ s.v.2.2.2.size ≤ 9223372036854775807) :
    Calls Tryz.prog 36 #[.slice A n c] w fun e w' => e = .returned (.bool (fewSe l)) ∧ Below w.heap.size w w' := by
  have EA := Lib.hid hl.len_eq
  have hnl : n ≤ 9223372036854775807 := by rw [EA.out]; exact hl.len
  obtain ⟨r, hr⟩ : ∃ r, fewSe l = r := ⟨_, rfl⟩
  rw [hr]
  unfold fewSe at hr
  have HR := Lib.hid hr
  have HZ := Lib.hid hz
  clear hr hz
  by_cases hm : 50 < (n : Int)
  · have HF : Hid (r = false) := by
      show _ = _
      rw [← HR.out, decide_eq_false (by rw [← EA.out]; omega)]; rfl
    go_enter Tryz.func36, Tryz.ntmps36
    go_wp2
    go_ret
    rw [HF.out]
    exact ⟨rfl, Below.refl _ _⟩
  · have hm' : (n : Int) ≤ 50 := by omega
    clear hm
    go_enter Tryz.func36, Tryz.ntmps36
    go_wp2
    go_loopw [3] (fun v3 wr => ∃ i : Nat, v3 = .int .i64 i ∧ i ≤ n ∧ Below w.heap.size w wr ∧ Hid (∀ j (h : j < l.length), j < i → (decide (l[j].u.size ≤ 40) && decide (l[j].v.2.2.2.size ≤ 60)) = true)) (fun v3 _ => (n - intOf v3).toNat)
    case atStart => exact ⟨0, rfl, Nat.zero_le _, Below.refl _ _, fun j _ h => absurd h (by omega)⟩
    case round =>
      obtain ⟨i, rfl, hi, hB, HT⟩ := hrel
      by_cases hlt : i < n
      · have hil : i < l.length := by have := EA.out; omega
        obtain ⟨z1, z2⟩ := HZ.out l[i] (List.getElem_mem _)
        obtain ⟨⟨a_, b_, c_, d_, e_, f_⟩, he⟩ : ∃ e, l[i] = e := ⟨_, rfl⟩
        rw [he] at z1 z2
        simp only at z1 z2
        obtain ⟨ad, rfl, c0, c1, c2, c3, c4, c5⟩ := rowSe (hl.below hB) i hil a_ b_ c_ d_ e_ f_ he
        have HE := Lib.hid he
        clear he
        by_cases hq : a_.size ≤ 40 ∧ f_.size ≤ 60
        · have HN : Hid (∀ j (h : j < l.length), j < i + 1 → (decide (l[j].u.size ≤ 40) && decide (l[j].v.2.2.2.size ≤ 60)) = true) := fun j h hj => by
            rcases Nat.lt_or_ge j i with h' | h'
            · exact HT.out j h h'
            · obtain rfl : j = i := by omega
              rw [HE.out]
              simp only
              rw [decide_eq_true hq.1, decide_eq_true hq.2]; rfl
          have h1 : ((a_.size : Nat) : Int) ≤ 40 := by omega
          have h2 : ((f_.size : Nat) : Int) ≤ 60 := by omega
          clear hq
          go_wp2
          exact ⟨⟨i + 1, by go_num, by omega, hB, HN⟩, by simp [intOf]; omega⟩
        · have HF : Hid (r = false) := by
            show _ = _
            rw [← HR.out, Bool.and_eq_false_iff]
            right
            rw [List.all_eq_false]
            refine ⟨l[i], List.getElem_mem _, ?_⟩
            rw [HE.out]
            simp only [Bool.and_eq_true, decide_eq_true_eq]
            exact hq
          by_cases h1 : ((a_.size : Nat) : Int) ≤ 40
          · have h2 : 60 < ((f_.size : Nat) : Int) := by omega
            clear hq
            go_wp2
            go_ret
            rw [HF.out]
            exact ⟨rfl, hB⟩
          · have h2 : 40 < ((a_.size : Nat) : Int) := by omega
            clear hq h1
            go_wp2
            go_ret
            rw [HF.out]
            exact ⟨rfl, hB⟩
      · have hin : i = n := by omega
        subst hin
        have HF : Hid (r = true) := by
          show _ = _
          rw [← HR.out, Bool.and_eq_true]
          refine ⟨decide_eq_true (by rw [← EA.out]; omega), ?_⟩
          rw [List.all_eq_true]
          intro e he
          obtain ⟨j, hj, rfl⟩ := List.getElem_of_mem he
          exact HT.out j hj (by rw [EA.out]; exact hj)
        go_wp2
        go_ret
        rw [HF.out]
        exact ⟨rfl, hB⟩
set_option maxHeartbeats 8000000 in
set_option maxRecDepth 100000 in
theorem May9_calls (n c : Nat) (A : Option Addr) (l : List Se) (w : World) (hl : Row enSe 6 w (.slice A n c) l) (hz : SzSe l) :
    Calls Tryz.prog 95 #[.slice A n c] w fun e w' => e = .returned (.bool (maySe l)) ∧ Below w.heap.size w w' := by
  have EA := Lib.hid hl.len_eq
  have hnl : n ≤ 9223372036854775807 := by rw [EA.out]; exact hl.len
  obtain ⟨r, hr⟩ : ∃ r, maySe l = r := ⟨_, rfl⟩
  rw [hr]
  unfold maySe at hr
  have HR := Lib.hid hr
  have HZ := Lib.hid hz
  clear hr hz
  go_enter Tryz.func95, Tryz.ntmps95
  go_wp2
  go_loopw [3] (fun v3 wr => ∃ i : Nat, v3 = .int .i64 i ∧ 1 ≤ i ∧ (i ≤ n ∨ i = 1) ∧ Below w.heap.size w wr ∧ Hid (∀ j (h : j + 1 < l.length), j + 1 < i → ltSe (keySe l[j]) (keySe l[j + 1]) = true)) (fun v3 _ => (n - intOf v3).toNat)
  case atStart => exact ⟨1, rfl, by omega, .inr rfl, Below.refl _ _, fun j _ h => absurd h (by omega)⟩
  case round =>
    obtain ⟨i, rfl, h1i, hi, hB, HT⟩ := hrel
    by_cases hlt : i < n
    · obtain ⟨q, hq⟩ : ∃ q, q = i - 1 := ⟨_, rfl⟩
      have hqi : q + 1 = i := by omega
      have hil : i < l.length := by have := EA.out; omega
      have hql : q < l.length := by omega
      obtain ⟨⟨a_, b_, c_, d_, e_, f_⟩, he⟩ : ∃ e, l[q] = e := ⟨_, rfl⟩
      obtain ⟨⟨a', b', c', d', e', f'⟩, he'⟩ : ∃ e, l[i] = e := ⟨_, rfl⟩
      obtain ⟨ad, rfl, c0, c1, c2, c3, c4, c5⟩ := rowSe (hl.below hB) q hql a_ b_ c_ d_ e_ f_ he
      obtain ⟨d0, d1, d2, d3, d4, d5⟩ := rowsSe (hl.below hB) i hil a' b' c' d' e' f' he'
      obtain ⟨b, hb⟩ : ∃ b, ltSe (a_, b_) (a', b') = b := ⟨_, rfl⟩
      have HB := Lib.hid hb
      have HADJ : Hid (∃ h : q + 1 < l.length, ltSe (keySe l[q]) (keySe l[q + 1]) = b) := by
        subst hqi
        exact ⟨hil, by rw [he, he', ← hb]; rfl⟩
      have hw : IntKind.i64.wrap ((i : Int) - 1) = ((q : Nat) : Int) := by
        have : (i : Int) - 1 = (q : Int) := by omega
        rw [this, IntKind.wrap_i64]; omega
      have x1 : (0 : Int) ≤ (q : Int) := by omega
      have x2 : (q : Int) < (n : Int) := by omega
      have x3 : (0 : Int) ≤ (i : Int) := by omega
      have x4 : (i : Int) < (n : Int) := by omega
      have hD : Below w.heap.size w wr.drew := hB.drew
      have HQI := Lib.hid hqi
      clear hb he he' hq hqi
      go_wp2_with fail
      go_region_held3 (fun w' => w'.cell? (ad.add (q * 6)) = some (.string a_) ∧ w'.cell? ⟨(ad.add (q * 6)).block, (ad.add (q * 6)).off + 1, none⟩ = some (.int .i64 b_) ∧ w'.cell? ⟨(ad.add (q * 6)).block, (ad.add (q * 6)).off + 2, none⟩ = some (.int .i64 c_) ∧ w'.cell? ⟨(ad.add (q * 6)).block, (ad.add (q * 6)).off + 3, none⟩ = some (.int .i64 d_) ∧ w'.cell? ⟨(ad.add (q * 6)).block, (ad.add (q * 6)).off + 4, none⟩ = some (.int .i64 e_) ∧ w'.cell? ⟨(ad.add (q * 6)).block, (ad.add (q * 6)).off + 5, none⟩ = some (.string f_) ∧ w'.cell? (ad.add (i * 6)) = some (.string a') ∧ w'.cell? ⟨(ad.add (i * 6)).block, (ad.add (i * 6)).off + 1, none⟩ = some (.int .i64 b') ∧ w'.cell? ⟨(ad.add (i * 6)).block, (ad.add (i * 6)).off + 2, none⟩ = some (.int .i64 c') ∧ w'.cell? ⟨(ad.add (i * 6)).block, (ad.add (i * 6)).off + 3, none⟩ = some (.int .i64 d') ∧ w'.cell? ⟨(ad.add (i * 6)).block, (ad.add (i * 6)).off + 4, none⟩ = some (.int .i64 e') ∧ w'.cell? ⟨(ad.add (i * 6)).block, (ad.add (i * 6)).off + 5, none⟩ = some (.string f')) (exact ⟨c0, c1, c2, c3, c4, c5, d0, d1, d2, d3, d4, d5⟩) (((first | (go_at_call 108; refine (of_calls _ _ _ _ _ _ _).mono ?_) | (go_at_call 109; refine (re_ (ahead_calls a_ b_ a' b' _) (ret_bool HB.out)).mono ?_)); rintro e wx ⟨rfl, hbx⟩; replace hD := below_call hD hbx; replace c0 := cell_below hbx c0; replace c1 := cell_below hbx c1; replace c2 := cell_below hbx c2; replace c3 := cell_below hbx c3; replace c4 := cell_below hbx c4; replace c5 := cell_below hbx c5; replace d0 := cell_below hbx d0; replace d1 := cell_below hbx d1; replace d2 := cell_below hbx d2; replace d3 := cell_below hbx d3; replace d4 := cell_below hbx d4; replace d5 := cell_below hbx d5; clear hbx))
      all_goals
        clear c0 c1 c2 c3 c4 c5 d0 d1 d2 d3 d4 d5
        cases b with
        | true =>
          have HT2 : Hid (∀ j (h : j + 1 < l.length), j + 1 < i + 1 → ltSe (keySe l[j]) (keySe l[j + 1]) = true) := fun j h hj => by
            rcases Nat.lt_or_ge (j + 1) i with h' | h'
            · exact HT.out j h h'
            · obtain rfl : j = q := by have := HQI.out; omega
              exact HADJ.out.2
          go_wp2
          exact ⟨⟨i + 1, by go_num, by omega, .inl (by omega), hD, HT2⟩, by simp [intOf]; omega⟩
        | false =>
          have HF : Hid (r = false) := by
            show _ = _
            rw [← HR.out, adjS_no l q HADJ.out.1 HADJ.out.2]
            simp
          go_wp2
          go_ret
          rw [HF.out]
          exact ⟨rfl, hD⟩
    · have HT2 : Hid (adjS l = true) := (adjS_iff l).2 fun j h => HT.out j h (by have := EA.out; omega)
      obtain ⟨o, ho⟩ : ∃ o, l.all oneS = o := ⟨_, rfl⟩
      have HC := containsOdd9_calls n c A l wr (hl.below hB) HZ.out
      have ho2 : l.any (fun s => !oneS s) = !o := by
        rw [← ho, Bool.eq_iff_iff, Bool.not_eq_true', List.any_eq_true]
        constructor
        · rintro ⟨x, hx, h⟩
          rw [List.all_eq_false]
          exact ⟨x, hx, by simpa using h⟩
        · intro h
          rw [List.all_eq_false] at h
          obtain ⟨x, hx, h⟩ := h
          exact ⟨x, hx, by simpa using h⟩
      rw [ho2] at HC
      have HO := Lib.hid ho
      clear ho ho2
      by_cases hm : (n : Int) ≤ 32
      · have HF : Hid (r = o) := by
          show _ = _
          rw [← HR.out, HO.out, HT2.out, decide_eq_true (by have := EA.out; omega)]
          simp
        go_wp2_with fail
        refine HC.mono ?_
        rintro e w1 ⟨rfl, b1⟩
        go_wp2
        go_ret
        exact ⟨ret_bool (by rw [HF.out]), below_call hB b1⟩
      · have HF : Hid (r = false) := by
          show _ = _
          rw [← HR.out, decide_eq_false (by have := EA.out; omega)]
          rfl
        have hm2 : 32 < (n : Int) := by omega
        clear hm
        go_wp2
        go_ret
        rw [HF.out]
        exact ⟨rfl, hB⟩
end Go.Proofs.YtbpfcjdjhponaaaGreat
namespace Go.Proofs.YtbpfcjdjhponaaaGreat
open Go.RowKit
open Sp
set_option maxHeartbeats 16000000 in
set_option maxRecDepth 100000 in
theorem refMay9_calls (n c : Nat) (A : Option Addr) (l : List Se) (w : World) (hl : Row enSe 6 w (.slice A n c) l) (hz : SzSe l) :
    Calls Tryz.prog 38 #[.slice A n c] w fun e w' => e = .returned (.bool (maySe l)) ∧ Below w.heap.size w w' := by
  have EA := Lib.hid hl.len_eq
  have hnl : n ≤ 9223372036854775807 := by rw [EA.out]; exact hl.len
  obtain ⟨r, hr⟩ : ∃ r, maySe l = r := ⟨_, rfl⟩
  rw [hr]
  have HR := Lib.hid hr
  have HZ := Lib.hid hz
  clear hr hz
  by_cases hm : 32 < (n : Int)
  · have HF : Hid (r = false) := by
      show _ = _
      rw [← HR.out]
      unfold maySe
      rw [decide_eq_false (by rw [← EA.out]; omega)]; rfl
    go_enter Tryz.func38, Tryz.ntmps38
    go_wp2
    go_ret
    rw [HF.out]
    exact ⟨rfl, Below.refl _ _⟩
  have hm' : (n : Int) ≤ 32 := by omega
  clear hm
  go_enter Tryz.func38, Tryz.ntmps38
  go_wp2
  go_loopw [3] (fun v3 wr => ∃ i : Nat, v3 = .int .i64 i ∧ i ≤ n ∧ Below w.heap.size w wr ∧ Hid ((∀ j (h : j < l.length), j < i → oneS l[j] = true) ∧ ∀ j (h : j + 1 < l.length), j + 1 < i → ltSe (keySe l[j]) (keySe l[j + 1]) = true)) (fun v3 _ => (n - intOf v3).toNat)
  case atStart => exact ⟨0, rfl, Nat.zero_le _, Below.refl _ _, fun j _ h => absurd h (by omega), fun j _ h => absurd h (by omega)⟩
  case round =>
    obtain ⟨i, rfl, hi, hB, HT⟩ := hrel
    by_cases hlt : i < n
    · have hil : i < l.length := by have := EA.out; omega
      obtain ⟨z1, z2⟩ := HZ.out l[i] (List.getElem_mem _)
      obtain ⟨⟨a', b', c', d', e', f'⟩, he'⟩ : ∃ e, l[i] = e := ⟨_, rfl⟩
      rw [he'] at z1 z2
      simp only at z1 z2
      obtain ⟨ad, rfl, d0, d1, d2, d3, d4, d5⟩ := rowSe (hl.below hB) i hil a' b' c' d' e' f' he'
      obtain ⟨o, ho⟩ : ∃ o, oneS ⟨a', b', c', d', e', f'⟩ = o := ⟨_, rfl⟩
      have HO := Lib.hid ho
      have HLO : Hid (oneS l[i] = o) := by show _ = _; rw [he']; exact ho
      have hD : Below w.heap.size w wr.drew := hB.drew
      have x3 : (0 : Int) ≤ (i : Int) := by omega
      have x4 : (i : Int) < (n : Int) := by omega
      clear ho
      cases o with
      | false =>
        have HF : Hid (r = false) := by
          show _ = _
          rw [← HR.out, ← Bool.not_eq_true, maySe_iff]
          rintro ⟨_, h2, _⟩
          have h3 := HLO.out
          rw [h2 l[i] (List.getElem_mem _)] at h3
          cases h3
        clear he'
        · go_wp2_with fail
          refine wp_region_held_drew (S := fun w' => w'.cell? (ad.add (i * 6)) = some (.string a') ∧ w'.cell? ⟨(ad.add (i * 6)).block, (ad.add (i * 6)).off + 1, none⟩ = some (.int .i64 b') ∧ w'.cell? ⟨(ad.add (i * 6)).block, (ad.add (i * 6)).off + 2, none⟩ = some (.int .i64 c') ∧ w'.cell? ⟨(ad.add (i * 6)).block, (ad.add (i * 6)).off + 3, none⟩ = some (.int .i64 d') ∧ w'.cell? ⟨(ad.add (i * 6)).block, (ad.add (i * 6)).off + 4, none⟩ = some (.int .i64 e') ∧ w'.cell? ⟨(ad.add (i * 6)).block, (ad.add (i * 6)).off + 5, none⟩ = some (.string f')) (by kernel_rfl) ⟨d0, d1, d2, d3, d4, d5⟩ (fun hHeld => ?_)
          refine wpAnyH_take (i := 0) (v := ?vx1) rfl (by kernel_rfl) (by kernel_rfl) (by kernel_rfl) (fun _ _ _ h => h) (Or.inl ⟨by rfl, ?hyx1⟩) (by assumption) ?restx1
          case hyx1 => (intro w hSw; (try dsimp only at hSw); go_simp; (try (first | with_reducible rfl | rw [if_neg (by omega)])))
          try simp only [Act.put, zA, zB, zC, zD, zE, zF]
          refine wpAnyH_take (i := 1) (v := ?vx2) rfl (by kernel_rfl) (by kernel_rfl) (by kernel_rfl) (fun _ _ _ h => h) (Or.inl ⟨by rfl, ?hyx2⟩) (by assumption) ?restx2
          case hyx2 => (intro w hSw; (try dsimp only at hSw); go_simp; (try (first | with_reducible rfl | rw [if_neg (by omega)])))
          try simp only [Act.put, zA, zB, zC, zD, zE, zF]
          refine wpAnyH_take (i := 2) (v := ?vx3) rfl (by kernel_rfl) (by kernel_rfl) (by kernel_rfl) (fun _ _ _ h => h) (Or.inl ⟨by rfl, ?hyx3⟩) (by assumption) ?restx3
          case hyx3 => (intro w hSw; (try dsimp only at hSw); go_simp; (try (first | with_reducible rfl | rw [if_neg (by omega)])))
          try simp only [Act.put, zA, zB, zC, zD, zE, zF]
          refine wpAnyH_take (i := 3) (v := ?vx4) rfl (by kernel_rfl) (by kernel_rfl) (by kernel_rfl) (fun _ _ _ h => h) (Or.inl ⟨by rfl, ?hyx4⟩) (by assumption) ?restx4
          case hyx4 => (intro w hSw; (try dsimp only at hSw); go_simp; (try (first | with_reducible rfl | rw [if_neg (by omega)])))
          try simp only [Act.put, zA, zB, zC, zD, zE, zF]
          refine wpAnyH_ready (rs := [4]) (by kernel_rfl) (by simp) ?_
          refine AllReadyH.cons rfl (fun K hK => ?_) ?_
          · go_simp
            go_at_call 86
            refine (re_ (refOne_calls a' b' c' d' e' f' _ z1 z2) (ret_bool HO.out)).mono ?_
            rintro e wx ⟨rfl, hbx⟩
            replace hD := below_call hD hbx
            replace d0 := cell_below hbx d0
            replace d1 := cell_below hbx d1
            replace d2 := cell_below hbx d2
            replace d3 := cell_below hbx d3
            replace d4 := cell_below hbx d4
            replace d5 := cell_below hbx d5
            clear hbx
            refine hK.out _ _ (by (try dsimp only); (exact ⟨d0, d1, d2, d3, d4, d5⟩)) (fun hHeld => ?_)
            clear hK K
            try simp only [Act.put, zA, zB, zC, zD, zE, zF]
            refine wpAnyH_take (i := 5) (v := ?vx5) rfl (by kernel_rfl) (by kernel_rfl) (by kernel_rfl) (fun _ _ _ h => h) (Or.inl ⟨by rfl, ?hyx5⟩) (by assumption) ?restx5
            case hyx5 => (intro w hSw; (try dsimp only at hSw); go_simp; (try (first | with_reducible rfl | rw [if_neg (by omega)])))
            try simp only [Act.put, zA, zB, zC, zD, zE, zF]
            refine wpAnyH_take (i := 6) (v := ?vx6) rfl (by kernel_rfl) (by kernel_rfl) (by kernel_rfl) (fun _ _ _ h => h) (Or.inl ⟨by rfl, ?hyx6⟩) (by assumption) ?restx6
            case hyx6 => (intro w hSw; (try dsimp only at hSw); go_simp; (try (first | with_reducible rfl | rw [if_neg (by omega)])))
            try simp only [Act.put, zA, zB, zC, zD, zE, zF]
            refine wpAnyH_take (i := 7) (v := undef) rfl (by kernel_rfl) (by kernel_rfl) (by kernel_rfl) (fun _ _ _ h => h) (Or.inr ⟨by rfl, rfl⟩) (by assumption) ?_
            try simp only [Act.put, zA, zB, zC, zD, zE, zF]
            refine wpAnyH_take (i := 8) (v := undef) rfl (by kernel_rfl) (by kernel_rfl) (by kernel_rfl) (fun _ _ _ h => h) (Or.inr ⟨by rfl, rfl⟩) (by assumption) ?_
            try simp only [Act.put, zA, zB, zC, zD, zE, zF]
            refine wpAnyH_take (i := 9) (v := undef) rfl (by kernel_rfl) (by kernel_rfl) (by kernel_rfl) (fun _ _ _ h => h) (Or.inr ⟨by rfl, rfl⟩) (by assumption) ?_
            try simp only [Act.put, zA, zB, zC, zD, zE, zF]
            refine wpAnyH_take (i := 10) (v := undef) rfl (by kernel_rfl) (by kernel_rfl) (by kernel_rfl) (fun _ _ _ h => h) (Or.inr ⟨by rfl, rfl⟩) (by assumption) ?_
            try simp only [Act.put, zA, zB, zC, zD, zE, zF]
            refine wpAnyH_take (i := 11) (v := undef) rfl (by kernel_rfl) (by kernel_rfl) (by kernel_rfl) (fun _ _ _ h => h) (Or.inr ⟨by rfl, rfl⟩) (by assumption) ?_
            try simp only [Act.put, zA, zB, zC, zD, zE, zF]
            refine wpAnyH_take (i := 12) (v := undef) rfl (by kernel_rfl) (by kernel_rfl) (by kernel_rfl) (fun _ _ _ h => h) (Or.inr ⟨by rfl, rfl⟩) (by assumption) ?_
            try simp only [Act.put, zA, zB, zC, zD, zE, zF]
            refine wpAnyH_take (i := 13) (v := undef) rfl (by kernel_rfl) (by kernel_rfl) (by kernel_rfl) (fun _ _ _ h => h) (Or.inr ⟨by rfl, rfl⟩) (by assumption) ?_
            try simp only [Act.put, zA, zB, zC, zD, zE, zF]
            refine wpAnyH_take (i := 14) (v := undef) rfl (by kernel_rfl) (by kernel_rfl) (by kernel_rfl) (fun _ _ _ h => h) (Or.inr ⟨by rfl, rfl⟩) (by assumption) ?_
            try simp only [Act.put, zA, zB, zC, zD, zE, zF]
            refine wpAnyH_take (i := 15) (v := undef) rfl (by kernel_rfl) (by kernel_rfl) (by kernel_rfl) (fun _ _ _ h => h) (Or.inr ⟨by rfl, rfl⟩) (by assumption) ?_
            try simp only [Act.put, zA, zB, zC, zD, zE, zF]
            refine wpAnyH_take (i := 16) (v := undef) rfl (by kernel_rfl) (by kernel_rfl) (by kernel_rfl) (fun _ _ _ h => h) (Or.inr ⟨by rfl, rfl⟩) (by assumption) ?_
            try simp only [Act.put, zA, zB, zC, zD, zE, zF]
            refine wpAnyH_take (i := 17) (v := undef) rfl (by kernel_rfl) (by kernel_rfl) (by kernel_rfl) (fun _ _ _ h => h) (Or.inr ⟨by rfl, rfl⟩) (by assumption) ?_
            try simp only [Act.put, zA, zB, zC, zD, zE, zF]
            refine wpAnyH_take (i := 18) (v := undef) rfl (by kernel_rfl) (by kernel_rfl) (by kernel_rfl) (fun _ _ _ h => h) (Or.inr ⟨by rfl, rfl⟩) (by assumption) ?_
            try simp only [Act.put, zA, zB, zC, zD, zE, zF]
            refine wpAnyH_take (i := 19) (v := undef) rfl (by kernel_rfl) (by kernel_rfl) (by kernel_rfl) (fun _ _ _ h => h) (Or.inr ⟨by rfl, rfl⟩) (by assumption) ?_
            try simp only [Act.put, zA, zB, zC, zD, zE, zF]
            refine wpAnyH_take (i := 20) (v := undef) rfl (by kernel_rfl) (by kernel_rfl) (by kernel_rfl) (fun _ _ _ h => h) (Or.inr ⟨by rfl, rfl⟩) (by assumption) ?_
            try simp only [Act.put, zA, zB, zC, zD, zE, zF]
            refine wpAnyH_take (i := 21) (v := undef) rfl (by kernel_rfl) (by kernel_rfl) (by kernel_rfl) (fun _ _ _ h => h) (Or.inr ⟨by rfl, rfl⟩) (by assumption) ?_
            try simp only [Act.put, zA, zB, zC, zD, zE, zF]
            refine wpAnyH_take (i := 22) (v := ?vx22) rfl (by kernel_rfl) (by kernel_rfl) (by kernel_rfl) (fun _ _ _ h => h) (Or.inl ⟨by rfl, ?hyx22⟩) (by assumption) ?restx22
            case hyx22 => (intro w hSw; (try dsimp only at hSw); go_simp; (try (first | with_reducible rfl | rw [if_neg (by omega)])))
            try simp only [Act.put, zA, zB, zC, zD, zE, zF]
            refine wpAnyH_done (by kernel_rfl) ?_ _
            go_wp2
            go_ret
            rw [HF.out]
            exact ⟨rfl, hD⟩
          exact AllReadyH.nil
      | true =>
        by_cases hi0 : i = 0
        · have HN : Hid ((∀ j (h : j < l.length), j < i + 1 → oneS l[j] = true) ∧ ∀ j (h : j + 1 < l.length), j + 1 < i + 1 → ltSe (keySe l[j]) (keySe l[j + 1]) = true) := by
            refine ⟨fun j h hj => ?_, fun j h hj => absurd hj (by omega)⟩
            obtain rfl : j = i := by omega
            exact HLO.out
          have hg1 : decide ((0 : Int) < (i : Int)) = false := by simpa using hi0
          have hg2 : decide (0 < i) = false := by simpa using hi0
          clear hi0 he'
          · go_wp2_with fail
            refine wp_region_held_drew (S := fun w' => w'.cell? (ad.add (i * 6)) = some (.string a') ∧ w'.cell? ⟨(ad.add (i * 6)).block, (ad.add (i * 6)).off + 1, none⟩ = some (.int .i64 b') ∧ w'.cell? ⟨(ad.add (i * 6)).block, (ad.add (i * 6)).off + 2, none⟩ = some (.int .i64 c') ∧ w'.cell? ⟨(ad.add (i * 6)).block, (ad.add (i * 6)).off + 3, none⟩ = some (.int .i64 d') ∧ w'.cell? ⟨(ad.add (i * 6)).block, (ad.add (i * 6)).off + 4, none⟩ = some (.int .i64 e') ∧ w'.cell? ⟨(ad.add (i * 6)).block, (ad.add (i * 6)).off + 5, none⟩ = some (.string f')) (by kernel_rfl) ⟨d0, d1, d2, d3, d4, d5⟩ (fun hHeld => ?_)
            refine wpAnyH_take (i := 0) (v := ?vz1) rfl (by kernel_rfl) (by kernel_rfl) (by kernel_rfl) (fun _ _ _ h => h) (Or.inl ⟨by rfl, ?hyz1⟩) (by assumption) ?restz1
            case hyz1 => (intro w hSw; (try dsimp only at hSw); go_simp; (try (first | with_reducible rfl | rw [if_neg (by omega)])))
            try simp only [Act.put, zA, zB, zC, zD, zE, zF]
            refine wpAnyH_take (i := 1) (v := ?vz2) rfl (by kernel_rfl) (by kernel_rfl) (by kernel_rfl) (fun _ _ _ h => h) (Or.inl ⟨by rfl, ?hyz2⟩) (by assumption) ?restz2
            case hyz2 => (intro w hSw; (try dsimp only at hSw); go_simp; (try (first | with_reducible rfl | rw [if_neg (by omega)])))
            try simp only [Act.put, zA, zB, zC, zD, zE, zF]
            refine wpAnyH_take (i := 2) (v := ?vz3) rfl (by kernel_rfl) (by kernel_rfl) (by kernel_rfl) (fun _ _ _ h => h) (Or.inl ⟨by rfl, ?hyz3⟩) (by assumption) ?restz3
            case hyz3 => (intro w hSw; (try dsimp only at hSw); go_simp; (try (first | with_reducible rfl | rw [if_neg (by omega)])))
            try simp only [Act.put, zA, zB, zC, zD, zE, zF]
            refine wpAnyH_take (i := 3) (v := ?vz4) rfl (by kernel_rfl) (by kernel_rfl) (by kernel_rfl) (fun _ _ _ h => h) (Or.inl ⟨by rfl, ?hyz4⟩) (by assumption) ?restz4
            case hyz4 => (intro w hSw; (try dsimp only at hSw); go_simp; (try (first | with_reducible rfl | rw [if_neg (by omega)])))
            try simp only [Act.put, zA, zB, zC, zD, zE, zF]
            refine wpAnyH_ready (rs := [4]) (by kernel_rfl) (by simp) ?_
            refine AllReadyH.cons rfl (fun K hK => ?_) ?_
            · go_simp
              go_at_call 86
              refine (re_ (refOne_calls a' b' c' d' e' f' _ z1 z2) (ret_bool HO.out)).mono ?_
              rintro e wx ⟨rfl, hbx⟩
              replace hD := below_call hD hbx
              replace d0 := cell_below hbx d0
              replace d1 := cell_below hbx d1
              replace d2 := cell_below hbx d2
              replace d3 := cell_below hbx d3
              replace d4 := cell_below hbx d4
              replace d5 := cell_below hbx d5
              clear hbx
              refine hK.out _ _ (by (try dsimp only); (exact ⟨d0, d1, d2, d3, d4, d5⟩)) (fun hHeld => ?_)
              clear hK K
              try simp only [Act.put, zA, zB, zC, zD, zE, zF]
              refine wpAnyH_take (i := 5) (v := ?vz5) rfl (by kernel_rfl) (by kernel_rfl) (by kernel_rfl) (fun _ _ _ h => h) (Or.inl ⟨by rfl, ?hyz5⟩) (by assumption) ?restz5
              case hyz5 => (intro w hSw; (try dsimp only at hSw); go_simp; (try (first | with_reducible rfl | rw [if_neg (by omega)])))
              try simp only [Act.put, zA, zB, zC, zD, zE, zF]
              refine wpAnyH_take (i := 6) (v := ?vz6) rfl (by kernel_rfl) (by kernel_rfl) (by kernel_rfl) (fun _ _ _ h => h) (Or.inl ⟨by rfl, ?hyz6⟩) (by assumption) ?restz6
              case hyz6 => (intro w hSw; (try dsimp only at hSw); go_simp; (try (first | with_reducible rfl | rw [if_neg (by omega)])))
              try simp only [Act.put, zA, zB, zC, zD, zE, zF]
              refine wpAnyH_take (i := 7) (v := ?vz7) rfl (by kernel_rfl) (by kernel_rfl) (by kernel_rfl) (fun _ _ _ h => h) (Or.inl ⟨by rfl, ?hyz7⟩) (by assumption) ?restz7
              case hyz7 => (intro w hSw; (try dsimp only at hSw); go_simp; (try (first | with_reducible rfl | rw [if_neg (by omega)])))
              try simp only [Act.put, zA, zB, zC, zD, zE, zF]
              refine wpAnyH_take (i := 8) (v := ?vz8) rfl (by kernel_rfl) (by kernel_rfl) (by kernel_rfl) (fun _ _ _ h => h) (Or.inl ⟨by rfl, ?hyz8⟩) (by assumption) ?restz8
              case hyz8 => (intro w hSw; (try dsimp only at hSw); go_simp; (try (first | with_reducible rfl | rw [if_neg (by omega)])))
              try simp only [Act.put, zA, zB, zC, zD, zE, zF]
              refine wpAnyH_take (i := 9) (v := ?vz9) rfl (by kernel_rfl) (by kernel_rfl) (by kernel_rfl) (fun _ _ _ h => h) (Or.inl ⟨by rfl, ?hyz9⟩) (by assumption) ?restz9
              case hyz9 => (intro w hSw; (try dsimp only at hSw); go_simp; (try (first | with_reducible rfl | rw [if_neg (by omega)])))
              try simp only [Act.put, zA, zB, zC, zD, zE, zF]
              refine wpAnyH_take (i := 10) (v := undef) rfl (by kernel_rfl) (by kernel_rfl) (by kernel_rfl) (fun _ _ _ h => h) (Or.inr ⟨by rfl, rfl⟩) (by assumption) ?_
              try simp only [Act.put, zA, zB, zC, zD, zE, zF]
              refine wpAnyH_take (i := 11) (v := undef) rfl (by kernel_rfl) (by kernel_rfl) (by kernel_rfl) (fun _ _ _ h => h) (Or.inr ⟨by rfl, rfl⟩) (by assumption) ?_
              try simp only [Act.put, zA, zB, zC, zD, zE, zF]
              refine wpAnyH_take (i := 12) (v := undef) rfl (by kernel_rfl) (by kernel_rfl) (by kernel_rfl) (fun _ _ _ h => h) (Or.inr ⟨by rfl, rfl⟩) (by assumption) ?_
              try simp only [Act.put, zA, zB, zC, zD, zE, zF]
              refine wpAnyH_take (i := 13) (v := undef) rfl (by kernel_rfl) (by kernel_rfl) (by kernel_rfl) (fun _ _ _ h => h) (Or.inr ⟨by rfl, rfl⟩) (by assumption) ?_
              try simp only [Act.put, zA, zB, zC, zD, zE, zF]
              refine wpAnyH_take (i := 14) (v := undef) rfl (by kernel_rfl) (by kernel_rfl) (by kernel_rfl) (fun _ _ _ h => h) (Or.inr ⟨by rfl, rfl⟩) (by assumption) ?_
              try simp only [Act.put, zA, zB, zC, zD, zE, zF]
              refine wpAnyH_take (i := 15) (v := undef) rfl (by kernel_rfl) (by kernel_rfl) (by kernel_rfl) (fun _ _ _ h => h) (Or.inr ⟨by rfl, rfl⟩) (by assumption) ?_
              try simp only [Act.put, zA, zB, zC, zD, zE, zF]
              refine wpAnyH_take (i := 16) (v := undef) rfl (by kernel_rfl) (by kernel_rfl) (by kernel_rfl) (fun _ _ _ h => h) (Or.inr ⟨by rfl, rfl⟩) (by assumption) ?_
              try simp only [Act.put, zA, zB, zC, zD, zE, zF]
              refine wpAnyH_take (i := 17) (v := undef) rfl (by kernel_rfl) (by kernel_rfl) (by kernel_rfl) (fun _ _ _ h => h) (Or.inr ⟨by rfl, rfl⟩) (by assumption) ?_
              try simp only [Act.put, zA, zB, zC, zD, zE, zF]
              refine wpAnyH_take (i := 18) (v := undef) rfl (by kernel_rfl) (by kernel_rfl) (by kernel_rfl) (fun _ _ _ h => h) (Or.inr ⟨by rfl, rfl⟩) (by assumption) ?_
              try simp only [Act.put, zA, zB, zC, zD, zE, zF]
              refine wpAnyH_take (i := 19) (v := undef) rfl (by kernel_rfl) (by kernel_rfl) (by kernel_rfl) (fun _ _ _ h => h) (Or.inr ⟨by rfl, rfl⟩) (by assumption) ?_
              try simp only [Act.put, zA, zB, zC, zD, zE, zF]
              refine wpAnyH_take (i := 20) (v := undef) rfl (by kernel_rfl) (by kernel_rfl) (by kernel_rfl) (fun _ _ _ h => h) (Or.inr ⟨by rfl, rfl⟩) (by assumption) ?_
              try simp only [Act.put, zA, zB, zC, zD, zE, zF]
              refine wpAnyH_take (i := 21) (v := ?vz21) rfl (by kernel_rfl) (by kernel_rfl) (by kernel_rfl) (fun _ _ _ h => h) (Or.inl ⟨by rfl, ?hyz21⟩) (by assumption) ?restz21
              case hyz21 => (intro w hSw; (try dsimp only at hSw); go_simp; (try (first | with_reducible rfl | rw [if_neg (by omega)])))
              try simp only [Act.put, zA, zB, zC, zD, zE, zF]
              refine wpAnyH_take (i := 22) (v := ?vz22) rfl (by kernel_rfl) (by kernel_rfl) (by kernel_rfl) (fun _ _ _ h => h) (Or.inl ⟨by rfl, ?hyz22⟩) (by assumption) ?restz22
              case hyz22 => (intro w hSw; (try dsimp only at hSw); go_simp; (try (first | with_reducible rfl | rw [if_neg (by omega)])))
              try simp only [Act.put, zA, zB, zC, zD, zE, zF]
              refine wpAnyH_done (by kernel_rfl) ?_ _
              go_wp2
              exact ⟨⟨i + 1, by go_num, by omega, hD, HN⟩, by simp [intOf]; omega⟩
            exact AllReadyH.nil
        · obtain ⟨q, hq⟩ : ∃ q, q = i - 1 := ⟨_, rfl⟩
          have hqi : q + 1 = i := by omega
          have hql : q < l.length := by omega
          obtain ⟨⟨a_, b_, c_, d_, e_, f_⟩, he⟩ : ∃ e, l[q] = e := ⟨_, rfl⟩
          obtain ⟨c0, c1, c2, c3, c4, c5⟩ := rowsSe (hl.below hB) q hql a_ b_ c_ d_ e_ f_ he
          obtain ⟨b, hb⟩ : ∃ b, ltSe (a_, b_) (a', b') = b := ⟨_, rfl⟩
          have HB := Lib.hid hb
          have HADJ : Hid (∃ h : q + 1 < l.length, ltSe (keySe l[q]) (keySe l[q + 1]) = b) := by
            subst hqi
            exact ⟨hil, by rw [he, he', ← hb]; rfl⟩
          have hw : IntKind.i64.wrap ((i : Int) - 1) = ((q : Nat) : Int) := by
            have : (i : Int) - 1 = (q : Int) := by omega
            rw [this, IntKind.wrap_i64]; omega
          have x1 : (0 : Int) ≤ (q : Int) := by omega
          have x2 : (q : Int) < (n : Int) := by omega
          have hg : 0 < i := by omega
          have hg3 : (0 : Int) < (i : Int) := by omega
          have HQI := Lib.hid hqi
          clear hb he he' hq hqi hi0
          go_wp2_with fail
          go_region_held3 (fun w' => w'.cell? (ad.add (q * 6)) = some (.string a_) ∧ w'.cell? ⟨(ad.add (q * 6)).block, (ad.add (q * 6)).off + 1, none⟩ = some (.int .i64 b_) ∧ w'.cell? ⟨(ad.add (q * 6)).block, (ad.add (q * 6)).off + 2, none⟩ = some (.int .i64 c_) ∧ w'.cell? ⟨(ad.add (q * 6)).block, (ad.add (q * 6)).off + 3, none⟩ = some (.int .i64 d_) ∧ w'.cell? ⟨(ad.add (q * 6)).block, (ad.add (q * 6)).off + 4, none⟩ = some (.int .i64 e_) ∧ w'.cell? ⟨(ad.add (q * 6)).block, (ad.add (q * 6)).off + 5, none⟩ = some (.string f_) ∧ w'.cell? (ad.add (i * 6)) = some (.string a') ∧ w'.cell? ⟨(ad.add (i * 6)).block, (ad.add (i * 6)).off + 1, none⟩ = some (.int .i64 b') ∧ w'.cell? ⟨(ad.add (i * 6)).block, (ad.add (i * 6)).off + 2, none⟩ = some (.int .i64 c') ∧ w'.cell? ⟨(ad.add (i * 6)).block, (ad.add (i * 6)).off + 3, none⟩ = some (.int .i64 d') ∧ w'.cell? ⟨(ad.add (i * 6)).block, (ad.add (i * 6)).off + 4, none⟩ = some (.int .i64 e') ∧ w'.cell? ⟨(ad.add (i * 6)).block, (ad.add (i * 6)).off + 5, none⟩ = some (.string f')) (exact ⟨c0, c1, c2, c3, c4, c5, d0, d1, d2, d3, d4, d5⟩) (((first | (go_at_call 86; refine (re_ (refOne_calls a' b' c' d' e' f' _ z1 z2) (ret_bool HO.out)).mono ?_) | (go_at_call 87; refine (re_ (refAheadS_calls a_ b_ c_ d_ e_ f_ a' b' c' d' e' f' _) (ret_bool HB.out)).mono ?_)); rintro e wx ⟨rfl, hbx⟩; replace hD := below_call hD hbx; replace c0 := cell_below hbx c0; replace c1 := cell_below hbx c1; replace c2 := cell_below hbx c2; replace c3 := cell_below hbx c3; replace c4 := cell_below hbx c4; replace c5 := cell_below hbx c5; replace d0 := cell_below hbx d0; replace d1 := cell_below hbx d1; replace d2 := cell_below hbx d2; replace d3 := cell_below hbx d3; replace d4 := cell_below hbx d4; replace d5 := cell_below hbx d5; clear hbx))
          all_goals
            clear c0 c1 c2 c3 c4 c5 d0 d1 d2 d3 d4 d5
            cases b with
            | true =>
              have HN : Hid ((∀ j (h : j < l.length), j < i + 1 → oneS l[j] = true) ∧ ∀ j (h : j + 1 < l.length), j + 1 < i + 1 → ltSe (keySe l[j]) (keySe l[j + 1]) = true) := by
                refine ⟨fun j h hj => ?_, fun j h hj => ?_⟩
                · rcases Nat.lt_or_ge j i with h' | h'
                  · exact HT.out.1 j h h'
                  · obtain rfl : j = i := by omega
                    exact HLO.out
                · rcases Nat.lt_or_ge (j + 1) i with h' | h'
                  · exact HT.out.2 j h h'
                  · obtain rfl : j = q := by have := HQI.out; omega
                    exact HADJ.out.2
              go_wp2
              exact ⟨⟨i + 1, by go_num, by omega, hD, HN⟩, by simp [intOf]; omega⟩
            | false =>
              have HF : Hid (r = false) := by
                show _ = _
                rw [← HR.out]
                unfold maySe
                rw [adjS_no l q HADJ.out.1 HADJ.out.2]
                simp
              go_wp2
              go_ret
              rw [HF.out]
              exact ⟨rfl, hD⟩
    · have hin : i = n := by omega
      subst hin
      have HF : Hid (r = true) := by
        show _ = _
        rw [← HR.out, maySe_iff]
        refine ⟨by have := EA.out; omega, fun s hs => ?_, fun j h => HT.out.2 j h (by have := EA.out; omega)⟩
        obtain ⟨j, hj, rfl⟩ := List.getElem_of_mem hs
        exact HT.out.1 j hj (by have := EA.out; omega)
      go_wp2
      go_ret
      rw [HF.out]
      exact ⟨rfl, hB⟩
end Go.Proofs.YtbpfcjdjhponaaaGreat
