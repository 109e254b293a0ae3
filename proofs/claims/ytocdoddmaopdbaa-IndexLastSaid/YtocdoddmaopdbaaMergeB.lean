/-
Plain: what is sorted, and of which neighbours alike are made one, is two lists as one.
Contracts: slices.Grow at the nil slice, slices.Concat of two, and two lists of names as one.
-/
import Derived.Test.YtocdoddmaopdbaaIdentD
import Derived.Lib.SlicesCompact
import Derived.Sort.OwnSorted
import Derived.Shelf.SlSortCmp.NoneTotal
import Derived.Lib.AppendZeros
namespace Go.Proofs.Ytocdoddmaopdbaa
open Go.RowKit Sp Go.Lib

section
variable {α : Type} [Inhabited α] [DecidableEq α]
theorem compact_spec (lt : α → α → Bool) (htr : ∀ a b c, lt a b = true → lt b c = true → lt a c = true) (hir : ∀ a, lt a a = false) (htot : ∀ a b, a ≠ b → lt a b = true ∨ lt b a = true)
    (d : Array α) (hs : ∀ i j, i < j → j < d.size → lt d[j]! d[i]! = false) : ∀ m, m ≤ d.size → (compactUpTo d m).Pairwise (fun a b => lt a b = true) ∧ ∀ x, x ∈ compactUpTo d m ↔ ∃ j, j < m ∧ d[j]! = x
  | 0, _ => ⟨List.Pairwise.nil, fun x => by simp [compactUpTo]⟩
  | m + 1, hm => by
    obtain ⟨h1, h2⟩ := compact_spec lt htr hir htot d hs m (by omega)
    have hle : ∀ j, j < m → lt d[m]! d[j]! = false := fun j hj => hs j m hj (by omega)
    rw [compactUpTo_succ]
    by_cases hk : keeps d m = true
    · rw [if_pos hk]
      have hlt : ∀ x ∈ compactUpTo d m, lt x d[m]! = true := by
        intro x hx
        obtain ⟨j, hj, rfl⟩ := (h2 x).1 hx
        have hne : d[j]! ≠ d[m]! := by
          intro e
          simp only [keeps, decide_eq_true_eq] at hk
          rcases hk with hk | hk
          · omega
          · apply hk
            by_cases e1 : d[m]! = d[m - 1]!
            · exact e1
            · exfalso
              have hj1 : j ≠ m - 1 := fun e2 => e1 (by rw [← e, e2])
              have a1 := hs j (m - 1) (by omega) (by omega)
              have a2 := hle (m - 1) (by omega)
              rw [e] at a1
              rcases htot _ _ e1 with h | h
              · rw [h] at a2; cases a2
              · rw [h] at a1; cases a1
        rcases htot _ _ hne with h | h
        · exact h
        · rw [hle j hj] at h; cases h
      refine ⟨List.pairwise_append.2 ⟨h1, List.pairwise_singleton _ _, fun a ha b hb => by rw [List.mem_singleton.1 hb]; exact hlt a ha⟩, fun x => ?_⟩
      rw [List.mem_append, h2, List.mem_singleton]
      constructor
      · rintro (⟨j, hj, rfl⟩ | rfl)
        · exact ⟨j, by omega, rfl⟩
        · exact ⟨m, by omega, rfl⟩
      · rintro ⟨j, hj, rfl⟩
        rcases Nat.lt_or_ge j m with h | h
        · exact .inl ⟨j, h, rfl⟩
        · obtain rfl : j = m := by omega
          exact .inr rfl
    · rw [if_neg hk, List.append_nil]
      refine ⟨h1, fun x => ?_⟩
      rw [h2]
      simp only [keeps, decide_eq_true_eq, not_or, Decidable.not_not] at hk
      constructor
      · rintro ⟨j, hj, rfl⟩
        exact ⟨j, by omega, rfl⟩
      · rintro ⟨j, hj, rfl⟩
        rcases Nat.lt_or_ge j m with h | h
        · exact ⟨j, h, rfl⟩
        · obtain rfl : j = m := by omega
          exact ⟨j - 1, by omega, hk.2.symm⟩
end

/-- 'compare' of two lists of bytes. -/
def cfL (x y : List UInt8) : Int := cmpS (strOf x) (strOf y)
theorem ltOf_cfL (x y : List UInt8) : Go.Proofs.ltOf cfL x y = less (strOf x) (strOf y) := cmpS_neg _ _
theorem swo_cfL : Go.Sort.SWO (Go.Proofs.ltOf cfL) where
  irrefl x := by rw [ltOf_cfL]; exact less_irrefl _
  trans x y z h1 h2 := by rw [ltOf_cfL] at *; exact less_trans _ _ _ h1 h2
  ntrans x y z h1 h2 := by
    rw [ltOf_cfL] at *
    rw [not_less_iff] at *
    rcases h1 with h1 | h1
    · rcases h2 with h2 | h2
      · exact .inl (h1.trans h2)
      · rw [h1]; exact .inr h2
    · rcases h2 with h2 | h2
      · rw [← h2]; exact .inr h1
      · exact .inr (less_trans _ _ _ h2 h1)
theorem tot_cfL (x y : List UInt8) (h : x ≠ y) : Go.Proofs.ltOf cfL x y = true ∨ Go.Proofs.ltOf cfL y x = true := by
  rw [ltOf_cfL, ltOf_cfL]
  exact less_total _ _ (fun e => h (strOf_inj.1 e))

/-- What Compact makes of a sorted row of both lists' texts. -/
theorem compact_merge (a b : List ByteArray) (d' : Array (List UInt8)) (hp : d'.toList.Perm ((a ++ b).map fun s => s.data.toList)) (hs : ∀ i j, i < j → j < d'.size → Go.Proofs.ltOf cfL d'[j]! d'[i]! = false) :
    (compact d'.toList).map strOf = mergeS a b := by
  have hc := compact_spec (Go.Proofs.ltOf cfL) swo_cfL.trans swo_cfL.irrefl tot_cfL d' hs d'.size (Nat.le_refl _)
  have he : compact d'.toList = compactUpTo d' d'.size := by unfold compact; simp
  rw [he]
  symm
  refine mergeS_eq a b _ ?_ fun x => ?_
  · rw [Sorted, List.pairwise_map]
    exact hc.1.imp fun {x y} h => by rw [ltOf_cfL] at h; exact h
  · rw [List.mem_map]
    have hm : ∀ l, l ∈ compactUpTo d' d'.size ↔ strOf l ∈ a ++ b := by
      intro l
      rw [hc.2]
      have h1 : (∃ j, j < d'.size ∧ d'[j]! = l) ↔ l ∈ d'.toList := by
        rw [List.mem_iff_getElem]
        constructor
        · rintro ⟨j, hj, rfl⟩
          exact ⟨j, by simpa using hj, by simp [hj]⟩
        · rintro ⟨j, hj, rfl⟩
          exact ⟨j, by simpa using hj, by simp [show j < d'.size by simpa using hj]⟩
      rw [h1, hp.mem_iff, List.mem_map]
      constructor
      · rintro ⟨s, hs, rfl⟩
        rw [strOf_toList]; exact hs
      · intro h
        exact ⟨_, h, strOf_list l⟩
    rw [← List.mem_append]
    constructor
    · rintro ⟨l, hl, rfl⟩
      exact (hm l).1 hl
    · intro h
      exact ⟨x.data.toList, (hm _).2 (by rw [strOf_toList]; exact h), strOf_toList x⟩
end Go.Proofs.Ytocdoddmaopdbaa
namespace Go.Proofs.Ytocdoddmaopdbaa
open Go.RowKit Sp Go.Lib

theorem info_str : (Try.prog.info? 9).map (fun i => (i.zero, i.size, i.bytes)) = some (some (.string ⟨#[]⟩), 1, 16) := by kernel_rfl

set_option maxRecDepth 100000 in
theorem growStr_calls (n : Nat) (w : World) (hn : n ≤ 1048576) :
    Calls Try.prog 72 #[.slice none 0 0, .int .i64 n] w fun e w' => ∃ v, e = .returned v ∧ Own enS 1 9 w' w.heap.size v [] ∧ Below w.heap.size w w' := by
  by_cases h0 : n = 0
  · subst h0
    go_enter Try.func72, Try.ntmps72
    go_wp2
    go_ret
    exact ⟨_, rfl, Own.nil _ _ _ _ _, Below.refl _ _⟩
  · have hp : 0 < n := by omega
    clear h0
    obtain ⟨i0, hi, hz0, hz1, hz2⟩ := info_parts info_str
    have hrun := fun ty => run_append_nil_zeros (P := Try.prog) w 38 3 ty 9 i0 (.string ⟨#[]⟩) .i64 .i64 Try.underlying38 Try.underlying3 hi hz0 n hp (by omega) (by omega) (by rw [hz2]; omega)
    have hg1 := grownCap_ge w n 0 9
    have hg2 := grownCap_le_maxLen w n 0 9 (by simp only [maxLen]; omega)
    have HR := Lib.hid hrun
    clear hrun
    go_enter Try.func72, Try.ntmps72
    go_wp2_with (at_builtin; refine wpList_append_run w rfl (.tmp 20) (.tmp 21) 38 3 rfl (.slice none 0 0) (.int .i64 n) rfl rfl _ _ (HR.out _) ?_)
    go_ret
    refine ⟨_, rfl, ?_, (Below.refl _ _).drew.alloc (Nat.le_refl _) _⟩
    have h := World.ownsRow_made (base := w.heap.size) (e := 9) (size := 1) w.drew (Builtin.zeroCells (Value.string ⟨#[]⟩).cells n ++ Builtin.zeroCells (Value.string ⟨#[]⟩).cells (grownCap w n 0 9 - n)) (grownCap w n 0 9) (Nat.le_refl _) hg2 ?_
    · exact h
    · have hz : (Value.string ⟨#[]⟩).cells.size = 1 := rfl
      rw [Array.size_append, size_zeroCells, size_zeroCells, hz]
      omega

/-- The first k of two lists, one behind the other. -/
def twoTo (a b : List ByteArray) (k : Nat) : List ByteArray := if k = 0 then [] else if k = 1 then a else a ++ b
def lenTo (a b : List ByteArray) (k : Nat) : Nat := if k = 0 then 0 else if k = 1 then a.length else a.length + b.length

set_option maxHeartbeats 1000000 in
set_option maxRecDepth 100000 in
theorem concatStr_calls (g n1 c1 n2 c2 : Nat) (A1 A2 : Option Addr) (a b : List ByteArray) (w : World) (h0 : w.cell? ⟨g, 0, none⟩ = some (.slice A1 n1 c1)) (h1 : w.cell? ⟨g, 1, none⟩ = some (.slice A2 n2 c2))
    (ha : Row enS 1 w (.slice A1 n1 c1) a) (hb : Row enS 1 w (.slice A2 n2 c2) b) (hn1 : n1 ≤ 524288) (hn2 : n2 ≤ 524288) :
    Calls Try.prog 63 #[.slice (some ⟨g, 0, none⟩) 2 2] w fun e w' => ∃ v, e = .returned v ∧ Own enS 1 9 w' w.heap.size v (a ++ b) ∧ Below w.heap.size w w' := by
  have ea := ha.len_eq
  have eb := hb.len_eq
  have EA := Lib.hid ea
  have EB := Lib.hid eb
  clear ea eb
  have hgl : g < w.heap.size := World.block_lt_of_cell? w ⟨g, 0, none⟩ h0
  go_enter Try.func63, Try.ntmps63
  go_wp2
  go_loop [3, 11] (fun v3 v11 => ∃ k m : Nat, v11 = .int .i64 k ∧ k ≤ 2 ∧ v3 = .int .i64 m ∧ Hid (m = if k = 0 then 0 else if k = 1 then n1 else n1 + n2) ∧ m ≤ 1048576) (fun _ v11 => (2 - intOf v11).toNat)
  case atStart => exact ⟨0, 0, rfl, by omega, rfl, rfl, by omega⟩
  case round =>
    obtain ⟨k, m, rfl, hk, rfl, HM, hm⟩ := hrel
    obtain hk0 | hk1 | hk2 : k = 0 ∨ k = 1 ∨ k = 2 := by omega
    · subst hk0
      have hm0 : m ≤ 0 := by have := HM.out; simp at this; omega
      go_wp2
      go_round
      case rel => exact ⟨1, m + n1, by go_num, by omega, by go_num, by have := HM.out; simp at this; subst this; show _ = _; simp, by omega⟩
      case measure => simp [intOf]
    · subst hk1
      have hm1 : m ≤ 524288 := by have := HM.out; simp at this; omega
      go_wp2
      go_round
      case rel => exact ⟨2, m + n2, by go_num, by omega, by go_num, by have := HM.out; simp at this; subst this; show _ = _; simp, by omega⟩
      case measure => simp [intOf]
    · subst hk2
      go_wp2_with fail
      refine (growStr_calls m _ (by omega)).mono ?_
      rintro e w1 ⟨v, rfl, hO0, hB0⟩
      go_wp2
      go_loopw [6, 27] (fun v6 v27 wr => ∃ k : Nat, v27 = .int .i64 k ∧ k ≤ 2 ∧ Own enS 1 9 wr w.heap.size v6 (twoTo a b k) ∧ Below w.heap.size w wr) (fun _ v27 _ => (2 - intOf v27).toNat)
      case atStart => exact ⟨0, rfl, by omega, hO0, hB0⟩
      case round =>
        obtain ⟨k, rfl, hk, hO, hB⟩ := hrel
        have h0' := cell_below hB h0
        have h1' := cell_below hB h1
        obtain hk0 | hk1 | hk2 : k = 0 ∨ k = 1 ∨ k = 2 := by omega
        · subst hk0
          go_wp2_with (at_builtin; refine Own.appendRow (w0 := w) w.heap.size rfl (.tmp 31) (.tmp 32) 38 9 (.string ⟨#[]⟩) 1 16 rfl Try.underlying38 info_str rfl (by decide) u6 (.slice A1 n1 c1) [] a rfl rfl enS_one hO (ha.below hB) hB hB.size (by have := EA.out; simp; omega) (by have := EA.out; simp; omega) ?_; intro v1 w2 hO1 hB1 _ _)
          go_roundw
          case rel => exact ⟨1, by go_num, by omega, hO1, hB1⟩
          case measure => simp [intOf]
        · subst hk1
          go_wp2_with (at_builtin; refine Own.appendRow (w0 := w) w.heap.size rfl (.tmp 31) (.tmp 32) 38 9 (.string ⟨#[]⟩) 1 16 rfl Try.underlying38 info_str rfl (by decide) u6 (.slice A2 n2 c2) a b rfl rfl enS_one hO (hb.below hB) hB hB.size (by have := EA.out; have := EB.out; omega) (by have := EA.out; have := EB.out; omega) ?_; intro v1 w2 hO1 hB1 _ _)
          go_roundw
          case rel => exact ⟨2, by go_num, by omega, hO1, hB1⟩
          case measure => simp [intOf]
        · subst hk2
          go_wp2
          go_ret
          exact ⟨_, rfl, hO, hB⟩

theorem sort_none (p : Option Addr) (cap : Nat) (fv : Value) (w : World) : Calls Try.prog 64 #[.slice p 0 cap, fv] w fun e w' => e = .returned (.tuple #[]) ∧ w' = w :=
  AnyF.slices_SortFunc_none (P := Try.prog) (ρ := Try.laysSlF6_f64_ren) { Try.laysSlF6_f64 with } p cap fv w

theorem cmpLays (blk off size : Nat) (w : World) : CmpLays1 Try.prog 65 #[] encStr cfL blk off size w := by
  intro m os dk _ x y
  refine (compare_exact (strOf x) (strOf y) _).mono ?_
  rintro e w' ⟨rfl, o, rfl⟩
  exact ⟨rfl, 0, #[o], (Go.Sort.alloc_eq_grow _ _)⟩

/-- The row of a call's own, sorted, and of neighbours alike made one. -/
theorem sort_own (v : Value) (xs : List ByteArray) (base : Nat) (w : World) (hO : Own enS 1 9 w base v xs) (hn : 0 < xs.length) (hx : xs.length ≤ 1048576) :
    Calls Try.prog 64 #[v, .func (.func 65) #[] #[]] w fun e w' => e = .returned (.tuple #[]) ∧ ∃ (g cap : Nat) (zs : List (List UInt8)), v = .slice (some ⟨g, 0, none⟩) xs.length cap ∧ zs.length = xs.length ∧ xs.length ≤ cap ∧ base ≤ g ∧
      zs.Perm (xs.map fun s => s.data.toList) ∧ (∀ i j, i < j → j < zs.toArray.size → ltOf cfL zs.toArray[j]! zs.toArray[i]! = false) ∧ w'.ownsRow base 9 1 v xs.length (zs.map encStr) ∧ w.grownBy w' (some g) := by
  rcases hO.2 with ⟨_, h0⟩ | ⟨g, cap, cur, rfl, hbase, hb, h1, h2, h3, h4⟩
  · omega
  · have hmap : xs.flatMap enS = (xs.map fun s => s.data.toList).map encStr := by
      rw [List.map_map]
      clear h1 h2 h3 h4 hb hO hn hx
      induction xs with
      | nil => rfl
      | cons x xs ih =>
        rw [List.flatMap_cons, ih, List.map_cons]
        show Value.string x :: _ = Value.string ⟨x.data.toList.toArray⟩ :: _
        rw [ofList_toList]
        rfl
    have hH : Go.Sort.Holds encStr w g 0 (xs.map fun s => s.data.toList).toArray := holds_of_block hb (by rw [← hmap]; simpa using h4)
    have eg : ∀ args w, (callFunc 65 args).run Try.prog w = .ok (.enter 65 args) w := enters_of Try.func65 (by kernel_rfl) rfl
    have hS := Try.slices_SortFunc encStr (fun _ => rfl) cfL swo_cfL 65 #[] g 0 cap (xs.map fun s => s.data.toList).toArray w eg (cmpLays g 0 _ w) hH (Array.getElem?_eq_some_iff.1 hb).1 (by simp only [List.size_toArray, List.length_map]; omega)
    simp only [List.size_toArray, List.length_map] at hS
    refine hS.mono ?_
    rintro e w' ⟨rfl, d', n, os, ⟨hp1, _, hp3⟩, hs, rfl⟩
    simp only [List.size_toArray, List.length_map] at hp1 hs
    have hl : d'.toList.length = (xs.map fun s => s.data.toList).length := by simpa using hp1
    have hto : d'.toList.toArray = d' := by simp
    refine ⟨rfl, g, cap, d'.toList, rfl, by simpa using hp1, h1, hbase, ?_, ?_, ?_, ?_⟩
    · have e1 : d'.extract 0 (xs.length) = d' := by rw [← hp1]; simp
      have e2 : (xs.map fun s => s.data.toList).toArray.extract 0 xs.length = (xs.map fun s => s.data.toList).toArray := by
        have : xs.length = (xs.map fun s => s.data.toList).toArray.size := by simp
        rw [this, Array.extract_size]
      rw [e1, e2] at hp3
      simpa using hp3
    · rw [hto]
      intro i j hij hj
      exact hs i j (Nat.zero_le _) hij (by omega)
    · have := ownsRow_sorted (w := w) (base := base) (g := g) (cap := cap) (n := n) (os := os) (cur := cur) (e := 9) (ss := xs.map fun s => s.data.toList) (ts := d'.toList) hl hbase hb (by simpa using h1) h2 h3
      rw [hto, List.length_map] at this
      exact this
    · exact grownBy_sorted d'

theorem strings_flat (zs : List (List UInt8)) : zs.map encStr = (zs.map strOf).flatMap enS := by
  induction zs with
  | nil => rfl
  | cons z zs ih => rw [List.map_cons, List.map_cons, List.flatMap_cons, ih]; rfl

theorem compact_own (g cap n : Nat) (zs : List (List UInt8)) (base : Nat) (w : World) (hn : zs.length = n) (hO : w.ownsRow base 9 1 (.slice (some ⟨g, 0, none⟩) n cap) n (zs.map encStr)) :
    Calls Try.prog 66 #[.slice (some ⟨g, 0, none⟩) n cap] w fun e w' => ∃ v, e = .returned v ∧ Row enS 1 w' v ((compact zs).map strOf) ∧ w.grownBy w' (some g) := by
  subst hn
  rcases hO.2 with ⟨h0, _⟩ | ⟨g', cap', cur, hv, hbase, hb, h1, h2, h3, h4⟩
  · cases h0
  · cases hv
    have hH : Go.Sort.Holds encStr w g 0 zs.toArray := holds_of_block hb (by simpa using h4)
    have hcl := compact_length_le zs
    refine (Try.slices_Compact_string g 0 cap zs w hH (by simp only [maxLen] at h2; omega) h1).mono ?_
    rintro e w' ⟨rfl, q, rfl⟩
    refine ⟨_, rfl, ?_, ?_⟩
    · have hts : (compact zs ++ List.replicate (zs.length - (compact zs).length) []).length = zs.length := by
        rw [List.length_append, List.length_replicate]; omega
      have ho := ownsRow_sorted (w := w) (base := base) (g := g) (cap := cap) (n := q) (os := #[]) (cur := cur) (e := 9) (ss := zs) (ts := compact zs ++ List.replicate (zs.length - (compact zs).length) []) hts hbase hb h1 h2 h3
      rw [Go.Sort.grow_empty] at ho
      have hlen : ((compact zs).map strOf).length = (compact zs).length := List.length_map _
      refine ⟨_, cap, by rw [hlen], by rw [hlen]; omega, h2, flat_length enS_len _, fun _ => ⟨_, rfl, fun j u hu => ?_⟩⟩
      refine ho.cells (g := g) rfl j u ?_
      rw [← strings_flat] at hu
      rw [List.map_append]
      have hj : j < ((compact zs).map encStr).length := (List.getElem?_eq_some_iff.1 hu).1
      rw [List.getElem?_append_left hj]
      exact hu
    · have := grownBy_sorted (w := w) (g := g) (n := q) (os := #[]) (compact zs ++ List.replicate (zs.length - (compact zs).length) []).toArray
      rwa [Go.Sort.grow_empty] at this

set_option maxHeartbeats 1000000 in
set_option maxRecDepth 100000 in
theorem Merge_calls (n1 c1 n2 c2 : Nat) (A1 A2 : Option Addr) (a b : List ByteArray) (w : World)
    (ha : Row enS 1 w (.slice A1 n1 c1) a) (hb : Row enS 1 w (.slice A2 n2 c2) b) (hn1 : n1 ≤ 524288) (hn2 : n2 ≤ 524288) :
    Calls Try.prog 46 #[.slice A1 n1 c1, .slice A2 n2 c2] w fun e w' => ∃ v, e = .returned v ∧ Row enS 1 w' v (mergeS a b) ∧ Below w.heap.size w w' := by
  have EA := Lib.hid ha.len_eq
  have EB := Lib.hid hb.len_eq
  go_enter Try.func46, Try.ntmps46
  go_wp2_with fail
  have hb0 : Below w.heap.size w (w.alloc (.cells #[.slice A1 n1 c1, .slice A2 n2 c2] 38)) := (Below.refl _ _).alloc (Nat.le_refl _) _
  refine (concatStr_calls w.heap.size n1 c1 n2 c2 A1 A2 a b _ (by simp) (by simp) (ha.below hb0) (hb.below hb0) hn1 hn2).mono ?_
  rintro e w1 ⟨v, rfl, hO, hB⟩
  have hB1 := below_call hb0 hB
  by_cases h0 : (a ++ b).length = 0
  · have hnil : mergeS a b = [] := by
      have h1 : a ++ b = [] := List.eq_nil_of_length_eq_zero h0
      unfold mergeS
      rw [h1]
      rfl
    have HNIL := Lib.hid hnil
    have hrow := hO.row
    obtain ⟨A, c, rfl, _⟩ := hO.slice
    rw [h0] at hrow ⊢
    have HN := Lib.hid h0
    clear h0 hnil
    go_wp2_with fail
    refine (sort_none A c _ _).mono ?_
    rintro e w2 ⟨rfl, rfl⟩
    go_wp2_with fail
    refine (Try.slices_Compact_string_empty A c _).mono ?_
    rintro e w2 ⟨rfl, rfl⟩
    go_wp2
    go_ret
    refine ⟨_, rfl, ?_, hB1⟩
    rw [HNIL.out]
    obtain ⟨A', c', he, _, h2, _⟩ := hrow
    injection he with e1 e2 e3
    subst e3
    exact ⟨A, c, rfl, Nat.zero_le _, h2, rfl, fun h => absurd h (by simp)⟩
  · go_wp2_with fail
    refine (sort_own v (a ++ b) _ _ hO (by omega) (by have := EA.out; have := EB.out; rw [List.length_append]; omega)).mono ?_
    rintro e w2 ⟨rfl, g, cap, zs, rfl, hz, hcap, hbase, hp, hs, hO2, hg⟩
    have hm := compact_merge a b zs.toArray (by simpa using hp) hs
    simp only at hm
    have HM := Lib.hid hm
    have HZ := Lib.hid hz
    clear hm hz hp hs
    go_wp2_with fail
    refine (compact_own g cap _ zs _ _ (by rw [HZ.out, List.length_append]) (by have h := hO2; rw [List.length_append] at h; exact h)).mono ?_
    rintro e w3 ⟨v3, rfl, hr, hg3⟩
    go_wp2
    go_ret
    refine ⟨_, rfl, ?_, ?_⟩
    · rw [HM.out] at hr
      exact hr
    · have h1 : w.heap.size + 1 ≤ g := by simpa using hbase
      have hsz := hB.size
      have e1 : Below w.heap.size w w2 := hB1.grown hg hB1.size (fun k hk => by injection hk with hk; omega)
      exact e1.grown hg3 e1.size (fun k hk => by injection hk with hk; omega)
end Go.Proofs.Ytocdoddmaopdbaa
