import Derived.Test.YtbpfcjdjhponaaaGreatPViewRows10
set_option linter.unusedVariables false
set_option linter.unusedSimpArgs false
set_option linter.unusedSectionVars false
namespace Go.Proofs.YtbpfcjdjhponaaaGreat
open Go.RowKit
open Sp
namespace Sp
theorem valT_may {s : Sta} (h : mayT s = true) (p q : ByteArray) : valT s p q = seeT s p q := by unfold valT; rw [h]; rfl
theorem valT_not {s : Sta} (h : mayT s = false) (p q : ByteArray) : valT s p q = ((0, 0, 0, ⟨#[]⟩), false) := by unfold valT; rw [h]; rfl
theorem mayT_ro {s : Sta} (h : mayT s = true) : mayRo s.1 = true := by
  unfold mayT at h
  rw [Bool.and_eq_true] at h
  exact h.1
theorem filterMap_none {α β : Type} {f : α → Option β} : ∀ l : List α, (∀ x ∈ l, f x = none) → l.filterMap f = []
  | [], _ => rfl
  | a :: l, h => by rw [List.filterMap_cons, h a (List.mem_cons_self ..)]; exact filterMap_none l fun x hx => h x (List.mem_cons_of_mem _ hx)
theorem vtab_tab (s : Sta) (p : ByteArray) : vtabT s p = tabT s p := by
  unfold vtabT tabT
  cases h : mayT s with
  | false =>
    rw [if_neg (by simp)]
    exact filterMap_none _ fun x _ => by unfold vrowT; rw [valT_not h]; rfl
  | true =>
    rw [if_pos rfl, mergeS_eq (ofRo s.1 p) [] (ofRo s.1 p) (ofRo_sorted (mayRo_ord (mayT_ro h)) p) (fun x => by simp)]
    congr 1
    funext q
    unfold vrowT rowT
    rw [valT_may h]
theorem tabT_len (s : Sta) (p : ByteArray) : (tabT s p).length ≤ 16 := by
  rw [← vtab_tab]
  unfold vtabT
  cases h : mayT s with
  | false =>
    rw [filterMap_none _ fun x _ => by unfold vrowT; rw [valT_not h]; rfl]
    exact Nat.zero_le _
  | true => exact Nat.le_trans (List.length_filterMap_le _ _) (of_le (mayT_ro h) p)
def betT (s t : Sta) (p : ByteArray) : List Ch := changesT (tabT s p) (tabT t p)
end Sp
theorem vOf_is (n c : Nat) (A : Option Addr) (l : List En) (m d : Nat) (B : Option Addr) (s : List Se) (w : World) (hl : Row enEn 7 w (.slice A n c) l) (hs : Row enSe 6 w (.slice B m d) s) (hz : SzRo l) (hy : SzSe s) (hn : n ≤ 100000) (hm : m ≤ 100000) (p : ByteArray) (r : List Sn) (h : Hid (tabT (l, s) p = r)) :
    Calls Tryz.prog 22 #[agT A n c B m d, .string p] w fun e w' => ∃ v, e = .returned v ∧ Row enSn 5 w' v r ∧ Below w.heap.size w w' := by
  have := vOf_calls n c A l m d B s w hl hs hz hy hn hm p
  rw [vtab_tab, h.out] at this
  exact this
theorem form_Sn {w : World} {v : Value} {l : List Sn} (h : Row enSn 5 w v l) : ∃ A c, v = .slice A l.length c := by
  obtain ⟨A, c, rfl, -⟩ := h
  exact ⟨A, c, rfl⟩
noncomputable def opsvbt : Array Oper := Held.inBody 1 Tryz.f28.body
def ordvbt : List Nat := [0, 1, 3, 4, 2, 5, 6, 7]
set_option maxRecDepth 100000 in
theorem rgvbt : Held.Reg opsvbt ordvbt 8 [0, 1, 2, 3, 7] := ⟨by kernel_rfl, by kernel_rfl, by kernel_rfl⟩
set_option maxHeartbeats 16000000 in
set_option maxRecDepth 100000 in
theorem vBet_is (n c : Nat) (A : Option Addr) (l : List En) (m d : Nat) (B : Option Addr) (s : List Se) (n2 c2 : Nat) (A2 : Option Addr) (l2 : List En) (m2 d2 : Nat) (B2 : Option Addr) (s2 : List Se) (w : World) (hl : Row enEn 7 w (.slice A n c) l) (hs : Row enSe 6 w (.slice B m d) s) (hl2 : Row enEn 7 w (.slice A2 n2 c2) l2) (hs2 : Row enSe 6 w (.slice B2 m2 d2) s2) (hz : SzRo l) (hy : SzSe s) (hz2 : SzRo l2) (hy2 : SzSe s2) (hn : n ≤ 100000) (hm : m ≤ 100000) (hn2 : n2 ≤ 100000) (hm2 : m2 ≤ 100000) (p : ByteArray) (r : List Ch) (h : Hid (betT (l, s) (l2, s2) p = r)) :
    Calls Tryz.prog 28 #[agT A n c B m d, agT A2 n2 c2 B2 m2 d2, .string p] w fun e w' => ∃ v, e = .returned v ∧ Row enCh 6 w' v r ∧ Below w.heap.size w w' := by
  have D := below_alloc0 (below_box (w := w) (bxT A n c B m d)) (bxT A2 n2 c2 B2 m2 d2)
  have hb := halloc (heap_alloc_new w (bxT A n c B m d)) (bxT A2 n2 c2 B2 m2 d2)
  have hb2 := heap_alloc_new (w.alloc (bxT A n c B m d)) (bxT A2 n2 c2 B2 m2 d2)
  rw [size_alloc] at hb2
  replace hl := hl.below D
  replace hs := hs.below D
  replace hl2 := hl2.below D
  replace hs2 := hs2.below D
  obtain ⟨g, hgg⟩ : ∃ g, w.heap.size = g := ⟨_, rfl⟩
  obtain ⟨W0, hW0⟩ : ∃ W0, (w.alloc (bxT A n c B m d)).alloc (bxT A2 n2 c2 B2 m2 d2) = W0 := ⟨_, rfl⟩
  go_enter Tryz.func28, Tryz.ntmps28
  go_wp2_with fail
  rw [hgg] at hb hb2
  rw [hW0] at hb hb2 hl hs hl2 hs2 D
  try rw [hgg]
  try rw [hW0]
  obtain ⟨z0, z1, zz⟩ := cellsT hb
  obtain ⟨y0, y1, yz⟩ := cellsT hb2
  replace z0 : W0.drew.cell? _ = _ := z0
  replace z1 : W0.drew.cell? _ = _ := z1
  replace y0 : W0.drew.cell? _ = _ := y0
  replace y1 : W0.drew.cell? _ = _ := y1
  replace hl : Row _ _ W0.drew _ _ := hl
  replace hs : Row _ _ W0.drew _ _ := hs
  replace hl2 : Row _ _ W0.drew _ _ := hl2
  replace hs2 : Row _ _ W0.drew _ _ := hs2
  replace D : Below _ _ W0.drew := D.drew
  have HT := tabT_len (l, s) p
  have HT2 := tabT_len (l2, s2) p
  clear zz yz hb hb2 hW0
  refine Held.start (ops := opsvbt) (S := fun w' => w'.cell? ⟨g, 0, none⟩ = some (.slice A n c) ∧ w'.cell? ⟨g, 1, none⟩ = some (.slice B m d) ∧ w'.cell? ⟨g + 1, 0, none⟩ = some (.slice A2 n2 c2) ∧ w'.cell? ⟨g + 1, 1, none⟩ = some (.slice B2 m2 d2)) ordvbt 8 (by kernel_rfl) rgvbt.siz (by kernel_rfl) ⟨z0, z1, y0, y1⟩ (fun hHeld => ?_)
  iterate 4
    refine Held.tw rgvbt ?_
    try simp only [Act.put, zA, zB, zC, zD, zE, zF]
  refine Held.only (k := 4) (i := 2) (by kernel_rfl) (by kernel_rfl) rfl (by kernel_rfl) (fun K hK => ?_)
  go_simp
  go_at_call 22
  with_reducible refine (vOf_is n c A l m d B s _ hl hs hz hy hn hm p _ (Lib.hid rfl)).mono ?_
  rintro e w1 ⟨v1, rfl, r1, b1⟩
  obtain ⟨V1, e1, rfl⟩ := form_Sn r1
  replace z0 := cell_below b1 z0
  replace z1 := cell_below b1 z1
  replace y0 := cell_below b1 y0
  replace y1 := cell_below b1 y1
  replace hl2 := hl2.below b1
  replace hs2 := hs2.below b1
  replace D := below_call D b1
  clear b1
  refine hK.out _ _ (by (try dsimp only); (exact ⟨z0, z1, y0, y1⟩)) (fun hHeld => ?_)
  clear hK K
  try simp only [Act.put, zA, zB, zC, zD, zE, zF]
  refine Held.only (k := 5) (i := 5) (by kernel_rfl) (by kernel_rfl) rfl (by kernel_rfl) (fun K hK => ?_)
  go_simp
  go_at_call 22
  with_reducible refine (vOf_is n2 c2 A2 l2 m2 d2 B2 s2 _ hl2 hs2 hz2 hy2 hn2 hm2 p _ (Lib.hid rfl)).mono ?_
  rintro e w2 ⟨v2, rfl, r2, b2⟩
  obtain ⟨V2, e2, rfl⟩ := form_Sn r2
  replace z0 := cell_below b2 z0
  replace z1 := cell_below b2 z1
  replace y0 := cell_below b2 y0
  replace y1 := cell_below b2 y1
  replace r1 := r1.below b2
  replace D := below_call D b2
  clear b2
  refine hK.out _ _ (by (try dsimp only); (exact ⟨z0, z1, y0, y1⟩)) (fun hHeld => ?_)
  clear hK K
  try simp only [Act.put, zA, zB, zC, zD, zE, zF]
  refine Held.only (k := 6) (i := 6) (by kernel_rfl) (by kernel_rfl) rfl (by kernel_rfl) (fun K hK => ?_)
  go_simp
  go_at_call 72
  with_reducible refine (ChangesT_calls _ e1 _ e2 V1 V2 _ _ _ r1 r2 (by omega) (by omega)).mono ?_
  rintro e w3 ⟨v3, rfl, r3, b3⟩
  replace z0 := cell_below b3 z0
  replace z1 := cell_below b3 z1
  replace y0 := cell_below b3 y0
  replace y1 := cell_below b3 y1
  replace D := below_call D b3
  clear b3
  refine hK.out _ _ (by (try dsimp only); (exact ⟨z0, z1, y0, y1⟩)) (fun hHeld => ?_)
  clear hK K
  try simp only [Act.put, zA, zB, zC, zD, zE, zF]
  iterate 1
    refine Held.tw rgvbt ?_
    try simp only [Act.put, zA, zB, zC, zD, zE, zF]
  refine wpAnyH_done (by kernel_rfl) ?_ _
  have HF : Hid (changesT (tabT (l, s) p) (tabT (l2, s2) p) = r) := h.out
  rw [HF.out] at r3
  go_wp2
  go_ret
  exact ⟨v3, rfl, r3, D⟩
end Go.Proofs.YtbpfcjdjhponaaaGreat
namespace Go.Proofs.YtbpfcjdjhponaaaGreat
open Go.RowKit
open Sp
def es15 : List Evt := [⟨7, ⟨#[97, 110, 110]⟩, ⟨#[]⟩, 1, (4, 2, 0, ⟨#[]⟩)⟩, ⟨1, ⟨#[98, 111, 98]⟩, ⟨#[97, 110, 110]⟩, 0, (0, 0, 0, ⟨#[]⟩)⟩]
def s15 : Sta := (allT (([], []) : Sta) es15).1
def t15 : Sta := (applyT (s15.1, s15.2) ⟨2, ⟨#[97, 110, 110]⟩, ⟨#[98, 111, 98]⟩, 0, (0, 0, 0, ⟨#[]⟩)⟩).1
def u15 : Sta := (applyT (t15.1, t15.2) ⟨5, ⟨#[98, 111, 98]⟩, ⟨#[97, 110, 110]⟩, 0, (0, 0, 0, ⟨#[]⟩)⟩).1
theorem l15a : Hid (allT (([], []) : Sta) es15 = (s15, [0, 0])) := by show _ = _; decide +kernel
theorem l15b : Hid (applyT (s15.1, s15.2) ⟨2, ⟨#[97, 110, 110]⟩, ⟨#[98, 111, 98]⟩, 0, (0, 0, 0, ⟨#[]⟩)⟩ = (t15, 0)) := by show _ = _; decide +kernel
theorem l15c : Hid (applyT (t15.1, t15.2) ⟨5, ⟨#[98, 111, 98]⟩, ⟨#[97, 110, 110]⟩, 0, (0, 0, 0, ⟨#[]⟩)⟩ = (u15, 0)) := by show _ = _; decide +kernel
theorem l15d : Hid (valT (t15.1, t15.2) ⟨#[98, 111, 98]⟩ ⟨#[97, 110, 110]⟩ = ((4, 2, 0, ⟨#[]⟩), true)) := by show _ = _; decide +kernel
theorem l15e : Hid (valT (t15.1, t15.2) ⟨#[97, 110, 110]⟩ ⟨#[98, 111, 98]⟩ = ((0, 0, 0, ⟨#[]⟩), false)) := by show _ = _; decide +kernel
theorem l15f : Hid (betT (s15.1, s15.2) (t15.1, t15.2) ⟨#[98, 111, 98]⟩ = [⟨⟨#[97, 110, 110]⟩, true, 4, 2, 0, ⟨#[]⟩⟩]) := by show _ = _; decide +kernel
theorem l15g : Hid (betT (t15.1, t15.2) (u15.1, u15.2) ⟨#[98, 111, 98]⟩ = [⟨⟨#[97, 110, 110]⟩, false, 0, 0, 0, ⟨#[]⟩⟩]) := by show _ = _; decide +kernel
theorem l15h : Hid (tabT (s15.1, s15.2) ⟨#[98, 111, 98]⟩ = []) := by show _ = _; decide +kernel
theorem l15i : Hid (tabT (t15.1, t15.2) ⟨#[98, 111, 98]⟩ = [⟨⟨#[97, 110, 110]⟩, (4, 2, 0, ⟨#[]⟩)⟩]) := by show _ = _; decide +kernel
theorem l15j : Hid (watT (t15.1, t15.2) ⟨#[97, 110, 110]⟩ = [⟨#[98, 111, 98]⟩]) := by show _ = _; decide +kernel
theorem l15k : Hid (watT (u15.1, u15.2) ⟨#[97, 110, 110]⟩ = []) := by show _ = _; decide +kernel
theorem sz15n : SzRo [] := fun s hs => by cases hs
theorem sy15n : SzSe [] := fun s hs => by cases hs
def small15 (s : Sta) : Bool := s.1.all (fun x => decide (x.o.size ≤ 100) && decide (x.c.size ≤ 100)) && s.2.all (fun x => decide (x.u.size ≤ 100) && decide (x.v.2.2.2.size ≤ 100)) && decide (s.1.length ≤ 10) && decide (s.2.length ≤ 10)
theorem small_ {s : Sta} (h : small15 s = true) : SzRo s.1 ∧ SzSe s.2 ∧ s.1.length ≤ 10 ∧ s.2.length ≤ 10 := by
  unfold small15 at h
  simp only [Bool.and_eq_true, List.all_eq_true, decide_eq_true_eq] at h
  refine ⟨fun x hx => ?_, fun x hx => ?_, h.1.2, h.2⟩
  · have := h.1.1.1 x hx
    exact ⟨by omega, by omega⟩
  · have := h.1.1.2 x hx
    exact ⟨by omega, by omega⟩
theorem sm15s : SzRo s15.1 ∧ SzSe s15.2 ∧ s15.1.length ≤ 10 ∧ s15.2.length ≤ 10 := small_ (by decide +kernel)
theorem sm15t : SzRo t15.1 ∧ SzSe t15.2 ∧ t15.1.length ≤ 10 ∧ t15.2.length ≤ 10 := small_ (by decide +kernel)
theorem sm15u : SzRo u15.1 ∧ SzSe u15.2 ∧ u15.1.length ≤ 10 ∧ u15.2.length ≤ 10 := small_ (by decide +kernel)
theorem sv15 : SzEv es15 := fun e he => by
  simp only [es15, List.mem_cons, List.not_mem_nil, or_false] at he
  rcases he with rfl | rfl <;> decide
theorem row15 (W : World) : Row enEv 8 (W.alloc (.cells #[.int .i64 7, .string ⟨#[97, 110, 110]⟩, .string ⟨#[]⟩, .int .i64 1, .int .i64 4, .int .i64 2, .int .i64 0, .string ⟨#[]⟩, .int .i64 1, .string ⟨#[98, 111, 98]⟩, .string ⟨#[97, 110, 110]⟩, .int .i64 0, .int .i64 0, .int .i64 0, .int .i64 0, .string ⟨#[]⟩] 29)) (.slice (some ⟨W.heap.size, 0, none⟩) 2 2) es15 := (Own.lit (base := W.heap.size) enEv_len W es15 _ 2 rfl rfl (Nat.le_refl _) (by decide)).row
theorem row15i (W : World) : Row enSn 5 (W.alloc (.cells #[.string ⟨#[97, 110, 110]⟩, .int .i64 4, .int .i64 2, .int .i64 0, .string ⟨#[]⟩] 59)) (.slice (some ⟨W.heap.size, 0, none⟩) 1 1) [⟨⟨#[97, 110, 110]⟩, (4, 2, 0, ⟨#[]⟩)⟩] := (Own.lit (base := W.heap.size) enSn_len W [⟨⟨#[97, 110, 110]⟩, (4, 2, 0, ⟨#[]⟩)⟩] _ 1 rfl rfl (Nat.le_refl _) (by decide)).row
theorem row15j (W : World) : Row enS 1 (W.alloc (.cells #[.string ⟨#[98, 111, 98]⟩] 9)) (.slice (some ⟨W.heap.size, 0, none⟩) 1 1) [⟨#[98, 111, 98]⟩] := (Own.lit (base := W.heap.size) enS_len W _ _ 1 rfl rfl (Nat.le_refl _) (by decide)).row
theorem row15f (W : World) : Row enCh 6 (W.alloc (.cells #[.string ⟨#[97, 110, 110]⟩, .bool true, .int .i64 4, .int .i64 2, .int .i64 0, .string ⟨#[]⟩] 65)) (.slice (some ⟨W.heap.size, 0, none⟩) 1 1) [⟨⟨#[97, 110, 110]⟩, true, 4, 2, 0, ⟨#[]⟩⟩] := (Own.lit (base := W.heap.size) enCh_len W [⟨⟨#[97, 110, 110]⟩, true, 4, 2, 0, ⟨#[]⟩⟩] _ 1 rfl rfl (Nat.le_refl _) (by decide)).row
theorem row15g (W : World) : Row enCh 6 (W.alloc (.cells #[.string ⟨#[97, 110, 110]⟩, .bool false, .int .i64 0, .int .i64 0, .int .i64 0, .string ⟨#[]⟩] 65)) (.slice (some ⟨W.heap.size, 0, none⟩) 1 1) [⟨⟨#[97, 110, 110]⟩, false, 0, 0, 0, ⟨#[]⟩⟩] := (Own.lit (base := W.heap.size) enCh_len W [⟨⟨#[97, 110, 110]⟩, false, 0, 0, 0, ⟨#[]⟩⟩] _ 1 rfl rfl (Nat.le_refl _) (by decide)).row
noncomputable def opslvf : Array Oper := Held.inBody 9 Tryz.f18.body
def ordlvf0 : List Nat := [0, 1, 2, 3, 4, 5, 7, 8, 6, 9, 10, 11, 12, 13, 14, 15, 16, 17, 18, 19, 20, 21, 22, 23, 24, 25, 26, 27, 28, 29, 30, 31, 32, 33, 34, 35, 36, 37, 38, 39, 40, 41, 42, 43, 44, 45, 46, 47, 48, 49]
set_option maxRecDepth 100000 in
theorem rgordlvf0 : Held.Reg opslvf ordlvf0 50 [0, 2, 3, 4, 5, 6, 7, 11, 12, 13, 14, 15, 16, 17, 18, 19, 20, 21, 22, 23, 24, 25, 29, 30, 31, 33, 34, 35, 36, 37, 38, 39, 42, 43, 44, 45, 48, 49] := ⟨by kernel_rfl, by kernel_rfl, by kernel_rfl⟩
def ordlvf1 : List Nat := [0, 1, 2, 3, 4, 5, 7, 8, 9, 6, 10, 11, 12, 13, 14, 15, 16, 17, 18, 19, 20, 21, 22, 23, 24, 25, 26, 27, 28, 29, 30, 31, 32, 33, 34, 35, 36, 37, 38, 39, 40, 41, 42, 43, 44, 45, 46, 47, 48, 49]
set_option maxRecDepth 100000 in
theorem rgordlvf1 : Held.Reg opslvf ordlvf1 50 [0, 2, 3, 4, 5, 6, 7, 11, 12, 13, 14, 15, 16, 17, 18, 19, 20, 21, 22, 23, 24, 25, 29, 30, 31, 33, 34, 35, 36, 37, 38, 39, 42, 43, 44, 45, 48, 49] := ⟨by kernel_rfl, by kernel_rfl, by kernel_rfl⟩
def ordlvf2 : List Nat := [0, 1, 2, 3, 4, 5, 7, 8, 6, 9, 10, 11, 12, 13, 14, 15, 16, 17, 18, 19, 20, 21, 22, 23, 24, 25, 27, 26, 28, 29, 30, 31, 32, 33, 34, 35, 36, 37, 38, 39, 40, 41, 42, 43, 44, 45, 46, 47, 48, 49]
set_option maxRecDepth 100000 in
theorem rgordlvf2 : Held.Reg opslvf ordlvf2 50 [0, 2, 3, 4, 5, 6, 7, 11, 12, 13, 14, 15, 16, 17, 18, 19, 20, 21, 22, 23, 24, 25, 29, 30, 31, 33, 34, 35, 36, 37, 38, 39, 42, 43, 44, 45, 48, 49] := ⟨by kernel_rfl, by kernel_rfl, by kernel_rfl⟩
def ordlvf3 : List Nat := [0, 1, 2, 3, 4, 5, 7, 8, 9, 6, 10, 11, 12, 13, 14, 15, 16, 17, 18, 19, 20, 21, 22, 23, 24, 25, 27, 26, 28, 29, 30, 31, 32, 33, 34, 35, 36, 37, 38, 39, 40, 41, 42, 43, 44, 45, 46, 47, 48, 49]
set_option maxRecDepth 100000 in
theorem rgordlvf3 : Held.Reg opslvf ordlvf3 50 [0, 2, 3, 4, 5, 6, 7, 11, 12, 13, 14, 15, 16, 17, 18, 19, 20, 21, 22, 23, 24, 25, 29, 30, 31, 33, 34, 35, 36, 37, 38, 39, 42, 43, 44, 45, 48, 49] := ⟨by kernel_rfl, by kernel_rfl, by kernel_rfl⟩
set_option maxHeartbeats 32000000 in
set_option maxRecDepth 100000 in
theorem live15 (w : World) : Calls Tryz.prog 18 #[] w fun e w' => e = .returned (.bool true) ∧ Below w.heap.size w w' := by
  have D := below_box (w := w) (bxPv 4 2 0 ⟨#[]⟩)
  have VB := heap_alloc_new w (bxPv 4 2 0 ⟨#[]⟩)
  have hes := row15 (w.alloc (bxPv 4 2 0 ⟨#[]⟩))
  rw [size_alloc] at hes
  obtain ⟨v0, v1, v2, v3, vz⟩ := cellsPv VB
  go_enter Tryz.func18, Tryz.ntmps18
  replace VB := halloc VB (.cells #[.int .i64 7, .string ⟨#[97, 110, 110]⟩, .string ⟨#[]⟩, .int .i64 1, .int .i64 4, .int .i64 2, .int .i64 0, .string ⟨#[]⟩, .int .i64 1, .string ⟨#[98, 111, 98]⟩, .string ⟨#[97, 110, 110]⟩, .int .i64 0, .int .i64 0, .int .i64 0, .int .i64 0, .string ⟨#[]⟩] 29)
  replace D := below_alloc0 D (.cells #[.int .i64 7, .string ⟨#[97, 110, 110]⟩, .string ⟨#[]⟩, .int .i64 1, .int .i64 4, .int .i64 2, .int .i64 0, .string ⟨#[]⟩, .int .i64 1, .string ⟨#[98, 111, 98]⟩, .string ⟨#[97, 110, 110]⟩, .int .i64 0, .int .i64 0, .int .i64 0, .int .i64 0, .string ⟨#[]⟩] 29)
  go_wp2_with fail
  with_reducible refine (refAllT_is 0 0 none [] 0 0 none [] _ (Row.nil _ _ _) (Row.nil _ _ _) sz15n sy15n (by decide) 2 2 _ es15 hes (by decide) sv15 s15 _ l15a).mono ?_
  rintro e w1 ⟨A1, n1, c1, B1, m1, d1, vx, rfl, sl, ss, rx, b1⟩
  replace VB := hcall VB b1
  replace D := below_call D b1
  clear b1 v0 v1 v2 v3 vz
  clear hes
  obtain ⟨Ax, cx, rfl⟩ := rx.form8 2 rfl
  clear rx
  obtain ⟨ys, zs, hn1, hm1⟩ := sm15s
  have en1 := sl.len_eq
  have em1 := ss.len_eq
  have hn1' : n1 ≤ 10 := by omega
  have hm1' : m1 ≤ 10 := by omega
  clear hn1 hm1 en1 em1
  have SB := heap_alloc_new w1 (bxT A1 n1 c1 B1 m1 d1)
  replace VB := halloc VB (bxT A1 n1 c1 B1 m1 d1)
  replace sl := sl.below (below_box (bxT A1 n1 c1 B1 m1 d1))
  replace ss := ss.below (below_box (bxT A1 n1 c1 B1 m1 d1))
  replace D := below_alloc0 D (bxT A1 n1 c1 B1 m1 d1)
  obtain ⟨s0, s1, sz⟩ := cellsT SB
  go_wp2_with fail
  refine (refApplyT_is n1 c1 A1 s15.1 m1 d1 B1 s15.2 _ sl ss ys zs (by omega) 2 ⟨#[97, 110, 110]⟩ ⟨#[98, 111, 98]⟩ 0 0 0 0 ⟨#[]⟩ (by decide) (by decide) (by decide) 0 t15 l15b).mono ?_
  rintro e w2 ⟨A2, n2, c2, B2, m2, d2, rfl, tl, ts, b2, -, -⟩
  replace VB := hcall VB b2
  replace sl := sl.below b2
  replace ss := ss.below b2
  replace SB := hcall SB b2
  replace D := below_call D b2
  clear b2 s0 s1 sz
  obtain ⟨yt, zt, hn2, hm2⟩ := sm15t
  have en2 := tl.len_eq
  have em2 := ts.len_eq
  have hn2' : n2 ≤ 10 := by omega
  have hm2' : m2 ≤ 10 := by omega
  clear hn2 hm2 en2 em2
  have TB := heap_alloc_new w2 (bxT A2 n2 c2 B2 m2 d2)
  replace VB := halloc VB (bxT A2 n2 c2 B2 m2 d2)
  replace sl := sl.below (below_box (bxT A2 n2 c2 B2 m2 d2))
  replace ss := ss.below (below_box (bxT A2 n2 c2 B2 m2 d2))
  replace SB := halloc SB (bxT A2 n2 c2 B2 m2 d2)
  replace tl := tl.below (below_box (bxT A2 n2 c2 B2 m2 d2))
  replace ts := ts.below (below_box (bxT A2 n2 c2 B2 m2 d2))
  replace D := below_alloc0 D (bxT A2 n2 c2 B2 m2 d2)
  obtain ⟨t0, t1, tz⟩ := cellsT TB
  go_wp2_with fail
  refine (refApplyT_is n2 c2 A2 t15.1 m2 d2 B2 t15.2 _ tl ts yt zt (by omega) 5 ⟨#[98, 111, 98]⟩ ⟨#[97, 110, 110]⟩ 0 0 0 0 ⟨#[]⟩ (by decide) (by decide) (by decide) 0 u15 l15c).mono ?_
  rintro e w3 ⟨A3, n3, c3, B3, m3, d3, rfl, ul, us, b3, -, -⟩
  replace VB := hcall VB b3
  replace sl := sl.below b3
  replace ss := ss.below b3
  replace SB := hcall SB b3
  replace tl := tl.below b3
  replace ts := ts.below b3
  replace TB := hcall TB b3
  replace D := below_call D b3
  clear b3 t0 t1 tz
  obtain ⟨yu, zu, hn3, hm3⟩ := sm15u
  have en3 := ul.len_eq
  have em3 := us.len_eq
  have hn3' : n3 ≤ 10 := by omega
  have hm3' : m3 ≤ 10 := by omega
  clear hn3 hm3 en3 em3
  have UB := heap_alloc_new w3 (bxT A3 n3 c3 B3 m3 d3)
  replace VB := halloc VB (bxT A3 n3 c3 B3 m3 d3)
  replace sl := sl.below (below_box (bxT A3 n3 c3 B3 m3 d3))
  replace ss := ss.below (below_box (bxT A3 n3 c3 B3 m3 d3))
  replace SB := halloc SB (bxT A3 n3 c3 B3 m3 d3)
  replace tl := tl.below (below_box (bxT A3 n3 c3 B3 m3 d3))
  replace ts := ts.below (below_box (bxT A3 n3 c3 B3 m3 d3))
  replace TB := halloc TB (bxT A3 n3 c3 B3 m3 d3)
  replace ul := ul.below (below_box (bxT A3 n3 c3 B3 m3 d3))
  replace us := us.below (below_box (bxT A3 n3 c3 B3 m3 d3))
  replace D := below_alloc0 D (bxT A3 n3 c3 B3 m3 d3)
  obtain ⟨s0, s1, sz⟩ := cellsT SB
  obtain ⟨t0, t1, tz⟩ := cellsT TB
  obtain ⟨u0, u1, uz⟩ := cellsT UB
  go_wp2_with fail
  with_reducible refine (vValue_is n2 c2 A2 t15.1 m2 d2 B2 t15.2 _ tl ts yt zt (by omega) (by omega) ⟨#[98, 111, 98]⟩ ⟨#[97, 110, 110]⟩ 4 2 0 ⟨#[]⟩ true l15d).mono ?_
  rintro e w4 ⟨rfl, b4⟩
  replace VB := hcall VB b4
  replace sl := sl.below b4
  replace ss := ss.below b4
  replace SB := hcall SB b4
  replace tl := tl.below b4
  replace ts := ts.below b4
  replace TB := hcall TB b4
  replace ul := ul.below b4
  replace us := us.below b4
  replace UB := hcall UB b4
  replace D := below_call D b4
  clear b4 s0 s1 sz t0 t1 tz u0 u1 uz
  have WB := heap_alloc_new w4 (bxPv 4 2 0 ⟨#[]⟩)
  replace VB := halloc VB (bxPv 4 2 0 ⟨#[]⟩)
  replace sl := sl.below (below_box (bxPv 4 2 0 ⟨#[]⟩))
  replace ss := ss.below (below_box (bxPv 4 2 0 ⟨#[]⟩))
  replace SB := halloc SB (bxPv 4 2 0 ⟨#[]⟩)
  replace tl := tl.below (below_box (bxPv 4 2 0 ⟨#[]⟩))
  replace ts := ts.below (below_box (bxPv 4 2 0 ⟨#[]⟩))
  replace TB := halloc TB (bxPv 4 2 0 ⟨#[]⟩)
  replace ul := ul.below (below_box (bxPv 4 2 0 ⟨#[]⟩))
  replace us := us.below (below_box (bxPv 4 2 0 ⟨#[]⟩))
  replace UB := halloc UB (bxPv 4 2 0 ⟨#[]⟩)
  replace D := below_alloc0 D (bxPv 4 2 0 ⟨#[]⟩)
  obtain ⟨s0, s1, sz⟩ := cellsT SB
  obtain ⟨t0, t1, tz⟩ := cellsT TB
  obtain ⟨u0, u1, uz⟩ := cellsT UB
  go_wp2_with fail
  with_reducible refine (vValue_is n2 c2 A2 t15.1 m2 d2 B2 t15.2 _ tl ts yt zt (by omega) (by omega) ⟨#[97, 110, 110]⟩ ⟨#[98, 111, 98]⟩ 0 0 0 ⟨#[]⟩ false l15e).mono ?_
  rintro e w5 ⟨rfl, b5⟩
  replace VB := hcall VB b5
  replace sl := sl.below b5
  replace ss := ss.below b5
  replace SB := hcall SB b5
  replace tl := tl.below b5
  replace ts := ts.below b5
  replace TB := hcall TB b5
  replace ul := ul.below b5
  replace us := us.below b5
  replace UB := hcall UB b5
  replace WB := hcall WB b5
  replace D := below_call D b5
  clear b5 s0 s1 sz t0 t1 tz u0 u1 uz
  replace VB := halloc VB (bxPv 0 0 0 ⟨#[]⟩)
  replace sl := sl.below (below_box (bxPv 0 0 0 ⟨#[]⟩))
  replace ss := ss.below (below_box (bxPv 0 0 0 ⟨#[]⟩))
  replace SB := halloc SB (bxPv 0 0 0 ⟨#[]⟩)
  replace tl := tl.below (below_box (bxPv 0 0 0 ⟨#[]⟩))
  replace ts := ts.below (below_box (bxPv 0 0 0 ⟨#[]⟩))
  replace TB := halloc TB (bxPv 0 0 0 ⟨#[]⟩)
  replace ul := ul.below (below_box (bxPv 0 0 0 ⟨#[]⟩))
  replace us := us.below (below_box (bxPv 0 0 0 ⟨#[]⟩))
  replace UB := halloc UB (bxPv 0 0 0 ⟨#[]⟩)
  replace WB := halloc WB (bxPv 0 0 0 ⟨#[]⟩)
  replace D := below_alloc0 D (bxPv 0 0 0 ⟨#[]⟩)
  obtain ⟨s0, s1, sz⟩ := cellsT SB
  obtain ⟨t0, t1, tz⟩ := cellsT TB
  obtain ⟨u0, u1, uz⟩ := cellsT UB
  go_wp2_with fail
  with_reducible refine (vBet_is n1 c1 A1 s15.1 m1 d1 B1 s15.2 n2 c2 A2 t15.1 m2 d2 B2 t15.2 _ sl ss tl ts ys zs yt zt (by omega) (by omega) (by omega) (by omega) ⟨#[98, 111, 98]⟩ _ l15f).mono ?_
  rintro e w6 ⟨v12, rfl, r12, b6⟩
  replace VB := hcall VB b6
  replace sl := sl.below b6
  replace ss := ss.below b6
  replace SB := hcall SB b6
  replace tl := tl.below b6
  replace ts := ts.below b6
  replace TB := hcall TB b6
  replace ul := ul.below b6
  replace us := us.below b6
  replace UB := hcall UB b6
  replace WB := hcall WB b6
  replace D := below_call D b6
  clear b6 s0 s1 sz t0 t1 tz u0 u1 uz
  obtain ⟨A12, c12, rfl⟩ := r12.form8 1 rfl
  obtain ⟨s0, s1, sz⟩ := cellsT SB
  obtain ⟨t0, t1, tz⟩ := cellsT TB
  obtain ⟨u0, u1, uz⟩ := cellsT UB
  go_wp2_with fail
  with_reducible refine (vBet_is n2 c2 A2 t15.1 m2 d2 B2 t15.2 n3 c3 A3 u15.1 m3 d3 B3 u15.2 _ tl ts ul us yt zt yu zu (by omega) (by omega) (by omega) (by omega) ⟨#[98, 111, 98]⟩ _ l15g).mono ?_
  rintro e w7 ⟨v13, rfl, r13, b7⟩
  replace VB := hcall VB b7
  replace sl := sl.below b7
  replace ss := ss.below b7
  replace SB := hcall SB b7
  replace tl := tl.below b7
  replace ts := ts.below b7
  replace TB := hcall TB b7
  replace ul := ul.below b7
  replace us := us.below b7
  replace UB := hcall UB b7
  replace WB := hcall WB b7
  replace r12 := r12.below b7
  replace D := below_call D b7
  clear b7 s0 s1 sz t0 t1 tz u0 u1 uz
  obtain ⟨A13, c13, rfl⟩ := r13.form8 1 rfl
  obtain ⟨v0, v1, v2, v3, vz⟩ := cellsPv VB
  obtain ⟨x0, x1, x2, x3, xz⟩ := cellsPv WB
  obtain ⟨s0, s1, sz⟩ := cellsT SB
  obtain ⟨t0, t1, tz⟩ := cellsT TB
  obtain ⟨u0, u1, uz⟩ := cellsT UB
  have hE := eqlVl 4 2 0 ⟨#[]⟩ 4 2 0 ⟨#[]⟩
  clear VB WB SB TB UB vz xz sz tz uz
  replace v0 : w7.drew.cell? _ = _ := v0
  replace v1 : w7.drew.cell? _ = _ := v1
  replace v2 : w7.drew.cell? _ = _ := v2
  replace v3 : w7.drew.cell? _ = _ := v3
  replace x0 : w7.drew.cell? _ = _ := x0
  replace x1 : w7.drew.cell? _ = _ := x1
  replace x2 : w7.drew.cell? _ = _ := x2
  replace x3 : w7.drew.cell? _ = _ := x3
  replace s0 : w7.drew.cell? _ = _ := s0
  replace s1 : w7.drew.cell? _ = _ := s1
  replace t0 : w7.drew.cell? _ = _ := t0
  replace t1 : w7.drew.cell? _ = _ := t1
  replace u0 : w7.drew.cell? _ = _ := u0
  replace u1 : w7.drew.cell? _ = _ := u1
  replace sl : Row _ _ w7.drew _ _ := sl
  replace ss : Row _ _ w7.drew _ _ := ss
  replace tl : Row _ _ w7.drew _ _ := tl
  replace ts : Row _ _ w7.drew _ _ := ts
  replace ul : Row _ _ w7.drew _ _ := ul
  replace us : Row _ _ w7.drew _ _ := us
  replace r12 : Row _ _ w7.drew _ _ := r12
  replace r13 : Row _ _ w7.drew _ _ := r13
  replace D : Below _ _ w7.drew := D.drew
  go_wp2_with fail
  have hMove : Hid (∀ X1 X2 : World, (X1.cell? ⟨w.heap.size, 0, none⟩ = some (.int .i64 4) ∧ X1.cell? ⟨w.heap.size, 1, none⟩ = some (.int .i64 2) ∧ X1.cell? ⟨w.heap.size, 2, none⟩ = some (.int .i64 0) ∧ X1.cell? ⟨w.heap.size, 3, none⟩ = some (.string ⟨#[]⟩) ∧ X1.cell? ⟨w4.heap.size, 0, none⟩ = some (.int .i64 4) ∧ X1.cell? ⟨w4.heap.size, 1, none⟩ = some (.int .i64 2) ∧ X1.cell? ⟨w4.heap.size, 2, none⟩ = some (.int .i64 0) ∧ X1.cell? ⟨w4.heap.size, 3, none⟩ = some (.string ⟨#[]⟩) ∧ X1.cell? ⟨w1.heap.size, 0, none⟩ = some (.slice A1 n1 c1) ∧ X1.cell? ⟨w1.heap.size, 1, none⟩ = some (.slice B1 m1 d1) ∧ X1.cell? ⟨w2.heap.size, 0, none⟩ = some (.slice A2 n2 c2) ∧ X1.cell? ⟨w2.heap.size, 1, none⟩ = some (.slice B2 m2 d2) ∧ X1.cell? ⟨w3.heap.size, 0, none⟩ = some (.slice A3 n3 c3) ∧ X1.cell? ⟨w3.heap.size, 1, none⟩ = some (.slice B3 m3 d3)) → Below X1.heap.size X1 X2 → (X2.cell? ⟨w.heap.size, 0, none⟩ = some (.int .i64 4) ∧ X2.cell? ⟨w.heap.size, 1, none⟩ = some (.int .i64 2) ∧ X2.cell? ⟨w.heap.size, 2, none⟩ = some (.int .i64 0) ∧ X2.cell? ⟨w.heap.size, 3, none⟩ = some (.string ⟨#[]⟩) ∧ X2.cell? ⟨w4.heap.size, 0, none⟩ = some (.int .i64 4) ∧ X2.cell? ⟨w4.heap.size, 1, none⟩ = some (.int .i64 2) ∧ X2.cell? ⟨w4.heap.size, 2, none⟩ = some (.int .i64 0) ∧ X2.cell? ⟨w4.heap.size, 3, none⟩ = some (.string ⟨#[]⟩) ∧ X2.cell? ⟨w1.heap.size, 0, none⟩ = some (.slice A1 n1 c1) ∧ X2.cell? ⟨w1.heap.size, 1, none⟩ = some (.slice B1 m1 d1) ∧ X2.cell? ⟨w2.heap.size, 0, none⟩ = some (.slice A2 n2 c2) ∧ X2.cell? ⟨w2.heap.size, 1, none⟩ = some (.slice B2 m2 d2) ∧ X2.cell? ⟨w3.heap.size, 0, none⟩ = some (.slice A3 n3 c3) ∧ X2.cell? ⟨w3.heap.size, 1, none⟩ = some (.slice B3 m3 d3))) := fun X1 X2 h b => ⟨cell_below b h.1, cell_below b h.2.1, cell_below b h.2.2.1, cell_below b h.2.2.2.1, cell_below b h.2.2.2.2.1, cell_below b h.2.2.2.2.2.1, cell_below b h.2.2.2.2.2.2.1, cell_below b h.2.2.2.2.2.2.2.1, cell_below b h.2.2.2.2.2.2.2.2.1, cell_below b h.2.2.2.2.2.2.2.2.2.1, cell_below b h.2.2.2.2.2.2.2.2.2.2.1, cell_below b h.2.2.2.2.2.2.2.2.2.2.2.1, cell_below b h.2.2.2.2.2.2.2.2.2.2.2.2.1, cell_below b h.2.2.2.2.2.2.2.2.2.2.2.2.2⟩
  have hF : w7.drew.cell? ⟨w.heap.size, 0, none⟩ = some (.int .i64 4) ∧ w7.drew.cell? ⟨w.heap.size, 1, none⟩ = some (.int .i64 2) ∧ w7.drew.cell? ⟨w.heap.size, 2, none⟩ = some (.int .i64 0) ∧ w7.drew.cell? ⟨w.heap.size, 3, none⟩ = some (.string ⟨#[]⟩) ∧ w7.drew.cell? ⟨w4.heap.size, 0, none⟩ = some (.int .i64 4) ∧ w7.drew.cell? ⟨w4.heap.size, 1, none⟩ = some (.int .i64 2) ∧ w7.drew.cell? ⟨w4.heap.size, 2, none⟩ = some (.int .i64 0) ∧ w7.drew.cell? ⟨w4.heap.size, 3, none⟩ = some (.string ⟨#[]⟩) ∧ w7.drew.cell? ⟨w1.heap.size, 0, none⟩ = some (.slice A1 n1 c1) ∧ w7.drew.cell? ⟨w1.heap.size, 1, none⟩ = some (.slice B1 m1 d1) ∧ w7.drew.cell? ⟨w2.heap.size, 0, none⟩ = some (.slice A2 n2 c2) ∧ w7.drew.cell? ⟨w2.heap.size, 1, none⟩ = some (.slice B2 m2 d2) ∧ w7.drew.cell? ⟨w3.heap.size, 0, none⟩ = some (.slice A3 n3 c3) ∧ w7.drew.cell? ⟨w3.heap.size, 1, none⟩ = some (.slice B3 m3 d3) := ⟨v0, v1, v2, v3, x0, x1, x2, x3, s0, s1, t0, t1, u0, u1⟩
  clear v0 v1 v2 v3 x0 x1 x2 x3 s0 s1 t0 t1 u0 u1
  refine Held.start (ops := opslvf) (S := fun w' => w'.cell? ⟨w.heap.size, 0, none⟩ = some (.int .i64 4) ∧ w'.cell? ⟨w.heap.size, 1, none⟩ = some (.int .i64 2) ∧ w'.cell? ⟨w.heap.size, 2, none⟩ = some (.int .i64 0) ∧ w'.cell? ⟨w.heap.size, 3, none⟩ = some (.string ⟨#[]⟩) ∧ w'.cell? ⟨w4.heap.size, 0, none⟩ = some (.int .i64 4) ∧ w'.cell? ⟨w4.heap.size, 1, none⟩ = some (.int .i64 2) ∧ w'.cell? ⟨w4.heap.size, 2, none⟩ = some (.int .i64 0) ∧ w'.cell? ⟨w4.heap.size, 3, none⟩ = some (.string ⟨#[]⟩) ∧ w'.cell? ⟨w1.heap.size, 0, none⟩ = some (.slice A1 n1 c1) ∧ w'.cell? ⟨w1.heap.size, 1, none⟩ = some (.slice B1 m1 d1) ∧ w'.cell? ⟨w2.heap.size, 0, none⟩ = some (.slice A2 n2 c2) ∧ w'.cell? ⟨w2.heap.size, 1, none⟩ = some (.slice B2 m2 d2) ∧ w'.cell? ⟨w3.heap.size, 0, none⟩ = some (.slice A3 n3 c3) ∧ w'.cell? ⟨w3.heap.size, 1, none⟩ = some (.slice B3 m3 d3)) ordlvf0 50 (by kernel_rfl) rgordlvf0.siz (by kernel_rfl) hF (fun hHeld => ?_)
  iterate 1
    refine Held.tw rgordlvf0 ?_
    try simp only [Act.put, zA, zB, zC, zD, zE, zF]
  refine Held.only (k := 1) (i := 1) (show Region.ready .any opslvf (Held.lst 50 ordlvf0 1) = [1] by kernel_rfl) (by kernel_rfl) rfl (by kernel_rfl) (fun K hK => ?_)
  go_simp
  go_at_call 22
  with_reducible refine (vOf_is n1 c1 A1 s15.1 m1 d1 B1 s15.2 _ sl ss ys zs (by omega) (by omega) ⟨#[98, 111, 98]⟩ _ l15h).mono ?_
  rintro e y1 ⟨q1, rfl, r1, hbx⟩
  obtain ⟨Q1, qc1, rfl⟩ := r1.form8 0 rfl
  clear r1
  replace hF := hMove.out _ _ hF hbx
  replace tl := tl.below hbx
  replace ts := ts.below hbx
  replace ul := ul.below hbx
  replace us := us.below hbx
  replace r12 := r12.below hbx
  replace r13 := r13.below hbx
  replace D := below_call D hbx
  clear hbx sl ss
  refine hK.out _ _ (by (try dsimp only); (exact hF)) (fun hHeld => ?_)
  clear hK K
  try simp only [Act.put, zA, zB, zC, zD, zE, zF]
  iterate 6
    refine Held.tw rgordlvf0 ?_
    try simp only [Act.put, zA, zB, zC, zD, zE, zF]
  refine Held.two (o := ordlvf0) (o1 := ordlvf0) (o2 := ordlvf1) (k := 8) (i := 6) (j := 9) (by kernel_rfl) (by kernel_rfl) (by kernel_rfl) rfl rfl (by kernel_rfl) (by kernel_rfl) (fun K hK => ?_) (fun K hK => ?_)
  · go_simp
    go_at_call 22
    with_reducible refine (vOf_is n2 c2 A2 t15.1 m2 d2 B2 t15.2 _ tl ts yt zt (by omega) (by omega) ⟨#[98, 111, 98]⟩ _ l15i).mono ?_
    rintro e y6 ⟨q6, rfl, r6, hbx⟩
    obtain ⟨Q6, qc6, rfl⟩ := r6.form8 1 rfl
    replace hF := hMove.out _ _ hF hbx
    replace tl := tl.below hbx
    replace ts := ts.below hbx
    replace ul := ul.below hbx
    replace us := us.below hbx
    replace r12 := r12.below hbx
    replace r13 := r13.below hbx
    replace D := below_call D hbx
    clear hbx
    refine hK.out _ _ (by (try dsimp only); (exact hF)) (fun hHeld => ?_)
    clear hK K
    try simp only [Act.put, zA, zB, zC, zD, zE, zF]
    refine Held.only (k := 9) (i := 9) (show Region.ready .any opslvf (Held.lst 50 ordlvf0 9) = [9] by kernel_rfl) (by kernel_rfl) rfl (by kernel_rfl) (fun K hK => ?_)
    go_simp
    have hbx := below_box (w := y6) (.cells #[.string ⟨#[97, 110, 110]⟩, .int .i64 4, .int .i64 2, .int .i64 0, .string ⟨#[]⟩] 59)
    have r9 := row15i y6
    replace hF := hMove.out _ _ hF hbx
    replace tl := tl.below hbx
    replace ts := ts.below hbx
    replace ul := ul.below hbx
    replace us := us.below hbx
    replace r12 := r12.below hbx
    replace r13 := r13.below hbx
    replace r6 := r6.below hbx
    replace D := below_call D hbx
    clear hbx
    refine hK.out _ _ (by (try dsimp only); (exact hF)) (fun hHeld => ?_)
    clear hK K
    try simp only [Act.put, zA, zB, zC, zD, zE, zF]
    refine Held.only (k := 10) (i := 10) (show Region.ready .any opslvf (Held.lst 50 ordlvf0 10) = [10] by kernel_rfl) (by kernel_rfl) rfl (by kernel_rfl) (fun K hK => ?_)
    go_simp
    go_at_call 21
    with_reducible refine (re_ (sameSn _ _ _ _ _ _ _ _ _ r6 r9) (ret_bool (decide_eq_true rfl))).mono ?_
    rintro e y10 ⟨rfl, hbx⟩
    replace hF := hMove.out _ _ hF hbx
    replace tl := tl.below hbx
    replace ts := ts.below hbx
    replace ul := ul.below hbx
    replace us := us.below hbx
    replace r12 := r12.below hbx
    replace r13 := r13.below hbx
    replace D := below_call D hbx
    clear hbx r6 r9
    refine hK.out _ _ (by (try dsimp only); (exact hF)) (fun hHeld => ?_)
    clear hK K
    try simp only [Act.put, zA, zB, zC, zD, zE, zF]
    iterate 15
      refine Held.tw rgordlvf0 ?_
      try simp only [Act.put, zA, zB, zC, zD, zE, zF]
    refine Held.two (o := ordlvf0) (o1 := ordlvf0) (o2 := ordlvf2) (k := 26) (i := 26) (j := 27) (by kernel_rfl) (by kernel_rfl) (by kernel_rfl) rfl rfl (by kernel_rfl) (by kernel_rfl) (fun K hK => ?_) (fun K hK => ?_)
    · go_simp
      go_at_call 25
      with_reducible refine (vWatch_is n2 c2 A2 t15.1 m2 d2 B2 t15.2 _ tl ts yt zt (by omega) (by omega) ⟨#[97, 110, 110]⟩ _ l15j).mono ?_
      rintro e y26 ⟨q26, rfl, r26, hbx⟩
      obtain ⟨Q26, qc26, rfl⟩ := r26.form8 1 rfl
      replace hF := hMove.out _ _ hF hbx
      replace tl := tl.below hbx
      replace ts := ts.below hbx
      replace ul := ul.below hbx
      replace us := us.below hbx
      replace r12 := r12.below hbx
      replace r13 := r13.below hbx
      replace D := below_call D hbx
      clear hbx
      refine hK.out _ _ (by (try dsimp only); (exact hF)) (fun hHeld => ?_)
      clear hK K
      try simp only [Act.put, zA, zB, zC, zD, zE, zF]
      refine Held.only (k := 27) (i := 27) (show Region.ready .any opslvf (Held.lst 50 ordlvf0 27) = [27] by kernel_rfl) (by kernel_rfl) rfl (by kernel_rfl) (fun K hK => ?_)
      go_simp
      have hbx := below_box (w := y26) (.cells #[.string ⟨#[98, 111, 98]⟩] 9)
      have r27 := row15j y26
      replace hF := hMove.out _ _ hF hbx
      replace tl := tl.below hbx
      replace ts := ts.below hbx
      replace ul := ul.below hbx
      replace us := us.below hbx
      replace r12 := r12.below hbx
      replace r13 := r13.below hbx
      replace r26 := r26.below hbx
      replace D := below_call D hbx
      clear hbx
      refine hK.out _ _ (by (try dsimp only); (exact hF)) (fun hHeld => ?_)
      clear hK K
      try simp only [Act.put, zA, zB, zC, zD, zE, zF]
      refine Held.only (k := 28) (i := 28) (show Region.ready .any opslvf (Held.lst 50 ordlvf0 28) = [28] by kernel_rfl) (by kernel_rfl) rfl (by kernel_rfl) (fun K hK => ?_)
      go_simp
      go_at_call 24
      with_reducible refine (re_ (refSame_calls _ _ _ _ _ _ _ _ _ r26 r27) (ret_bool (decide_eq_true rfl))).mono ?_
      rintro e y28 ⟨rfl, hbx⟩
      replace hF := hMove.out _ _ hF hbx
      replace tl := tl.below hbx
      replace ts := ts.below hbx
      replace ul := ul.below hbx
      replace us := us.below hbx
      replace r12 := r12.below hbx
      replace r13 := r13.below hbx
      replace D := below_call D hbx
      clear hbx r26 r27
      refine hK.out _ _ (by (try dsimp only); (exact hF)) (fun hHeld => ?_)
      clear hK K
      try simp only [Act.put, zA, zB, zC, zD, zE, zF]
      iterate 3
        refine Held.tw rgordlvf0 ?_
        try simp only [Act.put, zA, zB, zC, zD, zE, zF]
      refine Held.only (k := 32) (i := 32) (show Region.ready .any opslvf (Held.lst 50 ordlvf0 32) = [32] by kernel_rfl) (by kernel_rfl) rfl (by kernel_rfl) (fun K hK => ?_)
      go_simp
      go_at_call 25
      with_reducible refine (vWatch_is n3 c3 A3 u15.1 m3 d3 B3 u15.2 _ ul us yu zu (by omega) (by omega) ⟨#[97, 110, 110]⟩ _ l15k).mono ?_
      rintro e y32 ⟨q32, rfl, r32, hbx⟩
      obtain ⟨Q32, qc32, rfl⟩ := r32.form8 0 rfl
      clear r32
      replace hF := hMove.out _ _ hF hbx
      replace tl := tl.below hbx
      replace ts := ts.below hbx
      replace ul := ul.below hbx
      replace us := us.below hbx
      replace r12 := r12.below hbx
      replace r13 := r13.below hbx
      replace D := below_call D hbx
      clear hbx
      refine hK.out _ _ (by (try dsimp only); (exact hF)) (fun hHeld => ?_)
      clear hK K
      try simp only [Act.put, zA, zB, zC, zD, zE, zF]
      iterate 7
        refine Held.tw rgordlvf0 ?_
        try simp only [Act.put, zA, zB, zC, zD, zE, zF]
      refine Held.only (k := 40) (i := 40) (show Region.ready .any opslvf (Held.lst 50 ordlvf0 40) = [40] by kernel_rfl) (by kernel_rfl) rfl (by kernel_rfl) (fun K hK => ?_)
      go_simp
      have hbx := below_box (w := y32) (.cells #[.string ⟨#[97, 110, 110]⟩, .bool true, .int .i64 4, .int .i64 2, .int .i64 0, .string ⟨#[]⟩] 65)
      have r40 := row15f y32
      replace hF := hMove.out _ _ hF hbx
      replace tl := tl.below hbx
      replace ts := ts.below hbx
      replace ul := ul.below hbx
      replace us := us.below hbx
      replace r12 := r12.below hbx
      replace r13 := r13.below hbx
      replace D := below_call D hbx
      clear hbx
      refine hK.out _ _ (by (try dsimp only); (exact hF)) (fun hHeld => ?_)
      clear hK K
      try simp only [Act.put, zA, zB, zC, zD, zE, zF]
      refine Held.only (k := 41) (i := 41) (show Region.ready .any opslvf (Held.lst 50 ordlvf0 41) = [41] by kernel_rfl) (by kernel_rfl) rfl (by kernel_rfl) (fun K hK => ?_)
      go_simp
      go_at_call 27
      with_reducible refine (re_ (sameCh _ _ _ _ _ _ _ _ _ r12 r40) (ret_bool (decide_eq_true rfl))).mono ?_
      rintro e y41 ⟨rfl, hbx⟩
      replace hF := hMove.out _ _ hF hbx
      replace tl := tl.below hbx
      replace ts := ts.below hbx
      replace ul := ul.below hbx
      replace us := us.below hbx
      replace r13 := r13.below hbx
      replace D := below_call D hbx
      clear hbx r12 r40
      refine hK.out _ _ (by (try dsimp only); (exact hF)) (fun hHeld => ?_)
      clear hK K
      try simp only [Act.put, zA, zB, zC, zD, zE, zF]
      iterate 4
        refine Held.tw rgordlvf0 ?_
        try simp only [Act.put, zA, zB, zC, zD, zE, zF]
      refine Held.only (k := 46) (i := 46) (show Region.ready .any opslvf (Held.lst 50 ordlvf0 46) = [46] by kernel_rfl) (by kernel_rfl) rfl (by kernel_rfl) (fun K hK => ?_)
      go_simp
      have hbx := below_box (w := y41) (.cells #[.string ⟨#[97, 110, 110]⟩, .bool false, .int .i64 0, .int .i64 0, .int .i64 0, .string ⟨#[]⟩] 65)
      have r46 := row15g y41
      replace hF := hMove.out _ _ hF hbx
      replace tl := tl.below hbx
      replace ts := ts.below hbx
      replace ul := ul.below hbx
      replace us := us.below hbx
      replace r13 := r13.below hbx
      replace D := below_call D hbx
      clear hbx
      refine hK.out _ _ (by (try dsimp only); (exact hF)) (fun hHeld => ?_)
      clear hK K
      try simp only [Act.put, zA, zB, zC, zD, zE, zF]
      refine Held.only (k := 47) (i := 47) (show Region.ready .any opslvf (Held.lst 50 ordlvf0 47) = [47] by kernel_rfl) (by kernel_rfl) rfl (by kernel_rfl) (fun K hK => ?_)
      go_simp
      go_at_call 27
      with_reducible refine (re_ (sameCh _ _ _ _ _ _ _ _ _ r13 r46) (ret_bool (decide_eq_true rfl))).mono ?_
      rintro e y47 ⟨rfl, hbx⟩
      replace hF := hMove.out _ _ hF hbx
      replace tl := tl.below hbx
      replace ts := ts.below hbx
      replace ul := ul.below hbx
      replace us := us.below hbx
      replace D := below_call D hbx
      clear hbx r13 r46
      refine hK.out _ _ (by (try dsimp only); (exact hF)) (fun hHeld => ?_)
      clear hK K
      try simp only [Act.put, zA, zB, zC, zD, zE, zF]
      iterate 2
        refine Held.tw rgordlvf0 ?_
        try simp only [Act.put, zA, zB, zC, zD, zE, zF]
      refine wpAnyH_done (by kernel_rfl) ?_ _
      go_wp2
      go_ret
      exact ⟨rfl, D⟩
    · go_simp
      have hbx := below_box (w := y10) (.cells #[.string ⟨#[98, 111, 98]⟩] 9)
      have r27 := row15j y10
      replace hF := hMove.out _ _ hF hbx
      replace tl := tl.below hbx
      replace ts := ts.below hbx
      replace ul := ul.below hbx
      replace us := us.below hbx
      replace r12 := r12.below hbx
      replace r13 := r13.below hbx
      replace D := below_call D hbx
      clear hbx
      refine hK.out _ _ (by (try dsimp only); (exact hF)) (fun hHeld => ?_)
      clear hK K
      try simp only [Act.put, zA, zB, zC, zD, zE, zF]
      refine Held.only (k := 27) (i := 26) (show Region.ready .any opslvf (Held.lst 50 ordlvf2 27) = [26] by kernel_rfl) (by kernel_rfl) rfl (by kernel_rfl) (fun K hK => ?_)
      go_simp
      go_at_call 25
      with_reducible refine (vWatch_is n2 c2 A2 t15.1 m2 d2 B2 t15.2 _ tl ts yt zt (by omega) (by omega) ⟨#[97, 110, 110]⟩ _ l15j).mono ?_
      rintro e y26 ⟨q26, rfl, r26, hbx⟩
      obtain ⟨Q26, qc26, rfl⟩ := r26.form8 1 rfl
      replace hF := hMove.out _ _ hF hbx
      replace tl := tl.below hbx
      replace ts := ts.below hbx
      replace ul := ul.below hbx
      replace us := us.below hbx
      replace r12 := r12.below hbx
      replace r13 := r13.below hbx
      replace r27 := r27.below hbx
      replace D := below_call D hbx
      clear hbx
      refine hK.out _ _ (by (try dsimp only); (exact hF)) (fun hHeld => ?_)
      clear hK K
      try simp only [Act.put, zA, zB, zC, zD, zE, zF]
      refine Held.only (k := 28) (i := 28) (show Region.ready .any opslvf (Held.lst 50 ordlvf2 28) = [28] by kernel_rfl) (by kernel_rfl) rfl (by kernel_rfl) (fun K hK => ?_)
      go_simp
      go_at_call 24
      with_reducible refine (re_ (refSame_calls _ _ _ _ _ _ _ _ _ r26 r27) (ret_bool (decide_eq_true rfl))).mono ?_
      rintro e y28 ⟨rfl, hbx⟩
      replace hF := hMove.out _ _ hF hbx
      replace tl := tl.below hbx
      replace ts := ts.below hbx
      replace ul := ul.below hbx
      replace us := us.below hbx
      replace r12 := r12.below hbx
      replace r13 := r13.below hbx
      replace D := below_call D hbx
      clear hbx r26 r27
      refine hK.out _ _ (by (try dsimp only); (exact hF)) (fun hHeld => ?_)
      clear hK K
      try simp only [Act.put, zA, zB, zC, zD, zE, zF]
      iterate 3
        refine Held.tw rgordlvf2 ?_
        try simp only [Act.put, zA, zB, zC, zD, zE, zF]
      refine Held.only (k := 32) (i := 32) (show Region.ready .any opslvf (Held.lst 50 ordlvf2 32) = [32] by kernel_rfl) (by kernel_rfl) rfl (by kernel_rfl) (fun K hK => ?_)
      go_simp
      go_at_call 25
      with_reducible refine (vWatch_is n3 c3 A3 u15.1 m3 d3 B3 u15.2 _ ul us yu zu (by omega) (by omega) ⟨#[97, 110, 110]⟩ _ l15k).mono ?_
      rintro e y32 ⟨q32, rfl, r32, hbx⟩
      obtain ⟨Q32, qc32, rfl⟩ := r32.form8 0 rfl
      clear r32
      replace hF := hMove.out _ _ hF hbx
      replace tl := tl.below hbx
      replace ts := ts.below hbx
      replace ul := ul.below hbx
      replace us := us.below hbx
      replace r12 := r12.below hbx
      replace r13 := r13.below hbx
      replace D := below_call D hbx
      clear hbx
      refine hK.out _ _ (by (try dsimp only); (exact hF)) (fun hHeld => ?_)
      clear hK K
      try simp only [Act.put, zA, zB, zC, zD, zE, zF]
      iterate 7
        refine Held.tw rgordlvf2 ?_
        try simp only [Act.put, zA, zB, zC, zD, zE, zF]
      refine Held.only (k := 40) (i := 40) (show Region.ready .any opslvf (Held.lst 50 ordlvf2 40) = [40] by kernel_rfl) (by kernel_rfl) rfl (by kernel_rfl) (fun K hK => ?_)
      go_simp
      have hbx := below_box (w := y32) (.cells #[.string ⟨#[97, 110, 110]⟩, .bool true, .int .i64 4, .int .i64 2, .int .i64 0, .string ⟨#[]⟩] 65)
      have r40 := row15f y32
      replace hF := hMove.out _ _ hF hbx
      replace tl := tl.below hbx
      replace ts := ts.below hbx
      replace ul := ul.below hbx
      replace us := us.below hbx
      replace r12 := r12.below hbx
      replace r13 := r13.below hbx
      replace D := below_call D hbx
      clear hbx
      refine hK.out _ _ (by (try dsimp only); (exact hF)) (fun hHeld => ?_)
      clear hK K
      try simp only [Act.put, zA, zB, zC, zD, zE, zF]
      refine Held.only (k := 41) (i := 41) (show Region.ready .any opslvf (Held.lst 50 ordlvf2 41) = [41] by kernel_rfl) (by kernel_rfl) rfl (by kernel_rfl) (fun K hK => ?_)
      go_simp
      go_at_call 27
      with_reducible refine (re_ (sameCh _ _ _ _ _ _ _ _ _ r12 r40) (ret_bool (decide_eq_true rfl))).mono ?_
      rintro e y41 ⟨rfl, hbx⟩
      replace hF := hMove.out _ _ hF hbx
      replace tl := tl.below hbx
      replace ts := ts.below hbx
      replace ul := ul.below hbx
      replace us := us.below hbx
      replace r13 := r13.below hbx
      replace D := below_call D hbx
      clear hbx r12 r40
      refine hK.out _ _ (by (try dsimp only); (exact hF)) (fun hHeld => ?_)
      clear hK K
      try simp only [Act.put, zA, zB, zC, zD, zE, zF]
      iterate 4
        refine Held.tw rgordlvf2 ?_
        try simp only [Act.put, zA, zB, zC, zD, zE, zF]
      refine Held.only (k := 46) (i := 46) (show Region.ready .any opslvf (Held.lst 50 ordlvf2 46) = [46] by kernel_rfl) (by kernel_rfl) rfl (by kernel_rfl) (fun K hK => ?_)
      go_simp
      have hbx := below_box (w := y41) (.cells #[.string ⟨#[97, 110, 110]⟩, .bool false, .int .i64 0, .int .i64 0, .int .i64 0, .string ⟨#[]⟩] 65)
      have r46 := row15g y41
      replace hF := hMove.out _ _ hF hbx
      replace tl := tl.below hbx
      replace ts := ts.below hbx
      replace ul := ul.below hbx
      replace us := us.below hbx
      replace r13 := r13.below hbx
      replace D := below_call D hbx
      clear hbx
      refine hK.out _ _ (by (try dsimp only); (exact hF)) (fun hHeld => ?_)
      clear hK K
      try simp only [Act.put, zA, zB, zC, zD, zE, zF]
      refine Held.only (k := 47) (i := 47) (show Region.ready .any opslvf (Held.lst 50 ordlvf2 47) = [47] by kernel_rfl) (by kernel_rfl) rfl (by kernel_rfl) (fun K hK => ?_)
      go_simp
      go_at_call 27
      with_reducible refine (re_ (sameCh _ _ _ _ _ _ _ _ _ r13 r46) (ret_bool (decide_eq_true rfl))).mono ?_
      rintro e y47 ⟨rfl, hbx⟩
      replace hF := hMove.out _ _ hF hbx
      replace tl := tl.below hbx
      replace ts := ts.below hbx
      replace ul := ul.below hbx
      replace us := us.below hbx
      replace D := below_call D hbx
      clear hbx r13 r46
      refine hK.out _ _ (by (try dsimp only); (exact hF)) (fun hHeld => ?_)
      clear hK K
      try simp only [Act.put, zA, zB, zC, zD, zE, zF]
      iterate 2
        refine Held.tw rgordlvf2 ?_
        try simp only [Act.put, zA, zB, zC, zD, zE, zF]
      refine wpAnyH_done (by kernel_rfl) ?_ _
      go_wp2
      go_ret
      exact ⟨rfl, D⟩
  · go_simp
    have hbx := below_box (w := y1) (.cells #[.string ⟨#[97, 110, 110]⟩, .int .i64 4, .int .i64 2, .int .i64 0, .string ⟨#[]⟩] 59)
    have r9 := row15i y1
    replace hF := hMove.out _ _ hF hbx
    replace tl := tl.below hbx
    replace ts := ts.below hbx
    replace ul := ul.below hbx
    replace us := us.below hbx
    replace r12 := r12.below hbx
    replace r13 := r13.below hbx
    replace D := below_call D hbx
    clear hbx
    refine hK.out _ _ (by (try dsimp only); (exact hF)) (fun hHeld => ?_)
    clear hK K
    try simp only [Act.put, zA, zB, zC, zD, zE, zF]
    refine Held.only (k := 9) (i := 6) (show Region.ready .any opslvf (Held.lst 50 ordlvf1 9) = [6] by kernel_rfl) (by kernel_rfl) rfl (by kernel_rfl) (fun K hK => ?_)
    go_simp
    go_at_call 22
    with_reducible refine (vOf_is n2 c2 A2 t15.1 m2 d2 B2 t15.2 _ tl ts yt zt (by omega) (by omega) ⟨#[98, 111, 98]⟩ _ l15i).mono ?_
    rintro e y6 ⟨q6, rfl, r6, hbx⟩
    obtain ⟨Q6, qc6, rfl⟩ := r6.form8 1 rfl
    replace hF := hMove.out _ _ hF hbx
    replace tl := tl.below hbx
    replace ts := ts.below hbx
    replace ul := ul.below hbx
    replace us := us.below hbx
    replace r12 := r12.below hbx
    replace r13 := r13.below hbx
    replace r9 := r9.below hbx
    replace D := below_call D hbx
    clear hbx
    refine hK.out _ _ (by (try dsimp only); (exact hF)) (fun hHeld => ?_)
    clear hK K
    try simp only [Act.put, zA, zB, zC, zD, zE, zF]
    refine Held.only (k := 10) (i := 10) (show Region.ready .any opslvf (Held.lst 50 ordlvf1 10) = [10] by kernel_rfl) (by kernel_rfl) rfl (by kernel_rfl) (fun K hK => ?_)
    go_simp
    go_at_call 21
    with_reducible refine (re_ (sameSn _ _ _ _ _ _ _ _ _ r6 r9) (ret_bool (decide_eq_true rfl))).mono ?_
    rintro e y10 ⟨rfl, hbx⟩
    replace hF := hMove.out _ _ hF hbx
    replace tl := tl.below hbx
    replace ts := ts.below hbx
    replace ul := ul.below hbx
    replace us := us.below hbx
    replace r12 := r12.below hbx
    replace r13 := r13.below hbx
    replace D := below_call D hbx
    clear hbx r6 r9
    refine hK.out _ _ (by (try dsimp only); (exact hF)) (fun hHeld => ?_)
    clear hK K
    try simp only [Act.put, zA, zB, zC, zD, zE, zF]
    iterate 15
      refine Held.tw rgordlvf1 ?_
      try simp only [Act.put, zA, zB, zC, zD, zE, zF]
    refine Held.two (o := ordlvf1) (o1 := ordlvf1) (o2 := ordlvf3) (k := 26) (i := 26) (j := 27) (by kernel_rfl) (by kernel_rfl) (by kernel_rfl) rfl rfl (by kernel_rfl) (by kernel_rfl) (fun K hK => ?_) (fun K hK => ?_)
    · go_simp
      go_at_call 25
      with_reducible refine (vWatch_is n2 c2 A2 t15.1 m2 d2 B2 t15.2 _ tl ts yt zt (by omega) (by omega) ⟨#[97, 110, 110]⟩ _ l15j).mono ?_
      rintro e y26 ⟨q26, rfl, r26, hbx⟩
      obtain ⟨Q26, qc26, rfl⟩ := r26.form8 1 rfl
      replace hF := hMove.out _ _ hF hbx
      replace tl := tl.below hbx
      replace ts := ts.below hbx
      replace ul := ul.below hbx
      replace us := us.below hbx
      replace r12 := r12.below hbx
      replace r13 := r13.below hbx
      replace D := below_call D hbx
      clear hbx
      refine hK.out _ _ (by (try dsimp only); (exact hF)) (fun hHeld => ?_)
      clear hK K
      try simp only [Act.put, zA, zB, zC, zD, zE, zF]
      refine Held.only (k := 27) (i := 27) (show Region.ready .any opslvf (Held.lst 50 ordlvf1 27) = [27] by kernel_rfl) (by kernel_rfl) rfl (by kernel_rfl) (fun K hK => ?_)
      go_simp
      have hbx := below_box (w := y26) (.cells #[.string ⟨#[98, 111, 98]⟩] 9)
      have r27 := row15j y26
      replace hF := hMove.out _ _ hF hbx
      replace tl := tl.below hbx
      replace ts := ts.below hbx
      replace ul := ul.below hbx
      replace us := us.below hbx
      replace r12 := r12.below hbx
      replace r13 := r13.below hbx
      replace r26 := r26.below hbx
      replace D := below_call D hbx
      clear hbx
      refine hK.out _ _ (by (try dsimp only); (exact hF)) (fun hHeld => ?_)
      clear hK K
      try simp only [Act.put, zA, zB, zC, zD, zE, zF]
      refine Held.only (k := 28) (i := 28) (show Region.ready .any opslvf (Held.lst 50 ordlvf1 28) = [28] by kernel_rfl) (by kernel_rfl) rfl (by kernel_rfl) (fun K hK => ?_)
      go_simp
      go_at_call 24
      with_reducible refine (re_ (refSame_calls _ _ _ _ _ _ _ _ _ r26 r27) (ret_bool (decide_eq_true rfl))).mono ?_
      rintro e y28 ⟨rfl, hbx⟩
      replace hF := hMove.out _ _ hF hbx
      replace tl := tl.below hbx
      replace ts := ts.below hbx
      replace ul := ul.below hbx
      replace us := us.below hbx
      replace r12 := r12.below hbx
      replace r13 := r13.below hbx
      replace D := below_call D hbx
      clear hbx r26 r27
      refine hK.out _ _ (by (try dsimp only); (exact hF)) (fun hHeld => ?_)
      clear hK K
      try simp only [Act.put, zA, zB, zC, zD, zE, zF]
      iterate 3
        refine Held.tw rgordlvf1 ?_
        try simp only [Act.put, zA, zB, zC, zD, zE, zF]
      refine Held.only (k := 32) (i := 32) (show Region.ready .any opslvf (Held.lst 50 ordlvf1 32) = [32] by kernel_rfl) (by kernel_rfl) rfl (by kernel_rfl) (fun K hK => ?_)
      go_simp
      go_at_call 25
      with_reducible refine (vWatch_is n3 c3 A3 u15.1 m3 d3 B3 u15.2 _ ul us yu zu (by omega) (by omega) ⟨#[97, 110, 110]⟩ _ l15k).mono ?_
      rintro e y32 ⟨q32, rfl, r32, hbx⟩
      obtain ⟨Q32, qc32, rfl⟩ := r32.form8 0 rfl
      clear r32
      replace hF := hMove.out _ _ hF hbx
      replace tl := tl.below hbx
      replace ts := ts.below hbx
      replace ul := ul.below hbx
      replace us := us.below hbx
      replace r12 := r12.below hbx
      replace r13 := r13.below hbx
      replace D := below_call D hbx
      clear hbx
      refine hK.out _ _ (by (try dsimp only); (exact hF)) (fun hHeld => ?_)
      clear hK K
      try simp only [Act.put, zA, zB, zC, zD, zE, zF]
      iterate 7
        refine Held.tw rgordlvf1 ?_
        try simp only [Act.put, zA, zB, zC, zD, zE, zF]
      refine Held.only (k := 40) (i := 40) (show Region.ready .any opslvf (Held.lst 50 ordlvf1 40) = [40] by kernel_rfl) (by kernel_rfl) rfl (by kernel_rfl) (fun K hK => ?_)
      go_simp
      have hbx := below_box (w := y32) (.cells #[.string ⟨#[97, 110, 110]⟩, .bool true, .int .i64 4, .int .i64 2, .int .i64 0, .string ⟨#[]⟩] 65)
      have r40 := row15f y32
      replace hF := hMove.out _ _ hF hbx
      replace tl := tl.below hbx
      replace ts := ts.below hbx
      replace ul := ul.below hbx
      replace us := us.below hbx
      replace r12 := r12.below hbx
      replace r13 := r13.below hbx
      replace D := below_call D hbx
      clear hbx
      refine hK.out _ _ (by (try dsimp only); (exact hF)) (fun hHeld => ?_)
      clear hK K
      try simp only [Act.put, zA, zB, zC, zD, zE, zF]
      refine Held.only (k := 41) (i := 41) (show Region.ready .any opslvf (Held.lst 50 ordlvf1 41) = [41] by kernel_rfl) (by kernel_rfl) rfl (by kernel_rfl) (fun K hK => ?_)
      go_simp
      go_at_call 27
      with_reducible refine (re_ (sameCh _ _ _ _ _ _ _ _ _ r12 r40) (ret_bool (decide_eq_true rfl))).mono ?_
      rintro e y41 ⟨rfl, hbx⟩
      replace hF := hMove.out _ _ hF hbx
      replace tl := tl.below hbx
      replace ts := ts.below hbx
      replace ul := ul.below hbx
      replace us := us.below hbx
      replace r13 := r13.below hbx
      replace D := below_call D hbx
      clear hbx r12 r40
      refine hK.out _ _ (by (try dsimp only); (exact hF)) (fun hHeld => ?_)
      clear hK K
      try simp only [Act.put, zA, zB, zC, zD, zE, zF]
      iterate 4
        refine Held.tw rgordlvf1 ?_
        try simp only [Act.put, zA, zB, zC, zD, zE, zF]
      refine Held.only (k := 46) (i := 46) (show Region.ready .any opslvf (Held.lst 50 ordlvf1 46) = [46] by kernel_rfl) (by kernel_rfl) rfl (by kernel_rfl) (fun K hK => ?_)
      go_simp
      have hbx := below_box (w := y41) (.cells #[.string ⟨#[97, 110, 110]⟩, .bool false, .int .i64 0, .int .i64 0, .int .i64 0, .string ⟨#[]⟩] 65)
      have r46 := row15g y41
      replace hF := hMove.out _ _ hF hbx
      replace tl := tl.below hbx
      replace ts := ts.below hbx
      replace ul := ul.below hbx
      replace us := us.below hbx
      replace r13 := r13.below hbx
      replace D := below_call D hbx
      clear hbx
      refine hK.out _ _ (by (try dsimp only); (exact hF)) (fun hHeld => ?_)
      clear hK K
      try simp only [Act.put, zA, zB, zC, zD, zE, zF]
      refine Held.only (k := 47) (i := 47) (show Region.ready .any opslvf (Held.lst 50 ordlvf1 47) = [47] by kernel_rfl) (by kernel_rfl) rfl (by kernel_rfl) (fun K hK => ?_)
      go_simp
      go_at_call 27
      with_reducible refine (re_ (sameCh _ _ _ _ _ _ _ _ _ r13 r46) (ret_bool (decide_eq_true rfl))).mono ?_
      rintro e y47 ⟨rfl, hbx⟩
      replace hF := hMove.out _ _ hF hbx
      replace tl := tl.below hbx
      replace ts := ts.below hbx
      replace ul := ul.below hbx
      replace us := us.below hbx
      replace D := below_call D hbx
      clear hbx r13 r46
      refine hK.out _ _ (by (try dsimp only); (exact hF)) (fun hHeld => ?_)
      clear hK K
      try simp only [Act.put, zA, zB, zC, zD, zE, zF]
      iterate 2
        refine Held.tw rgordlvf1 ?_
        try simp only [Act.put, zA, zB, zC, zD, zE, zF]
      refine wpAnyH_done (by kernel_rfl) ?_ _
      go_wp2
      go_ret
      exact ⟨rfl, D⟩
    · go_simp
      have hbx := below_box (w := y10) (.cells #[.string ⟨#[98, 111, 98]⟩] 9)
      have r27 := row15j y10
      replace hF := hMove.out _ _ hF hbx
      replace tl := tl.below hbx
      replace ts := ts.below hbx
      replace ul := ul.below hbx
      replace us := us.below hbx
      replace r12 := r12.below hbx
      replace r13 := r13.below hbx
      replace D := below_call D hbx
      clear hbx
      refine hK.out _ _ (by (try dsimp only); (exact hF)) (fun hHeld => ?_)
      clear hK K
      try simp only [Act.put, zA, zB, zC, zD, zE, zF]
      refine Held.only (k := 27) (i := 26) (show Region.ready .any opslvf (Held.lst 50 ordlvf3 27) = [26] by kernel_rfl) (by kernel_rfl) rfl (by kernel_rfl) (fun K hK => ?_)
      go_simp
      go_at_call 25
      with_reducible refine (vWatch_is n2 c2 A2 t15.1 m2 d2 B2 t15.2 _ tl ts yt zt (by omega) (by omega) ⟨#[97, 110, 110]⟩ _ l15j).mono ?_
      rintro e y26 ⟨q26, rfl, r26, hbx⟩
      obtain ⟨Q26, qc26, rfl⟩ := r26.form8 1 rfl
      replace hF := hMove.out _ _ hF hbx
      replace tl := tl.below hbx
      replace ts := ts.below hbx
      replace ul := ul.below hbx
      replace us := us.below hbx
      replace r12 := r12.below hbx
      replace r13 := r13.below hbx
      replace r27 := r27.below hbx
      replace D := below_call D hbx
      clear hbx
      refine hK.out _ _ (by (try dsimp only); (exact hF)) (fun hHeld => ?_)
      clear hK K
      try simp only [Act.put, zA, zB, zC, zD, zE, zF]
      refine Held.only (k := 28) (i := 28) (show Region.ready .any opslvf (Held.lst 50 ordlvf3 28) = [28] by kernel_rfl) (by kernel_rfl) rfl (by kernel_rfl) (fun K hK => ?_)
      go_simp
      go_at_call 24
      with_reducible refine (re_ (refSame_calls _ _ _ _ _ _ _ _ _ r26 r27) (ret_bool (decide_eq_true rfl))).mono ?_
      rintro e y28 ⟨rfl, hbx⟩
      replace hF := hMove.out _ _ hF hbx
      replace tl := tl.below hbx
      replace ts := ts.below hbx
      replace ul := ul.below hbx
      replace us := us.below hbx
      replace r12 := r12.below hbx
      replace r13 := r13.below hbx
      replace D := below_call D hbx
      clear hbx r26 r27
      refine hK.out _ _ (by (try dsimp only); (exact hF)) (fun hHeld => ?_)
      clear hK K
      try simp only [Act.put, zA, zB, zC, zD, zE, zF]
      iterate 3
        refine Held.tw rgordlvf3 ?_
        try simp only [Act.put, zA, zB, zC, zD, zE, zF]
      refine Held.only (k := 32) (i := 32) (show Region.ready .any opslvf (Held.lst 50 ordlvf3 32) = [32] by kernel_rfl) (by kernel_rfl) rfl (by kernel_rfl) (fun K hK => ?_)
      go_simp
      go_at_call 25
      with_reducible refine (vWatch_is n3 c3 A3 u15.1 m3 d3 B3 u15.2 _ ul us yu zu (by omega) (by omega) ⟨#[97, 110, 110]⟩ _ l15k).mono ?_
      rintro e y32 ⟨q32, rfl, r32, hbx⟩
      obtain ⟨Q32, qc32, rfl⟩ := r32.form8 0 rfl
      clear r32
      replace hF := hMove.out _ _ hF hbx
      replace tl := tl.below hbx
      replace ts := ts.below hbx
      replace ul := ul.below hbx
      replace us := us.below hbx
      replace r12 := r12.below hbx
      replace r13 := r13.below hbx
      replace D := below_call D hbx
      clear hbx
      refine hK.out _ _ (by (try dsimp only); (exact hF)) (fun hHeld => ?_)
      clear hK K
      try simp only [Act.put, zA, zB, zC, zD, zE, zF]
      iterate 7
        refine Held.tw rgordlvf3 ?_
        try simp only [Act.put, zA, zB, zC, zD, zE, zF]
      refine Held.only (k := 40) (i := 40) (show Region.ready .any opslvf (Held.lst 50 ordlvf3 40) = [40] by kernel_rfl) (by kernel_rfl) rfl (by kernel_rfl) (fun K hK => ?_)
      go_simp
      have hbx := below_box (w := y32) (.cells #[.string ⟨#[97, 110, 110]⟩, .bool true, .int .i64 4, .int .i64 2, .int .i64 0, .string ⟨#[]⟩] 65)
      have r40 := row15f y32
      replace hF := hMove.out _ _ hF hbx
      replace tl := tl.below hbx
      replace ts := ts.below hbx
      replace ul := ul.below hbx
      replace us := us.below hbx
      replace r12 := r12.below hbx
      replace r13 := r13.below hbx
      replace D := below_call D hbx
      clear hbx
      refine hK.out _ _ (by (try dsimp only); (exact hF)) (fun hHeld => ?_)
      clear hK K
      try simp only [Act.put, zA, zB, zC, zD, zE, zF]
      refine Held.only (k := 41) (i := 41) (show Region.ready .any opslvf (Held.lst 50 ordlvf3 41) = [41] by kernel_rfl) (by kernel_rfl) rfl (by kernel_rfl) (fun K hK => ?_)
      go_simp
      go_at_call 27
      with_reducible refine (re_ (sameCh _ _ _ _ _ _ _ _ _ r12 r40) (ret_bool (decide_eq_true rfl))).mono ?_
      rintro e y41 ⟨rfl, hbx⟩
      replace hF := hMove.out _ _ hF hbx
      replace tl := tl.below hbx
      replace ts := ts.below hbx
      replace ul := ul.below hbx
      replace us := us.below hbx
      replace r13 := r13.below hbx
      replace D := below_call D hbx
      clear hbx r12 r40
      refine hK.out _ _ (by (try dsimp only); (exact hF)) (fun hHeld => ?_)
      clear hK K
      try simp only [Act.put, zA, zB, zC, zD, zE, zF]
      iterate 4
        refine Held.tw rgordlvf3 ?_
        try simp only [Act.put, zA, zB, zC, zD, zE, zF]
      refine Held.only (k := 46) (i := 46) (show Region.ready .any opslvf (Held.lst 50 ordlvf3 46) = [46] by kernel_rfl) (by kernel_rfl) rfl (by kernel_rfl) (fun K hK => ?_)
      go_simp
      have hbx := below_box (w := y41) (.cells #[.string ⟨#[97, 110, 110]⟩, .bool false, .int .i64 0, .int .i64 0, .int .i64 0, .string ⟨#[]⟩] 65)
      have r46 := row15g y41
      replace hF := hMove.out _ _ hF hbx
      replace tl := tl.below hbx
      replace ts := ts.below hbx
      replace ul := ul.below hbx
      replace us := us.below hbx
      replace r13 := r13.below hbx
      replace D := below_call D hbx
      clear hbx
      refine hK.out _ _ (by (try dsimp only); (exact hF)) (fun hHeld => ?_)
      clear hK K
      try simp only [Act.put, zA, zB, zC, zD, zE, zF]
      refine Held.only (k := 47) (i := 47) (show Region.ready .any opslvf (Held.lst 50 ordlvf3 47) = [47] by kernel_rfl) (by kernel_rfl) rfl (by kernel_rfl) (fun K hK => ?_)
      go_simp
      go_at_call 27
      with_reducible refine (re_ (sameCh _ _ _ _ _ _ _ _ _ r13 r46) (ret_bool (decide_eq_true rfl))).mono ?_
      rintro e y47 ⟨rfl, hbx⟩
      replace hF := hMove.out _ _ hF hbx
      replace tl := tl.below hbx
      replace ts := ts.below hbx
      replace ul := ul.below hbx
      replace us := us.below hbx
      replace D := below_call D hbx
      clear hbx r13 r46
      refine hK.out _ _ (by (try dsimp only); (exact hF)) (fun hHeld => ?_)
      clear hK K
      try simp only [Act.put, zA, zB, zC, zD, zE, zF]
      iterate 2
        refine Held.tw rgordlvf3 ?_
        try simp only [Act.put, zA, zB, zC, zD, zE, zF]
      refine wpAnyH_done (by kernel_rfl) ?_ _
      go_wp2
      go_ret
      exact ⟨rfl, D⟩
end Go.Proofs.YtbpfcjdjhponaaaGreat
namespace Go.Proofs.YtbpfcjdjhponaaaGreat
namespace Sp
inductive SeOp where
  | put (x : Se)
  | drop (k : SeK)
def SeOp.key : SeOp → SeK
  | .put x => keySe x
  | .drop k => k
def SeOp.ok (l : List Se) : SeOp → Bool
  | .put x => oneS x
  | .drop k => (getK keySe l k).isSome
def SeOp.new : SeOp → Option Se
  | .put x => some x
  | .drop _ => none
def SeOp.run (l : List Se) : SeOp → List Se × Int
  | .put x => putSe l x
  | .drop k => dropSe l k
end Sp
end Go.Proofs.YtbpfcjdjhponaaaGreat
namespace Go.Proofs.YtbpfcjdjhponaaaGreat
namespace Sp
theorem viewL_snd (l : List Se) : (viewL l).2 = !decide (l = []) := by
  cases l with
  | nil => rfl
  | cons x l => simp [viewL, bestL]
theorem seeT_zero {s : Sta} {p q : ByteArray} (h : (seeT s p q).2 = false) : seeT s p q = ((0, 0, 0, ⟨#[]⟩), false) := by
  unfold seeT at h ⊢
  split
  · rename_i hs
    rw [if_pos hs, viewL_snd] at h
    have he : ofSe s.2 q = [] := by simpa using h
    rw [he]
    rfl
  · rfl
theorem seeT_snd {s : Sta} {p q : ByteArray} : (seeT s p q).2 = true ↔ seesRo s.1 p q = true ∧ ofSe s.2 q ≠ [] := by
  unfold seeT
  cases h : seesRo s.1 p q with
  | false => simp
  | true => simp [viewL_snd]
theorem rowT_c {s : Sta} {p q : ByteArray} {x : Sn} (h : rowT s p q = some x) : x.c = q ∧ x.v = (seeT s p q).1 ∧ (seeT s p q).2 = true := by
  unfold rowT at h
  split at h
  · rename_i h2
    injection h with h
    subst h
    exact ⟨rfl, rfl, h2⟩
  · cases h
theorem tabT_names {s : Sta} (h : mayT s = true) (p : ByteArray) : tabT s p = (ofRo s.1 p).filterMap (rowT s p) := by
  rw [← vtab_tab]
  unfold vtabT
  congr 1
  funext q
  unfold vrowT rowT
  rw [valT_may h]
theorem tabT_mem {s : Sta} (h : mayT s = true) {p : ByteArray} {x : Sn} : x ∈ tabT s p ↔ rowT s p x.c = some x := by
  rw [tabT_names h, List.mem_filterMap]
  constructor
  · rintro ⟨q, hq, hr⟩
    rw [(rowT_c hr).1]
    exact hr
  · intro hr
    refine ⟨x.c, ?_, hr⟩
    have hs := (seeT_snd.1 (rowT_c hr).2.2).1
    rw [ofRo_mem]
    exact hasRo_mem.1 (sees_has hs)
theorem tabT_ord {s : Sta} (h : mayT s = true) (p : ByteArray) : InOrd Sn.c less (tabT s p) := by
  rw [tabT_names h]
  have hs := ofRo_sorted (mayRo_ord (mayT_ro h)) p
  unfold InOrd
  rw [List.pairwise_filterMap]
  refine List.Pairwise.imp ?_ hs
  intro a b hab x hx y hy
  rw [(rowT_c hx).1, (rowT_c hy).1]
  exact hab
theorem tabT_getK {s : Sta} (h : mayT s = true) (p c : ByteArray) : getK Sn.c (tabT s p) c = rowT s p c := by
  cases hr : rowT s p c with
  | none =>
    refine getK_none.2 fun x hx e => ?_
    rw [tabT_mem h, e, hr] at hx
    cases hx
  | some x =>
    obtain ⟨h1, h2, h3⟩ := rowT_c hr
    have hx : x ∈ tabT s p := by rw [tabT_mem h, h1]; exact hr
    have hg := getK_of_mem less_ord (tabT_ord h p) hx
    rw [h1] at hg
    exact hg
theorem tabT_get {s : Sta} (h : mayT s = true) (p c : ByteArray) : getT (tabT s p) c = valT s p c := by
  rw [valT_may h]
  have hg := tabT_getK h p c
  cases hr : rowT s p c with
  | none =>
    have hz : (seeT s p c).2 = false := by
      unfold rowT at hr
      split at hr
      · cases hr
      · rename_i h2
        simpa using h2
    rw [hr] at hg
    rw [seeT_zero hz]
    exact getT_none hg
  | some x =>
    obtain ⟨h1, h2, h3⟩ := rowT_c hr
    rw [hr] at hg
    rw [getT_some hg, h2, ← h3]
theorem watT_mem {s : Sta} (h : mayT s = true) (p c : ByteArray) : p ∈ watT s c ↔ (valT s p c).2 = true := by
  rw [valT_may h, seeT_snd]
  unfold watT
  rw [if_pos h]
  by_cases he : ofSe s.2 c = []
  · simp [he]
  · rw [if_neg (by simpa using he), watchRo_mem]
    simp [he]
theorem bestSe_mem : ∀ (l : List Se) (b : Se), bestSe b l = b ∨ bestSe b l ∈ l
  | [], b => .inl rfl
  | x :: l, b => by
    unfold bestSe
    rcases bestSe_mem l (if betSe x b then x else b) with h | h
    · rw [h]
      split
      · exact .inr (List.mem_cons_self ..)
      · exact .inl rfl
    · exact .inr (List.mem_cons_of_mem _ h)
theorem bestL_mem {l : List Se} (h : l ≠ []) : (bestL l).1 ∈ l := by
  cases l with
  | nil => exact absurd rfl h
  | cons x r =>
    show bestSe x r ∈ x :: r
    rcases bestSe_mem r x with h1 | h1
    · rw [h1]; exact List.mem_cons_self ..
    · exact List.mem_cons_of_mem _ h1
theorem showL_le : ∀ (l : List Se) (m k : Int), m ≤ k → (∀ x ∈ l, x.v.1 ≤ k) → showL m l ≤ k ∧ m ≤ showL m l
  | [], m, k, h, _ => ⟨h, Int.le_refl _⟩
  | x :: l, m, k, h, hx => by
    have h1 := hx x (List.mem_cons_self ..)
    have h2 := showL_le l (max m x.v.1) k (by omega) fun y hy => hx y (List.mem_cons_of_mem _ hy)
    have e : showL m (x :: l) = showL (max m x.v.1) l := rfl
    rw [e]
    exact ⟨h2.1, by omega⟩
theorem viewL_may {l : List Se} (h : l ≠ []) (hm : ∀ x ∈ l, mayV x.v.1 x.v.2.1 x.v.2.2.1 x.v.2.2.2 = true) : mayV (viewL l).1.1 (viewL l).1.2.1 (viewL l).1.2.2.1 (viewL l).1.2.2.2 = true := by
  have hb := hm _ (bestL_mem h)
  have hs := showL_le l (bestL l).1.v.1 4 (by
    unfold mayV at hb
    simp only [Bool.and_eq_true, decide_eq_true_eq] at hb
    exact hb.2.1) (fun x hx => by
    have := hm x hx
    unfold mayV at this
    simp only [Bool.and_eq_true, decide_eq_true_eq] at this
    exact this.2.1)
  unfold viewL
  simp only
  unfold mayV at hb ⊢
  simp only [Bool.and_eq_true, decide_eq_true_eq] at hb ⊢
  exact ⟨by omega, hs.1, hb.2.2⟩
theorem tabT_may {s : Sta} (h : mayT s = true) (p : ByteArray) : mayTb (tabT s p) = true := by
  unfold mayTb
  rw [Bool.and_eq_true, Bool.and_eq_true, decide_eq_true_eq, List.all_eq_true, adjT_iff]
  refine ⟨Nat.le_trans (tabT_len s p) (by decide), fun x hx => ?_, adj_of_ord (tabT_ord h p)⟩
  have hr := (tabT_mem h).1 hx
  obtain ⟨_, h2, h3⟩ := rowT_c hr
  obtain ⟨h4, h5⟩ := seeT_snd.1 h3
  unfold rowOk
  rw [Bool.and_eq_true]
  constructor
  · obtain ⟨y, hy, hyo, hyc⟩ := hasRo_mem.1 (sees_has h4)
    have := ((mayRo_iff s.1).1 (mayT_ro h)).1 y hy
    unfold oneRo at this
    simp only [Bool.and_eq_true] at this
    rw [← hyc]
    exact this.2.1
  · rw [h2]
    unfold seeT
    rw [if_pos h4]
    refine viewL_may h5 fun y hy => ?_
    have hm2 : maySe s.2 = true := by
      unfold mayT at h
      rw [Bool.and_eq_true] at h
      exact h.2
    have := ((maySe_iff s.2).1 hm2).2.1 y (ofSe_mem.1 hy).1
    unfold oneS at this
    simp only [Bool.and_eq_true] at this
    exact this.2.2.2
end Sp
end Go.Proofs.YtbpfcjdjhponaaaGreat
namespace Go.Proofs.YtbpfcjdjhponaaaGreat
open Go.RowKit
open Sp
theorem rows_val {s : Sta} (h : mayT s = true) {p : ByteArray} {x : Sn} (hx : x ∈ tabT s p) : valT s p x.c = (x.v, true) := by
  obtain ⟨_, h2, h3⟩ := rowT_c ((tabT_mem h).1 hx)
  rw [valT_may h, h2]
  exact Prod.ext rfl h3
theorem mayTb_sz {l : List Sn} (h : mayTb l = true) : SzT l := fun x hx => by
  unfold mayTb at h
  rw [Bool.and_eq_true, Bool.and_eq_true, List.all_eq_true] at h
  have h1 := h.2.1 x hx
  unfold rowOk mayV at h1
  simp only [Bool.and_eq_true, decide_eq_true_eq] at h1
  obtain ⟨h2, _, _, _, _, _, _, h3, _⟩ := h1
  have h4 := (isName_iff x.c).1 h2
  exact ⟨by omega, by omega⟩
namespace Sp
def inL (p : ByteArray) (ts : List ByteArray) : Bool := ts.any fun z => z.toList == p.toList
theorem inL_iff {p : ByteArray} {ts : List ByteArray} : inL p ts = true ↔ p ∈ ts := by
  unfold inL
  rw [List.any_eq_true]
  constructor
  · rintro ⟨z, hz, e⟩
    rw [beq_iff_eq, toList_inj'] at e
    exact e ▸ hz
  · exact fun h => ⟨p, h, beq_self_eq_true _⟩
end Sp
theorem among_step {p z : ByteArray} {ws : List ByteArray} {j : Nat} (hj : j < ws.length) (hz : ws[j] = z) {au : Bool} (h : Hid (au = inL p (ws.take j))) : Hid ((au || (z.toList == p.toList)) = inL p (ws.take (j + 1))) := by
  show _ = _
  rw [h.out, List.take_succ_eq_append_getElem hj, hz]
  unfold inL
  rw [List.any_append]
  simp only [List.any_cons, List.any_nil, Bool.or_false]
theorem vGetJ_is (n c : Nat) (A : Option Addr) (l : List Sn) (q : ByteArray) (w : World) (x y z : Int) (t : ByteArray) (b : Bool) (hl : Row enSn 5 w (.slice A n c) l) (h : Hid (getT l q = ((x, y, z, t), b))) :
    Calls Tryz.prog 31 #[.slice A n c, .string q] w fun e w' => e = .returned (.tuple #[.agg #[.int .i64 x, .int .i64 y, .int .i64 z, .string t], .bool b]) ∧ Below w.heap.size w w' := by
  have := GetT_calls n c A l q w hl
  rw [h.out] at this
  exact this
noncomputable def opsvja : Array Oper := Held.inBody 9 Tryz.f5.body
def ordvja0 : List Nat := [0, 1, 2, 3, 4, 5, 6, 7, 8, 9, 10, 11, 12, 13]
set_option maxRecDepth 100000 in
theorem rgordvja0 : Held.Reg opsvja ordvja0 14 [0, 1, 2, 3, 4, 5, 6, 8, 9, 10, 13] := ⟨by kernel_rfl, by kernel_rfl, by kernel_rfl⟩
def ordvja1 : List Nat := [0, 1, 2, 3, 4, 5, 6, 11, 7, 8, 9, 10, 12, 13]
set_option maxRecDepth 100000 in
theorem rgordvja1 : Held.Reg opsvja ordvja1 14 [0, 1, 2, 3, 4, 5, 6, 9, 10, 11, 13] := ⟨by kernel_rfl, by kernel_rfl, by kernel_rfl⟩
noncomputable def opsvjb : Array Oper := Held.inBody 10 Tryz.f5.body
def ordvjb : List Nat := [0, 1, 2, 3, 4, 5, 6, 7, 8, 9, 10]
set_option maxRecDepth 100000 in
theorem rgvjb : Held.Reg opsvjb ordvjb 11 [0, 1, 2, 3, 4, 5, 6, 7, 8, 9, 10] := ⟨by kernel_rfl, by kernel_rfl, by kernel_rfl⟩
set_option maxHeartbeats 32000000 in
set_option maxRecDepth 100000 in
theorem rows15_walk (n c : Nat) (A : Option Addr) (l : List En) (m d : Nat) (B : Option Addr) (s : List Se) (p q : ByteArray) (w : World)
    (hl : Row enEn 7 w (.slice A n c) l) (hz : SzE l) (hs : Row enSe 6 w (.slice B m d) s) (hy : SzEs s) :
    Calls Tryz.prog 5 #[agT A n c B m d, .string p, .string q] w fun r w' => r = .returned (.bool true) ∧ Below w.heap.size w w' := by
  have EA := Lib.hid hl.len_eq
  have EM := Lib.hid hs.len_eq
  have D := below_box (w := w) (bxT A n c B m d)
  have S0 := heap_alloc_new w (bxT A n c B m d)
  replace hl := hl.below D
  replace hs := hs.below D
  cases h : fewT (l, s) with
  | false =>
    have H1 := Lib.hid h
    clear h
    obtain ⟨s0, s1, sz⟩ := cellsT S0
    go_enter Tryz.func5, Tryz.ntmps5
    go_wp2_with fail
    with_reducible refine (FewT_is n c A l m d B s _ hl hs hz hy false H1).mono ?_
    rintro e w1 ⟨rfl, b1⟩
    replace hl := hl.below b1
    replace hs := hs.below b1
    replace S0 := hcall S0 b1
    replace D := below_call D b1
    clear b1 s0 s1 sz
    go_wp2_with fail
    with_reducible refine (live15 _).mono ?_
    rintro e w2 ⟨rfl, b2⟩
    replace hl := hl.below b2
    replace hs := hs.below b2
    replace S0 := hcall S0 b2
    replace D := below_call D b2
    clear b2
    go_wp2
    go_ret
    exact ⟨rfl, D⟩
  | true =>
  obtain ⟨zl, zs, zn, zm⟩ := fewT_sz h
  have H1 := Lib.hid h
  have hn1 : n ≤ 100000 := by have := EA.out; omega
  have hm1 : m ≤ 100000 := by have := EM.out; omega
  clear h zn zm
  cases hmy : mayT (l, s) with
  | false =>
    have H2 := Lib.hid hmy
    clear hmy
    obtain ⟨s0, s1, sz⟩ := cellsT S0
    go_enter Tryz.func5, Tryz.ntmps5
    go_wp2_with fail
    with_reducible refine (FewT_is n c A l m d B s _ hl hs hz hy true H1).mono ?_
    rintro e w1 ⟨rfl, b1⟩
    replace hl := hl.below b1
    replace hs := hs.below b1
    replace S0 := hcall S0 b1
    replace D := below_call D b1
    clear b1 s0 s1 sz
    obtain ⟨s0, s1, sz⟩ := cellsT S0
    go_wp2_with fail
    with_reducible refine (refMayT_is n c A l m d B s _ hl hs zl zs hn1 false H2).mono ?_
    rintro e w2 ⟨rfl, b2⟩
    replace hl := hl.below b2
    replace hs := hs.below b2
    replace S0 := hcall S0 b2
    replace D := below_call D b2
    clear b2 s0 s1 sz
    go_wp2_with fail
    with_reducible refine (live15 _).mono ?_
    rintro e w3 ⟨rfl, b3⟩
    replace hl := hl.below b3
    replace hs := hs.below b3
    replace S0 := hcall S0 b3
    replace D := below_call D b3
    clear b3
    go_wp2
    go_ret
    exact ⟨rfl, D⟩
  | true =>
  have H2 := Lib.hid hmy
  clear hmy
  by_cases hp4 : (40 : Int) < (p.size : Int)
  · skip
    obtain ⟨s0, s1, sz⟩ := cellsT S0
    go_enter Tryz.func5, Tryz.ntmps5
    go_wp2_with fail
    with_reducible refine (FewT_is n c A l m d B s _ hl hs hz hy true H1).mono ?_
    rintro e w1 ⟨rfl, b1⟩
    replace hl := hl.below b1
    replace hs := hs.below b1
    replace S0 := hcall S0 b1
    replace D := below_call D b1
    clear b1 s0 s1 sz
    obtain ⟨s0, s1, sz⟩ := cellsT S0
    go_wp2_with fail
    with_reducible refine (refMayT_is n c A l m d B s _ hl hs zl zs hn1 true H2).mono ?_
    rintro e w2 ⟨rfl, b2⟩
    replace hl := hl.below b2
    replace hs := hs.below b2
    replace S0 := hcall S0 b2
    replace D := below_call D b2
    clear b2 s0 s1 sz
    obtain ⟨s0, s1, sz⟩ := cellsT S0
    go_wp2_with fail
    with_reducible refine (live15 _).mono ?_
    rintro e w3 ⟨rfl, b3⟩
    replace hl := hl.below b3
    replace hs := hs.below b3
    replace S0 := hcall S0 b3
    replace D := below_call D b3
    clear b3 s0 s1 sz
    go_wp2
    go_ret
    exact ⟨rfl, D⟩
  by_cases hq4 : (40 : Int) < (q.size : Int)
  · skip
    obtain ⟨s0, s1, sz⟩ := cellsT S0
    go_enter Tryz.func5, Tryz.ntmps5
    go_wp2_with fail
    with_reducible refine (FewT_is n c A l m d B s _ hl hs hz hy true H1).mono ?_
    rintro e w1 ⟨rfl, b1⟩
    replace hl := hl.below b1
    replace hs := hs.below b1
    replace S0 := hcall S0 b1
    replace D := below_call D b1
    clear b1 s0 s1 sz
    obtain ⟨s0, s1, sz⟩ := cellsT S0
    go_wp2_with fail
    with_reducible refine (refMayT_is n c A l m d B s _ hl hs zl zs hn1 true H2).mono ?_
    rintro e w2 ⟨rfl, b2⟩
    replace hl := hl.below b2
    replace hs := hs.below b2
    replace S0 := hcall S0 b2
    replace D := below_call D b2
    clear b2 s0 s1 sz
    obtain ⟨s0, s1, sz⟩ := cellsT S0
    go_wp2_with fail
    with_reducible refine (live15 _).mono ?_
    rintro e w3 ⟨rfl, b3⟩
    replace hl := hl.below b3
    replace hs := hs.below b3
    replace S0 := hcall S0 b3
    replace D := below_call D b3
    clear b3 s0 s1 sz
    go_wp2
    go_ret
    exact ⟨rfl, D⟩
  obtain ⟨va, vb, ve, vt, y, hvq⟩ : ∃ va vb ve vt x, valT (l, s) p q = ((va, vb, ve, vt), x) := ⟨_, _, _, _, _, rfl⟩
  have HVQ := Lib.hid hvq
  obtain ⟨tb, htb⟩ : ∃ r, tabT (l, s) p = r := ⟨_, rfl⟩
  have HTB := Lib.hid htb
  have HMT : Hid (mayTb tb = true) := by
    show _ = _
    rw [← htb]
    exact tabT_may H2.out p
  have hszt : SzT tb := mayTb_sz HMT.out
  have HROW : Hid (∀ x ∈ tb, valT (l, s) p x.c = (x.v, true)) := fun x hx => by
    rw [← htb] at hx
    exact rows_val H2.out hx
  have HGT : Hid (getT tb q = ((va, vb, ve, vt), y)) := by
    show _ = _
    rw [← htb, tabT_get H2.out, hvq]
  have ht16 : tb.length ≤ 16 := by rw [← htb]; exact tabT_len (l, s) p
  obtain ⟨ws, hws⟩ : ∃ r, watT (l, s) q = r := ⟨_, rfl⟩
  have HWS := Lib.hid hws
  have HWX : Hid (p ∈ ws ↔ y = true) := by
    show _ ↔ _
    rw [← hws, watT_mem H2.out, hvq]
  have HSE : Hid (y = true → seesRo l p q = true) := fun hh => by
    have h1 : (valT (l, s) p q).2 = true := by rw [hvq]; exact hh
    rw [valT_may H2.out] at h1
    exact (seeT_snd.1 h1).1
  obtain ⟨tn, htn⟩ : ∃ k, tb.length = k := ⟨_, rfl⟩
  have HTN := Lib.hid htn
  rw [htn] at ht16
  clear hvq htb hws htn
  obtain ⟨s0, s1, sz⟩ := cellsT S0
  go_enter Tryz.func5, Tryz.ntmps5
  go_wp2_with fail
  with_reducible refine (FewT_is n c A l m d B s _ hl hs hz hy true H1).mono ?_
  rintro e w1 ⟨rfl, b1⟩
  replace hl := hl.below b1
  replace hs := hs.below b1
  replace S0 := hcall S0 b1
  replace D := below_call D b1
  clear b1 s0 s1 sz
  obtain ⟨s0, s1, sz⟩ := cellsT S0
  go_wp2_with fail
  with_reducible refine (refMayT_is n c A l m d B s _ hl hs zl zs hn1 true H2).mono ?_
  rintro e w2 ⟨rfl, b2⟩
  replace hl := hl.below b2
  replace hs := hs.below b2
  replace S0 := hcall S0 b2
  replace D := below_call D b2
  clear b2 s0 s1 sz
  obtain ⟨s0, s1, sz⟩ := cellsT S0
  go_wp2_with fail
  with_reducible refine (vOf_is n c A l m d B s _ hl hs zl zs hn1 hm1 p tb HTB).mono ?_
  rintro e w3 ⟨q1, rfl, r1, b3⟩
  replace hl := hl.below b3
  replace hs := hs.below b3
  replace S0 := hcall S0 b3
  replace D := below_call D b3
  clear b3 s0 s1 sz
  obtain ⟨Q1, qc1, rfl⟩ := form_Sn r1
  rw [HTN.out] at r1
  try rw [HTN.out]
  obtain ⟨s0, s1, sz⟩ := cellsT S0
  go_wp2_with fail
  with_reducible refine (May5_is tn qc1 Q1 tb _ r1 true hszt HMT).mono ?_
  rintro e w4 ⟨rfl, b4⟩
  replace hl := hl.below b4
  replace hs := hs.below b4
  replace S0 := hcall S0 b4
  replace r1 := r1.below b4
  replace D := below_call D b4
  clear b4 s0 s1 sz
  obtain ⟨s0, s1, sz⟩ := cellsT S0
  go_wp2_with fail
  go_loopw [8] (fun v8 wr => ∃ j : Nat, v8 = .int .i64 j ∧ j ≤ tn ∧ Below w4.heap.size w4 wr) (fun v8 _ => (tn - intOf v8).toNat)
  case atStart => exact ⟨0, rfl, Nat.zero_le _, Below.refl _ _⟩
  case round =>
    obtain ⟨j, rfl, hj, D3⟩ := hrel
    by_cases hlt : j < tn
    · have hjl : j < tb.length := by have := HTN.out; omega
      obtain ⟨⟨x, a, b_, e_, t⟩, hx⟩ : ∃ x, tb[j] = x := ⟨_, rfl⟩
      have HV : Hid (valT (l, s) p x = ((a, b_, e_, t), true)) := by
        have h1 := HROW.out tb[j] (List.getElem_mem _)
        rw [hx] at h1
        exact h1
      obtain ⟨ad, rfl, c0, c1, c2, c3, c4⟩ := rowSn r1 j hjl x a b_ e_ t hx
      have x1 : (0 : Int) ≤ (j : Int) := by omega
      have x2 : (j : Int) < (tn : Int) := by omega
      have D0 := D3
      have hD3s := D3.size
      have hl0 := hl.below D3
      have hs0 := hs.below D3
      have z00 := cell_below D3 s0
      have z10 := cell_below D3 s1
      have cx0 := cell_below D3 c0
      clear hx s0 s1 sz
      go_wp2_with fail
      have D2 : Below w4.heap.size w4 wr.drew := D3.drew
      have hl1 : Row _ _ wr.drew _ _ := hl0
      have hs1 : Row _ _ wr.drew _ _ := hs0
      have z0 : wr.drew.cell? _ = _ := z00
      have z1 : wr.drew.cell? _ = _ := z10
      have cx : wr.drew.cell? _ = _ := cx0
      have k0 := (cellsT S0).1
      have k1 := (cellsT S0).2.1
      refine Held.start (ops := opsvja) (S := fun w' => w'.cell? ⟨w.heap.size, 0, none⟩ = some (.slice A n c) ∧ w'.cell? ⟨w.heap.size, 1, none⟩ = some (.slice B m d) ∧ w'.cell? (ad.add (j * 5)) = some (.string x)) ordvja0 14 (by kernel_rfl) rgordvja0.siz (by kernel_rfl) ⟨z0, z1, cx⟩ (fun hHeld => ?_)
      iterate 7
        refine Held.tw rgordvja0 ?_
        try simp only [Act.put, zA, zB, zC, zD, zE, zF]
      refine Held.two (o := ordvja0) (o1 := ordvja0) (o2 := ordvja1) (k := 7) (i := 7) (j := 11) (by kernel_rfl) (by kernel_rfl) (by kernel_rfl) rfl rfl (by kernel_rfl) (by kernel_rfl) (fun K hK => ?_) (fun K hK => ?_)
      · go_simp
        go_at_call 19
        with_reducible refine (vValue_is n c A l m d B s _ hl1 hs1 zl zs hn1 hm1 p x a b_ e_ t true HV).mono ?_
        rintro e w5 ⟨rfl, b5⟩
        replace z0 := cell_below b5 z0
        replace z1 := cell_below b5 z1
        replace cx := cell_below b5 cx
        replace D2 := below_call D2 b5
        clear b5 hl1 hs1
        refine hK.out _ _ (by (try dsimp only); (exact ⟨z0, z1, cx⟩)) (fun hHeld => ?_)
        clear hK K
        try simp only [Act.put, zA, zB, zC, zD, zE, zF]
        iterate 3
          refine Held.tw rgordvja0 ?_
          try simp only [Act.put, zA, zB, zC, zD, zE, zF]
        refine Held.only (k := 11) (i := 11) (show Region.ready .any opsvja (Held.lst 14 ordvja0 11) = [11] by kernel_rfl) (by kernel_rfl) rfl (by kernel_rfl) (fun K hK => ?_)
        go_simp
        have bz := below_box (w := w5) (bxPv a b_ e_ t)
        have D5 := below_call D2 bz
        have Y5 := heap_alloc_new w5 (bxPv a b_ e_ t)
        have z05 := cell_below bz z0
        have z15 := cell_below bz z1
        have cx5 := cell_below bz cx
        clear bz
        replace z0 := cell_below (below_box (w := w5) (bxPv 0 0 0 ⟨#[]⟩)) z0
        replace z1 := cell_below (below_box (w := w5) (bxPv 0 0 0 ⟨#[]⟩)) z1
        replace cx := cell_below (below_box (w := w5) (bxPv 0 0 0 ⟨#[]⟩)) cx
        refine hK.out _ _ (by (try dsimp only); (exact ⟨z0, z1, cx⟩)) (fun hHeld => ?_)
        clear hK K
        try simp only [Act.put, zA, zB, zC, zD, zE, zF]
        refine Held.only (k := 12) (i := 12) (show Region.ready .any opsvja (Held.lst 14 ordvja0 12) = [12] by kernel_rfl) (by kernel_rfl) rfl (by kernel_rfl) (fun K hK => ?_)
        go_simp
        clear z0 z1 cx
        have z0 := z05
        have z1 := z15
        have cx := cx5
        clear z05 z15 cx5
        refine hK.out _ _ (by (try dsimp only); (exact ⟨z0, z1, cx⟩)) (fun hHeld => ?_)
        clear hK K
        try simp only [Act.put, zA, zB, zC, zD, zE, zF]
        iterate 1
          refine Held.tw rgordvja0 ?_
          try simp only [Act.put, zA, zB, zC, zD, zE, zF]
        refine wpAnyH_done (by kernel_rfl) ?_ _
        obtain ⟨W5, hW5⟩ : ∃ W5, (w5.alloc (bxPv a b_ e_ t)) = W5 := ⟨_, rfl⟩
        obtain ⟨g8, hg8⟩ : ∃ g8, w5.heap.size = g8 := ⟨_, rfl⟩
        rw [hW5] at D5 Y5
        rw [hg8] at Y5
        try rw [hW5]
        try rw [hg8]
        clear hW5 hg8 D2 z0 z1 cx cx0 z00 z10 hl0 hs0 D0
        obtain ⟨y0, y1, y2, y3, yz⟩ := cellsPv Y5
        have d1 := cell_below D5 c1
        have d2 := cell_below D5 c2
        have d3 := cell_below D5 c3
        have d4 := cell_below D5 c4
        have hN := neqVl a b_ e_ t a b_ e_ t
        rw [eqvVl, decide_eq_true rfl] at hN
        go_wp2_with fail
        replace D5 : Below _ _ W5.drew := D5.drew
        replace y0 : W5.drew.cell? _ = _ := y0
        replace y1 : W5.drew.cell? _ = _ := y1
        replace y2 : W5.drew.cell? _ = _ := y2
        replace y3 : W5.drew.cell? _ = _ := y3
        replace d1 : W5.drew.cell? _ = _ := d1
        replace d2 : W5.drew.cell? _ = _ := d2
        replace d3 : W5.drew.cell? _ = _ := d3
        replace d4 : W5.drew.cell? _ = _ := d4
        refine Held.start (ops := opsvjb) (S := fun w' => w'.cell? ⟨g8, 0, none⟩ = some (.int .i64 a) ∧ w'.cell? ⟨g8, 1, none⟩ = some (.int .i64 b_) ∧ w'.cell? ⟨g8, 2, none⟩ = some (.int .i64 e_) ∧ w'.cell? ⟨g8, 3, none⟩ = some (.string t) ∧ w'.cell? ⟨(ad.add (j * 5)).block, (ad.add (j * 5)).off + 1, none⟩ = some (.int .i64 a) ∧ w'.cell? ⟨(ad.add (j * 5)).block, (ad.add (j * 5)).off + 2, none⟩ = some (.int .i64 b_) ∧ w'.cell? ⟨(ad.add (j * 5)).block, (ad.add (j * 5)).off + 3, none⟩ = some (.int .i64 e_) ∧ w'.cell? ⟨(ad.add (j * 5)).block, (ad.add (j * 5)).off + 4, none⟩ = some (.string t)) ordvjb 11 (by kernel_rfl) rgvjb.siz (by kernel_rfl) ⟨y0, y1, y2, y3, d1, d2, d3, d4⟩ (fun hHeld => ?_)
        iterate 11
          refine Held.tw rgvjb ?_
          try simp only [Act.put, zA, zB, zC, zD, zE, zF]
        refine wpAnyH_done (by kernel_rfl) ?_ _
        go_wp2
        exact ⟨⟨j + 1, by go_num, by omega, D5⟩, by simp [intOf]; omega⟩
      · go_simp
        have bz : Below wr.heap.size wr (wr.alloc (bxPv 0 0 0 ⟨#[]⟩)).drew := (below_box (w := wr) (bxPv 0 0 0 ⟨#[]⟩)).drew
        have Y1 : (wr.alloc (bxPv 0 0 0 ⟨#[]⟩)).drew.heap[wr.heap.size]? = _ := heap_alloc_new wr (bxPv 0 0 0 ⟨#[]⟩)
        replace hl1 : Row _ _ (wr.alloc (bxPv 0 0 0 ⟨#[]⟩)).drew _ _ := hl0.below bz
        replace hs1 : Row _ _ (wr.alloc (bxPv 0 0 0 ⟨#[]⟩)).drew _ _ := hs0.below bz
        replace D2 : Below _ _ (wr.alloc (bxPv 0 0 0 ⟨#[]⟩)).drew := below_call D0 bz
        replace z0 : (wr.alloc (bxPv 0 0 0 ⟨#[]⟩)).drew.cell? _ = _ := cell_below bz z00
        replace z1 : (wr.alloc (bxPv 0 0 0 ⟨#[]⟩)).drew.cell? _ = _ := cell_below bz z10
        replace cx : (wr.alloc (bxPv 0 0 0 ⟨#[]⟩)).drew.cell? _ = _ := cell_below bz cx0
        clear bz
        refine hK.out _ _ (by (try dsimp only); (exact ⟨z0, z1, cx⟩)) (fun hHeld => ?_)
        clear hK K
        try simp only [Act.put, zA, zB, zC, zD, zE, zF]
        refine Held.only (k := 8) (i := 7) (show Region.ready .any opsvja (Held.lst 14 ordvja1 8) = [7] by kernel_rfl) (by kernel_rfl) rfl (by kernel_rfl) (fun K hK => ?_)
        go_simp
        go_at_call 19
        with_reducible refine (vValue_is n c A l m d B s _ hl1 hs1 zl zs hn1 hm1 p x a b_ e_ t true HV).mono ?_
        rintro e w5 ⟨rfl, b5⟩
        replace z0 := cell_below b5 z0
        replace z1 := cell_below b5 z1
        replace cx := cell_below b5 cx
        replace D2 := below_call D2 b5
        replace Y1 := hcall Y1 b5
        clear b5 hl1 hs1
        refine hK.out _ _ (by (try dsimp only); (exact ⟨z0, z1, cx⟩)) (fun hHeld => ?_)
        clear hK K
        try simp only [Act.put, zA, zB, zC, zD, zE, zF]
        iterate 3
          refine Held.tw rgordvja1 ?_
          try simp only [Act.put, zA, zB, zC, zD, zE, zF]
        refine Held.only (k := 12) (i := 12) (show Region.ready .any opsvja (Held.lst 14 ordvja1 12) = [12] by kernel_rfl) (by kernel_rfl) rfl (by kernel_rfl) (fun K hK => ?_)
        obtain ⟨y0, y1, y2, y3, yz⟩ := cellsPv Y1
        have yfr := frozenG Y1
        go_simp
        clear y0 y1 y2 y3 yz yfr
        have Y5 : ((((w5.setCell ⟨wr.heap.size, 0, none⟩ (.int .i64 a)).setCell ⟨wr.heap.size, 1, none⟩ (.int .i64 b_)).setCell ⟨wr.heap.size, 2, none⟩ (.int .i64 e_)).setCell ⟨wr.heap.size, 3, none⟩ (.string t)).heap[wr.heap.size]? = some (bxPv a b_ e_ t) := setAt6 (setAt6 (setAt6 (setAt6 Y1 0 _) 1 _) 2 _) 3 _
        have D5 : Below w4.heap.size w4 ((((w5.setCell ⟨wr.heap.size, 0, none⟩ (.int .i64 a)).setCell ⟨wr.heap.size, 1, none⟩ (.int .i64 b_)).setCell ⟨wr.heap.size, 2, none⟩ (.int .i64 e_)).setCell ⟨wr.heap.size, 3, none⟩ (.string t)) := below4 D2 (by omega) _ _ _ _
        clear z0 z1 cx
        have z0 := cell_below D5 k0
        have z1 := cell_below D5 k1
        have cx := cell_below D5 c0
        refine hK.out _ _ (by (try dsimp only); (exact ⟨z0, z1, cx⟩)) (fun hHeld => ?_)
        clear hK K
        try simp only [Act.put, zA, zB, zC, zD, zE, zF]
        iterate 1
          refine Held.tw rgordvja1 ?_
          try simp only [Act.put, zA, zB, zC, zD, zE, zF]
        refine wpAnyH_done (by kernel_rfl) ?_ _
        obtain ⟨W5, hW5⟩ : ∃ W5, ((((w5.setCell ⟨wr.heap.size, 0, none⟩ (.int .i64 a)).setCell ⟨wr.heap.size, 1, none⟩ (.int .i64 b_)).setCell ⟨wr.heap.size, 2, none⟩ (.int .i64 e_)).setCell ⟨wr.heap.size, 3, none⟩ (.string t)) = W5 := ⟨_, rfl⟩
        obtain ⟨g8, hg8⟩ : ∃ g8, wr.heap.size = g8 := ⟨_, rfl⟩
        rw [hW5] at D5 Y5
        rw [hg8] at Y5
        try rw [hW5]
        try rw [hg8]
        clear hW5 hg8 D2 z0 z1 cx cx0 z00 z10 hl0 hs0 D0
        obtain ⟨y0, y1, y2, y3, yz⟩ := cellsPv Y5
        have d1 := cell_below D5 c1
        have d2 := cell_below D5 c2
        have d3 := cell_below D5 c3
        have d4 := cell_below D5 c4
        have hN := neqVl a b_ e_ t a b_ e_ t
        rw [eqvVl, decide_eq_true rfl] at hN
        go_wp2_with fail
        replace D5 : Below _ _ W5.drew := D5.drew
        replace y0 : W5.drew.cell? _ = _ := y0
        replace y1 : W5.drew.cell? _ = _ := y1
        replace y2 : W5.drew.cell? _ = _ := y2
        replace y3 : W5.drew.cell? _ = _ := y3
        replace d1 : W5.drew.cell? _ = _ := d1
        replace d2 : W5.drew.cell? _ = _ := d2
        replace d3 : W5.drew.cell? _ = _ := d3
        replace d4 : W5.drew.cell? _ = _ := d4
        refine Held.start (ops := opsvjb) (S := fun w' => w'.cell? ⟨g8, 0, none⟩ = some (.int .i64 a) ∧ w'.cell? ⟨g8, 1, none⟩ = some (.int .i64 b_) ∧ w'.cell? ⟨g8, 2, none⟩ = some (.int .i64 e_) ∧ w'.cell? ⟨g8, 3, none⟩ = some (.string t) ∧ w'.cell? ⟨(ad.add (j * 5)).block, (ad.add (j * 5)).off + 1, none⟩ = some (.int .i64 a) ∧ w'.cell? ⟨(ad.add (j * 5)).block, (ad.add (j * 5)).off + 2, none⟩ = some (.int .i64 b_) ∧ w'.cell? ⟨(ad.add (j * 5)).block, (ad.add (j * 5)).off + 3, none⟩ = some (.int .i64 e_) ∧ w'.cell? ⟨(ad.add (j * 5)).block, (ad.add (j * 5)).off + 4, none⟩ = some (.string t)) ordvjb 11 (by kernel_rfl) rgvjb.siz (by kernel_rfl) ⟨y0, y1, y2, y3, d1, d2, d3, d4⟩ (fun hHeld => ?_)
        iterate 11
          refine Held.tw rgvjb ?_
          try simp only [Act.put, zA, zB, zC, zD, zE, zF]
        refine wpAnyH_done (by kernel_rfl) ?_ _
        go_wp2
        exact ⟨⟨j + 1, by go_num, by omega, D5⟩, by simp [intOf]; omega⟩
    · have hjn : j = tn := by omega
      clear hlt
      subst hjn
      replace hl := hl.below D3
      replace hs := hs.below D3
      replace S0 := hcall S0 D3
      replace r1 := r1.below D3
      replace D := below_call D D3
      clear D3 s0 s1 sz
      obtain ⟨s0, s1, sz⟩ := cellsT S0
      go_wp2_with fail
      with_reducible refine (vValue_is n c A l m d B s _ hl hs zl zs hn1 hm1 p q va vb ve vt y HVQ).mono ?_
      rintro e w5 ⟨rfl, b5⟩
      replace hl := hl.below b5
      replace hs := hs.below b5
      replace S0 := hcall S0 b5
      replace r1 := r1.below b5
      replace D := below_call D b5
      clear b5 s0 s1 sz
      have V0 := heap_alloc_new w5 (bxPv va vb ve vt)
      replace hl := hl.below (below_box (bxPv va vb ve vt))
      replace hs := hs.below (below_box (bxPv va vb ve vt))
      replace S0 := halloc S0 (bxPv va vb ve vt)
      replace r1 := r1.below (below_box (bxPv va vb ve vt))
      replace D := below_alloc0 D (bxPv va vb ve vt)
      obtain ⟨s0, s1, sz⟩ := cellsT S0
      go_wp2_with fail
      with_reducible refine (vGetJ_is j qc1 Q1 tb q _ va vb ve vt y r1 HGT).mono ?_
      rintro e w6 ⟨rfl, b6⟩
      replace hl := hl.below b6
      replace hs := hs.below b6
      replace S0 := hcall S0 b6
      replace r1 := r1.below b6
      replace V0 := hcall V0 b6
      replace D := below_call D b6
      clear b6 s0 s1 sz
      have U0 := heap_alloc_new w6 (bxPv va vb ve vt)
      replace hl := hl.below (below_box (bxPv va vb ve vt))
      replace hs := hs.below (below_box (bxPv va vb ve vt))
      replace S0 := halloc S0 (bxPv va vb ve vt)
      replace r1 := r1.below (below_box (bxPv va vb ve vt))
      replace V0 := halloc V0 (bxPv va vb ve vt)
      replace D := below_alloc0 D (bxPv va vb ve vt)
      obtain ⟨s0, s1, sz⟩ := cellsT S0
      go_wp2_with fail
      with_reducible refine (vWatch_is n c A l m d B s _ hl hs zl zs hn1 hm1 q ws HWS).mono ?_
      rintro e w7 ⟨v, rfl, rw_, b7⟩
      replace hl := hl.below b7
      replace hs := hs.below b7
      replace S0 := hcall S0 b7
      replace r1 := r1.below b7
      replace V0 := hcall V0 b7
      replace U0 := hcall U0 b7
      replace D := below_call D b7
      clear b7 s0 s1 sz
      obtain ⟨wA, wc, rfl⟩ := form_S15 rw_
      obtain ⟨wn, hwn⟩ : ∃ wn, ws.length = wn := ⟨_, rfl⟩
      have hw63 : wn ≤ 9223372036854775807 := by rw [← hwn]; exact rw_.len
      have HWN := Lib.hid hwn
      rw [hwn] at rw_
      try rw [hwn]
      clear hwn
      go_wp2_with fail
      go_loopw [15, 17] (fun v15 v17 wr => ∃ (j : Nat) (au : Bool), v17 = .int .i64 j ∧ v15 = .bool au ∧ j ≤ wn ∧ Hid (au = inL p (ws.take j)) ∧ Below w7.heap.size w7 wr) (fun _ v17 _ => (wn - intOf v17).toNat)
      case atStart => exact ⟨0, false, rfl, rfl, Nat.zero_le _, rfl, Below.refl _ _⟩
      case round =>
        obtain ⟨i, au, rfl, rfl, hi, HAU, D6⟩ := hrel
        by_cases hlt : i < wn
        · have hil : i < ws.length := by have := HWN.out; omega
          obtain ⟨z, hz9⟩ : ∃ z, ws[i] = z := ⟨_, rfl⟩
          obtain ⟨ad, rfl, cz⟩ := (rw_.below D6).get1 (f := Value.string) i hil
          rw [hz9] at cz
          have x3 : (0 : Int) ≤ (i : Int) := by omega
          have x4 : (i : Int) < (wn : Int) := by omega
          have HA2 := among_step hil hz9 HAU
          obtain ⟨b2, hb2⟩ : ∃ b, (z.toList == p.toList) = b := ⟨_, rfl⟩
          rw [hb2] at HA2
          clear hz9 HAU
          cases au
          · rw [Bool.false_or] at HA2
            go_wp2
            exact ⟨⟨i + 1, b2, by go_num, rfl, by omega, HA2, D6⟩, by simp [intOf]; omega⟩
          · rw [Bool.true_or] at HA2
            go_wp2
            exact ⟨⟨i + 1, true, by go_num, rfl, by omega, HA2, D6⟩, by simp [intOf]; omega⟩
        · have hin : i = wn := by omega
          have HX : au = y := by
            have h1 := HAU.out
            rw [hin, List.take_of_length_le (Nat.le_of_eq HWN.out)] at h1
            rw [h1, Bool.eq_iff_iff, inL_iff]
            exact HWX.out
          subst HX
          clear hlt
          have D8 := below_call D D6
          obtain ⟨v0, v1, v2, v3, v4⟩ := cellsPv (hcall V0 D6)
          obtain ⟨t0, t1, t2, t3, t4⟩ := cellsPv (hcall U0 D6)
          have hE := eqlVl va vb ve vt va vb ve vt
          rw [eqvVl, decide_eq_true rfl] at hE
          cases au
          · go_wp2_with fail
            with_reducible refine (live15 _).mono ?_
            rintro e z9 ⟨rfl, b9⟩
            replace D8 := below_call D8 b9
            go_wp2
            go_ret
            exact ⟨rfl, D8⟩
          · have HSS := Lib.hid (HSE.out rfl)
            obtain ⟨s0, s1, sz⟩ := cellsT (hcall S0 D6)
            go_wp2_with fail
            with_reducible refine (Sees8_is n c A l _ (hl.below D6) p q true HSS).mono ?_
            rintro e z8 ⟨rfl, b8⟩
            replace D8 := below_call D8 b8
            go_wp2_with fail
            with_reducible refine (live15 _).mono ?_
            rintro e z9 ⟨rfl, b9⟩
            replace D8 := below_call D8 b9
            go_wp2
            go_ret
            exact ⟨rfl, D8⟩
end Go.Proofs.YtbpfcjdjhponaaaGreat
