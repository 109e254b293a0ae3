import Derived.Test.YtbpfcjdjhponaaaGreatPViewHides15
set_option linter.unusedVariables false
set_option linter.unusedSimpArgs false
set_option linter.unusedSectionVars false
namespace Go.Proofs.YtbpfcjdjhponaaaGreat
open Go.RowKit
open Sp
namespace Sp
theorem valT_may {s : Sta} (h : mayT s = true) (p q : ByteArray) : valT s p q = seeT s p q := by unfold valT; rw [h]; rfl
theorem valT_not {s : Sta} (h : mayT s = false) (p q : ByteArray) : valT s p q = ((0, 0, 0, ⟨#[]⟩), false) := by unfold valT; rw [h]; rfl
theorem mayT_ro {s : Sta} (h : mayT s = true) : mayRo s.1 = true := by
  unfold mayT at h
  rw [Bool.and_eq_true] at h
  exact h.1
theorem filterMap_none {α β : Type} {f : α → Option β} : ∀ l : List α, (∀ x ∈ l, f x = none) → l.filterMap f = []
  | [], _ => rfl
  | a :: l, h => by rw [List.filterMap_cons, h a (List.mem_cons_self ..)]; exact filterMap_none l fun x hx => h x (List.mem_cons_of_mem _ hx)
theorem vtab_tab (s : Sta) (p : ByteArray) : vtabT s p = tabT s p := by
  unfold vtabT tabT
  cases h : mayT s with
  | false =>
    rw [if_neg (by simp)]
    exact filterMap_none _ fun x _ => by unfold vrowT; rw [valT_not h]; rfl
  | true =>
    rw [if_pos rfl, mergeS_eq (ofRo s.1 p) [] (ofRo s.1 p) (ofRo_sorted (mayRo_ord (mayT_ro h)) p) (fun x => by simp)]
    congr 1
    funext q
    unfold vrowT rowT
    rw [valT_may h]
theorem tabT_len (s : Sta) (p : ByteArray) : (tabT s p).length ≤ 16 := by
  rw [← vtab_tab]
  unfold vtabT
  cases h : mayT s with
  | false =>
    rw [filterMap_none _ fun x _ => by unfold vrowT; rw [valT_not h]; rfl]
    exact Nat.zero_le _
  | true => exact Nat.le_trans (List.length_filterMap_le _ _) (of_le (mayT_ro h) p)
def betT (s t : Sta) (p : ByteArray) : List Ch := changesT (tabT s p) (tabT t p)
end Sp
theorem vOf_is (n c : Nat) (A : Option Addr) (l : List En) (m d : Nat) (B : Option Addr) (s : List Se) (w : World) (hl : Row enEn 7 w (.slice A n c) l) (hs : Row enSe 6 w (.slice B m d) s) (hz : SzRo l) (hy : SzSe s) (hn : n ≤ 100000) (hm : m ≤ 100000) (p : ByteArray) (r : List Sn) (h : Hid (tabT (l, s) p = r)) :
    Calls Tryz.prog 22 #[agT A n c B m d, .string p] w fun e w' => ∃ v, e = .returned v ∧ Row enSn 5 w' v r ∧ Below w.heap.size w w' := by
  have := vOf_calls n c A l m d B s w hl hs hz hy hn hm p
  rw [vtab_tab, h.out] at this
  exact this
theorem form_Sn {w : World} {v : Value} {l : List Sn} (h : Row enSn 5 w v l) : ∃ A c, v = .slice A l.length c := by
  obtain ⟨A, c, rfl, -⟩ := h
  exact ⟨A, c, rfl⟩
noncomputable def opsvbt : Array Oper := Held.inBody 1 Tryz.f28.body
def ordvbt : List Nat := [0, 1, 3, 4, 2, 5, 6, 7]
set_option maxRecDepth 100000 in
theorem rgvbt : Held.Reg opsvbt ordvbt 8 [0, 1, 2, 3, 7] := ⟨by kernel_rfl, by kernel_rfl, by kernel_rfl⟩
set_option maxHeartbeats 16000000 in
set_option maxRecDepth 100000 in
theorem vBet_is (n c : Nat) (A : Option Addr) (l : List En) (m d : Nat) (B : Option Addr) (s : List Se) (n2 c2 : Nat) (A2 : Option Addr) (l2 : List En) (m2 d2 : Nat) (B2 : Option Addr) (s2 : List Se) (w : World) (hl : Row enEn 7 w (.slice A n c) l) (hs : Row enSe 6 w (.slice B m d) s) (hl2 : Row enEn 7 w (.slice A2 n2 c2) l2) (hs2 : Row enSe 6 w (.slice B2 m2 d2) s2) (hz : SzRo l) (hy : SzSe s) (hz2 : SzRo l2) (hy2 : SzSe s2) (hn : n ≤ 100000) (hm : m ≤ 100000) (hn2 : n2 ≤ 100000) (hm2 : m2 ≤ 100000) (p : ByteArray) (r : List Ch) (h : Hid (betT (l, s) (l2, s2) p = r)) :
    Calls Tryz.prog 28 #[agT A n c B m d, agT A2 n2 c2 B2 m2 d2, .string p] w fun e w' => ∃ v, e = .returned v ∧ Row enCh 6 w' v r ∧ Below w.heap.size w w' := by
  have D := below_alloc0 (below_box (w := w) (bxT A n c B m d)) (bxT A2 n2 c2 B2 m2 d2)
  have hb := halloc (heap_alloc_new w (bxT A n c B m d)) (bxT A2 n2 c2 B2 m2 d2)
  have hb2 := heap_alloc_new (w.alloc (bxT A n c B m d)) (bxT A2 n2 c2 B2 m2 d2)
  rw [size_alloc] at hb2
  replace hl := hl.below D
  replace hs := hs.below D
  replace hl2 := hl2.below D
  replace hs2 := hs2.below D
  obtain ⟨g, hgg⟩ : ∃ g, w.heap.size = g := ⟨_, rfl⟩
  obtain ⟨W0, hW0⟩ : ∃ W0, (w.alloc (bxT A n c B m d)).alloc (bxT A2 n2 c2 B2 m2 d2) = W0 := ⟨_, rfl⟩
  go_enter Tryz.func28, Tryz.ntmps28
  go_wp2_with fail
  rw [hgg] at hb hb2
  rw [hW0] at hb hb2 hl hs hl2 hs2 D
  try rw [hgg]
  try rw [hW0]
  obtain ⟨z0, z1, zz⟩ := cellsT hb
  obtain ⟨y0, y1, yz⟩ := cellsT hb2
  replace z0 : W0.drew.cell? _ = _ := z0
  replace z1 : W0.drew.cell? _ = _ := z1
  replace y0 : W0.drew.cell? _ = _ := y0
  replace y1 : W0.drew.cell? _ = _ := y1
  replace hl : Row _ _ W0.drew _ _ := hl
  replace hs : Row _ _ W0.drew _ _ := hs
  replace hl2 : Row _ _ W0.drew _ _ := hl2
  replace hs2 : Row _ _ W0.drew _ _ := hs2
  replace D : Below _ _ W0.drew := D.drew
  have HT := tabT_len (l, s) p
  have HT2 := tabT_len (l2, s2) p
  clear zz yz hb hb2 hW0
  refine Held.start (ops := opsvbt) (S := fun w' => w'.cell? ⟨g, 0, none⟩ = some (.slice A n c) ∧ w'.cell? ⟨g, 1, none⟩ = some (.slice B m d) ∧ w'.cell? ⟨g + 1, 0, none⟩ = some (.slice A2 n2 c2) ∧ w'.cell? ⟨g + 1, 1, none⟩ = some (.slice B2 m2 d2)) ordvbt 8 (by kernel_rfl) rgvbt.siz (by kernel_rfl) ⟨z0, z1, y0, y1⟩ (fun hHeld => ?_)
  iterate 4
    refine Held.tw rgvbt ?_
    try simp only [Act.put, zA, zB, zC, zD, zE, zF]
  refine Held.only (k := 4) (i := 2) (by kernel_rfl) (by kernel_rfl) rfl (by kernel_rfl) (fun K hK => ?_)
  go_simp
  go_at_call 22
  with_reducible refine (vOf_is n c A l m d B s _ hl hs hz hy hn hm p _ (Lib.hid rfl)).mono ?_
  rintro e w1 ⟨v1, rfl, r1, b1⟩
  obtain ⟨V1, e1, rfl⟩ := form_Sn r1
  replace z0 := cell_below b1 z0
  replace z1 := cell_below b1 z1
  replace y0 := cell_below b1 y0
  replace y1 := cell_below b1 y1
  replace hl2 := hl2.below b1
  replace hs2 := hs2.below b1
  replace D := below_call D b1
  clear b1
  refine hK.out _ _ (by (try dsimp only); (exact ⟨z0, z1, y0, y1⟩)) (fun hHeld => ?_)
  clear hK K
  try simp only [Act.put, zA, zB, zC, zD, zE, zF]
  refine Held.only (k := 5) (i := 5) (by kernel_rfl) (by kernel_rfl) rfl (by kernel_rfl) (fun K hK => ?_)
  go_simp
  go_at_call 22
  with_reducible refine (vOf_is n2 c2 A2 l2 m2 d2 B2 s2 _ hl2 hs2 hz2 hy2 hn2 hm2 p _ (Lib.hid rfl)).mono ?_
  rintro e w2 ⟨v2, rfl, r2, b2⟩
  obtain ⟨V2, e2, rfl⟩ := form_Sn r2
  replace z0 := cell_below b2 z0
  replace z1 := cell_below b2 z1
  replace y0 := cell_below b2 y0
  replace y1 := cell_below b2 y1
  replace r1 := r1.below b2
  replace D := below_call D b2
  clear b2
  refine hK.out _ _ (by (try dsimp only); (exact ⟨z0, z1, y0, y1⟩)) (fun hHeld => ?_)
  clear hK K
  try simp only [Act.put, zA, zB, zC, zD, zE, zF]
  refine Held.only (k := 6) (i := 6) (by kernel_rfl) (by kernel_rfl) rfl (by kernel_rfl) (fun K hK => ?_)
  go_simp
  go_at_call 72
  with_reducible refine (ChangesT_calls _ e1 _ e2 V1 V2 _ _ _ r1 r2 (by omega) (by omega)).mono ?_
  rintro e w3 ⟨v3, rfl, r3, b3⟩
  replace z0 := cell_below b3 z0
  replace z1 := cell_below b3 z1
  replace y0 := cell_below b3 y0
  replace y1 := cell_below b3 y1
  replace D := below_call D b3
  clear b3
  refine hK.out _ _ (by (try dsimp only); (exact ⟨z0, z1, y0, y1⟩)) (fun hHeld => ?_)
  clear hK K
  try simp only [Act.put, zA, zB, zC, zD, zE, zF]
  iterate 1
    refine Held.tw rgvbt ?_
    try simp only [Act.put, zA, zB, zC, zD, zE, zF]
  refine wpAnyH_done (by kernel_rfl) ?_ _
  have HF : Hid (changesT (tabT (l, s) p) (tabT (l2, s2) p) = r) := h.out
  rw [HF.out] at r3
  go_wp2
  go_ret
  exact ⟨v3, rfl, r3, D⟩
end Go.Proofs.YtbpfcjdjhponaaaGreat
namespace Go.Proofs.YtbpfcjdjhponaaaGreat
open Go.RowKit
open Sp
def es15 : List Evt := [⟨7, ⟨#[97, 110, 110]⟩, ⟨#[]⟩, 1, (4, 2, 0, ⟨#[]⟩)⟩, ⟨1, ⟨#[98, 111, 98]⟩, ⟨#[97, 110, 110]⟩, 0, (0, 0, 0, ⟨#[]⟩)⟩]
def s15 : Sta := (allT (([], []) : Sta) es15).1
def t15 : Sta := (applyT (s15.1, s15.2) ⟨2, ⟨#[97, 110, 110]⟩, ⟨#[98, 111, 98]⟩, 0, (0, 0, 0, ⟨#[]⟩)⟩).1
def u15 : Sta := (applyT (t15.1, t15.2) ⟨5, ⟨#[98, 111, 98]⟩, ⟨#[97, 110, 110]⟩, 0, (0, 0, 0, ⟨#[]⟩)⟩).1
theorem l15a : Hid (allT (([], []) : Sta) es15 = (s15, [0, 0])) := by show _ = _; decide +kernel
theorem l15b : Hid (applyT (s15.1, s15.2) ⟨2, ⟨#[97, 110, 110]⟩, ⟨#[98, 111, 98]⟩, 0, (0, 0, 0, ⟨#[]⟩)⟩ = (t15, 0)) := by show _ = _; decide +kernel
theorem l15c : Hid (applyT (t15.1, t15.2) ⟨5, ⟨#[98, 111, 98]⟩, ⟨#[97, 110, 110]⟩, 0, (0, 0, 0, ⟨#[]⟩)⟩ = (u15, 0)) := by show _ = _; decide +kernel
theorem l15d : Hid (valT (t15.1, t15.2) ⟨#[98, 111, 98]⟩ ⟨#[97, 110, 110]⟩ = ((4, 2, 0, ⟨#[]⟩), true)) := by show _ = _; decide +kernel
theorem l15e : Hid (valT (t15.1, t15.2) ⟨#[97, 110, 110]⟩ ⟨#[98, 111, 98]⟩ = ((0, 0, 0, ⟨#[]⟩), false)) := by show _ = _; decide +kernel
theorem l15f : Hid (betT (s15.1, s15.2) (t15.1, t15.2) ⟨#[98, 111, 98]⟩ = [⟨⟨#[97, 110, 110]⟩, true, 4, 2, 0, ⟨#[]⟩⟩]) := by show _ = _; decide +kernel
theorem l15g : Hid (betT (t15.1, t15.2) (u15.1, u15.2) ⟨#[98, 111, 98]⟩ = [⟨⟨#[97, 110, 110]⟩, false, 0, 0, 0, ⟨#[]⟩⟩]) := by show _ = _; decide +kernel
theorem l15h : Hid (tabT (s15.1, s15.2) ⟨#[98, 111, 98]⟩ = []) := by show _ = _; decide +kernel
theorem l15i : Hid (tabT (t15.1, t15.2) ⟨#[98, 111, 98]⟩ = [⟨⟨#[97, 110, 110]⟩, (4, 2, 0, ⟨#[]⟩)⟩]) := by show _ = _; decide +kernel
theorem l15j : Hid (watT (t15.1, t15.2) ⟨#[97, 110, 110]⟩ = [⟨#[98, 111, 98]⟩]) := by show _ = _; decide +kernel
theorem l15k : Hid (watT (u15.1, u15.2) ⟨#[97, 110, 110]⟩ = []) := by show _ = _; decide +kernel
theorem sz15n : SzRo [] := fun s hs => by cases hs
theorem sy15n : SzSe [] := fun s hs => by cases hs
def small15 (s : Sta) : Bool := s.1.all (fun x => decide (x.o.size ≤ 100) && decide (x.c.size ≤ 100)) && s.2.all (fun x => decide (x.u.size ≤ 100) && decide (x.v.2.2.2.size ≤ 100)) && decide (s.1.length ≤ 10) && decide (s.2.length ≤ 10)
theorem small_ {s : Sta} (h : small15 s = true) : SzRo s.1 ∧ SzSe s.2 ∧ s.1.length ≤ 10 ∧ s.2.length ≤ 10 := by
  unfold small15 at h
  simp only [Bool.and_eq_true, List.all_eq_true, decide_eq_true_eq] at h
  refine ⟨fun x hx => ?_, fun x hx => ?_, h.1.2, h.2⟩
  · have := h.1.1.1 x hx
    exact ⟨by omega, by omega⟩
  · have := h.1.1.2 x hx
    exact ⟨by omega, by omega⟩
theorem sm15s : SzRo s15.1 ∧ SzSe s15.2 ∧ s15.1.length ≤ 10 ∧ s15.2.length ≤ 10 := small_ (by decide +kernel)
theorem sm15t : SzRo t15.1 ∧ SzSe t15.2 ∧ t15.1.length ≤ 10 ∧ t15.2.length ≤ 10 := small_ (by decide +kernel)
theorem sm15u : SzRo u15.1 ∧ SzSe u15.2 ∧ u15.1.length ≤ 10 ∧ u15.2.length ≤ 10 := small_ (by decide +kernel)
theorem sv15 : SzEv es15 := fun e he => by
  simp only [es15, List.mem_cons, List.not_mem_nil, or_false] at he
  rcases he with rfl | rfl <;> decide
theorem row15 (W : World) : Row enEv 8 (W.alloc (.cells #[.int .i64 7, .string ⟨#[97, 110, 110]⟩, .string ⟨#[]⟩, .int .i64 1, .int .i64 4, .int .i64 2, .int .i64 0, .string ⟨#[]⟩, .int .i64 1, .string ⟨#[98, 111, 98]⟩, .string ⟨#[97, 110, 110]⟩, .int .i64 0, .int .i64 0, .int .i64 0, .int .i64 0, .string ⟨#[]⟩] 29)) (.slice (some ⟨W.heap.size, 0, none⟩) 2 2) es15 := (Own.lit (base := W.heap.size) enEv_len W es15 _ 2 rfl rfl (Nat.le_refl _) (by decide)).row
theorem row15i (W : World) : Row enSn 5 (W.alloc (.cells #[.string ⟨#[97, 110, 110]⟩, .int .i64 4, .int .i64 2, .int .i64 0, .string ⟨#[]⟩] 59)) (.slice (some ⟨W.heap.size, 0, none⟩) 1 1) [⟨⟨#[97, 110, 110]⟩, (4, 2, 0, ⟨#[]⟩)⟩] := (Own.lit (base := W.heap.size) enSn_len W [⟨⟨#[97, 110, 110]⟩, (4, 2, 0, ⟨#[]⟩)⟩] _ 1 rfl rfl (Nat.le_refl _) (by decide)).row
theorem row15j (W : World) : Row enS 1 (W.alloc (.cells #[.string ⟨#[98, 111, 98]⟩] 9)) (.slice (some ⟨W.heap.size, 0, none⟩) 1 1) [⟨#[98, 111, 98]⟩] := (Own.lit (base := W.heap.size) enS_len W _ _ 1 rfl rfl (Nat.le_refl _) (by decide)).row
theorem row15f (W : World) : Row enCh 6 (W.alloc (.cells #[.string ⟨#[97, 110, 110]⟩, .bool true, .int .i64 4, .int .i64 2, .int .i64 0, .string ⟨#[]⟩] 65)) (.slice (some ⟨W.heap.size, 0, none⟩) 1 1) [⟨⟨#[97, 110, 110]⟩, true, 4, 2, 0, ⟨#[]⟩⟩] := (Own.lit (base := W.heap.size) enCh_len W [⟨⟨#[97, 110, 110]⟩, true, 4, 2, 0, ⟨#[]⟩⟩] _ 1 rfl rfl (Nat.le_refl _) (by decide)).row
theorem row15g (W : World) : Row enCh 6 (W.alloc (.cells #[.string ⟨#[97, 110, 110]⟩, .bool false, .int .i64 0, .int .i64 0, .int .i64 0, .string ⟨#[]⟩] 65)) (.slice (some ⟨W.heap.size, 0, none⟩) 1 1) [⟨⟨#[97, 110, 110]⟩, false, 0, 0, 0, ⟨#[]⟩⟩] := (Own.lit (base := W.heap.size) enCh_len W [⟨⟨#[97, 110, 110]⟩, false, 0, 0, 0, ⟨#[]⟩⟩] _ 1 rfl rfl (Nat.le_refl _) (by decide)).row
noncomputable def opslvf : Array Oper := Held.inBody 9 Tryz.f18.body
def ordlvf0 : List Nat := [0, 1, 2, 3, 4, 5, 7, 8, 6, 9, 10, 11, 12, 13, 14, 15, 16, 17, 18, 19, 20, 21, 22, 23, 24, 25, 26, 27, 28, 29, 30, 31, 32, 33, 34, 35, 36, 37, 38, 39, 40, 41, 42, 43, 44, 45, 46, 47, 48, 49]
set_option maxRecDepth 100000 in
theorem rgordlvf0 : Held.Reg opslvf ordlvf0 50 [0, 2, 3, 4, 5, 6, 7, 11, 12, 13, 14, 15, 16, 17, 18, 19, 20, 21, 22, 23, 24, 25, 29, 30, 31, 33, 34, 35, 36, 37, 38, 39, 42, 43, 44, 45, 48, 49] := ⟨by kernel_rfl, by kernel_rfl, by kernel_rfl⟩
def ordlvf1 : List Nat := [0, 1, 2, 3, 4, 5, 7, 8, 9, 6, 10, 11, 12, 13, 14, 15, 16, 17, 18, 19, 20, 21, 22, 23, 24, 25, 26, 27, 28, 29, 30, 31, 32, 33, 34, 35, 36, 37, 38, 39, 40, 41, 42, 43, 44, 45, 46, 47, 48, 49]
set_option maxRecDepth 100000 in
theorem rgordlvf1 : Held.Reg opslvf ordlvf1 50 [0, 2, 3, 4, 5, 6, 7, 11, 12, 13, 14, 15, 16, 17, 18, 19, 20, 21, 22, 23, 24, 25, 29, 30, 31, 33, 34, 35, 36, 37, 38, 39, 42, 43, 44, 45, 48, 49] := ⟨by kernel_rfl, by kernel_rfl, by kernel_rfl⟩
def ordlvf2 : List Nat := [0, 1, 2, 3, 4, 5, 7, 8, 6, 9, 10, 11, 12, 13, 14, 15, 16, 17, 18, 19, 20, 21, 22, 23, 24, 25, 27, 26, 28, 29, 30, 31, 32, 33, 34, 35, 36, 37, 38, 39, 40, 41, 42, 43, 44, 45, 46, 47, 48, 49]
set_option maxRecDepth 100000 in
theorem rgordlvf2 : Held.Reg opslvf ordlvf2 50 [0, 2, 3, 4, 5, 6, 7, 11, 12, 13, 14, 15, 16, 17, 18, 19, 20, 21, 22, 23, 24, 25, 29, 30, 31, 33, 34, 35, 36, 37, 38, 39, 42, 43, 44, 45, 48, 49] := ⟨by kernel_rfl, by kernel_rfl, by kernel_rfl⟩
def ordlvf3 : List Nat := [0, 1, 2, 3, 4, 5, 7, 8, 9, 6, 10, 11, 12, 13, 14, 15, 16, 17, 18, 19, 20, 21, 22, 23, 24, 25, 27, 26, 28, 29, 30, 31, 32, 33, 34, 35, 36, 37, 38, 39, 40, 41, 42, 43, 44, 45, 46, 47, 48, 49]
set_option maxRecDepth 100000 in
theorem rgordlvf3 : Held.Reg opslvf ordlvf3 50 [0, 2, 3, 4, 5, 6, 7, 11, 12, 13, 14, 15, 16, 17, 18, 19, 20, 21, 22, 23, 24, 25, 29, 30, 31, 33, 34, 35, 36, 37, 38, 39, 42, 43, 44, 45, 48, 49] := ⟨by kernel_rfl, by kernel_rfl, by kernel_rfl⟩
set_option maxHeartbeats 32000000 in
set_option maxRecDepth 100000 in
theorem live15 (w : World) : Calls Tryz.prog 18 #[] w fun e w' => e = .returned (.bool true) ∧ Below w.heap.size w w' := by
  have D := below_box (w := w) (bxPv 4 2 0 ⟨#[]⟩)
  have VB := heap_alloc_new w (bxPv 4 2 0 ⟨#[]⟩)
  have hes := row15 (w.alloc (bxPv 4 2 0 ⟨#[]⟩))
  rw [size_alloc] at hes
  obtain ⟨v0, v1, v2, v3, vz⟩ := cellsPv VB
  go_enter Tryz.func18, Tryz.ntmps18
  replace VB := halloc VB (.cells #[.int .i64 7, .string ⟨#[97, 110, 110]⟩, .string ⟨#[]⟩, .int .i64 1, .int .i64 4, .int .i64 2, .int .i64 0, .string ⟨#[]⟩, .int .i64 1, .string ⟨#[98, 111, 98]⟩, .string ⟨#[97, 110, 110]⟩, .int .i64 0, .int .i64 0, .int .i64 0, .int .i64 0, .string ⟨#[]⟩] 29)
  replace D := below_alloc0 D (.cells #[.int .i64 7, .string ⟨#[97, 110, 110]⟩, .string ⟨#[]⟩, .int .i64 1, .int .i64 4, .int .i64 2, .int .i64 0, .string ⟨#[]⟩, .int .i64 1, .string ⟨#[98, 111, 98]⟩, .string ⟨#[97, 110, 110]⟩, .int .i64 0, .int .i64 0, .int .i64 0, .int .i64 0, .string ⟨#[]⟩] 29)
  go_wp2_with fail
  with_reducible refine (refAllT_is 0 0 none [] 0 0 none [] _ (Row.nil _ _ _) (Row.nil _ _ _) sz15n sy15n (by decide) 2 2 _ es15 hes (by decide) sv15 s15 _ l15a).mono ?_
  rintro e w1 ⟨A1, n1, c1, B1, m1, d1, vx, rfl, sl, ss, rx, b1⟩
  replace VB := hcall VB b1
  replace D := below_call D b1
  clear b1 v0 v1 v2 v3 vz
  clear hes
  obtain ⟨Ax, cx, rfl⟩ := rx.form8 2 rfl
  clear rx
  obtain ⟨ys, zs, hn1, hm1⟩ := sm15s
  have en1 := sl.len_eq
  have em1 := ss.len_eq
  have hn1' : n1 ≤ 10 := by omega
  have hm1' : m1 ≤ 10 := by omega
  clear hn1 hm1 en1 em1
  have SB := heap_alloc_new w1 (bxT A1 n1 c1 B1 m1 d1)
  replace VB := halloc VB (bxT A1 n1 c1 B1 m1 d1)
  replace sl := sl.below (below_box (bxT A1 n1 c1 B1 m1 d1))
  replace ss := ss.below (below_box (bxT A1 n1 c1 B1 m1 d1))
  replace D := below_alloc0 D (bxT A1 n1 c1 B1 m1 d1)
  obtain ⟨s0, s1, sz⟩ := cellsT SB
  go_wp2_with fail
  refine (refApplyT_is n1 c1 A1 s15.1 m1 d1 B1 s15.2 _ sl ss ys zs (by omega) 2 ⟨#[97, 110, 110]⟩ ⟨#[98, 111, 98]⟩ 0 0 0 0 ⟨#[]⟩ (by decide) (by decide) (by decide) 0 t15 l15b).mono ?_
  rintro e w2 ⟨A2, n2, c2, B2, m2, d2, rfl, tl, ts, b2, -, -⟩
  replace VB := hcall VB b2
  replace sl := sl.below b2
  replace ss := ss.below b2
  replace SB := hcall SB b2
  replace D := below_call D b2
  clear b2 s0 s1 sz
  obtain ⟨yt, zt, hn2, hm2⟩ := sm15t
  have en2 := tl.len_eq
  have em2 := ts.len_eq
  have hn2' : n2 ≤ 10 := by omega
  have hm2' : m2 ≤ 10 := by omega
  clear hn2 hm2 en2 em2
  have TB := heap_alloc_new w2 (bxT A2 n2 c2 B2 m2 d2)
  replace VB := halloc VB (bxT A2 n2 c2 B2 m2 d2)
  replace sl := sl.below (below_box (bxT A2 n2 c2 B2 m2 d2))
  replace ss := ss.below (below_box (bxT A2 n2 c2 B2 m2 d2))
  replace SB := halloc SB (bxT A2 n2 c2 B2 m2 d2)
  replace tl := tl.below (below_box (bxT A2 n2 c2 B2 m2 d2))
  replace ts := ts.below (below_box (bxT A2 n2 c2 B2 m2 d2))
  replace D := below_alloc0 D (bxT A2 n2 c2 B2 m2 d2)
  obtain ⟨t0, t1, tz⟩ := cellsT TB
  go_wp2_with fail
  refine (refApplyT_is n2 c2 A2 t15.1 m2 d2 B2 t15.2 _ tl ts yt zt (by omega) 5 ⟨#[98, 111, 98]⟩ ⟨#[97, 110, 110]⟩ 0 0 0 0 ⟨#[]⟩ (by decide) (by decide) (by decide) 0 u15 l15c).mono ?_
  rintro e w3 ⟨A3, n3, c3, B3, m3, d3, rfl, ul, us, b3, -, -⟩
  replace VB := hcall VB b3
  replace sl := sl.below b3
  replace ss := ss.below b3
  replace SB := hcall SB b3
  replace tl := tl.below b3
  replace ts := ts.below b3
  replace TB := hcall TB b3
  replace D := below_call D b3
  clear b3 t0 t1 tz
  obtain ⟨yu, zu, hn3, hm3⟩ := sm15u
  have en3 := ul.len_eq
  have em3 := us.len_eq
  have hn3' : n3 ≤ 10 := by omega
  have hm3' : m3 ≤ 10 := by omega
  clear hn3 hm3 en3 em3
  have UB := heap_alloc_new w3 (bxT A3 n3 c3 B3 m3 d3)
  replace VB := halloc VB (bxT A3 n3 c3 B3 m3 d3)
  replace sl := sl.below (below_box (bxT A3 n3 c3 B3 m3 d3))
  replace ss := ss.below (below_box (bxT A3 n3 c3 B3 m3 d3))
  replace SB := halloc SB (bxT A3 n3 c3 B3 m3 d3)
  replace tl := tl.below (below_box (bxT A3 n3 c3 B3 m3 d3))
  replace ts := ts.below (below_box (bxT A3 n3 c3 B3 m3 d3))
  replace TB := halloc TB (bxT A3 n3 c3 B3 m3 d3)
  replace ul := ul.below (below_box (bxT A3 n3 c3 B3 m3 d3))
  replace us := us.below (below_box (bxT A3 n3 c3 B3 m3 d3))
  replace D := below_alloc0 D (bxT A3 n3 c3 B3 m3 d3)
  obtain ⟨s0, s1, sz⟩ := cellsT SB
  obtain ⟨t0, t1, tz⟩ := cellsT TB
  obtain ⟨u0, u1, uz⟩ := cellsT UB
  go_wp2_with fail
  with_reducible refine (vValue_is n2 c2 A2 t15.1 m2 d2 B2 t15.2 _ tl ts yt zt (by omega) (by omega) ⟨#[98, 111, 98]⟩ ⟨#[97, 110, 110]⟩ 4 2 0 ⟨#[]⟩ true l15d).mono ?_
  rintro e w4 ⟨rfl, b4⟩
  replace VB := hcall VB b4
  replace sl := sl.below b4
  replace ss := ss.below b4
  replace SB := hcall SB b4
  replace tl := tl.below b4
  replace ts := ts.below b4
  replace TB := hcall TB b4
  replace ul := ul.below b4
  replace us := us.below b4
  replace UB := hcall UB b4
  replace D := below_call D b4
  clear b4 s0 s1 sz t0 t1 tz u0 u1 uz
  have WB := heap_alloc_new w4 (bxPv 4 2 0 ⟨#[]⟩)
  replace VB := halloc VB (bxPv 4 2 0 ⟨#[]⟩)
  replace sl := sl.below (below_box (bxPv 4 2 0 ⟨#[]⟩))
  replace ss := ss.below (below_box (bxPv 4 2 0 ⟨#[]⟩))
  replace SB := halloc SB (bxPv 4 2 0 ⟨#[]⟩)
  replace tl := tl.below (below_box (bxPv 4 2 0 ⟨#[]⟩))
  replace ts := ts.below (below_box (bxPv 4 2 0 ⟨#[]⟩))
  replace TB := halloc TB (bxPv 4 2 0 ⟨#[]⟩)
  replace ul := ul.below (below_box (bxPv 4 2 0 ⟨#[]⟩))
  replace us := us.below (below_box (bxPv 4 2 0 ⟨#[]⟩))
  replace UB := halloc UB (bxPv 4 2 0 ⟨#[]⟩)
  replace D := below_alloc0 D (bxPv 4 2 0 ⟨#[]⟩)
  obtain ⟨s0, s1, sz⟩ := cellsT SB
  obtain ⟨t0, t1, tz⟩ := cellsT TB
  obtain ⟨u0, u1, uz⟩ := cellsT UB
  go_wp2_with fail
  with_reducible refine (vValue_is n2 c2 A2 t15.1 m2 d2 B2 t15.2 _ tl ts yt zt (by omega) (by omega) ⟨#[97, 110, 110]⟩ ⟨#[98, 111, 98]⟩ 0 0 0 ⟨#[]⟩ false l15e).mono ?_
  rintro e w5 ⟨rfl, b5⟩
  replace VB := hcall VB b5
  replace sl := sl.below b5
  replace ss := ss.below b5
  replace SB := hcall SB b5
  replace tl := tl.below b5
  replace ts := ts.below b5
  replace TB := hcall TB b5
  replace ul := ul.below b5
  replace us := us.below b5
  replace UB := hcall UB b5
  replace WB := hcall WB b5
  replace D := below_call D b5
  clear b5 s0 s1 sz t0 t1 tz u0 u1 uz
  replace VB := halloc VB (bxPv 0 0 0 ⟨#[]⟩)
  replace sl := sl.below (below_box (bxPv 0 0 0 ⟨#[]⟩))
  replace ss := ss.below (below_box (bxPv 0 0 0 ⟨#[]⟩))
  replace SB := halloc SB (bxPv 0 0 0 ⟨#[]⟩)
  replace tl := tl.below (below_box (bxPv 0 0 0 ⟨#[]⟩))
  replace ts := ts.below (below_box (bxPv 0 0 0 ⟨#[]⟩))
  replace TB := halloc TB (bxPv 0 0 0 ⟨#[]⟩)
  replace ul := ul.below (below_box (bxPv 0 0 0 ⟨#[]⟩))
  replace us := us.below (below_box (bxPv 0 0 0 ⟨#[]⟩))
  replace UB := halloc UB (bxPv 0 0 0 ⟨#[]⟩)
  replace WB := halloc WB (bxPv 0 0 0 ⟨#[]⟩)
  replace D := below_alloc0 D (bxPv 0 0 0 ⟨#[]⟩)
  obtain ⟨s0, s1, sz⟩ := cellsT SB
  obtain ⟨t0, t1, tz⟩ := cellsT TB
  obtain ⟨u0, u1, uz⟩ := cellsT UB
  go_wp2_with fail
  with_reducible refine (vBet_is n1 c1 A1 s15.1 m1 d1 B1 s15.2 n2 c2 A2 t15.1 m2 d2 B2 t15.2 _ sl ss tl ts ys zs yt zt (by omega) (by omega) (by omega) (by omega) ⟨#[98, 111, 98]⟩ _ l15f).mono ?_
  rintro e w6 ⟨v12, rfl, r12, b6⟩
  replace VB := hcall VB b6
  replace sl := sl.below b6
  replace ss := ss.below b6
  replace SB := hcall SB b6
  replace tl := tl.below b6
  replace ts := ts.below b6
  replace TB := hcall TB b6
  replace ul := ul.below b6
  replace us := us.below b6
  replace UB := hcall UB b6
  replace WB := hcall WB b6
  replace D := below_call D b6
  clear b6 s0 s1 sz t0 t1 tz u0 u1 uz
  obtain ⟨A12, c12, rfl⟩ := r12.form8 1 rfl
  obtain ⟨s0, s1, sz⟩ := cellsT SB
  obtain ⟨t0, t1, tz⟩ := cellsT TB
  obtain ⟨u0, u1, uz⟩ := cellsT UB
  go_wp2_with fail
  with_reducible refine (vBet_is n2 c2 A2 t15.1 m2 d2 B2 t15.2 n3 c3 A3 u15.1 m3 d3 B3 u15.2 _ tl ts ul us yt zt yu zu (by omega) (by omega) (by omega) (by omega) ⟨#[98, 111, 98]⟩ _ l15g).mono ?_
  rintro e w7 ⟨v13, rfl, r13, b7⟩
  replace VB := hcall VB b7
  replace sl := sl.below b7
  replace ss := ss.below b7
  replace SB := hcall SB b7
  replace tl := tl.below b7
  replace ts := ts.below b7
  replace TB := hcall TB b7
  replace ul := ul.below b7
  replace us := us.below b7
  replace UB := hcall UB b7
  replace WB := hcall WB b7
  replace r12 := r12.below b7
  replace D := below_call D b7
  clear b7 s0 s1 sz t0 t1 tz u0 u1 uz
  obtain ⟨A13, c13, rfl⟩ := r13.form8 1 rfl
  obtain ⟨v0, v1, v2, v3, vz⟩ := cellsPv VB
  obtain ⟨x0, x1, x2, x3, xz⟩ := cellsPv WB
  obtain ⟨s0, s1, sz⟩ := cellsT SB
  obtain ⟨t0, t1, tz⟩ := cellsT TB
  obtain ⟨u0, u1, uz⟩ := cellsT UB
  have hE := eqlVl 4 2 0 ⟨#[]⟩ 4 2 0 ⟨#[]⟩
  clear VB WB SB TB UB vz xz sz tz uz
  replace v0 : w7.drew.cell? _ = _ := v0
  replace v1 : w7.drew.cell? _ = _ := v1
  replace v2 : w7.drew.cell? _ = _ := v2
  replace v3 : w7.drew.cell? _ = _ := v3
  replace x0 : w7.drew.cell? _ = _ := x0
  replace x1 : w7.drew.cell? _ = _ := x1
  replace x2 : w7.drew.cell? _ = _ := x2
  replace x3 : w7.drew.cell? _ = _ := x3
  replace s0 : w7.drew.cell? _ = _ := s0
  replace s1 : w7.drew.cell? _ = _ := s1
  replace t0 : w7.drew.cell? _ = _ := t0
  replace t1 : w7.drew.cell? _ = _ := t1
  replace u0 : w7.drew.cell? _ = _ := u0
  replace u1 : w7.drew.cell? _ = _ := u1
  replace sl : Row _ _ w7.drew _ _ := sl
  replace ss : Row _ _ w7.drew _ _ := ss
  replace tl : Row _ _ w7.drew _ _ := tl
  replace ts : Row _ _ w7.drew _ _ := ts
  replace ul : Row _ _ w7.drew _ _ := ul
  replace us : Row _ _ w7.drew _ _ := us
  replace r12 : Row _ _ w7.drew _ _ := r12
  replace r13 : Row _ _ w7.drew _ _ := r13
  replace D : Below _ _ w7.drew := D.drew
  go_wp2_with fail
  have hMove : Hid (∀ X1 X2 : World, (X1.cell? ⟨w.heap.size, 0, none⟩ = some (.int .i64 4) ∧ X1.cell? ⟨w.heap.size, 1, none⟩ = some (.int .i64 2) ∧ X1.cell? ⟨w.heap.size, 2, none⟩ = some (.int .i64 0) ∧ X1.cell? ⟨w.heap.size, 3, none⟩ = some (.string ⟨#[]⟩) ∧ X1.cell? ⟨w4.heap.size, 0, none⟩ = some (.int .i64 4) ∧ X1.cell? ⟨w4.heap.size, 1, none⟩ = some (.int .i64 2) ∧ X1.cell? ⟨w4.heap.size, 2, none⟩ = some (.int .i64 0) ∧ X1.cell? ⟨w4.heap.size, 3, none⟩ = some (.string ⟨#[]⟩) ∧ X1.cell? ⟨w1.heap.size, 0, none⟩ = some (.slice A1 n1 c1) ∧ X1.cell? ⟨w1.heap.size, 1, none⟩ = some (.slice B1 m1 d1) ∧ X1.cell? ⟨w2.heap.size, 0, none⟩ = some (.slice A2 n2 c2) ∧ X1.cell? ⟨w2.heap.size, 1, none⟩ = some (.slice B2 m2 d2) ∧ X1.cell? ⟨w3.heap.size, 0, none⟩ = some (.slice A3 n3 c3) ∧ X1.cell? ⟨w3.heap.size, 1, none⟩ = some (.slice B3 m3 d3)) → Below X1.heap.size X1 X2 → (X2.cell? ⟨w.heap.size, 0, none⟩ = some (.int .i64 4) ∧ X2.cell? ⟨w.heap.size, 1, none⟩ = some (.int .i64 2) ∧ X2.cell? ⟨w.heap.size, 2, none⟩ = some (.int .i64 0) ∧ X2.cell? ⟨w.heap.size, 3, none⟩ = some (.string ⟨#[]⟩) ∧ X2.cell? ⟨w4.heap.size, 0, none⟩ = some (.int .i64 4) ∧ X2.cell? ⟨w4.heap.size, 1, none⟩ = some (.int .i64 2) ∧ X2.cell? ⟨w4.heap.size, 2, none⟩ = some (.int .i64 0) ∧ X2.cell? ⟨w4.heap.size, 3, none⟩ = some (.string ⟨#[]⟩) ∧ X2.cell? ⟨w1.heap.size, 0, none⟩ = some (.slice A1 n1 c1) ∧ X2.cell? ⟨w1.heap.size, 1, none⟩ = some (.slice B1 m1 d1) ∧ X2.cell? ⟨w2.heap.size, 0, none⟩ = some (.slice A2 n2 c2) ∧ X2.cell? ⟨w2.heap.size, 1, none⟩ = some (.slice B2 m2 d2) ∧ X2.cell? ⟨w3.heap.size, 0, none⟩ = some (.slice A3 n3 c3) ∧ X2.cell? ⟨w3.heap.size, 1, none⟩ = some (.slice B3 m3 d3))) := fun X1 X2 h b => ⟨cell_below b h.1, cell_below b h.2.1, cell_below b h.2.2.1, cell_below b h.2.2.2.1, cell_below b h.2.2.2.2.1, cell_below b h.2.2.2.2.2.1, cell_below b h.2.2.2.2.2.2.1, cell_below b h.2.2.2.2.2.2.2.1, cell_below b h.2.2.2.2.2.2.2.2.1, cell_below b h.2.2.2.2.2.2.2.2.2.1, cell_below b h.2.2.2.2.2.2.2.2.2.2.1, cell_below b h.2.2.2.2.2.2.2.2.2.2.2.1, cell_below b h.2.2.2.2.2.2.2.2.2.2.2.2.1, cell_below b h.2.2.2.2.2.2.2.2.2.2.2.2.2⟩
  have hF : w7.drew.cell? ⟨w.heap.size, 0, none⟩ = some (.int .i64 4) ∧ w7.drew.cell? ⟨w.heap.size, 1, none⟩ = some (.int .i64 2) ∧ w7.drew.cell? ⟨w.heap.size, 2, none⟩ = some (.int .i64 0) ∧ w7.drew.cell? ⟨w.heap.size, 3, none⟩ = some (.string ⟨#[]⟩) ∧ w7.drew.cell? ⟨w4.heap.size, 0, none⟩ = some (.int .i64 4) ∧ w7.drew.cell? ⟨w4.heap.size, 1, none⟩ = some (.int .i64 2) ∧ w7.drew.cell? ⟨w4.heap.size, 2, none⟩ = some (.int .i64 0) ∧ w7.drew.cell? ⟨w4.heap.size, 3, none⟩ = some (.string ⟨#[]⟩) ∧ w7.drew.cell? ⟨w1.heap.size, 0, none⟩ = some (.slice A1 n1 c1) ∧ w7.drew.cell? ⟨w1.heap.size, 1, none⟩ = some (.slice B1 m1 d1) ∧ w7.drew.cell? ⟨w2.heap.size, 0, none⟩ = some (.slice A2 n2 c2) ∧ w7.drew.cell? ⟨w2.heap.size, 1, none⟩ = some (.slice B2 m2 d2) ∧ w7.drew.cell? ⟨w3.heap.size, 0, none⟩ = some (.slice A3 n3 c3) ∧ w7.drew.cell? ⟨w3.heap.size, 1, none⟩ = some (.slice B3 m3 d3) := ⟨v0, v1, v2, v3, x0, x1, x2, x3, s0, s1, t0, t1, u0, u1⟩
  clear v0 v1 v2 v3 x0 x1 x2 x3 s0 s1 t0 t1 u0 u1
  refine Held.start (ops := opslvf) (S := fun w' => w'.cell? ⟨w.heap.size, 0, none⟩ = some (.int .i64 4) ∧ w'.cell? ⟨w.heap.size, 1, none⟩ = some (.int .i64 2) ∧ w'.cell? ⟨w.heap.size, 2, none⟩ = some (.int .i64 0) ∧ w'.cell? ⟨w.heap.size, 3, none⟩ = some (.string ⟨#[]⟩) ∧ w'.cell? ⟨w4.heap.size, 0, none⟩ = some (.int .i64 4) ∧ w'.cell? ⟨w4.heap.size, 1, none⟩ = some (.int .i64 2) ∧ w'.cell? ⟨w4.heap.size, 2, none⟩ = some (.int .i64 0) ∧ w'.cell? ⟨w4.heap.size, 3, none⟩ = some (.string ⟨#[]⟩) ∧ w'.cell? ⟨w1.heap.size, 0, none⟩ = some (.slice A1 n1 c1) ∧ w'.cell? ⟨w1.heap.size, 1, none⟩ = some (.slice B1 m1 d1) ∧ w'.cell? ⟨w2.heap.size, 0, none⟩ = some (.slice A2 n2 c2) ∧ w'.cell? ⟨w2.heap.size, 1, none⟩ = some (.slice B2 m2 d2) ∧ w'.cell? ⟨w3.heap.size, 0, none⟩ = some (.slice A3 n3 c3) ∧ w'.cell? ⟨w3.heap.size, 1, none⟩ = some (.slice B3 m3 d3)) ordlvf0 50 (by kernel_rfl) rgordlvf0.siz (by kernel_rfl) hF (fun hHeld => ?_)
  iterate 1
    refine Held.tw rgordlvf0 ?_
    try simp only [Act.put, zA, zB, zC, zD, zE, zF]
  refine Held.only (k := 1) (i := 1) (show Region.ready .any opslvf (Held.lst 50 ordlvf0 1) = [1] by kernel_rfl) (by kernel_rfl) rfl (by kernel_rfl) (fun K hK => ?_)
  go_simp
  go_at_call 22
  with_reducible refine (vOf_is n1 c1 A1 s15.1 m1 d1 B1 s15.2 _ sl ss ys zs (by omega) (by omega) ⟨#[98, 111, 98]⟩ _ l15h).mono ?_
  rintro e y1 ⟨q1, rfl, r1, hbx⟩
  obtain ⟨Q1, qc1, rfl⟩ := r1.form8 0 rfl
  clear r1
  replace hF := hMove.out _ _ hF hbx
  replace tl := tl.below hbx
  replace ts := ts.below hbx
  replace ul := ul.below hbx
  replace us := us.below hbx
  replace r12 := r12.below hbx
  replace r13 := r13.below hbx
  replace D := below_call D hbx
  clear hbx sl ss
  refine hK.out _ _ (by (try dsimp only); (exact hF)) (fun hHeld => ?_)
  clear hK K
  try simp only [Act.put, zA, zB, zC, zD, zE, zF]
  iterate 6
    refine Held.tw rgordlvf0 ?_
    try simp only [Act.put, zA, zB, zC, zD, zE, zF]
  refine Held.two (o := ordlvf0) (o1 := ordlvf0) (o2 := ordlvf1) (k := 8) (i := 6) (j := 9) (by kernel_rfl) (by kernel_rfl) (by kernel_rfl) rfl rfl (by kernel_rfl) (by kernel_rfl) (fun K hK => ?_) (fun K hK => ?_)
  · go_simp
    go_at_call 22
    with_reducible refine (vOf_is n2 c2 A2 t15.1 m2 d2 B2 t15.2 _ tl ts yt zt (by omega) (by omega) ⟨#[98, 111, 98]⟩ _ l15i).mono ?_
    rintro e y6 ⟨q6, rfl, r6, hbx⟩
    obtain ⟨Q6, qc6, rfl⟩ := r6.form8 1 rfl
    replace hF := hMove.out _ _ hF hbx
    replace tl := tl.below hbx
    replace ts := ts.below hbx
    replace ul := ul.below hbx
    replace us := us.below hbx
    replace r12 := r12.below hbx
    replace r13 := r13.below hbx
    replace D := below_call D hbx
    clear hbx
    refine hK.out _ _ (by (try dsimp only); (exact hF)) (fun hHeld => ?_)
    clear hK K
    try simp only [Act.put, zA, zB, zC, zD, zE, zF]
    refine Held.only (k := 9) (i := 9) (show Region.ready .any opslvf (Held.lst 50 ordlvf0 9) = [9] by kernel_rfl) (by kernel_rfl) rfl (by kernel_rfl) (fun K hK => ?_)
    go_simp
    have hbx := below_box (w := y6) (.cells #[.string ⟨#[97, 110, 110]⟩, .int .i64 4, .int .i64 2, .int .i64 0, .string ⟨#[]⟩] 59)
    have r9 := row15i y6
    replace hF := hMove.out _ _ hF hbx
    replace tl := tl.below hbx
    replace ts := ts.below hbx
    replace ul := ul.below hbx
    replace us := us.below hbx
    replace r12 := r12.below hbx
    replace r13 := r13.below hbx
    replace r6 := r6.below hbx
    replace D := below_call D hbx
    clear hbx
    refine hK.out _ _ (by (try dsimp only); (exact hF)) (fun hHeld => ?_)
    clear hK K
    try simp only [Act.put, zA, zB, zC, zD, zE, zF]
    refine Held.only (k := 10) (i := 10) (show Region.ready .any opslvf (Held.lst 50 ordlvf0 10) = [10] by kernel_rfl) (by kernel_rfl) rfl (by kernel_rfl) (fun K hK => ?_)
    go_simp
    go_at_call 21
    with_reducible refine (re_ (sameSn _ _ _ _ _ _ _ _ _ r6 r9) (ret_bool (decide_eq_true rfl))).mono ?_
    rintro e y10 ⟨rfl, hbx⟩
    replace hF := hMove.out _ _ hF hbx
    replace tl := tl.below hbx
    replace ts := ts.below hbx
    replace ul := ul.below hbx
    replace us := us.below hbx
    replace r12 := r12.below hbx
    replace r13 := r13.below hbx
    replace D := below_call D hbx
    clear hbx r6 r9
    refine hK.out _ _ (by (try dsimp only); (exact hF)) (fun hHeld => ?_)
    clear hK K
    try simp only [Act.put, zA, zB, zC, zD, zE, zF]
    iterate 15
      refine Held.tw rgordlvf0 ?_
      try simp only [Act.put, zA, zB, zC, zD, zE, zF]
    refine Held.two (o := ordlvf0) (o1 := ordlvf0) (o2 := ordlvf2) (k := 26) (i := 26) (j := 27) (by kernel_rfl) (by kernel_rfl) (by kernel_rfl) rfl rfl (by kernel_rfl) (by kernel_rfl) (fun K hK => ?_) (fun K hK => ?_)
    · go_simp
      go_at_call 25
      with_reducible refine (vWatch_is n2 c2 A2 t15.1 m2 d2 B2 t15.2 _ tl ts yt zt (by omega) (by omega) ⟨#[97, 110, 110]⟩ _ l15j).mono ?_
      rintro e y26 ⟨q26, rfl, r26, hbx⟩
      obtain ⟨Q26, qc26, rfl⟩ := r26.form8 1 rfl
      replace hF := hMove.out _ _ hF hbx
      replace tl := tl.below hbx
      replace ts := ts.below hbx
      replace ul := ul.below hbx
      replace us := us.below hbx
      replace r12 := r12.below hbx
      replace r13 := r13.below hbx
      replace D := below_call D hbx
      clear hbx
      refine hK.out _ _ (by (try dsimp only); (exact hF)) (fun hHeld => ?_)
      clear hK K
      try simp only [Act.put, zA, zB, zC, zD, zE, zF]
      refine Held.only (k := 27) (i := 27) (show Region.ready .any opslvf (Held.lst 50 ordlvf0 27) = [27] by kernel_rfl) (by kernel_rfl) rfl (by kernel_rfl) (fun K hK => ?_)
      go_simp
      have hbx := below_box (w := y26) (.cells #[.string ⟨#[98, 111, 98]⟩] 9)
      have r27 := row15j y26
      replace hF := hMove.out _ _ hF hbx
      replace tl := tl.below hbx
      replace ts := ts.below hbx
      replace ul := ul.below hbx
      replace us := us.below hbx
      replace r12 := r12.below hbx
      replace r13 := r13.below hbx
      replace r26 := r26.below hbx
      replace D := below_call D hbx
      clear hbx
      refine hK.out _ _ (by (try dsimp only); (exact hF)) (fun hHeld => ?_)
      clear hK K
      try simp only [Act.put, zA, zB, zC, zD, zE, zF]
      refine Held.only (k := 28) (i := 28) (show Region.ready .any opslvf (Held.lst 50 ordlvf0 28) = [28] by kernel_rfl) (by kernel_rfl) rfl (by kernel_rfl) (fun K hK => ?_)
      go_simp
      go_at_call 24
      with_reducible refine (re_ (refSame_calls _ _ _ _ _ _ _ _ _ r26 r27) (ret_bool (decide_eq_true rfl))).mono ?_
      rintro e y28 ⟨rfl, hbx⟩
      replace hF := hMove.out _ _ hF hbx
      replace tl := tl.below hbx
      replace ts := ts.below hbx
      replace ul := ul.below hbx
      replace us := us.below hbx
      replace r12 := r12.below hbx
      replace r13 := r13.below hbx
      replace D := below_call D hbx
      clear hbx r26 r27
      refine hK.out _ _ (by (try dsimp only); (exact hF)) (fun hHeld => ?_)
      clear hK K
      try simp only [Act.put, zA, zB, zC, zD, zE, zF]
      iterate 3
        refine Held.tw rgordlvf0 ?_
        try simp only [Act.put, zA, zB, zC, zD, zE, zF]
      refine Held.only (k := 32) (i := 32) (show Region.ready .any opslvf (Held.lst 50 ordlvf0 32) = [32] by kernel_rfl) (by kernel_rfl) rfl (by kernel_rfl) (fun K hK => ?_)
      go_simp
      go_at_call 25
      with_reducible refine (vWatch_is n3 c3 A3 u15.1 m3 d3 B3 u15.2 _ ul us yu zu (by omega) (by omega) ⟨#[97, 110, 110]⟩ _ l15k).mono ?_
      rintro e y32 ⟨q32, rfl, r32, hbx⟩
      obtain ⟨Q32, qc32, rfl⟩ := r32.form8 0 rfl
      clear r32
      replace hF := hMove.out _ _ hF hbx
      replace tl := tl.below hbx
      replace ts := ts.below hbx
      replace ul := ul.below hbx
      replace us := us.below hbx
      replace r12 := r12.below hbx
      replace r13 := r13.below hbx
      replace D := below_call D hbx
      clear hbx
      refine hK.out _ _ (by (try dsimp only); (exact hF)) (fun hHeld => ?_)
      clear hK K
      try simp only [Act.put, zA, zB, zC, zD, zE, zF]
      iterate 7
        refine Held.tw rgordlvf0 ?_
        try simp only [Act.put, zA, zB, zC, zD, zE, zF]
      refine Held.only (k := 40) (i := 40) (show Region.ready .any opslvf (Held.lst 50 ordlvf0 40) = [40] by kernel_rfl) (by kernel_rfl) rfl (by kernel_rfl) (fun K hK => ?_)
      go_simp
      have hbx := below_box (w := y32) (.cells #[.string ⟨#[97, 110, 110]⟩, .bool true, .int .i64 4, .int .i64 2, .int .i64 0, .string ⟨#[]⟩] 65)
      have r40 := row15f y32
      replace hF := hMove.out _ _ hF hbx
      replace tl := tl.below hbx
      replace ts := ts.below hbx
      replace ul := ul.below hbx
      replace us := us.below hbx
      replace r12 := r12.below hbx
      replace r13 := r13.below hbx
      replace D := below_call D hbx
      clear hbx
      refine hK.out _ _ (by (try dsimp only); (exact hF)) (fun hHeld => ?_)
      clear hK K
      try simp only [Act.put, zA, zB, zC, zD, zE, zF]
      refine Held.only (k := 41) (i := 41) (show Region.ready .any opslvf (Held.lst 50 ordlvf0 41) = [41] by kernel_rfl) (by kernel_rfl) rfl (by kernel_rfl) (fun K hK => ?_)
      go_simp
      go_at_call 27
      with_reducible refine (re_ (sameCh _ _ _ _ _ _ _ _ _ r12 r40) (ret_bool (decide_eq_true rfl))).mono ?_
      rintro e y41 ⟨rfl, hbx⟩
      replace hF := hMove.out _ _ hF hbx
      replace tl := tl.below hbx
      replace ts := ts.below hbx
      replace ul := ul.below hbx
      replace us := us.below hbx
      replace r13 := r13.below hbx
      replace D := below_call D hbx
      clear hbx r12 r40
      refine hK.out _ _ (by (try dsimp only); (exact hF)) (fun hHeld => ?_)
      clear hK K
      try simp only [Act.put, zA, zB, zC, zD, zE, zF]
      iterate 4
        refine Held.tw rgordlvf0 ?_
        try simp only [Act.put, zA, zB, zC, zD, zE, zF]
      refine Held.only (k := 46) (i := 46) (show Region.ready .any opslvf (Held.lst 50 ordlvf0 46) = [46] by kernel_rfl) (by kernel_rfl) rfl (by kernel_rfl) (fun K hK => ?_)
      go_simp
      have hbx := below_box (w := y41) (.cells #[.string ⟨#[97, 110, 110]⟩, .bool false, .int .i64 0, .int .i64 0, .int .i64 0, .string ⟨#[]⟩] 65)
      have r46 := row15g y41
      replace hF := hMove.out _ _ hF hbx
      replace tl := tl.below hbx
      replace ts := ts.below hbx
      replace ul := ul.below hbx
      replace us := us.below hbx
      replace r13 := r13.below hbx
      replace D := below_call D hbx
      clear hbx
      refine hK.out _ _ (by (try dsimp only); (exact hF)) (fun hHeld => ?_)
      clear hK K
      try simp only [Act.put, zA, zB, zC, zD, zE, zF]
      refine Held.only (k := 47) (i := 47) (show Region.ready .any opslvf (Held.lst 50 ordlvf0 47) = [47] by kernel_rfl) (by kernel_rfl) rfl (by kernel_rfl) (fun K hK => ?_)
      go_simp
      go_at_call 27
      with_reducible refine (re_ (sameCh _ _ _ _ _ _ _ _ _ r13 r46) (ret_bool (decide_eq_true rfl))).mono ?_
      rintro e y47 ⟨rfl, hbx⟩
      replace hF := hMove.out _ _ hF hbx
      replace tl := tl.below hbx
      replace ts := ts.below hbx
      replace ul := ul.below hbx
      replace us := us.below hbx
      replace D := below_call D hbx
      clear hbx r13 r46
      refine hK.out _ _ (by (try dsimp only); (exact hF)) (fun hHeld => ?_)
      clear hK K
      try simp only [Act.put, zA, zB, zC, zD, zE, zF]
      iterate 2
        refine Held.tw rgordlvf0 ?_
        try simp only [Act.put, zA, zB, zC, zD, zE, zF]
      refine wpAnyH_done (by kernel_rfl) ?_ _
      go_wp2
      go_ret
      exact ⟨rfl, D⟩
    · go_simp
      have hbx := below_box (w := y10) (.cells #[.string ⟨#[98, 111, 98]⟩] 9)
      have r27 := row15j y10
      replace hF := hMove.out _ _ hF hbx
      replace tl := tl.below hbx
      replace ts := ts.below hbx
      replace ul := ul.below hbx
      replace us := us.below hbx
      replace r12 := r12.below hbx
      replace r13 := r13.below hbx
      replace D := below_call D hbx
      clear hbx
      refine hK.out _ _ (by (try dsimp only); (exact hF)) (fun hHeld => ?_)
      clear hK K
      try simp only [Act.put, zA, zB, zC, zD, zE, zF]
      refine Held.only (k := 27) (i := 26) (show Region.ready .any opslvf (Held.lst 50 ordlvf2 27) = [26] by kernel_rfl) (by kernel_rfl) rfl (by kernel_rfl) (fun K hK => ?_)
      go_simp
      go_at_call 25
      with_reducible refine (vWatch_is n2 c2 A2 t15.1 m2 d2 B2 t15.2 _ tl ts yt zt (by omega) (by omega) ⟨#[97, 110, 110]⟩ _ l15j).mono ?_
      rintro e y26 ⟨q26, rfl, r26, hbx⟩
      obtain ⟨Q26, qc26, rfl⟩ := r26.form8 1 rfl
      replace hF := hMove.out _ _ hF hbx
      replace tl := tl.below hbx
      replace ts := ts.below hbx
      replace ul := ul.below hbx
      replace us := us.below hbx
      replace r12 := r12.below hbx
      replace r13 := r13.below hbx
      replace r27 := r27.below hbx
      replace D := below_call D hbx
      clear hbx
      refine hK.out _ _ (by (try dsimp only); (exact hF)) (fun hHeld => ?_)
      clear hK K
      try simp only [Act.put, zA, zB, zC, zD, zE, zF]
      refine Held.only (k := 28) (i := 28) (show Region.ready .any opslvf (Held.lst 50 ordlvf2 28) = [28] by kernel_rfl) (by kernel_rfl) rfl (by kernel_rfl) (fun K hK => ?_)
      go_simp
      go_at_call 24
      with_reducible refine (re_ (refSame_calls _ _ _ _ _ _ _ _ _ r26 r27) (ret_bool (decide_eq_true rfl))).mono ?_
      rintro e y28 ⟨rfl, hbx⟩
      replace hF := hMove.out _ _ hF hbx
      replace tl := tl.below hbx
      replace ts := ts.below hbx
      replace ul := ul.below hbx
      replace us := us.below hbx
      replace r12 := r12.below hbx
      replace r13 := r13.below hbx
      replace D := below_call D hbx
      clear hbx r26 r27
      refine hK.out _ _ (by (try dsimp only); (exact hF)) (fun hHeld => ?_)
      clear hK K
      try simp only [Act.put, zA, zB, zC, zD, zE, zF]
      iterate 3
        refine Held.tw rgordlvf2 ?_
        try simp only [Act.put, zA, zB, zC, zD, zE, zF]
      refine Held.only (k := 32) (i := 32) (show Region.ready .any opslvf (Held.lst 50 ordlvf2 32) = [32] by kernel_rfl) (by kernel_rfl) rfl (by kernel_rfl) (fun K hK => ?_)
      go_simp
      go_at_call 25
      with_reducible refine (vWatch_is n3 c3 A3 u15.1 m3 d3 B3 u15.2 _ ul us yu zu (by omega) (by omega) ⟨#[97, 110, 110]⟩ _ l15k).mono ?_
      rintro e y32 ⟨q32, rfl, r32, hbx⟩
      obtain ⟨Q32, qc32, rfl⟩ := r32.form8 0 rfl
      clear r32
      replace hF := hMove.out _ _ hF hbx
      replace tl := tl.below hbx
      replace ts := ts.below hbx
      replace ul := ul.below hbx
      replace us := us.below hbx
      replace r12 := r12.below hbx
      replace r13 := r13.below hbx
      replace D := below_call D hbx
      clear hbx
      refine hK.out _ _ (by (try dsimp only); (exact hF)) (fun hHeld => ?_)
      clear hK K
      try simp only [Act.put, zA, zB, zC, zD, zE, zF]
      iterate 7
        refine Held.tw rgordlvf2 ?_
        try simp only [Act.put, zA, zB, zC, zD, zE, zF]
      refine Held.only (k := 40) (i := 40) (show Region.ready .any opslvf (Held.lst 50 ordlvf2 40) = [40] by kernel_rfl) (by kernel_rfl) rfl (by kernel_rfl) (fun K hK => ?_)
      go_simp
      have hbx := below_box (w := y32) (.cells #[.string ⟨#[97, 110, 110]⟩, .bool true, .int .i64 4, .int .i64 2, .int .i64 0, .string ⟨#[]⟩] 65)
      have r40 := row15f y32
      replace hF := hMove.out _ _ hF hbx
      replace tl := tl.below hbx
      replace ts := ts.below hbx
      replace ul := ul.below hbx
      replace us := us.below hbx
      replace r12 := r12.below hbx
      replace r13 := r13.below hbx
      replace D := below_call D hbx
      clear hbx
      refine hK.out _ _ (by (try dsimp only); (exact hF)) (fun hHeld => ?_)
      clear hK K
      try simp only [Act.put, zA, zB, zC, zD, zE, zF]
      refine Held.only (k := 41) (i := 41) (show Region.ready .any opslvf (Held.lst 50 ordlvf2 41) = [41] by kernel_rfl) (by kernel_rfl) rfl (by kernel_rfl) (fun K hK => ?_)
      go_simp
      go_at_call 27
      with_reducible refine (re_ (sameCh _ _ _ _ _ _ _ _ _ r12 r40) (ret_bool (decide_eq_true rfl))).mono ?_
      rintro e y41 ⟨rfl, hbx⟩
      replace hF := hMove.out _ _ hF hbx
      replace tl := tl.below hbx
      replace ts := ts.below hbx
      replace ul := ul.below hbx
      replace us := us.below hbx
      replace r13 := r13.below hbx
      replace D := below_call D hbx
      clear hbx r12 r40
      refine hK.out _ _ (by (try dsimp only); (exact hF)) (fun hHeld => ?_)
      clear hK K
      try simp only [Act.put, zA, zB, zC, zD, zE, zF]
      iterate 4
        refine Held.tw rgordlvf2 ?_
        try simp only [Act.put, zA, zB, zC, zD, zE, zF]
      refine Held.only (k := 46) (i := 46) (show Region.ready .any opslvf (Held.lst 50 ordlvf2 46) = [46] by kernel_rfl) (by kernel_rfl) rfl (by kernel_rfl) (fun K hK => ?_)
      go_simp
      have hbx := below_box (w := y41) (.cells #[.string ⟨#[97, 110, 110]⟩, .bool false, .int .i64 0, .int .i64 0, .int .i64 0, .string ⟨#[]⟩] 65)
      have r46 := row15g y41
      replace hF := hMove.out _ _ hF hbx
      replace tl := tl.below hbx
      replace ts := ts.below hbx
      replace ul := ul.below hbx
      replace us := us.below hbx
      replace r13 := r13.below hbx
      replace D := below_call D hbx
      clear hbx
      refine hK.out _ _ (by (try dsimp only); (exact hF)) (fun hHeld => ?_)
      clear hK K
      try simp only [Act.put, zA, zB, zC, zD, zE, zF]
      refine Held.only (k := 47) (i := 47) (show Region.ready .any opslvf (Held.lst 50 ordlvf2 47) = [47] by kernel_rfl) (by kernel_rfl) rfl (by kernel_rfl) (fun K hK => ?_)
      go_simp
      go_at_call 27
      with_reducible refine (re_ (sameCh _ _ _ _ _ _ _ _ _ r13 r46) (ret_bool (decide_eq_true rfl))).mono ?_
      rintro e y47 ⟨rfl, hbx⟩
      replace hF := hMove.out _ _ hF hbx
      replace tl := tl.below hbx
      replace ts := ts.below hbx
      replace ul := ul.below hbx
      replace us := us.below hbx
      replace D := below_call D hbx
      clear hbx r13 r46
      refine hK.out _ _ (by (try dsimp only); (exact hF)) (fun hHeld => ?_)
      clear hK K
      try simp only [Act.put, zA, zB, zC, zD, zE, zF]
      iterate 2
        refine Held.tw rgordlvf2 ?_
        try simp only [Act.put, zA, zB, zC, zD, zE, zF]
      refine wpAnyH_done (by kernel_rfl) ?_ _
      go_wp2
      go_ret
      exact ⟨rfl, D⟩
  · go_simp
    have hbx := below_box (w := y1) (.cells #[.string ⟨#[97, 110, 110]⟩, .int .i64 4, .int .i64 2, .int .i64 0, .string ⟨#[]⟩] 59)
    have r9 := row15i y1
    replace hF := hMove.out _ _ hF hbx
    replace tl := tl.below hbx
    replace ts := ts.below hbx
    replace ul := ul.below hbx
    replace us := us.below hbx
    replace r12 := r12.below hbx
    replace r13 := r13.below hbx
    replace D := below_call D hbx
    clear hbx
    refine hK.out _ _ (by (try dsimp only); (exact hF)) (fun hHeld => ?_)
    clear hK K
    try simp only [Act.put, zA, zB, zC, zD, zE, zF]
    refine Held.only (k := 9) (i := 6) (show Region.ready .any opslvf (Held.lst 50 ordlvf1 9) = [6] by kernel_rfl) (by kernel_rfl) rfl (by kernel_rfl) (fun K hK => ?_)
    go_simp
    go_at_call 22
    with_reducible refine (vOf_is n2 c2 A2 t15.1 m2 d2 B2 t15.2 _ tl ts yt zt (by omega) (by omega) ⟨#[98, 111, 98]⟩ _ l15i).mono ?_
    rintro e y6 ⟨q6, rfl, r6, hbx⟩
    obtain ⟨Q6, qc6, rfl⟩ := r6.form8 1 rfl
    replace hF := hMove.out _ _ hF hbx
    replace tl := tl.below hbx
    replace ts := ts.below hbx
    replace ul := ul.below hbx
    replace us := us.below hbx
    replace r12 := r12.below hbx
    replace r13 := r13.below hbx
    replace r9 := r9.below hbx
    replace D := below_call D hbx
    clear hbx
    refine hK.out _ _ (by (try dsimp only); (exact hF)) (fun hHeld => ?_)
    clear hK K
    try simp only [Act.put, zA, zB, zC, zD, zE, zF]
    refine Held.only (k := 10) (i := 10) (show Region.ready .any opslvf (Held.lst 50 ordlvf1 10) = [10] by kernel_rfl) (by kernel_rfl) rfl (by kernel_rfl) (fun K hK => ?_)
    go_simp
    go_at_call 21
    with_reducible refine (re_ (sameSn _ _ _ _ _ _ _ _ _ r6 r9) (ret_bool (decide_eq_true rfl))).mono ?_
    rintro e y10 ⟨rfl, hbx⟩
    replace hF := hMove.out _ _ hF hbx
    replace tl := tl.below hbx
    replace ts := ts.below hbx
    replace ul := ul.below hbx
    replace us := us.below hbx
    replace r12 := r12.below hbx
    replace r13 := r13.below hbx
    replace D := below_call D hbx
    clear hbx r6 r9
    refine hK.out _ _ (by (try dsimp only); (exact hF)) (fun hHeld => ?_)
    clear hK K
    try simp only [Act.put, zA, zB, zC, zD, zE, zF]
    iterate 15
      refine Held.tw rgordlvf1 ?_
      try simp only [Act.put, zA, zB, zC, zD, zE, zF]
    refine Held.two (o := ordlvf1) (o1 := ordlvf1) (o2 := ordlvf3) (k := 26) (i := 26) (j := 27) (by kernel_rfl) (by kernel_rfl) (by kernel_rfl) rfl rfl (by kernel_rfl) (by kernel_rfl) (fun K hK => ?_) (fun K hK => ?_)
    · go_simp
      go_at_call 25
      with_reducible refine (vWatch_is n2 c2 A2 t15.1 m2 d2 B2 t15.2 _ tl ts yt zt (by omega) (by omega) ⟨#[97, 110, 110]⟩ _ l15j).mono ?_
      rintro e y26 ⟨q26, rfl, r26, hbx⟩
      obtain ⟨Q26, qc26, rfl⟩ := r26.form8 1 rfl
      replace hF := hMove.out _ _ hF hbx
      replace tl := tl.below hbx
      replace ts := ts.below hbx
      replace ul := ul.below hbx
      replace us := us.below hbx
      replace r12 := r12.below hbx
      replace r13 := r13.below hbx
      replace D := below_call D hbx
      clear hbx
      refine hK.out _ _ (by (try dsimp only); (exact hF)) (fun hHeld => ?_)
      clear hK K
      try simp only [Act.put, zA, zB, zC, zD, zE, zF]
      refine Held.only (k := 27) (i := 27) (show Region.ready .any opslvf (Held.lst 50 ordlvf1 27) = [27] by kernel_rfl) (by kernel_rfl) rfl (by kernel_rfl) (fun K hK => ?_)
      go_simp
      have hbx := below_box (w := y26) (.cells #[.string ⟨#[98, 111, 98]⟩] 9)
      have r27 := row15j y26
      replace hF := hMove.out _ _ hF hbx
      replace tl := tl.below hbx
      replace ts := ts.below hbx
      replace ul := ul.below hbx
      replace us := us.below hbx
      replace r12 := r12.below hbx
      replace r13 := r13.below hbx
      replace r26 := r26.below hbx
      replace D := below_call D hbx
      clear hbx
      refine hK.out _ _ (by (try dsimp only); (exact hF)) (fun hHeld => ?_)
      clear hK K
      try simp only [Act.put, zA, zB, zC, zD, zE, zF]
      refine Held.only (k := 28) (i := 28) (show Region.ready .any opslvf (Held.lst 50 ordlvf1 28) = [28] by kernel_rfl) (by kernel_rfl) rfl (by kernel_rfl) (fun K hK => ?_)
      go_simp
      go_at_call 24
      with_reducible refine (re_ (refSame_calls _ _ _ _ _ _ _ _ _ r26 r27) (ret_bool (decide_eq_true rfl))).mono ?_
      rintro e y28 ⟨rfl, hbx⟩
      replace hF := hMove.out _ _ hF hbx
      replace tl := tl.below hbx
      replace ts := ts.below hbx
      replace ul := ul.below hbx
      replace us := us.below hbx
      replace r12 := r12.below hbx
      replace r13 := r13.below hbx
      replace D := below_call D hbx
      clear hbx r26 r27
      refine hK.out _ _ (by (try dsimp only); (exact hF)) (fun hHeld => ?_)
      clear hK K
      try simp only [Act.put, zA, zB, zC, zD, zE, zF]
      iterate 3
        refine Held.tw rgordlvf1 ?_
        try simp only [Act.put, zA, zB, zC, zD, zE, zF]
      refine Held.only (k := 32) (i := 32) (show Region.ready .any opslvf (Held.lst 50 ordlvf1 32) = [32] by kernel_rfl) (by kernel_rfl) rfl (by kernel_rfl) (fun K hK => ?_)
      go_simp
      go_at_call 25
      with_reducible refine (vWatch_is n3 c3 A3 u15.1 m3 d3 B3 u15.2 _ ul us yu zu (by omega) (by omega) ⟨#[97, 110, 110]⟩ _ l15k).mono ?_
      rintro e y32 ⟨q32, rfl, r32, hbx⟩
      obtain ⟨Q32, qc32, rfl⟩ := r32.form8 0 rfl
      clear r32
      replace hF := hMove.out _ _ hF hbx
      replace tl := tl.below hbx
      replace ts := ts.below hbx
      replace ul := ul.below hbx
      replace us := us.below hbx
      replace r12 := r12.below hbx
      replace r13 := r13.below hbx
      replace D := below_call D hbx
      clear hbx
      refine hK.out _ _ (by (try dsimp only); (exact hF)) (fun hHeld => ?_)
      clear hK K
      try simp only [Act.put, zA, zB, zC, zD, zE, zF]
      iterate 7
        refine Held.tw rgordlvf1 ?_
        try simp only [Act.put, zA, zB, zC, zD, zE, zF]
      refine Held.only (k := 40) (i := 40) (show Region.ready .any opslvf (Held.lst 50 ordlvf1 40) = [40] by kernel_rfl) (by kernel_rfl) rfl (by kernel_rfl) (fun K hK => ?_)
      go_simp
      have hbx := below_box (w := y32) (.cells #[.string ⟨#[97, 110, 110]⟩, .bool true, .int .i64 4, .int .i64 2, .int .i64 0, .string ⟨#[]⟩] 65)
      have r40 := row15f y32
      replace hF := hMove.out _ _ hF hbx
      replace tl := tl.below hbx
      replace ts := ts.below hbx
      replace ul := ul.below hbx
      replace us := us.below hbx
      replace r12 := r12.below hbx
      replace r13 := r13.below hbx
      replace D := below_call D hbx
      clear hbx
      refine hK.out _ _ (by (try dsimp only); (exact hF)) (fun hHeld => ?_)
      clear hK K
      try simp only [Act.put, zA, zB, zC, zD, zE, zF]
      refine Held.only (k := 41) (i := 41) (show Region.ready .any opslvf (Held.lst 50 ordlvf1 41) = [41] by kernel_rfl) (by kernel_rfl) rfl (by kernel_rfl) (fun K hK => ?_)
      go_simp
      go_at_call 27
      with_reducible refine (re_ (sameCh _ _ _ _ _ _ _ _ _ r12 r40) (ret_bool (decide_eq_true rfl))).mono ?_
      rintro e y41 ⟨rfl, hbx⟩
      replace hF := hMove.out _ _ hF hbx
      replace tl := tl.below hbx
      replace ts := ts.below hbx
      replace ul := ul.below hbx
      replace us := us.below hbx
      replace r13 := r13.below hbx
      replace D := below_call D hbx
      clear hbx r12 r40
      refine hK.out _ _ (by (try dsimp only); (exact hF)) (fun hHeld => ?_)
      clear hK K
      try simp only [Act.put, zA, zB, zC, zD, zE, zF]
      iterate 4
        refine Held.tw rgordlvf1 ?_
        try simp only [Act.put, zA, zB, zC, zD, zE, zF]
      refine Held.only (k := 46) (i := 46) (show Region.ready .any opslvf (Held.lst 50 ordlvf1 46) = [46] by kernel_rfl) (by kernel_rfl) rfl (by kernel_rfl) (fun K hK => ?_)
      go_simp
      have hbx := below_box (w := y41) (.cells #[.string ⟨#[97, 110, 110]⟩, .bool false, .int .i64 0, .int .i64 0, .int .i64 0, .string ⟨#[]⟩] 65)
      have r46 := row15g y41
      replace hF := hMove.out _ _ hF hbx
      replace tl := tl.below hbx
      replace ts := ts.below hbx
      replace ul := ul.below hbx
      replace us := us.below hbx
      replace r13 := r13.below hbx
      replace D := below_call D hbx
      clear hbx
      refine hK.out _ _ (by (try dsimp only); (exact hF)) (fun hHeld => ?_)
      clear hK K
      try simp only [Act.put, zA, zB, zC, zD, zE, zF]
      refine Held.only (k := 47) (i := 47) (show Region.ready .any opslvf (Held.lst 50 ordlvf1 47) = [47] by kernel_rfl) (by kernel_rfl) rfl (by kernel_rfl) (fun K hK => ?_)
      go_simp
      go_at_call 27
      with_reducible refine (re_ (sameCh _ _ _ _ _ _ _ _ _ r13 r46) (ret_bool (decide_eq_true rfl))).mono ?_
      rintro e y47 ⟨rfl, hbx⟩
      replace hF := hMove.out _ _ hF hbx
      replace tl := tl.below hbx
      replace ts := ts.below hbx
      replace ul := ul.below hbx
      replace us := us.below hbx
      replace D := below_call D hbx
      clear hbx r13 r46
      refine hK.out _ _ (by (try dsimp only); (exact hF)) (fun hHeld => ?_)
      clear hK K
      try simp only [Act.put, zA, zB, zC, zD, zE, zF]
      iterate 2
        refine Held.tw rgordlvf1 ?_
        try simp only [Act.put, zA, zB, zC, zD, zE, zF]
      refine wpAnyH_done (by kernel_rfl) ?_ _
      go_wp2
      go_ret
      exact ⟨rfl, D⟩
    · go_simp
      have hbx := below_box (w := y10) (.cells #[.string ⟨#[98, 111, 98]⟩] 9)
      have r27 := row15j y10
      replace hF := hMove.out _ _ hF hbx
      replace tl := tl.below hbx
      replace ts := ts.below hbx
      replace ul := ul.below hbx
      replace us := us.below hbx
      replace r12 := r12.below hbx
      replace r13 := r13.below hbx
      replace D := below_call D hbx
      clear hbx
      refine hK.out _ _ (by (try dsimp only); (exact hF)) (fun hHeld => ?_)
      clear hK K
      try simp only [Act.put, zA, zB, zC, zD, zE, zF]
      refine Held.only (k := 27) (i := 26) (show Region.ready .any opslvf (Held.lst 50 ordlvf3 27) = [26] by kernel_rfl) (by kernel_rfl) rfl (by kernel_rfl) (fun K hK => ?_)
      go_simp
      go_at_call 25
      with_reducible refine (vWatch_is n2 c2 A2 t15.1 m2 d2 B2 t15.2 _ tl ts yt zt (by omega) (by omega) ⟨#[97, 110, 110]⟩ _ l15j).mono ?_
      rintro e y26 ⟨q26, rfl, r26, hbx⟩
      obtain ⟨Q26, qc26, rfl⟩ := r26.form8 1 rfl
      replace hF := hMove.out _ _ hF hbx
      replace tl := tl.below hbx
      replace ts := ts.below hbx
      replace ul := ul.below hbx
      replace us := us.below hbx
      replace r12 := r12.below hbx
      replace r13 := r13.below hbx
      replace r27 := r27.below hbx
      replace D := below_call D hbx
      clear hbx
      refine hK.out _ _ (by (try dsimp only); (exact hF)) (fun hHeld => ?_)
      clear hK K
      try simp only [Act.put, zA, zB, zC, zD, zE, zF]
      refine Held.only (k := 28) (i := 28) (show Region.ready .any opslvf (Held.lst 50 ordlvf3 28) = [28] by kernel_rfl) (by kernel_rfl) rfl (by kernel_rfl) (fun K hK => ?_)
      go_simp
      go_at_call 24
      with_reducible refine (re_ (refSame_calls _ _ _ _ _ _ _ _ _ r26 r27) (ret_bool (decide_eq_true rfl))).mono ?_
      rintro e y28 ⟨rfl, hbx⟩
      replace hF := hMove.out _ _ hF hbx
      replace tl := tl.below hbx
      replace ts := ts.below hbx
      replace ul := ul.below hbx
      replace us := us.below hbx
      replace r12 := r12.below hbx
      replace r13 := r13.below hbx
      replace D := below_call D hbx
      clear hbx r26 r27
      refine hK.out _ _ (by (try dsimp only); (exact hF)) (fun hHeld => ?_)
      clear hK K
      try simp only [Act.put, zA, zB, zC, zD, zE, zF]
      iterate 3
        refine Held.tw rgordlvf3 ?_
        try simp only [Act.put, zA, zB, zC, zD, zE, zF]
      refine Held.only (k := 32) (i := 32) (show Region.ready .any opslvf (Held.lst 50 ordlvf3 32) = [32] by kernel_rfl) (by kernel_rfl) rfl (by kernel_rfl) (fun K hK => ?_)
      go_simp
      go_at_call 25
      with_reducible refine (vWatch_is n3 c3 A3 u15.1 m3 d3 B3 u15.2 _ ul us yu zu (by omega) (by omega) ⟨#[97, 110, 110]⟩ _ l15k).mono ?_
      rintro e y32 ⟨q32, rfl, r32, hbx⟩
      obtain ⟨Q32, qc32, rfl⟩ := r32.form8 0 rfl
      clear r32
      replace hF := hMove.out _ _ hF hbx
      replace tl := tl.below hbx
      replace ts := ts.below hbx
      replace ul := ul.below hbx
      replace us := us.below hbx
      replace r12 := r12.below hbx
      replace r13 := r13.below hbx
      replace D := below_call D hbx
      clear hbx
      refine hK.out _ _ (by (try dsimp only); (exact hF)) (fun hHeld => ?_)
      clear hK K
      try simp only [Act.put, zA, zB, zC, zD, zE, zF]
      iterate 7
        refine Held.tw rgordlvf3 ?_
        try simp only [Act.put, zA, zB, zC, zD, zE, zF]
      refine Held.only (k := 40) (i := 40) (show Region.ready .any opslvf (Held.lst 50 ordlvf3 40) = [40] by kernel_rfl) (by kernel_rfl) rfl (by kernel_rfl) (fun K hK => ?_)
      go_simp
      have hbx := below_box (w := y32) (.cells #[.string ⟨#[97, 110, 110]⟩, .bool true, .int .i64 4, .int .i64 2, .int .i64 0, .string ⟨#[]⟩] 65)
      have r40 := row15f y32
      replace hF := hMove.out _ _ hF hbx
      replace tl := tl.below hbx
      replace ts := ts.below hbx
      replace ul := ul.below hbx
      replace us := us.below hbx
      replace r12 := r12.below hbx
      replace r13 := r13.below hbx
      replace D := below_call D hbx
      clear hbx
      refine hK.out _ _ (by (try dsimp only); (exact hF)) (fun hHeld => ?_)
      clear hK K
      try simp only [Act.put, zA, zB, zC, zD, zE, zF]
      refine Held.only (k := 41) (i := 41) (show Region.ready .any opslvf (Held.lst 50 ordlvf3 41) = [41] by kernel_rfl) (by kernel_rfl) rfl (by kernel_rfl) (fun K hK => ?_)
      go_simp
      go_at_call 27
      with_reducible refine (re_ (sameCh _ _ _ _ _ _ _ _ _ r12 r40) (ret_bool (decide_eq_true rfl))).mono ?_
      rintro e y41 ⟨rfl, hbx⟩
      replace hF := hMove.out _ _ hF hbx
      replace tl := tl.below hbx
      replace ts := ts.below hbx
      replace ul := ul.below hbx
      replace us := us.below hbx
      replace r13 := r13.below hbx
      replace D := below_call D hbx
      clear hbx r12 r40
      refine hK.out _ _ (by (try dsimp only); (exact hF)) (fun hHeld => ?_)
      clear hK K
      try simp only [Act.put, zA, zB, zC, zD, zE, zF]
      iterate 4
        refine Held.tw rgordlvf3 ?_
        try simp only [Act.put, zA, zB, zC, zD, zE, zF]
      refine Held.only (k := 46) (i := 46) (show Region.ready .any opslvf (Held.lst 50 ordlvf3 46) = [46] by kernel_rfl) (by kernel_rfl) rfl (by kernel_rfl) (fun K hK => ?_)
      go_simp
      have hbx := below_box (w := y41) (.cells #[.string ⟨#[97, 110, 110]⟩, .bool false, .int .i64 0, .int .i64 0, .int .i64 0, .string ⟨#[]⟩] 65)
      have r46 := row15g y41
      replace hF := hMove.out _ _ hF hbx
      replace tl := tl.below hbx
      replace ts := ts.below hbx
      replace ul := ul.below hbx
      replace us := us.below hbx
      replace r13 := r13.below hbx
      replace D := below_call D hbx
      clear hbx
      refine hK.out _ _ (by (try dsimp only); (exact hF)) (fun hHeld => ?_)
      clear hK K
      try simp only [Act.put, zA, zB, zC, zD, zE, zF]
      refine Held.only (k := 47) (i := 47) (show Region.ready .any opslvf (Held.lst 50 ordlvf3 47) = [47] by kernel_rfl) (by kernel_rfl) rfl (by kernel_rfl) (fun K hK => ?_)
      go_simp
      go_at_call 27
      with_reducible refine (re_ (sameCh _ _ _ _ _ _ _ _ _ r13 r46) (ret_bool (decide_eq_true rfl))).mono ?_
      rintro e y47 ⟨rfl, hbx⟩
      replace hF := hMove.out _ _ hF hbx
      replace tl := tl.below hbx
      replace ts := ts.below hbx
      replace ul := ul.below hbx
      replace us := us.below hbx
      replace D := below_call D hbx
      clear hbx r13 r46
      refine hK.out _ _ (by (try dsimp only); (exact hF)) (fun hHeld => ?_)
      clear hK K
      try simp only [Act.put, zA, zB, zC, zD, zE, zF]
      iterate 2
        refine Held.tw rgordlvf3 ?_
        try simp only [Act.put, zA, zB, zC, zD, zE, zF]
      refine wpAnyH_done (by kernel_rfl) ?_ _
      go_wp2
      go_ret
      exact ⟨rfl, D⟩
end Go.Proofs.YtbpfcjdjhponaaaGreat
namespace Go.Proofs.YtbpfcjdjhponaaaGreat
namespace Sp
theorem dropSe_is {l m : List Se} {k : SeK} (hm : maySe l = true) (h : dropSe l k = (m, 0)) : ∃ x, getK keySe l k = some x ∧ m = delK keySe l k := by
  cases hg : getK keySe l k with
  | some x =>
    rw [dropSe_ok hm hg] at h
    injection h with h1 h2
    exact ⟨x, rfl, h1.symm⟩
  | none =>
    unfold dropSe at h
    rw [if_neg (by rw [hm]; decide), idxSe_none.2 hg] at h
    simp only at h
    injection h with h1 h2
    exact absurd h2 (by decide)
theorem mayT_and {s : Sta} : mayT s = true ↔ mayRo s.1 = true ∧ maySe s.2 = true := by unfold mayT; rw [Bool.and_eq_true]
theorem applyT_ros {s : Sta} {e : Evt} (hm : mayT s = true) (hk : 1 ≤ e.k ∧ e.k ≤ 6) : applyT s e = (((doRo s.1 e.k e.u e.o).1, s.2), (doRo s.1 e.k e.u e.o).2) := by
  unfold applyT; rw [if_neg (by rw [hm]; decide), if_pos hk]
theorem applyT_put {s : Sta} {e : Evt} (hm : mayT s = true) (hk : e.k = 7) : applyT s e = ((s.1, (putSe s.2 ⟨e.u, e.i, e.v⟩).1), (putSe s.2 ⟨e.u, e.i, e.v⟩).2) := by
  unfold applyT; rw [if_neg (by rw [hm]; decide), if_neg (by omega), if_pos hk]
theorem applyT_drop {s : Sta} {e : Evt} (hm : mayT s = true) (hk : e.k = 8) : applyT s e = ((s.1, (dropSe s.2 (e.u, e.i)).1), (dropSe s.2 (e.u, e.i)).2) := by
  unfold applyT; rw [if_neg (by rw [hm]; decide), if_neg (by omega), if_neg (by omega), if_pos hk]
theorem applyT_non {s : Sta} {e : Evt} (hk : ¬ (1 ≤ e.k ∧ e.k ≤ 6) ∧ e.k ≠ 7 ∧ e.k ≠ 8) : applyT s e = (s, 1) := by
  unfold applyT
  split
  · rfl
  · rw [if_neg hk.1, if_neg hk.2.1, if_neg hk.2.2]
theorem applyT_may {s t : Sta} {e : Evt} (hm : mayT s = true) (h : applyT s e = (t, 0)) : mayT t = true := by
  obtain ⟨h1, h2⟩ := mayT_and.1 hm
  by_cases k1 : 1 ≤ e.k ∧ e.k ≤ 6
  · rw [applyT_ros hm k1] at h
    injection h with h3 h4
    rw [← h3]
    exact mayT_and.2 ⟨doRo_may (l := s.1) (k := e.k) (u := e.u) (o := e.o) (r := (doRo s.1 e.k e.u e.o).1) (Prod.ext rfl h4), h2⟩
  · by_cases k7 : e.k = 7
    · rw [applyT_put hm k7] at h
      injection h with h3 h4
      rw [← h3]
      exact mayT_and.2 ⟨h1, putSe_may (l := s.2) (s := ⟨e.u, e.i, e.v⟩) (m := (putSe s.2 ⟨e.u, e.i, e.v⟩).1) (Prod.ext rfl h4)⟩
    · by_cases k8 : e.k = 8
      · rw [applyT_drop hm k8] at h
        injection h with h3 h4
        obtain ⟨x, _, h5⟩ := dropSe_is (l := s.2) (k := (e.u, e.i)) (m := (dropSe s.2 (e.u, e.i)).1) h2 (Prod.ext rfl h4)
        rw [← h3]
        refine mayT_and.2 ⟨h1, ?_⟩
        simp only
        rw [h5]
        exact delK_may h2 _
      · rw [applyT_non ⟨k1, k7, k8⟩] at h
        injection h with h3 h4
        exact absurd h4 (by decide)
theorem applyT_alone {s t : Sta} {e : Evt} (hm : mayT s = true) (h : applyT s e = (t, 0)) {p : ByteArray} (hp : p ∉ touchT e) (q : ByteArray) : ofSe t.2 p = ofSe s.2 p ∧ getRo t.1 p q = getRo s.1 p q := by
  obtain ⟨h1, h2⟩ := mayT_and.1 hm
  unfold touchT at hp
  by_cases k1 : 1 ≤ e.k ∧ e.k ≤ 6
  · rw [if_pos k1, mergeS_mem] at hp
    simp only [List.mem_singleton, not_or] at hp
    rw [applyT_ros hm k1] at h
    injection h with h3 h4
    rw [← h3]
    exact ⟨rfl, others_get h1 (k := e.k) (u := e.u) (o := e.o) (r := (doRo s.1 e.k e.u e.o).1) (Prod.ext rfl h4) (fun e9 => hp.1 e9.1) (fun e9 => hp.2 e9.2)⟩
  · rw [if_neg k1] at hp
    by_cases k7 : e.k = 7
    · rw [if_pos (.inl k7)] at hp
      simp only [List.mem_singleton] at hp
      rw [applyT_put hm k7] at h
      injection h with h3 h4
      obtain ⟨_, _, h5, _⟩ := putSe_ok (l := s.2) (s := ⟨e.u, e.i, e.v⟩) (m := (putSe s.2 ⟨e.u, e.i, e.v⟩).1) (Prod.ext rfl h4)
      rw [← h3]
      simp only
      rw [h5]
      exact ⟨ofSe_put (maySe_ord h2) _ _ hp, by first | rfl | trivial⟩
    · by_cases k8 : e.k = 8
      · rw [if_pos (.inr k8)] at hp
        simp only [List.mem_singleton] at hp
        rw [applyT_drop hm k8] at h
        injection h with h3 h4
        obtain ⟨x, _, h5⟩ := dropSe_is (l := s.2) (k := (e.u, e.i)) (m := (dropSe s.2 (e.u, e.i)).1) h2 (Prod.ext rfl h4)
        rw [← h3]
        simp only
        rw [h5]
        exact ⟨ofSe_del (maySe_ord h2) _ _ hp, by first | rfl | trivial⟩
      · rw [applyT_non ⟨k1, k7, k8⟩] at h
        injection h with h3 h4
        exact absurd h4 (by decide)
inductive SeOp where
  | put (x : Se)
  | drop (k : SeK)
def SeOp.key : SeOp → SeK
  | .put x => keySe x
  | .drop k => k
def SeOp.ok (l : List Se) : SeOp → Bool
  | .put x => oneS x
  | .drop k => (getK keySe l k).isSome
def SeOp.new : SeOp → Option Se
  | .put x => some x
  | .drop _ => none
def SeOp.run (l : List Se) : SeOp → List Se × Int
  | .put x => putSe l x
  | .drop k => dropSe l k
end Sp
end Go.Proofs.YtbpfcjdjhponaaaGreat
namespace Go.Proofs.YtbpfcjdjhponaaaGreat
namespace Sp
theorem seeT_no {s : Sta} {p q : ByteArray} (h : seesRo s.1 p q = false) : seeT s p q = ((0, 0, 0, ⟨#[]⟩), false) := by unfold seeT; rw [h]; rfl
theorem viewL_snd (l : List Se) : (viewL l).2 = !decide (l = []) := by
  cases l with
  | nil => rfl
  | cons x l => simp [viewL, bestL]
theorem seeT_snd {s : Sta} {p q : ByteArray} : (seeT s p q).2 = true ↔ seesRo s.1 p q = true ∧ ofSe s.2 q ≠ [] := by
  unfold seeT
  cases h : seesRo s.1 p q with
  | false => simp
  | true => simp [viewL_snd]
theorem rowT_c {s : Sta} {p q : ByteArray} {x : Sn} (h : rowT s p q = some x) : x.c = q ∧ x.v = (seeT s p q).1 ∧ (seeT s p q).2 = true := by
  unfold rowT at h
  split at h
  · rename_i h2
    injection h with h
    subst h
    exact ⟨rfl, rfl, h2⟩
  · cases h
theorem tabT_names {s : Sta} (h : mayT s = true) (p : ByteArray) : tabT s p = (ofRo s.1 p).filterMap (rowT s p) := by
  rw [← vtab_tab]
  unfold vtabT
  congr 1
  funext q
  unfold vrowT rowT
  rw [valT_may h]
theorem tabT_mem {s : Sta} (h : mayT s = true) {p : ByteArray} {x : Sn} : x ∈ tabT s p ↔ rowT s p x.c = some x := by
  rw [tabT_names h, List.mem_filterMap]
  constructor
  · rintro ⟨q, hq, hr⟩
    rw [(rowT_c hr).1]
    exact hr
  · intro hr
    refine ⟨x.c, ?_, hr⟩
    have hs := (seeT_snd.1 (rowT_c hr).2.2).1
    rw [ofRo_mem]
    exact hasRo_mem.1 (sees_has hs)
theorem tabT_ord {s : Sta} (h : mayT s = true) (p : ByteArray) : InOrd Sn.c less (tabT s p) := by
  rw [tabT_names h]
  have hs := ofRo_sorted (mayRo_ord (mayT_ro h)) p
  unfold InOrd
  rw [List.pairwise_filterMap]
  refine List.Pairwise.imp ?_ hs
  intro a b hab x hx y hy
  rw [(rowT_c hx).1, (rowT_c hy).1]
  exact hab
theorem tabT_getK {s : Sta} (h : mayT s = true) (p c : ByteArray) : getK Sn.c (tabT s p) c = rowT s p c := by
  cases hr : rowT s p c with
  | none =>
    refine getK_none.2 fun x hx e => ?_
    rw [tabT_mem h, e, hr] at hx
    cases hx
  | some x =>
    obtain ⟨h1, h2, h3⟩ := rowT_c hr
    have hx : x ∈ tabT s p := by rw [tabT_mem h, h1]; exact hr
    have hg := getK_of_mem less_ord (tabT_ord h p) hx
    rw [h1] at hg
    exact hg
theorem apply_two {s t : Sta} {e : Evt} (hm : mayT s = true) (h : applyT s e = (t, 0)) : ((1 ≤ e.k ∧ e.k ≤ 6) ∧ doRo s.1 e.k e.u e.o = (t.1, 0) ∧ t.2 = s.2 ∧ touchT e = mergeS [e.u] [e.o]) ∨ (t.1 = s.1 ∧ touchT e = [e.u]) := by
  by_cases k1 : 1 ≤ e.k ∧ e.k ≤ 6
  · left
    rw [applyT_ros hm k1] at h
    injection h with h3 h4
    refine ⟨k1, ?_, by rw [← h3], by unfold touchT; rw [if_pos k1]⟩
    rw [← h3]
    exact Prod.ext rfl h4
  · right
    by_cases k7 : e.k = 7
    · rw [applyT_put hm k7] at h
      injection h with h3 h4
      exact ⟨by rw [← h3], by unfold touchT; rw [if_neg k1, if_pos (.inl k7)]⟩
    · by_cases k8 : e.k = 8
      · rw [applyT_drop hm k8] at h
        injection h with h3 h4
        exact ⟨by rw [← h3], by unfold touchT; rw [if_neg k1, if_pos (.inr k8)]⟩
      · rw [applyT_non ⟨k1, k7, k8⟩] at h
        injection h with h3 h4
        exact absurd h4 (by decide)
theorem touch_mem {e : Evt} (h : touchT e = mergeS [e.u] [e.o]) (c : ByteArray) : c ∈ touchT e ↔ c = e.u ∨ c = e.o := by
  rw [h, mergeS_mem]
  simp
theorem sees_alone {s t : Sta} {e : Evt} (hm : mayT s = true) (h : applyT s e = (t, 0)) {c : ByteArray} (hc : c ∉ touchT e) (p : ByteArray) : seesRo t.1 p c = seesRo s.1 p c := by
  rcases apply_two hm h with ⟨_, h1, _, h2⟩ | ⟨h1, _⟩
  · rw [touch_mem h2, not_or] at hc
    exact others_sees (mayT_ro hm) h1 (fun e9 => hc.2 e9.2) (fun e9 => hc.1 e9.1)
  · rw [h1]
theorem valT_alone {s t : Sta} {e : Evt} (hm : mayT s = true) (h : applyT s e = (t, 0)) {c : ByteArray} (hc : c ∉ touchT e) (p : ByteArray) : valT t p c = valT s p c := by
  have ht := applyT_may hm h
  rw [valT_may hm, valT_may ht]
  unfold seeT
  rw [sees_alone hm h hc p, (applyT_alone hm h hc p).1]
theorem hide_plain {s t : Sta} {e : Evt} {d : Int} (hm : mayT s = true) (h : applyT s e = (t, d)) {p : ByteArray} (hh : ∀ x ∈ touchT e, seesRo s.1 p x = false ∧ seesRo t.1 p x = false) : tabT t p = tabT s p := by
  by_cases hd : d = 0
  · subst hd
    have ht := applyT_may hm h
    refine get_ext less_ord (tabT_ord ht p) (tabT_ord hm p) fun c => ?_
    rw [tabT_getK ht, tabT_getK hm]
    have hv : seeT t p c = seeT s p c := by
      by_cases hc : c ∈ touchT e
      · rw [seeT_no (hh c hc).1, seeT_no (hh c hc).2]
      · have := valT_alone hm h hc p
        rwa [valT_may hm, valT_may ht] at this
    unfold rowT
    rw [hv]
  · rw [applyT_err h hd]
end Sp
end Go.Proofs.YtbpfcjdjhponaaaGreat
