/-
A map of the call's own from pairs of texts to items.
-/
import Derived.Test.YtpmafghknafhaaaRosE
import Derived.Test.YtpmafghknafhaaaMapLit
import Derived.WideKeyPair
import Derived.DeepKeys4
set_option linter.unusedVariables false
set_option linter.unusedSimpArgs false
namespace Go.Proofs.Ytpmafghknafhaaa
open Go.RowKit Go.WideMaps Go.Maps Sp

abbrev agK2 (p q : ByteArray) : Value := .agg #[.string p, .string q]
def keyA (p q : ByteArray) : Lit := .string (keyBytes [.string p.data.toList, .string q.data.toList])
theorem laidA : laidOutB Try.prog = true := by kernel_rfl
theorem arrA : ArrKey Try.prog 43 9 2 := ⟨Try.underlying43, by kernel_rfl, by kernel_rfl, by kernel_rfl⟩
theorem mapLawA : Keyed Try.prog 43 := Keyed.of_law (deep_law_laid laidA (m := 4) (by decide) (of_decide_eq_true (by kernel_rfl)) (by kernel_rfl) (by kernel_rfl))
theorem typesA : ∃ m, Try.prog.types.size = m + 1 := ⟨Try.prog.types.size - 1, by have : Try.prog.types.size ≠ 0 := of_decide_eq_true (by kernel_rfl); omega⟩
theorem keyOfA (p q : ByteArray) (hp : p.size ≤ maxLen) (hq : q.size ≤ maxLen) : keyOf Try.prog 43 (agK2 p q) = some (keyA p q) := by
  have A := arrA
  have he := Try.underlying9
  have hkt := A.keyType typesA
  obtain ⟨m, hm⟩ := typesA
  unfold keyOf keyA
  simp only [A.hu]
  rw [if_pos (by simp [hkt, Value.formed, A.hu, A.size]), hm]
  unfold Program.keyLits
  simp only [A.hu, Value.cells]
  rw [if_pos (by rw [A.size]; rfl), show List.range 2 = [0, 1] from rfl, List.mapM_cons, List.mapM_cons, List.mapM_nil]
  simp [A.one, Program.keyLits, he, hp, hq]
theorem keyA_key (p q : ByteArray) : WideAt.IsKeyLit (keyA p q) := trivial
theorem keyA_ne {p q p' q' : ByteArray} (hp : p.size ≤ maxLen) (hq : q.size ≤ maxLen) (hp' : p'.size ≤ maxLen) (hq' : q'.size ≤ maxLen) (h : ¬ (p = p' ∧ q = q')) : keyA p q ≠ keyA p' q' := by
  intro e
  have h1 := keyOfA p q hp hq
  have h2 := keyOfA p' q' hp' hq'
  rw [← e] at h2
  have h3 := mapLawA.inj h1 h2
  injection h3 with h3
  injection h3 with h3
  injection h3 with h4 h5
  injection h4 with h4
  injection h5 with h5 h6
  injection h5 with h5
  exact h ⟨h4, h5⟩
def dIt (x : It) : DataW Unit := .agg [.lit (.bool x.to), .lit (.bool x.fr), .lit (.bool x.ou), .lit (.bool x.in_), .lit (.bool x.bl)]
def Rit (v : Value) : Option (DataW Unit × List MemPlace) :=
  match v with
  | .agg cs => match cs.toList with
    | [.bool a, .bool b, .bool c, .bool d, .bool e] => some (dIt ⟨a, b, c, d, e⟩, [])
    | _ => none
  | _ => none
theorem Rit_va (x : It) : Rit (vaIt x) = some (dIt x, []) := rfl
theorem Rit_inv {v : Value} {x : It} {ps : List MemPlace} (h : Rit v = some (dIt x, ps)) : v = vaIt x := by
  unfold Rit at h
  split at h
  · rename_i cs
    split at h
    · rename_i a b c d e hc
      obtain ⟨l⟩ := cs
      simp only at hc
      subst hc
      simp only [Option.some.injEq, Prod.mk.injEq, dIt, DataW.agg.injEq, List.cons.injEq, DataW.lit.injEq, Lit.bool.injEq, and_true] at h
      obtain ⟨⟨h1, h2, h3, h4, h5⟩, _⟩ := h
      rw [h1, h2, h3, h4, h5]
    · cases h
  · cases h
theorem zeroIt (w : World) : (zeroValue 26).run Try.prog w = .ok (vaIt noI) w := by kernel_rfl
/-- A map that answers as f does, of texts that are no longer than a text may be. -/
def ItMap (w : World) (b n : Nat) (f : ByteArray → ByteArray → It) : Prop := ∃ D : DataW Unit, w.ownsMap Try.prog 43 Rit b n D ∧ Tidy D ∧ ∀ p q : ByteArray, p.size ≤ maxLen → q.size ≤ maxLen → D.atKey (keyA p q) (dIt noI) = dIt (f p q)
theorem ItMap.new (w : World) : ItMap (w.alloc (.map #[] 0)) w.heap.size 0 (fun _ _ => noI) := ⟨_, World.ownsMap_made _ _ _ _, tidy_empty, fun _ _ _ _ => by simp [DataW.atKey]⟩
theorem ItMap.below {w w1 : World} {b n : Nat} {f : ByteArray → ByteArray → It} (h : ItMap w b n f) (hb : Below w.heap.size w w1) : ItMap w1 b n f := by
  obtain ⟨D, h1, h2⟩ := h
  exact ⟨D, h1.kept (grown_of_below hb none) (by simp), h2⟩
theorem ItMap.look {w : World} {b n : Nat} {f : ByteArray → ByteArray → It} (h : ItMap w b n f) (p q : ByteArray) (hp : p.size ≤ maxLen) (hq : q.size ≤ maxLen) :
    (Instr.lookup 40 (.map (some b)) (agK2 p q) false).run Try.prog w = .ok (vaIt (f p q)) w := by
  obtain ⟨D, h1, h2, h3⟩ := h
  obtain ⟨v, ps, hrun, hv⟩ := h1.lookup mapLawA Try.underlying40 (zeroIt _) (Rit_va noI) (keyOfA p q hp hq)
  rw [h3 p q hp hq] at hv
  rw [hrun, Rit_inv hv]
def updI (f : ByteArray → ByteArray → It) (p q : ByteArray) (x : It) : ByteArray → ByteArray → It := fun p' q' => if p' = p ∧ q' = q then x else f p' q'
theorem ItMap.put {w : World} {b n : Nat} {f : ByteArray → ByteArray → It} (h : ItMap w b n f) (p q : ByteArray) (x : It) (hp : p.size ≤ maxLen) (hq : q.size ≤ maxLen) (hn : n < 100000) :
    ∃ w', (Instr.mapUpdate 40 (.map (some b)) (agK2 p q) (vaIt x)).run Try.prog w = .ok () w' ∧ ItMap w' b (n + 1) (updI f p q x) ∧ w.grownBy w' (some b) := by
  obtain ⟨D, h1, h2, h3⟩ := h
  obtain ⟨w', r1, r2, r3⟩ := h1.update mapLawA Try.underlying40 (by unfold maxLen; omega) (keyOfA p q hp hq) (Rit_va x)
  refine ⟨w', r1, ⟨_, r2, h2.put (keyA_key p q) _, fun p' q' hp' hq' => ?_⟩, r3⟩
  unfold updI
  by_cases e : p' = p ∧ q' = q
  · obtain ⟨rfl, rfl⟩ := e
    rw [if_pos ⟨rfl, rfl⟩, atKey_put_same h2.isMap (keyA_key p' q')]
  · rw [if_neg e, atKey_put_other (keyA_ne hp' hq' hp hq e)]
    exact h3 p' q' hp' hq'
/-- A row lies in no map's block. -/
theorem Row.grownM {α : Type} {enc : α → List Value} {k : Nat} {w w1 : World} {v : Value} {xs : List α} {b n : Nat} {f : ByteArray → ByteArray → It} (h : Row enc k w v xs) (hm : ItMap w b n f) (hg : w.grownBy w1 (some b)) : Row enc k w1 v xs := by
  obtain ⟨D, ⟨es, clock, hb, _⟩, _⟩ := hm
  obtain ⟨A, c, rfl, h1, h2, h3, h4⟩ := h
  refine ⟨A, c, rfl, h1, h2, h3, fun hp => ?_⟩
  obtain ⟨ad, e, hc⟩ := h4 hp
  refine ⟨ad, e, fun j u hu => hg.cell (hc j u hu) (fun he => ?_)⟩
  have h5 := hc j u hu
  unfold World.cell? at h5
  injection he with he
  rw [he, hb] at h5
  cases h5
end Go.Proofs.Ytpmafghknafhaaa
