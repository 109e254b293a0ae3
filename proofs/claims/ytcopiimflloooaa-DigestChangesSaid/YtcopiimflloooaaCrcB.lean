/-
Layer 2: the sum of a text's bytes.
-/
import Derived.Test.YtcopiimflloooaaCrcA
set_option linter.unusedVariables false
set_option linter.unusedSimpArgs false
namespace Go.Proofs.Ytcopiimflloooaa
open Go.RowKit
namespace Sp
def crcFold (l : List UInt8) (c : Nat) : Nat := l.foldl (fun c b => crcStep c b.toNat) c
theorem crcFold_lt : ∀ (l : List UInt8) (c : Nat), c < 4294967296 → crcFold l c < 4294967296
  | [], c, h => h
  | b :: l, c, h => crcFold_lt l (crcStep c b.toNat) (crcStep_lt c b.toNat h (UInt8.toNat_lt b))
theorem crcFold_succ (l : List UInt8) (c k : Nat) (h : k < l.length) : crcFold (l.take (k + 1)) c = crcStep (crcFold (l.take k) c) (l[k]).toNat := by
  unfold crcFold
  rw [List.take_succ_eq_append_getElem h, List.foldl_append]
  rfl
def crcSum (l : List UInt8) : Nat := crcFold l 4294967295 ^^^ 4294967295
theorem crcSum_lt (l : List UInt8) : crcSum l < 4294967296 := xor_lt32 _ _ (crcFold_lt l _ (by omega)) (by omega)
end Sp
open Sp

end Go.Proofs.Ytcopiimflloooaa
