/-
Layer 2: a text with its sum behind it, put and taken off.
-/
import Derived.Test.YtcopiimflloooaaCrcB
import Derived.Test.YtcopiimflloooaaBuf
set_option linter.unusedVariables false
set_option linter.unusedSimpArgs false
namespace Go.Proofs.Ytcopiimflloooaa
open Go.RowKit
namespace Sp
def sumL (n : Nat) : List UInt8 := [UInt8.ofNat n, UInt8.ofNat (n / 256), UInt8.ofNat (n / 65536), UInt8.ofNat (n / 16777216)]
def sealS (s : ByteArray) : ByteArray := s ++ strOf (sumL (crcSum s.data.toList))
theorem sealS_size (s : ByteArray) : (sealS s).size = s.size + 4 := by rw [sealS, ByteArray.size_append, strOf_size]; rfl
/-- The answers of 'Open'. -/
def openS (s : ByteArray) : ByteArray × Int :=
  if s.size < 4 then (⟨#[]⟩, 2) else if sealS (s.extract 0 (s.size - 4)) = s then (s.extract 0 (s.size - 4), 0) else (⟨#[]⟩, 4)
end Sp
open Sp

theorem byte_mod (n : Nat) : ((UInt8.ofNat n).toNat : Int) = (n : Int) % 256 := by simp
theorem byte_top (n : Nat) (h : n < 256) : ((UInt8.ofNat n).toNat : Int) = (n : Int) := by simp; omega

end Go.Proofs.Ytcopiimflloooaa
