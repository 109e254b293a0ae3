/-
Contracts by their answers, and the walk of 'live' of the statements on names.
-/
import Derived.Test.YtcopiimflloooaaRefList2
import Derived.Test.YtcopiimflloooaaIdentB
import Derived.Test.YtcopiimflloooaaIdentC
namespace Go.Proofs.Ytcopiimflloooaa
open Go.RowKit Sp

theorem below_alloc {w w1 : World} (h : Below w.heap.size w w1) (o : Obj) : Below w.heap.size w (w1.alloc o) := h.alloc h.size o

section
variable (w : World)
theorem identPut_is (s t : ByteArray) (b : Bool) (h : Hid (putN s = (t, b))) (hs : s.size ≤ 140737488351232) :
    Calls Try.prog 65 #[.string s] w fun e w' => e = .returned (.tuple #[.string t, .bool b]) ∧ Below w.heap.size w w' := re_ (identPut_calls s w hs) (by rw [h.out])
theorem refNPut_is (s t : ByteArray) (b : Bool) (h : Hid (putN s = (t, b))) (hs : s.size ≤ 140737488351232) :
    Calls Try.prog 69 #[.string s] w fun e w' => e = .returned (.tuple #[.string t, .bool b]) ∧ Below w.heap.size w w' := re_ (refNPut_calls s w hs) (by rw [h.out])
theorem identTake_is (s : ByteArray) (a : Int) (t : ByteArray) (to er : Int) (h : Hid (takeN s a = (t, to, er))) (hs : s.size ≤ 140737488351232) :
    Calls Try.prog 75 #[.string s, .int .i64 a] w fun e w' => e = .returned (.tuple #[.string t, .int .i64 to, .int .i64 er]) ∧ Below w.heap.size w w' := re_ (identTake_calls s a w hs) (by rw [h.out])
theorem refNTake_is (s : ByteArray) (a : Int) (t : ByteArray) (to er : Int) (h : Hid (takeN s a = (t, to, er))) (hs : s.size ≤ 140737488351232) :
    Calls Try.prog 78 #[.string s, .int .i64 a] w fun e w' => e = .returned (.tuple #[.string t, .int .i64 to, .int .i64 er]) ∧ Below w.heap.size w w' := re_ (refNTake_calls s a w hs) (by rw [h.out])
theorem Is_is (s : ByteArray) (b : Bool) (h : Hid (isName s = b)) (hs : s.size ≤ 140737488351232) :
    Calls Try.prog 71 #[.string s] w fun e w' => e = .returned (.bool b) ∧ Below w.heap.size w w' := re_ (Is_calls s w hs) (by rw [h.out])
theorem refIs_is (s : ByteArray) (b : Bool) (h : Hid (isName s = b)) (hs : s.size ≤ 140737488351232) :
    Calls Try.prog 61 #[.string s] w fun e w' => e = .returned (.bool b) ∧ w = w' := re_ (refIs_calls s w hs) (by rw [h.out])
theorem Less_is (s t : ByteArray) (b : Bool) (h : Hid (less s t = b)) :
    Calls Try.prog 73 #[.string s, .string t] w fun e w' => e = .returned (.bool b) ∧ Below w.heap.size w w' := re_ (Less_calls s t w) (by rw [h.out])
theorem refLess_is (s t : ByteArray) (b : Bool) (h : Hid (less s t = b)) :
    Calls Try.prog 29 #[.string s, .string t] w fun e w' => e = .returned (.bool b) ∧ w = w' := re_ (refLess_calls s t w) (by rw [h.out])
end

end Go.Proofs.Ytcopiimflloooaa
