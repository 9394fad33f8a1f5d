import Derived.Test.YtljdfhckllncoaaKFrmX
import Derived.Test.YtljdfhckllncoaaKMa
namespace Go.Proofs.YtljdfhckllncoaaK
open Go.RowKit
theorem torn_row (a0 : Int) (w0 : (Lit.int .u8 a0).wf = true) (A : Option Addr) (n c : Nat) (body : List UInt8) (x y : Int) (w : World) (hX : Bs w (.slice A n c) body) :
    Calls Try.prog 7 #[.int .u8 a0, .slice A n c, .agg #[.int .i64 x, .int .i64 y]] w fun e w' => e = .returned (.bool true) ∧ Below w.heap.size w w' := by
  rw [← toB_back w0]
  exact torn_walk (toB a0) A n c body x y w hX
end Go.Proofs.YtljdfhckllncoaaK
