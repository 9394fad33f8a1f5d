import Derived.Test.YteghldapcfkekaaKPackS
namespace Go.Proofs.YteghldapcfkekaaK
open Go.RowKit
set_option linter.unusedSimpArgs false
set_option linter.unusedVariables false
/-- Texts with their sizes ahead of them. -/
def sized (xss : List (List UInt8)) : List UInt8 := (xss.map fun l => numB 2 l.length ++ l).flatten
theorem sized_snoc (l : List (List UInt8)) (x : List UInt8) : sized (l ++ [x]) = sized l ++ (numB 2 x.length ++ x) := by simp [sized]
theorem sized_cons (l : List (List UInt8)) (x : List UInt8) : sized (x :: l) = numB 2 x.length ++ (x ++ sized l) := by simp [sized]
theorem numV_numB (k : Nat) : ∀ n, numV (numB k n) = n % 256 ^ k := by
  induction k with
  | zero => intro n; simp [numB, numV]; omega
  | succ k ih =>
    intro n
    simp only [numB, numV, ih, Nat.pow_succ]
    have h : (UInt8.ofNat (n % 256)).toNat = n % 256 := by rw [UInt8.toNat_ofNat']; omega
    rw [h, Nat.mul_comm (256 ^ k) 256, Nat.mod_mul]
theorem rdTake_app (a b : List UInt8) (s : Int) (h : max s 0 = (a.length : Int)) : rdTake (a ++ b) s = a := by
  unfold rdTake
  rw [if_neg (by rw [h]; simp; omega), h]; simp
theorem rdLeft_app (a b : List UInt8) (s : Int) (h : max s 0 = (a.length : Int)) : rdLeft (a ++ b) s = b := by
  unfold rdLeft
  rw [if_neg (by rw [h]; simp; omega), h]; simp
theorem rdBad_app (a b : List UInt8) (bad : Bool) (s : Int) (h : max s 0 = (a.length : Int)) : rdBad (a ++ b) bad s = bad := by
  unfold rdBad
  rw [if_neg (by rw [h]; simp; omega)]
theorem Bss.len {w : World} {A : Option Addr} {n c : Nat} {xss : List (List UInt8)} (h : Bss w (.slice A n c) xss) : n = xss.length := by
  obtain ⟨A', c', vs, he, _⟩ := h
  injection he with e1 e2 e3
theorem Bss.new3 {w : World} {v v' v'' : Value} {bs bs' bs'' : List UInt8} {b : Nat} {T : TypeId} {fz : Nat × Nat} (hb : b = w.heap.size) (h : Bs w v bs) (h' : Bs w v' bs') (h'' : Bs w v'' bs'') : Bss (w.alloc (.cells #[v, v', v''] T fz)) (.slice (some ⟨b, 0, none⟩) 3 3) [bs, bs', bs''] :=
  Bss.new (vs := [v, v', v'']) hb rfl rfl (by omega) (fun j hj _ => by
    match j, hj with
    | 0, _ => exact h
    | 1, _ => exact h'
    | 2, _ => exact h'')
theorem sized_append (a b : List (List UInt8)) : sized (a ++ b) = sized a ++ sized b := by simp [sized]
theorem sized_drop_le (a : List (List UInt8)) (j : Nat) : (sized (a.drop j)).length ≤ (sized a).length := by
  conv => rhs; rw [← List.take_append_drop j a, sized_append, List.length_append]
  omega
/-- A number that lies ahead is read. -/
theorem rnum_app (b D : Nat) (N : Nat) (k : Nat) (rest : List UInt8) (bad : Bool) (s : Int) (w : World) (hk : wid s = k) (hN : N < 256 ^ k) (h : Rdr w b D (numB k N ++ rest) bad) (hl : (numB k N ++ rest).length ≤ 140737488355328) :
    Calls Try.prog 31 #[.pointer (some ⟨b, 0, none⟩), .int .i64 s] w fun e w' => e = .returned (.int .u64 (N : Int)) ∧ Rdr w' b D rest bad ∧ w.grownBy w' (some b) := by
  refine (rnum_any b D _ bad s w h hl).mono ?_
  have hm : max ((wid s : Nat) : Int) 0 = ((numB k N).length : Int) := by rw [numB_length, hk]; omega
  rw [rdTake_app _ _ _ hm, rdLeft_app _ _ _ hm, rdBad_app _ _ _ _ hm, numV_numB, Nat.mod_eq_of_lt hN]
  exact fun e w' h => h
/-- Bytes that lie ahead are read. -/
theorem bytes_app (b D : Nat) (bs rest : List UInt8) (bad : Bool) (s : Int) (w : World) (hs : max s 0 = (bs.length : Int)) (h : Rdr w b D (bs ++ rest) bad) (hl : (bs ++ rest).length ≤ 140737488355328) :
    Calls Try.prog 33 #[.pointer (some ⟨b, 0, none⟩), .int .i64 s] w fun e w' => ∃ v n, e = .returned v ∧ w'.ownsRow w.heap.size 5 1 v n (bs.map encB) ∧ Rdr w' b D rest bad ∧ w.grownBy w' (some b) := by
  refine (bytes_any b D _ bad s w h hl).mono ?_
  rw [rdTake_app _ _ _ hs, rdLeft_app _ _ _ hs, rdBad_app _ _ _ _ hs]
  exact fun e w' h => h
theorem below_row {B : Nat} {w w1 w2 : World} {b : Nat} (h : Below B w w1) (hg : w1.grownBy w2 (some b)) (hB : B ≤ w1.heap.size) (hb : B ≤ b) : Below B w w2 :=
  h.grown hg hB (fun k hk => by injection hk with hk; omega)
theorem lens3 (a b c : List UInt8) : Lib.lens [a, b, c] = a.length + b.length + c.length := by simp [Lib.lens]; omega
end Go.Proofs.YteghldapcfkekaaK
