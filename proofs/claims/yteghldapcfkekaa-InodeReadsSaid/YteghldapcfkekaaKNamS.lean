import Derived.Test.YteghldapcfkekaaKNamR
namespace Go.Proofs.YteghldapcfkekaaK
open Go.RowKit
set_option linter.unusedSimpArgs false
set_option linter.unusedVariables false
/-! The reference's Right of a name. -/
set_option maxHeartbeats 4000000 in
theorem rright_any (s : List UInt8) (w : World) : Calls Try.prog 49 #[.string (str s)] w fun e w' => e = .returned (.bool (rightB s)) ∧ w = w' := by
  have hsz := str_size s
  have hno : ∀ (h : ¬ ((s == []) = false ∧ (s.length : Int) ≤ 12 ∧ (s == [46]) = false ∧ (s == [46, 46]) = false ∧ ∀ j, j < s.length → s.getD j 0 ≠ 47 ∧ s.getD j 0 ≠ 0)), rightB s = false := fun h => Bool.eq_false_iff.2 (fun e => h ((rightB_iff s).1 e))
  have hyes := (rightB_iff s).2
  have HNO := Lib.hid hno
  have HYES := Lib.hid hyes
  clear hno hyes
  by_cases h1 : (s.length : Int) < 1
  · have HF := Lib.hid (HNO.out (fun h => by have h2 := h.1; have : s = [] := List.length_eq_zero_iff.1 (by omega); rw [this] at h2; cases h2))
    clear HNO HYES
    go_enter Try.func49, Try.ntmps49
    go_wp2_with fail
    go_ret
    exact ⟨by rw [HF.out]; rfl, rfl⟩
  by_cases h2 : (12 : Int) < s.length
  · have HF := Lib.hid (HNO.out (fun h => by have h2 := h.2.1; omega))
    clear HNO HYES
    go_enter Try.func49, Try.ntmps49
    go_wp2_with fail
    go_ret
    exact ⟨by rw [HF.out]; rfl, rfl⟩
  rcases q3 : (s == [46]) with _ | _
  rotate_left
  · have HF := Lib.hid (HNO.out (fun h => by have h2 := h.2.2.1; rw [q3] at h2; cases h2))
    clear HNO HYES
    go_enter Try.func49, Try.ntmps49
    go_wp2_with fail
    go_ret
    exact ⟨by rw [HF.out]; rfl, rfl⟩
  rcases q4 : (s == [46, 46]) with _ | _
  rotate_left
  · have HF := Lib.hid (HNO.out (fun h => by have h2 := h.2.2.2.1; rw [q4] at h2; cases h2))
    clear HNO HYES
    go_enter Try.func49, Try.ntmps49
    go_wp2_with fail
    go_ret
    exact ⟨by rw [HF.out]; rfl, rfl⟩
  go_enter Try.func49, Try.ntmps49
  go_wp2_with fail
  go_loopw [3] (fun v3 wr => ∃ i : Nat, i ≤ s.length ∧ v3 = .int .i64 (i : Int) ∧ (∀ q, q < i → s.getD q 0 ≠ 47 ∧ s.getD q 0 ≠ 0) ∧ wr = w) (fun v3 _ => s.length - (intOf v3).toNat)
  case atStart => exact ⟨0, by omega, rfl, fun q hq => by omega, rfl⟩
  case round =>
    obtain ⟨i, hi, rfl, hF, rfl⟩ := hrel
    have HFF := Lib.hid hF
    clear hF
    by_cases hlt : i < s.length
    · have hii : (i : Int) < s.length := by omega
      have hi0 : (0 : Int) ≤ i := by omega
      have hsi : i < (str s).size := by rw [hsz]; exact hlt
      have hx : (str s)[i]'hsi = s.getD i 0 := by
        rw [List.getD_eq_getElem?_getD, List.getElem?_eq_getElem hlt]
        rfl
      have c47 : ∀ b : UInt8, ((b.toNat : Int) == 47) = (b == 47) := fun b => by
        rw [Bool.eq_iff_iff]
        simp only [beq_iff_eq]
        constructor
        · intro h; apply UInt8.toNat.inj; show b.toNat = 47; omega
        · rintro rfl; rfl
      have c00 : ∀ b : UInt8, ((b.toNat : Int) == 0) = (b == 0) := fun b => by
        rw [Bool.eq_iff_iff]
        simp only [beq_iff_eq]
        constructor
        · intro h; apply UInt8.toNat.inj; show b.toNat = 0; omega
        · rintro rfl; rfl
      have f1 := c47 ((str s)[i]'hsi)
      have f2 := c00 ((str s)[i]'hsi)
      rw [hx] at f1 f2
      have e1 : ((((str s)[i]'hsi).toNat : Int) == 47) = (s.getD i 0 == 47) := by rw [hx]; exact f1
      have e2 : ((((str s)[i]'hsi).toNat : Int) == 0) = (s.getD i 0 == 0) := by rw [hx]; exact f2
      clear c47 c00 f1 f2 hx
      rcases g1 : (s.getD i 0 == 47) with _ | _
      · rw [g1] at e1
        rcases g2 : (s.getD i 0 == 0) with _ | _
        · rw [g2] at e2
          have G1 := Lib.hid g1
          have G2 := Lib.hid g2
          clear g1 g2 HNO HYES
          go_wp2_with fail
          go_roundw
          case rel =>
            refine ⟨i + 1, by omega, by go_num, fun q hq => ?_, trivial⟩
            by_cases e : q = i
            · subst e; exact ⟨by simpa using G1.out, by simpa using G2.out⟩
            · exact HFF.out q (by omega)
          case measure => simp [intOf]; omega
        · rw [g2] at e2
          have HF := Lib.hid (HNO.out (fun h => (h.2.2.2.2 i hlt).2 (by simpa using g2)))
          clear g1 g2 HNO HYES
          go_wp2_with fail
          go_ret
          exact ⟨by rw [HF.out]; rfl, rfl⟩
      · rw [g1] at e1
        have HF := Lib.hid (HNO.out (fun h => (h.2.2.2.2 i hlt).1 (by simpa using g1)))
        clear g1 HNO HYES
        go_wp2_with fail
        go_ret
        exact ⟨by rw [HF.out]; rfl, rfl⟩
    · have hie : i = s.length := by omega
      have HF := Lib.hid (HYES.out ⟨by
        have : s ≠ [] := fun e => by rw [e] at h1; simp at h1
        simpa using this, by omega, q3, q4, fun j hj => HFF.out j (by omega)⟩)
      subst hie
      clear HNO HYES
      go_wp2_with fail
      go_ret
      exact ⟨by rw [HF.out]; rfl, rfl⟩
end Go.Proofs.YteghldapcfkekaaK
