import Derived.Test.YtljdfhckllncoaaKFrmT
namespace Go.Proofs.YtljdfhckllncoaaK
open Go.RowKit
set_option linter.unusedSimpArgs false
set_option linter.unusedVariables false
/-- What Read gives, as values. -/
def FrOut (R : UInt8 × List UInt8 × Nat × Nat) (e : Ending) (w : World) : Prop :=
  ∃ v, e = .returned (.tuple #[.int .u8 (R.1.toNat : Int), v, .int .i64 (R.2.2.1 : Int), .int .i64 (R.2.2.2 : Int)]) ∧ BsV R.2.1 v w
theorem bsV_nil (w : World) : BsV [] (.slice none 0 0) w := ⟨none, 0, 0, rfl, ⟨none, 0, rfl, by simp, by simp, At.nil _ _⟩⟩
theorem ite_iff {α : Type} {p q r : Prop} [Decidable p] [Decidable q] [Decidable r] {a b : α} (hq : q) : (if p ∧ q ∧ r then a else b) = (if p ∧ r then a else b) := by
  by_cases hp : p
  · by_cases hr : r
    · rw [if_pos ⟨hp, hq, hr⟩, if_pos ⟨hp, hr⟩]
    · rw [if_neg (fun h => hr h.2.2), if_neg (fun h => hr h.2)]
  · rw [if_neg (fun h => hp h.1), if_neg (fun h => hp h.1)]
theorem fread_any (bs : List UInt8) (hl : bs.length = 258) (w : World) :
    Calls Try.prog 16 #[.agg (bs.map encB).toArray] w fun e w' => FrOut (frR bs) e w' ∧ Below w.heap.size w w' := by
  obtain ⟨R, hR⟩ : ∃ R, R = frR bs := ⟨_, rfl⟩
  rw [← hR]
  unfold frR at hR
  rcases hb : blankB bs with _ | _
  · rw [hb, if_neg (by decide)] at hR
    by_cases ha : 1 < abv (frC bs)
    · rw [if_pos ha] at hR
      subst hR
      refine (fread_above bs hl hb ha w).mono ?_
      rintro e w' ⟨rfl, hb'⟩
      exact ⟨⟨_, rfl, bsV_nil w'⟩, hb'⟩
    · rw [if_neg ha] at hR
      have ha' : abv (frC bs) ≤ 1 := by omega
      rcases (frX_err bs).2 with he | he
      · rw [if_neg (by rw [he]; decide)] at hR
        by_cases hs : sizeD (frX bs).1 ≤ 240
        · refine (fread_small bs hl hb ha' he hs R ?_ w).mono (fun e w' h => h)
          exact hR.trans (ite_iff hs)
        · rw [if_neg (fun h => hs h.2.1)] at hR
          subst hR
          refine (fread_big bs hl hb ha' he (by omega) w).mono ?_
          rintro e w' ⟨rfl, hb'⟩
          exact ⟨⟨_, rfl, bsV_nil w'⟩, hb'⟩
      · rw [if_pos (by rw [he]; decide), he] at hR
        subst hR
        refine (fread_fix bs hl hb ha' he w).mono ?_
        rintro e w' ⟨rfl, hb'⟩
        exact ⟨⟨_, rfl, bsV_nil w'⟩, hb'⟩
  · rw [hb, if_pos rfl] at hR
    subst hR
    refine (fread_blank bs hl hb w).mono ?_
    rintro e w' ⟨rfl, hb'⟩
    exact ⟨⟨_, rfl, bsV_nil w'⟩, hb'⟩
end Go.Proofs.YtljdfhckllncoaaK
