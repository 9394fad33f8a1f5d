import Derived.Test.YtofjabejkcicjaaKAct
namespace Go.Proofs.YtofjabejkcicjaaK
open Go.RowKit
set_option linter.unusedSimpArgs false
set_option linter.unusedVariables false
/-! all(bad, c.there). -/
def okB (n : Nat) (x : Int) : Bool := decide (0 ≤ x) && decide (x < n)
theorem Ints.at {w : World} {b off n c : Nat} {L : List Int} {S : List Nat} (h : Ints w (.slice (some ⟨b, off, none⟩) n c) L S) (j : Nat) (x : Int) (hx : L[j]? = some x) : w.cell? ⟨b, off + j, none⟩ = some (.int .i64 x) := by
  obtain ⟨A, c', h1, h2, h3⟩ := h
  injection h1 with e1 e2 e3
  subst e1
  rcases h3 with rfl | ⟨b', off', e, _, h6⟩
  · simp at hx
  · injection e with e
    injection e with e4 e5
    subst e4; subst e5
    exact h6 j x hx
set_option maxHeartbeats 4000000 in
theorem notThere_any (cb pb tb : Nat) (A : Option Addr) (n c : Nat) (dead out : Bool) (w1 : Value) (n1 : Int) (w2 : Value) (n2 cnt : Int) (x : Int) (w : World) (h : Chp w cb pb (.slice A n c) dead out w1 n1 w2 n2 cnt) (ht : w.cell? ⟨tb, 0, none⟩ = some (.func (.func 33) #[.pointer (some ⟨cb, 0, none⟩)] #[])) :
    Calls Try.prog 52 #[.int .i64 x, .pointer (some ⟨tb, 0, none⟩)] w fun e w' => e = .returned (.bool (!okB n x)) ∧ w = w' := by
  have HT := Lib.hid (there_any cb pb A n c dead out w1 n1 w2 n2 cnt x w h)
  clear h
  have hu : okB n x = (decide (0 ≤ x) && decide (x < n)) := rfl
  rw [← hu] at HT
  obtain ⟨r, hr⟩ : ∃ r, r = okB n x := ⟨_, rfl⟩
  rw [← hr] at HT ⊢
  clear hr hu
  go_enter Try.func52, Try.ntmps52
  go_wp2_with (go_at_call 33; refine HT.out.mono ?_; rintro e w2 ⟨rfl, rfl⟩)
  go_ret
  exact ⟨rfl, rfl⟩
set_option maxHeartbeats 4000000 in
theorem indexF_any (cb pb tb : Nat) (A : Option Addr) (n c : Nat) (dead out : Bool) (w1 : Value) (n1 : Int) (w2 : Value) (n2 cnt : Int) (v : Value) (L : List Int) (S : List Nat) (w : World) (hL : Ints w v L S) (h : Chp w cb pb (.slice A n c) dead out w1 n1 w2 n2 cnt) (ht : w.cell? ⟨tb, 0, none⟩ = some (.func (.func 33) #[.pointer (some ⟨cb, 0, none⟩)] #[])) :
    Calls Try.prog 58 #[v, .func (.func 52) #[] #[.pointer (some ⟨tb, 0, none⟩)]] w fun e w' => (∃ r : Int, e = .returned (.int .i64 r) ∧ decide (0 ≤ r) = !L.all (okB n)) ∧ w = w' := by
  have HN := Lib.hid (fun x => notThere_any cb pb tb A n c dead out w1 n1 w2 n2 cnt x w h ht)
  clear h ht
  obtain ⟨B, c', rfl, h63, h3⟩ := hL
  have HL := Lib.hid (show ∀ j x, L[j]? = some x → ∃ a, B = some a ∧ w.cell? (a.add j) = some (.int .i64 x) by
    intro j x hx
    rcases h3 with rfl | ⟨b, off, rfl, _, h6⟩
    · simp at hx
    · refine ⟨_, rfl, ?_⟩
      rw [show (⟨b, off, none⟩ : Addr).add j = ⟨b, off + j, none⟩ from by unfold Addr.add; split <;> simp_all]
      exact h6 j x hx)
  clear h3
  obtain ⟨m, hm⟩ : ∃ m, m = L.length := ⟨_, rfl⟩
  rw [← hm] at h63 ⊢
  have HM := Lib.hid hm
  clear hm
  go_enter Try.func58, Try.ntmps58
  go_wp2_with fail
  go_loopw [5, 8] (fun v5 v8 wr => ∃ k : Nat, k ≤ m ∧ v8 = .int .i64 k ∧ wr = w ∧ (∀ j x, j < k → L[j]? = some x → okB n x = true)) (fun _ v8 _ => m - (intOf v8).toNat)
  case atStart => exact ⟨0, by omega, rfl, rfl, fun j x hj => by omega⟩
  case round =>
    obtain ⟨k, hk, rfl, rfl, hpre⟩ := hrel
    have HP := Lib.hid hpre
    clear hpre
    by_cases hlt : k < m
    · have hkl : k < L.length := by rw [← HM.out]; exact hlt
      obtain ⟨x, hx⟩ : ∃ x, L[k]? = some x := ⟨_, List.getElem?_eq_getElem hkl⟩
      obtain ⟨a, rfl, hc⟩ := HL.out k x hx
      have HX := Lib.hid hx
      have HK := Lib.hid hkl
      have hk1 : (k : Int) < m := by omega
      have hk0 : (0 : Int) ≤ k := by omega
      clear hx hkl
      rcases q : okB n x with _ | _
      · have HNx := Lib.hid (HN.out x)
        rw [q] at HNx
        have HQ := Lib.hid q
        clear q
        go_wp2_with (go_at_call 52; refine HNx.out.mono ?_; rintro e w2 ⟨rfl, rfl⟩)
        go_ret
        refine ⟨⟨_, rfl, ?_⟩, by first | rfl | trivial⟩
        have : L.all (okB n) = false := by
          rw [List.all_eq_false]
          exact ⟨x, List.mem_of_getElem? HX.out, by rw [HQ.out]; simp⟩
        rw [this]
        simp
      · have HNx := Lib.hid (HN.out x)
        rw [q] at HNx
        have HQ := Lib.hid q
        clear q
        go_wp2_with (go_at_call 52; refine HNx.out.mono ?_; rintro e w2 ⟨rfl, rfl⟩)
        go_roundw
        case rel =>
          refine ⟨k + 1, by omega, by go_num, by first | rfl | trivial, fun j y hj hy => ?_⟩
          by_cases e : j = k
          · subst e
            rw [HX.out] at hy
            injection hy with hy
            rw [← hy]; exact HQ.out
          · exact HP.out j y (by omega) hy
        case measure => simp [intOf]; omega
    · obtain rfl : k = m := by omega
      go_wp2_with fail
      go_ret
      refine ⟨⟨_, rfl, ?_⟩, by first | rfl | trivial⟩
      have : L.all (okB n) = true := by
        rw [List.all_eq_true]
        intro x hx
        obtain ⟨j, hj, e⟩ := List.getElem_of_mem hx
        exact HP.out j x (by rw [HM.out]; exact hj) (by rw [List.getElem?_eq_getElem hj, e])
      rw [this]
      rfl
end Go.Proofs.YtofjabejkcicjaaK
