import Derived.Test.YtoeonmdcoiemmaaKWearW
namespace Go.Proofs.YtoeonmdcoiemmaaK
open Go.RowKit
set_option linter.unusedSimpArgs false
set_option linter.unusedVariables false
/-- A place, or -1. -/
def placeI : Option Nat → Int
  | none => -1
  | some b => (b : Int)
set_option maxHeartbeats 4000000 in
theorem rvictim_any (A : Option Addr) (n c : Nat) (ls : List Ld) (w : World) (hX : RS w (.slice A n c) ls) :
    Calls Try.prog 21 #[.slice A n c] w fun e w' => e = .returned (.int .i64 (placeI (vict ls))) ∧ Below w.heap.size w w' := by
  have HN := Lib.hid hX.len.1
  have hmx := hX.len.2
  go_enter Try.func21, Try.ntmps21
  go_wp2
  go_loopw [3, 4] (fun v3 i wr => ∃ (k : Nat) (z : Int), k ≤ n ∧ i = .int .i64 k ∧ v3 = .int .i64 z ∧ z = (if k = 0 then -1 else (lastP ls k : Int)) ∧ Below w.heap.size w wr) (fun _ i _ => n - (intOf i).toNat)
  case atStart => exact ⟨0, -1, Nat.zero_le _, rfl, rfl, rfl, Below.refl _ _⟩
  case round =>
    obtain ⟨k, z, hk, rfl, rfl, hz, hb⟩ := hrel
    have hsz := hb.size
    by_cases hlt : k < n
    · by_cases h0 : k = 0
      · subst h0
        rw [if_pos rfl] at hz
        subst hz
        have hst : (0 : Int) = (if 0 + 1 = 0 then -1 else (lastP ls (0 + 1) : Int)) := by
          rw [if_neg (by decide), lastP_no (by show ¬ (ls.getD 0 ldZ).seq < (ls.getD 0 ldZ).seq; omega)]; rfl
        have HST := Lib.hid hst
        clear hst
        go_wp2
        go_quiet (fail)
        go_wp2
        go_roundw
        case rel => exact ⟨1, 0, by omega, by go_num, rfl, HST.out, below_drewN hb⟩
        case measure => simp [intOf]; omega
      · rw [if_neg h0] at hz
        obtain ⟨p, hp⟩ : ∃ p, p = lastP ls k := ⟨_, rfl⟩
        rw [← hp] at hz
        subst hz
        have hpn : p < n := by rw [hp]; exact lastP_lt ls k n hk (by omega)
        have hpn' : (p : Int) < n := by omega
        obtain ⟨a, rfl, c0, c1, c2, c3⟩ := (hX.below hb).get k hlt
        obtain ⟨a', ha', d0, d1, d2, d3⟩ := (hX.below hb).get p hpn
        injection ha' with ha'
        subst ha'
        obtain ⟨x, hx⟩ : ∃ x, x = ls.getD k ldZ := ⟨_, rfl⟩
        obtain ⟨y, hy⟩ : ∃ y, y = ls.getD p ldZ := ⟨_, rfl⟩
        rw [← hx] at c0
        rw [← hy] at d0
        by_cases hc : y.seq < x.seq
        · have hst : (k : Int) = (if k + 1 = 0 then -1 else (lastP ls (k + 1) : Int)) := by
            rw [if_neg (by omega), lastP_yes (by rw [← hp, ← hy, ← hx]; exact hc)]
          have HST := Lib.hid hst
          clear hx hy hp hst c1 c2 c3 d1 d2 d3
          go_wp2
          go_quiet (fail)
          go_wp2
          go_roundw
          case rel => exact ⟨k + 1, k, by omega, by go_num, rfl, HST.out, below_drewN hb⟩
          case measure => simp [intOf]; omega
        · have hst : (p : Int) = (if k + 1 = 0 then -1 else (lastP ls (k + 1) : Int)) := by
            rw [if_neg (by omega), lastP_no (by rw [← hp, ← hy, ← hx]; exact hc), hp]
          have HST := Lib.hid hst
          clear hx hy hp hst c1 c2 c3 d1 d2 d3
          go_wp2
          go_quiet (fail)
          go_wp2
          go_roundw
          case rel => exact ⟨k + 1, p, by omega, by go_num, rfl, HST.out, below_drewN hb⟩
          case measure => simp [intOf]; omega
    · obtain rfl : k = n := by omega
      have hv : vict ls = bestP ls z k := by
        unfold vict
        rw [← HN.out]
        by_cases h0 : k = 0
        · subst h0; rfl
        · rw [hz, if_neg h0]
      have HV := Lib.hid hv
      clear hv hz
      go_wp2
      obtain ⟨wo, hwo⟩ : ∃ wo : World, wo = wr := ⟨_, rfl⟩
      rw [← hwo] at hb hsz
      rw [← hwo]
      clear hwo
      go_loopw [5, 6] (fun v5 i wr => ∃ (j : Nat) (o : Option Nat), j ≤ k ∧ i = .int .i64 j ∧ v5 = .int .i64 (placeI o) ∧ o = bestP ls z j ∧ Below w.heap.size w wr) (fun _ i _ => k - (intOf i).toNat)
      case atStart => exact ⟨0, none, Nat.zero_le _, rfl, rfl, rfl, hb⟩
      case round =>
        obtain ⟨j, o, hj, rfl, rfl, ho, hbj⟩ := hrel
        clear hb
        have HO := Lib.hid ho
        have hsj := hbj.size
        by_cases hlt : j < k
        · obtain ⟨a, rfl, c0, c1, c2, c3⟩ := (hX.below hbj).get j hlt
          obtain ⟨x, hx⟩ : ∃ x, x = ls.getD j ldZ := ⟨_, rfl⟩
          rw [← hx] at c0 c1 c2 c3
          have hstep : bestP ls z (j + 1) = bestS ls z j x o := by rw [bestP_succ, ho, hx]
          have HST := Lib.hid hstep
          clear hstep hx ho
          by_cases hbut : (j : Int) = z
          · have HB := Lib.hid hbut
            subst hbut
            go_wp2
            go_quiet (fail)
            go_wp2
            go_roundw
            case rel => exact ⟨j + 1, o, by omega, by go_num, rfl, by rw [HST.out, bestS_but rfl], below_drewN hbj⟩
            case measure => simp [intOf]; omega
          · have e1 : ((j : Int) != z) = true := by simp [hbut]
            cases o with
            | none =>
              rw [show placeI none = -1 from rfl]
              go_wp2
              go_quiet (fail)
              go_wp2
              go_roundw
              case rel => exact ⟨j + 1, some j, by omega, by go_num, rfl, by rw [HST.out, bestS_none hbut], below_drewN hbj⟩
              case measure => simp [intOf]; omega
            | some q =>
              have hq : q < k := by have := bestP_lt ls z j q HO.out.symm; omega
              obtain ⟨y, hy⟩ : ∃ y, y = ls.getD q ldZ := ⟨_, rfl⟩
              have hst := HST.out.trans (bestS_some hbut)
              rw [← hy] at hst
              have HST2 := Lib.hid hst
              clear hst
              obtain ⟨a', ha', d0, d1, d2, d3⟩ := (hX.below hbj).get q hq
              injection ha' with ha'
              subst ha'
              rw [← hy] at d0 d1 d2 d3
              clear hy
              have hqn : (q : Int) < k := by omega
              have hqd : decide ((q : Int) < 0) = false := by simp
              have hq0 : (0 : Int) ≤ q := by omega
              obtain ⟨r, hr⟩ : ∃ r, r = lessB x y := ⟨_, rfl⟩
              have HC := Lib.hid (rless_any x y wr.drew)
              rw [← hr] at HC HST2
              clear hr
              have hbd := hbj.drew
              rw [show placeI (some q) = (q : Int) from rfl]
              go_wp2
              go_region_held3 (fun w' => w'.cell? (a.add (j * 4)) = some (.int .u64 x.seq) ∧ w'.cell? ⟨(a.add (j * 4)).block, (a.add (j * 4)).off + 1, none⟩ = some (.int .u64 x.wear) ∧ w'.cell? ⟨(a.add (j * 4)).block, (a.add (j * 4)).off + 2, none⟩ = some (.int .i64 x.blk) ∧ w'.cell? ⟨(a.add (j * 4)).block, (a.add (j * 4)).off + 3, none⟩ = some (.int .i64 x.cnt) ∧
                  w'.cell? (a.add (q * 4)) = some (.int .u64 y.seq) ∧ w'.cell? ⟨(a.add (q * 4)).block, (a.add (q * 4)).off + 1, none⟩ = some (.int .u64 y.wear) ∧ w'.cell? ⟨(a.add (q * 4)).block, (a.add (q * 4)).off + 2, none⟩ = some (.int .i64 y.blk) ∧ w'.cell? ⟨(a.add (q * 4)).block, (a.add (q * 4)).off + 3, none⟩ = some (.int .i64 y.cnt)) (first | exact ⟨c0, c1, c2, c3, d0, d1, d2, d3⟩ | exact ⟨cell_later hb8 c0, cell_later hb8 c1, cell_later hb8 c2, cell_later hb8 c3, cell_later hb8 d0, cell_later hb8 d1, cell_later hb8 d2, cell_later hb8 d3⟩ | assumption)
                ((go_at_call 33; refine HC.out.mono ?_; rintro e w8 ⟨rfl, hb8⟩; have hb9 := hbd.trans (hb8.mono hbd.size)))
              all_goals
                cases r with
                | true =>
                  go_wp2
                  go_roundw
                  case rel => exact ⟨j + 1, some j, by omega, by go_num, rfl, by rw [HST2.out]; rfl, hb9⟩
                  case measure => simp [intOf]; omega
                | false =>
                  go_wp2
                  go_roundw
                  case rel => exact ⟨j + 1, some q, by omega, by go_num, rfl, by rw [HST2.out]; rfl, hb9⟩
                  case measure => simp [intOf]; omega
        · obtain rfl : j = k := by omega
          go_wp2
          go_ret
          exact ⟨by rw [HV.out, ← HO.out]; rfl, hbj⟩
end Go.Proofs.YtoeonmdcoiemmaaK
