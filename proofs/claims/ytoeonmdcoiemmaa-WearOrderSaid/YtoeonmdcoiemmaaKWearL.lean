import Derived.Test.YtoeonmdcoiemmaaKWearV
namespace Go.Proofs.YtoeonmdcoiemmaaK
open Go.RowKit
set_option linter.unusedSimpArgs false
set_option linter.unusedVariables false
theorem below_drewN {B : Nat} {w w1 : World} {k : Nat} (h : Below B w w1) : Below B w (w1.drewN k) := ⟨h.os, h.tape, h.output, h.size, h.block⟩
/-- One step of it. -/
def bestS (ls : List Ld) (but : Int) (k : Nat) (x : Ld) (o : Option Nat) : Option Nat := if (k : Int) = but then o else
    match o with
    | none => some k
    | some b => if lessB x (ls.getD b ldZ) then some k else some b
theorem bestP_succ (ls : List Ld) (but : Int) (k : Nat) : bestP ls but (k + 1) = bestS ls but k (ls.getD k ldZ) (bestP ls but k) := rfl
theorem bestS_but {ls : List Ld} {but : Int} {k : Nat} {x : Ld} {o : Option Nat} (h : (k : Int) = but) : bestS ls but k x o = o := if_pos h
theorem bestS_none {ls : List Ld} {but : Int} {k : Nat} {x : Ld} (h : ¬ (k : Int) = but) : bestS ls but k x none = some k := if_neg h
theorem bestS_some {ls : List Ld} {but : Int} {k : Nat} {x : Ld} {q : Nat} (h : ¬ (k : Int) = but) : bestS ls but k x (some q) = if lessB x (ls.getD q ldZ) then some k else some q := if_neg h
set_option maxHeartbeats 2000000 in
theorem least_any (A : Option Addr) (n c : Nat) (ls : List Ld) (but : Int) (w : World) (hX : WS w (.slice A n c) ls) :
    Calls Try.prog 31 #[.slice A n c, .int .i64 but, .func (.func 32) #[] #[]] w fun e w' => e = .returned (.tuple #[.int .i64 (((bestP ls but n).getD 0 : Nat) : Int), .bool (bestP ls but n).isSome]) ∧ Below w.heap.size w w' := by
  have HN := Lib.hid hX.len.1
  have hmx := hX.len.2
  have HL := Lib.hid (fun a b W => less_any a b W)
  go_enter Try.func31, Try.ntmps31
  go_wp2
  go_loopw [6, 7, 8, 9, 12] (fun v6 v7 v8 v9 i wr => ∃ (k : Nat) (o : Option Nat), k ≤ n ∧ i = .int .i64 k ∧ o = bestP ls but k ∧ v6 = .int .i64 ((o.getD 0 : Nat) : Int) ∧ v7 = .bool o.isSome ∧ Below w.heap.size w wr) (fun _ _ _ _ i _ => n - (intOf i).toNat)
  case atStart => exact ⟨0, none, Nat.zero_le _, rfl, rfl, rfl, rfl, Below.refl _ _⟩
  case round =>
    obtain ⟨k, o, hk, rfl, ho, rfl, rfl, hb⟩ := hrel
    have HO := Lib.hid ho
    have hsz := hb.size
    by_cases hlt : k < n
    · obtain ⟨a, rfl, c0, c1, c2, c3, c4⟩ := (hX.below hb).get k hlt
      obtain ⟨x, hx⟩ : ∃ x, x = ls.getD k ldZ := ⟨_, rfl⟩
      rw [← hx] at c0 c1 c2 c4
      have hstep : bestP ls but (k + 1) = bestS ls but k x o := by rw [bestP_succ, ho, hx]
      have HST := Lib.hid hstep
      have HX := Lib.hid hx
      clear hstep hx ho
      by_cases hbut : (k : Int) = but
      · have e1 : ((k : Int) != but) = false := by simp [hbut]
        have HB := Lib.hid hbut
        clear hbut
        go_wp2
        go_quiet (fail)
        go_wp2
        go_roundw
        case rel => exact ⟨k + 1, o, by omega, by go_num, by rw [HST.out, bestS_but HB.out], rfl, rfl, below_drewN (hb.alloc hsz _)⟩
        case measure => simp [intOf]; omega
      · have e1 : ((k : Int) != but) = true := by simp [hbut]
        cases o with
        | none =>
          go_wp2
          go_quiet (fail)
          go_wp2
          go_roundw
          case rel => exact ⟨k + 1, some k, by omega, by go_num, by rw [HST.out, bestS_none hbut], rfl, rfl, below_drewN (hb.alloc hsz _)⟩
          case measure => simp [intOf]; omega
        | some q =>
          have hq : q < n := by have := bestP_lt ls but k q HO.out.symm; omega
          obtain ⟨y, hy⟩ : ∃ y, y = ls.getD q ldZ := ⟨_, rfl⟩
          have hst := HST.out.trans (bestS_some hbut)
          rw [← hy] at hst
          have HST2 := Lib.hid hst
          clear hst
          have hba := hb.alloc hsz (Obj.cells #[.int .i64 x.blk, .int .u64 x.seq, .int .u64 x.wear, .slice none 0 0, .int .i64 x.cnt] 70)
          obtain ⟨a', ha', d0, d1, d2, d3, d4⟩ := (hX.below hba).get q hq
          injection ha' with ha'
          subst ha'
          rw [← hy] at d0 d1 d2 d4
          clear hy
          have hn := heap_alloc_new wr (Obj.cells #[.int .i64 x.blk, .int .u64 x.seq, .int .u64 x.wear, .slice none 0 0, .int .i64 x.cnt] 70)
          go_wp2
          obtain ⟨xb, hxb⟩ : ∃ xb, xb = wr.heap.size := ⟨_, rfl⟩
          obtain ⟨W, hW⟩ : ∃ W, W = wr.alloc (Obj.cells #[.int .i64 x.blk, .int .u64 x.seq, .int .u64 x.wear, .slice none 0 0, .int .i64 x.cnt] 70) := ⟨_, rfl⟩
          rw [← hW] at hba d0 d1 d2 d3 d4 hn
          rw [← hxb] at hn
          rw [← hW, ← hxb]
          clear hW hxb
          have x0 : W.cell? ⟨xb, 0, none⟩ = some (.int .i64 x.blk) := cell_of_row _ _ 0 _ _ _ hn
          have x1 : W.cell? ⟨xb, 1, none⟩ = some (.int .u64 x.seq) := cell_of_row _ _ 1 _ _ _ hn
          have x2 : W.cell? ⟨xb, 2, none⟩ = some (.int .u64 x.wear) := cell_of_row _ _ 2 _ _ _ hn
          have x3 : W.cell? ⟨xb, 3, none⟩ = some (.slice none 0 0) := cell_of_row _ _ 3 _ _ _ hn
          have x4 : W.cell? ⟨xb, 4, none⟩ = some (.int .i64 x.cnt) := cell_of_row _ _ 4 _ _ _ hn
          have hqn : (q : Int) < n := by omega
          clear hn c0 c1 c2 c3 c4
          obtain ⟨r, hr⟩ : ∃ r, r = lessB x y := ⟨_, rfl⟩
          have HC := Lib.hid (less_any x y W.drew)
          rw [← hr] at HC HST2
          clear hr
          have hbd := hba.drew
          go_region_held3 (fun w' => w'.cell? ⟨xb, 0, none⟩ = some (.int .i64 x.blk) ∧ w'.cell? ⟨xb, 1, none⟩ = some (.int .u64 x.seq) ∧ w'.cell? ⟨xb, 2, none⟩ = some (.int .u64 x.wear) ∧ w'.cell? ⟨xb, 3, none⟩ = some (.slice none 0 0) ∧ w'.cell? ⟨xb, 4, none⟩ = some (.int .i64 x.cnt) ∧
              w'.cell? (a.add (q * 5)) = some (.int .i64 y.blk) ∧ w'.cell? ⟨(a.add (q * 5)).block, (a.add (q * 5)).off + 1, none⟩ = some (.int .u64 y.seq) ∧ w'.cell? ⟨(a.add (q * 5)).block, (a.add (q * 5)).off + 2, none⟩ = some (.int .u64 y.wear) ∧ w'.cell? ⟨(a.add (q * 5)).block, (a.add (q * 5)).off + 3, none⟩ = some (.slice none 0 0) ∧ w'.cell? ⟨(a.add (q * 5)).block, (a.add (q * 5)).off + 4, none⟩ = some (.int .i64 y.cnt)) (first | exact ⟨x0, x1, x2, x3, x4, d0, d1, d2, d3, d4⟩ | exact ⟨cell_later hb8 x0, cell_later hb8 x1, cell_later hb8 x2, cell_later hb8 x3, cell_later hb8 x4, cell_later hb8 d0, cell_later hb8 d1, cell_later hb8 d2, cell_later hb8 d3, cell_later hb8 d4⟩ | assumption)
            ((go_at_call 32; refine HC.out.mono ?_; rintro e w8 ⟨rfl, hb8⟩; have hb9 := hbd.trans (hb8.mono hbd.size)))
          all_goals
            cases r with
            | true =>
              go_wp2
              go_roundw
              case rel => exact ⟨k + 1, some k, by omega, by go_num, by rw [HST2.out]; rfl, rfl, rfl, hb9⟩
              case measure => simp [intOf]; omega
            | false =>
              go_wp2
              go_roundw
              case rel => exact ⟨k + 1, some q, by omega, by go_num, by rw [HST2.out]; rfl, rfl, rfl, hb9⟩
              case measure => simp [intOf]; omega
    · obtain rfl : k = n := by omega
      go_wp2
      go_ret2
      exact ⟨by rw [HO.out]; rfl, hb⟩
end Go.Proofs.YtoeonmdcoiemmaaK
