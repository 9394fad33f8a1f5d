import Derived.Test.YtofjabejkcicjaaKNfl
namespace Go.Proofs.YtofjabejkcicjaaK
open Go.RowKit
set_option linter.unusedSimpArgs false
set_option linter.unusedVariables false
/-! A script of calls; great. -/
structure Sop where
  kind : Int
  chip : Int
  block : Int
  page : Int
  n : Int
  keep : Int
  byte : UInt8
  wv : Value
  which : List Int
def encO (o : Sop) : List Value := [.int .i64 o.kind, .int .i64 o.chip, .int .i64 o.block, .int .i64 o.page, .int .i64 o.n, .int .i64 o.keep, encB o.byte, o.wv]
def wfI (x : Int) : Prop := (Lit.int .i64 x).wf = true
def OpAt (w : World) (b off j : Nat) (o : Sop) : Prop :=
  (∀ q, q < 8 → w.cell? ⟨b, off + (j * 8 + q), none⟩ = (encO o)[q]?) ∧ Is .i64 w o.wv o.which ∧ (∀ y ∈ o.which, wfI y) ∧ wfI o.kind ∧ wfI o.chip ∧ wfI o.block ∧ wfI o.page ∧ wfI o.n ∧ wfI o.keep
def Ops (w : World) (v : Value) (os : List Sop) : Prop := ∃ A c, v = .slice A os.length c ∧ os.length ≤ 9223372036854775807 ∧ (os = [] ∨ ∃ b off, A = some ⟨b, off, none⟩ ∧ ∀ j (hj : j < os.length), OpAt w b off j os[j])
section
variable {w w' : World} {b off j : Nat} {o : Sop} {os : List Sop}
theorem OpAt.below (h : OpAt w b off j o) (hb : Below w.heap.size w w') : OpAt w' b off j o := by
  obtain ⟨h2, h3, h4⟩ := h
  refine ⟨fun q hq => ?_, h3.below hb, h4⟩
  have h5 := h2 q hq
  have hs : ∃ u, (encO o)[q]? = some u := by
    match q, hq with
    | 0, _ | 1, _ | 2, _ | 3, _ | 4, _ | 5, _ | 6, _ | 7, _ => exact ⟨_, rfl⟩
  obtain ⟨u, hu⟩ := hs
  rw [hu] at h5 ⊢
  exact (hb.cell (World.block_lt_of_cell? w _ h5)).trans h5
theorem Ops.below {v : Value} (h : Ops w v os) (hb : Below w.heap.size w w') : Ops w' v os := by
  obtain ⟨A, c, h1, h2, h3⟩ := h
  refine ⟨A, c, h1, h2, h3.imp id ?_⟩
  rintro ⟨b, off, h4, h5⟩
  exact ⟨b, off, h4, fun j hj => (h5 j hj).below hb⟩
theorem Ops.at {A : Option Addr} {n c : Nat} (h : Ops w (.slice A n c) os) (j : Nat) (hj : j < os.length) : ∃ b off, A = some ⟨b, off, none⟩ ∧ OpAt w b off j os[j] := by
  obtain ⟨A', c', h1, h2, h3⟩ := h
  injection h1 with e1
  subst e1
  rcases h3 with h3 | ⟨b, off, h4, h5⟩
  · subst h3; simp at hj
  · exact ⟨b, off, h4, h5 j hj⟩
theorem Ops.len {A : Option Addr} {n c : Nat} (h : Ops w (.slice A n c) os) : n = os.length := by
  obtain ⟨A', c', h1, h2, h3⟩ := h
  injection h1
theorem Ops.max {A : Option Addr} {n c : Nat} (h : Ops w (.slice A n c) os) : n ≤ 9223372036854775807 := by
  obtain ⟨A', c', h1, h2, h3⟩ := h
  injection h1 with e1 e2
  omega
/-- The eight cells, as a walk spells them. -/
theorem OpAt.cells (h : OpAt w b off j o) : w.cell? ⟨b, off + j * 8, none⟩ = some (.int .i64 o.kind) ∧ w.cell? ⟨b, off + j * 8 + 1, none⟩ = some (.int .i64 o.chip) ∧ w.cell? ⟨b, off + j * 8 + 2, none⟩ = some (.int .i64 o.block) ∧ w.cell? ⟨b, off + j * 8 + 3, none⟩ = some (.int .i64 o.page) ∧
    w.cell? ⟨b, off + j * 8 + 4, none⟩ = some (.int .i64 o.n) ∧ w.cell? ⟨b, off + j * 8 + 5, none⟩ = some (.int .i64 o.keep) ∧ w.cell? ⟨b, off + j * 8 + 6, none⟩ = some (encB o.byte) ∧ w.cell? ⟨b, off + j * 8 + 7, none⟩ = some o.wv := by
  obtain ⟨h2, _⟩ := h
  exact ⟨h2 0 (by omega), h2 1 (by omega), h2 2 (by omega), h2 3 (by omega), h2 4 (by omega), h2 5 (by omega), h2 6 (by omega), h2 7 (by omega)⟩
end
def greatB (os : List Sop) : Bool := decide (120 < os.length) || os.any (fun o => decide (20 < o.which.length))
set_option maxRecDepth 100000 in
set_option maxHeartbeats 8000000 in
theorem great_any (A : Option Addr) (n c : Nat) (os : List Sop) (w : World) (h : Ops w (.slice A n c) os) : Calls Try.prog 16 #[.slice A n c] w fun e w' => e = .returned (.bool (greatB os)) ∧ Below w.heap.size w w' := by
  have hn := h.len
  have h63 := h.max
  have HO := Lib.hid (fun wr (hb : Below w.heap.size w wr) j hj => ((h.below hb).at j hj))
  have HN := Lib.hid hn
  obtain ⟨g, hg⟩ : ∃ g, g = greatB os := ⟨_, rfl⟩
  rw [← hg]
  have HG := Lib.hid hg
  clear hn h hg
  by_cases h120 : 120 < n
  · have hgt : g = true := by rw [HG.out]; unfold greatB; rw [← HN.out]; simp [h120]
    subst hgt
    go_enter Try.func16, Try.ntmps16
    go_wp2_with fail
    go_ret
    exact ⟨rfl, Below.refl _ _⟩
  · go_enter Try.func16, Try.ntmps16
    go_wp2_with fail
    go_loopw [4, 10] (fun v4 v10 wr => ∃ k : Nat, k ≤ n ∧ v10 = .int .i64 k ∧ Below w.heap.size w wr ∧ ∀ j (hj : j < os.length), j < k → os[j].which.length ≤ 20) (fun _ v10 _ => n - (intOf v10).toNat)
    case atStart => exact ⟨0, by omega, rfl, Below.refl _ _, fun j hj hk => by omega⟩
    case round =>
      obtain ⟨k, hk, rfl, hb, hpre⟩ := hrel
      have HP := Lib.hid hpre
      clear hpre
      by_cases hlt : k < n
      · have hk1 : (k : Int) < n := by omega
        have hk0 : (0 : Int) ≤ k := by omega
        have hkl : k < os.length := by rw [← HN.out]; exact hlt
        obtain ⟨b, off, rfl, ho⟩ := HO.out wr hb k hkl
        obtain ⟨c0, c1, c2, c3, c4, c5, c6, c7⟩ := ho.cells
        have his := ho.2.1
        clear ho
        obtain ⟨o, ho⟩ : ∃ o, o = os[k] := ⟨_, rfl⟩
        rw [← ho] at c0 c1 c2 c3 c4 c5 c6 c7 his
        obtain ⟨A2, n2, m2, hv, hn2⟩ : ∃ A2 n2 m2, o.wv = .slice A2 n2 m2 ∧ n2 = o.which.length := by
          obtain ⟨A2, m2, hv, _⟩ := his
          exact ⟨A2, _, m2, hv, rfl⟩
        rw [hv] at c7
        unfold encB at c6
        have HOO := Lib.hid ho
        have HN2 := Lib.hid hn2
        have h2m : n2 ≤ 9223372036854775807 := by rw [hv] at his; exact his.max
        have HB := Lib.hid hb
        clear ho hn2 hv his hb
        by_cases h20 : 20 < n2
        · go_wp2_with fail
          go_ret
          have hgt : g = true := by
            rw [HG.out]; unfold greatB
            have : os.any (fun o => decide (20 < o.which.length)) = true := by
              rw [List.any_eq_true]
              exact ⟨o, by rw [HOO.out]; exact List.getElem_mem _, by rw [← HN2.out]; simpa using h20⟩
            rw [this, Bool.or_true]
          exact ⟨by rw [hgt]; rfl, HB.out.alloc HB.out.size _⟩
        · go_wp2_with fail
          go_roundw
          case rel =>
            refine ⟨k + 1, by omega, by go_num, HB.out.alloc HB.out.size _, fun j hj hk => ?_⟩
            by_cases e : j = k
            · subst e
              rw [← HOO.out, ← HN2.out]; omega
            · exact HP.out j hj (by omega)
          case measure => simp [intOf]; omega
      · obtain rfl : k = n := by omega
        go_wp2_with fail
        go_ret
        have hgt : g = false := by
          rw [HG.out]; unfold greatB
          have : os.any (fun o => decide (20 < o.which.length)) = false := by
            rw [List.any_eq_false]
            intro o ho
            obtain ⟨i, hi, rfl⟩ := List.getElem_of_mem ho
            have := HP.out i hi (by rw [HN.out]; exact hi)
            simpa using this
          rw [this, ← HN.out, Bool.or_false]
          simpa using h120
        exact ⟨by rw [hgt]; rfl, hb⟩
end Go.Proofs.YtofjabejkcicjaaK
