import Derived.Test.YteghldapcfkekaaKIrdS
namespace Go.Proofs.YteghldapcfkekaaK
open Go.RowKit
set_option linter.unusedSimpArgs false
set_option linter.unusedVariables false
/-! More on the state of a read. -/
theorem RS.init {w0 w1 : World} {rb D : Nat} {bs : List UInt8} {T : World} (hT : T = w0.alloc (.cells #[.int .i64 0, .int .i64 0, .slice none 0 0] 28)) (hD : T.heap.size ≤ D) (hDr : D ≤ rb) (hr : Rdr w1 rb D bs false) (hb : Below T.heap.size T w1) :
    RS w0 w1 w0.heap.size rb D w1.heap.size bs false 0 0 (.slice none 0 0) 0 [] := by
  subst hT
  have hs : (w0.alloc (.cells #[.int .i64 0, .int .i64 0, .slice none 0 0] 28)).heap.size = w0.heap.size + 1 := by simp
  rw [hs] at hD hb
  have hlt : rb < w1.heap.size := by obtain ⟨A, c, h1, _⟩ := hr; exact lt_of h1
  refine ⟨⟨Nat.le_refl _, by omega, hDr, hlt, Nat.le_refl _⟩, hr, ?_, World.ownsRow_nil _ _ _ _, ?_⟩
  · exact (hb.block _ (by omega)).trans (heap_alloc_new w0 _)
  · exact ((Below.refl _ _).alloc (Nat.le_refl _) _).trans (hb.mono (by omega))
theorem RS.setE {w0 w : World} {nb rb D B : Nat} {bs : List UInt8} {bad : Bool} {K Z : Int} {v : Value} {j : Nat} {es : List (List UInt8 × Int)} (h : RS w0 w nb rb D B bs bad K Z v j es) {eb : Nat} (hB : B ≤ eb) (hk : ∀ k, v.ownBlock = some k → k < eb) (i : Nat) (u : Value) : RS w0 (w.setCell ⟨eb, i, none⟩ u) nb rb D B bs bad K Z v j es := by
  obtain ⟨⟨p1, p2, p3, p4, p5⟩, h1, h2, h3, h4⟩ := h
  have hbB := set_low w B eb i u hB
  refine ⟨⟨p1, p2, p3, p4, by simp; omega⟩, h1.low hbB (by omega) (by omega), (hbB.block nb (by omega)).trans h2, ?_, h4.setCell (p := ⟨eb, i, none⟩) (by show _ ≤ eb; omega) _⟩
  refine h3.kept (grown_set w eb i u) ?_
  cases hv : v.ownBlock with
  | none => exact .inl rfl
  | some k => exact .inr (by have := hk k hv; simp; omega)
theorem RS.own_lt {w0 w : World} {nb rb D B : Nat} {bs : List UInt8} {bad : Bool} {K Z : Int} {v : Value} {j : Nat} {es : List (List UInt8 × Int)} (h : RS w0 w nb rb D B bs bad K Z v j es) : B ≤ w.heap.size ∧ (∀ k, v.ownBlock = some k → k < w.heap.size) ∧ rb < w.heap.size ∧ rb < B := by
  obtain ⟨⟨p1, p2, p3, p4, p5⟩, _, _, h3, _⟩ := h
  exact ⟨p5, fun k hk => (h3.lt k hk).2, by omega, p4⟩
theorem RS.own {w0 w : World} {nb rb D B : Nat} {bs : List UInt8} {bad : Bool} {K Z : Int} {v : Value} {j : Nat} {es : List (List UInt8 × Int)} (h : RS w0 w nb rb D B bs bad K Z v j es) : w.ownsRow B 46 2 v j (es.flatMap encE) := h.2.2.2.1
theorem RS.rdr {w0 w : World} {nb rb D B : Nat} {bs : List UInt8} {bad : Bool} {K Z : Int} {v : Value} {j : Nat} {es : List (List UInt8 × Int)} (h : RS w0 w nb rb D B bs bad K Z v j es) : Rdr w rb D bs bad := h.2.1
theorem RS.row {w0 w : World} {nb rb D B : Nat} {bs : List UInt8} {bad : Bool} {K Z : Int} {v : Value} {j : Nat} {es : List (List UInt8 × Int)} (h : RS w0 w nb rb D B bs bad K Z v j es) : w.heap[nb]? = some (.cells #[.int .i64 K, .int .i64 Z, v] 28 (0, 0)) := h.2.2.1
theorem RS.bel {w0 w : World} {nb rb D B : Nat} {bs : List UInt8} {bad : Bool} {K Z : Int} {v : Value} {j : Nat} {es : List (List UInt8 × Int)} (h : RS w0 w nb rb D B bs bad K Z v j es) : Below w0.heap.size w0 w := h.2.2.2.2
theorem RS.cells_grown {w0 w w1 : World} {nb rb D B : Nat} {bs : List UInt8} {bad : Bool} {K Z : Int} {v : Value} {j : Nat} {es : List (List UInt8 × Int)} (h : RS w0 w nb rb D B bs bad K Z v j es) (hg : w.grownBy w1 v.ownBlock) : w1.cell? ⟨nb, 2, none⟩ = some v ∧ w1.frozen? ⟨nb, 2, none⟩ = false := by
  obtain ⟨⟨p1, p2, p3, p4, p5⟩, h1, h2, h3, h4⟩ := h
  have hbB : Below B w w1 := (Below.refl B w).grown hg p5 (own_base h3)
  have hb2 := (hbB.block nb (by omega)).trans h2
  exact ⟨cell_of hb2 2, frozen_of hb2 2⟩
/-- The result's cells written all three. -/
theorem RS.all3 {w0 w : World} {nb rb D B : Nat} {bs : List UInt8} {bad : Bool} {K Z : Int} {v : Value} {j : Nat} {es : List (List UInt8 × Int)} (h : RS w0 w nb rb D B bs bad K Z v j es) :
    RS w0 (((w.setCell ⟨nb, 0, none⟩ (.int .i64 0)).setCell ⟨nb, 1, none⟩ (.int .i64 0)).setCell ⟨nb, 2, none⟩ (.slice none 0 0)) nb rb D B bs bad 0 0 (.slice none 0 0) 0 [] ∧
    RS w0 (((w.setCell ⟨nb, 0, none⟩ (.int .i64 K)).setCell ⟨nb, 1, none⟩ (.int .i64 Z)).setCell ⟨nb, 2, none⟩ v) nb rb D B bs bad K Z v j es :=
  ⟨((h.set01 0).1.set01 0).2.app (World.ownsRow_nil _ _ _ _) (World.grownBy.refl _ _), ((h.set01 K).1.set01 Z).2.app ((h.set01 K).1.set01 Z).2.own (World.grownBy.refl _ _)⟩
theorem inode_load {w : World} {g : Nat} {b0 b1 b2 : Value} (h : w.heap[g]? = some (.cells #[b0, b1, b2] 28 (0, 0))) : (loadVar 28 ⟨g, 0, none⟩).run Try.prog w = .ok (.agg #[b0, b1, b2]) w :=
  run_loadVar_row w g 28 28 #[b0, b1, b2] (0, 0) _ h Try.underlying28 rfl (by kernel_rfl)
/-- What a read answers. -/
def RdOut (bs : List UInt8) (e : Ending) (w' : World) : Prop := match rdI bs with
  | some (K, Z, es) => ∃ v, e = .returned (.tuple #[.agg #[.int .i64 K, .int .i64 Z, v], .int .i64 0]) ∧ Es w' v es
  | none => e = .returned (.tuple #[.agg #[.int .i64 0, .int .i64 0, .slice none 0 0], .int .i64 11])
theorem RdOut.none {bs : List UInt8} (h : rdI bs = .none) (w' : World) : RdOut bs (.returned (.tuple #[.agg #[.int .i64 0, .int .i64 0, .slice none 0 0], .int .i64 11])) w' := by
  unfold RdOut; rw [h]
theorem RdOut.some {bs : List UInt8} {K Z : Int} {es : List (List UInt8 × Int)} (h : rdI bs = .some (K, Z, es)) {v : Value} {w' : World} (hE : Es w' v es) : RdOut bs (.returned (.tuple #[.agg #[.int .i64 K, .int .i64 Z, v], .int .i64 0])) w' := by
  unfold RdOut; rw [h]; exact ⟨v, rfl, hE⟩
theorem finI_bad (K Z : Int) (es : List (List UInt8 × Int)) (left : List UInt8) : finI K Z es true left = none := rfl
theorem finI_left (K Z : Int) (es : List (List UInt8 × Int)) (x : UInt8) (t : List UInt8) : finI K Z es false (x :: t) = none := rfl
theorem finI_ok {K Z : Int} {es : List (List UInt8 × Int)} (h : rightI K Z es = true) : finI K Z es false [] = some (K, Z, es) := by unfold finI; rw [if_neg (by decide), if_pos rfl, if_pos h]
theorem finI_no {K Z : Int} {es : List (List UInt8 × Int)} (h : rightI K Z es = false) : finI K Z es false [] = none := by unfold finI; rw [if_neg (by decide), if_pos rfl, if_neg (by rw [h]; decide)]
theorem encE_snoc (es : List (List UInt8 × Int)) (s : List UInt8) (y : Int) : (es ++ [(s, y)]).flatMap encE = es.flatMap encE ++ [.string (str s), .int .i64 y] := by simp [encE]
theorem info_entry : (Try.prog.info? 46).map (fun i => (i.zero, i.size, i.bytes)) = some (some (.agg #[.string ByteArray.empty, .int .i64 0]), 2, 24) := by kernel_rfl
theorem entry_one (s : List UInt8) (y : Int) : ∀ u ∈ [Value.string (str s), .int .i64 y], u.oneCell' = true := by
  intro u hu
  simp only [List.mem_cons, List.not_mem_nil, or_false] at hu
  rcases hu with rfl | rfl <;> rfl
/-- The first byte tells. -/
theorem rdI_first (bs : List UInt8) : rdI bs = if numV (rdTake bs 1) = 1 then finI 1 (numV (rdTake (rdLeft bs 1) 2) : Int) [] (rdBad (rdLeft bs 1) (rdBad bs false 1) 2) (rdLeft (rdLeft bs 1) 2)
    else if numV (rdTake bs 1) = 2 then (if rdBad (rdLeft bs 1) (rdBad bs false 1) 1 = true then none else match pE (numV (rdTake (rdLeft bs 1) 1)) (rdLeft (rdLeft bs 1) 1) with | none => none | some (es, r) => finI 2 0 es false r)
    else finI (numV (rdTake bs 1) : Int) 0 [] (rdBad bs false 1) (rdLeft bs 1) := by
  cases bs with
  | nil => rfl
  | cons k t =>
    obtain ⟨h1, h2, h3⟩ := rd1_cons k t false
    rw [h1, h2, h3]
    unfold rdI
    simp only
    cases t with
    | nil => rfl
    | cons c t =>
      obtain ⟨h4, h5, h6⟩ := rd1_cons c t false
      rw [h4, h5, h6]
      rfl
theorem rdI_dir {bs : List UInt8} {k : Nat} {bs' : List UInt8} {bad : Bool} {es : List (List UInt8 × Int)} (h2 : numV (rdTake bs 1) = 2) (hb : rdBad (rdLeft bs 1) (rdBad bs false 1) 1 = false) (hM : Mid (numV (rdTake (rdLeft bs 1) 1)) k (rdLeft (rdLeft bs 1) 1) bs' bad es) (hk : bad = false → k = 0) : rdI bs = finI 2 0 es bad bs' := by
  rw [rdI_first, h2, if_neg (by decide), if_pos rfl, hb, if_neg (by decide)]
  cases bad with
  | true => rw [hM.bad]; rfl
  | false =>
    obtain rfl := hk rfl
    rw [hM.done]
end Go.Proofs.YteghldapcfkekaaK
