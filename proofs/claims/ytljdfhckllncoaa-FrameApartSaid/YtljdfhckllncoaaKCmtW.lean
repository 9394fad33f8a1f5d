import Derived.Test.YtljdfhckllncoaaKCmt
import Derived.Test.YtljdfhckllncoaaKNodeB
import Derived.Deep.MidRow
namespace Go.Proofs.YtljdfhckllncoaaK
open Go.RowKit
set_option linter.unusedSimpArgs false
set_option linter.unusedVariables false
/-- A commit's bytes. -/
def cmtB (e : Nat) (live : List UInt8) (s : Nat) : List UInt8 := numB 8 e ++ (numB 4 s ++ live)
theorem cmtB_length (e : Nat) (live : List UInt8) (s : Nat) (hl : live.length = 32) : (cmtB e live s).length = 44 := by
  unfold cmtB
  rw [List.length_append, List.length_append, numB_length, numB_length, hl]
theorem cmtB_inj (e1 : Nat) (l1 : List UInt8) (s1 : Nat) (e2 : Nat) (l2 : List UInt8) (s2 : Nat) (h1 : e1 < 18446744073709551616) (h2 : s1 < 4294967296) (h3 : e2 < 18446744073709551616) (h4 : s2 < 4294967296) :
    cmtB e1 l1 s1 = cmtB e2 l2 s2 ↔ (e1 = e2 ∧ l1 = l2 ∧ s1 = s2) := by
  constructor
  · intro h
    unfold cmtB at h
    have a := List.append_inj h (by rw [numB_length, numB_length])
    have b := List.append_inj a.2 (by rw [numB_length, numB_length])
    refine ⟨?_, b.2, ?_⟩
    · have := congrArg numV a.1
      rw [numV_numB, numV_numB] at this
      omega
    · have := congrArg numV b.1
      rw [numV_numB, numV_numB] at this
      omega
  · rintro ⟨rfl, rfl, rfl⟩; rfl
theorem cmt_cells {w : World} {b : Nat} {T : TypeId} {fz : Nat × Nat} {ep : Int} {live : List UInt8} {sum : Int} (h : w.heap[b]? = some (.cells (cmtC ep live sum) T fz)) (hl : live.length = 32) :
    w.cell? ⟨b, 0, none⟩ = some (.int .u64 ep) ∧ w.cell? ⟨b, 33, none⟩ = some (.int .u32 sum) ∧ Bs w (.slice (some ⟨b, 1, none⟩) 32 32) live := by
  have hc : ∀ j, w.cell? ⟨b, j, none⟩ = (cmtC ep live sum).toList[j]? := fun j => by rw [cell_of_row _ _ j _ _ _ h]; simp
  refine ⟨by rw [hc, cmtC_list]; rfl, ?_, ?_⟩
  · rw [hc, cmtC_list, List.getElem?_append_right (by simp), List.getElem?_append_right (by simp [hl])]
    simp [hl]
  · refine ⟨some ⟨b, 1, none⟩, 32, by rw [hl], by omega, by omega, fun j u hu => ⟨_, rfl, ?_⟩⟩
    have hj : j < 32 := by
      rcases Nat.lt_or_ge j 32 with h1 | h1
      · exact h1
      · rw [List.getElem?_eq_none (by simp [hl]; exact h1)] at hu; cases hu
    rw [Addr.add_mid, hc, cmtC_list, List.getElem?_append_right (by simp), List.getElem?_append_left (by simp [hl]; omega)]
    rw [show 1 + j - [Value.int .u64 ep].length = j from by simp]
    exact hu
set_option maxRecDepth 10000 in
set_option maxHeartbeats 2000000 in
theorem wcommit_any (E : Nat) (live : List UInt8) (S : Nat) (w : World) (hl : live.length = 32) (he : E < 18446744073709551616) (hs : S < 4294967296) :
    Calls Try.prog 23 #[.agg (cmtC (E : Int) live (S : Int))] w fun e w' => ∃ v, e = .returned v ∧ Fresh w.heap.size w' v (cmtB E live S) ∧ Below w.heap.size w w' := by
  have HNum := Lib.hid (fun W (s : Int) (N : Nat) h => num_any s N W h)
  have HJ := Lib.hid (fun W A n c xss h h1 h2 => pjoin_any A n c xss W h h1 h2)
  have e1 : IntKind.u64.wrap (S : Int) = S := by rw [IntKind.wrap_u64]; omega
  have tok : True := trivial
  have hlens : Lib.lens [numB (wid 8) E, numB (wid 4) S, live] ≤ 140737488355328 := by rw [lens3, numB_length, numB_length, hl]; have := wid_le 8; have := wid_le 4; omega
  have HLens := Lib.hid hlens
  clear hlens
  obtain ⟨C, hC⟩ : ∃ C, C = cmtC (E : Int) live (S : Int) := ⟨_, rfl⟩
  obtain ⟨W, hW⟩ : ∃ W, W = w.alloc (.cells C 50) := ⟨_, rfl⟩
  obtain ⟨xb, hxb⟩ : ∃ xb, xb = w.heap.size := ⟨_, rfl⟩
  have hb0 : Below w.heap.size w W := by rw [hW]; exact (Below.refl _ _).alloc (Nat.le_refl _) _
  have hrow : W.heap[xb]? = some (.cells C 50 (0, 0)) := by rw [hW, hxb]; exact heap_alloc_new w _
  rw [hC] at hrow
  obtain ⟨x0, x2, x1⟩ := cmt_cells hrow hl
  rw [← hC]
  clear hC
  go_enter Try.func23, Try.ntmps23
  go_wp2
  rw [← hW, ← hxb]
  clear hW hxb hrow
  have hbd := hb0.drew
  have hXd := x1.below (Below.refl W.heap.size W).drew
  trace_state
  go_region_held3 (fun w' => w'.cell? ⟨xb, 0, none⟩ = some (.int .u64 (E : Int)) ∧ w'.cell? ⟨xb, 33, none⟩ = some (.int .u32 (S : Int))) (first | assumption | exact ⟨x0, x2⟩ | exact ⟨cell_later hb1 x0, cell_later hb1 x2⟩ | exact ⟨cell_later hb2 (cell_later hb1 x0), cell_later hb2 (cell_later hb1 x2)⟩ | exact ⟨cell_later ((Below.refl _ _).alloc (Nat.le_refl _) _) (cell_later hb2 (cell_later hb1 x0)), cell_later ((Below.refl _ _).alloc (Nat.le_refl _) _) (cell_later hb2 (cell_later hb1 x2))⟩ | exact ⟨cell_later hb3 (cell_later ((Below.refl _ _).alloc (Nat.le_refl _) _) (cell_later hb2 (cell_later hb1 x0))), cell_later hb3 (cell_later ((Below.refl _ _).alloc (Nat.le_refl _) _) (cell_later hb2 (cell_later hb1 x2)))⟩)
    ((first
      | (go_at_call 36; have _t := tok; refine (HNum.out _ 8 E he).mono ?_; rintro e w1 ⟨v1, rfl, ho1, hb1⟩; have hq1 := hbd.trans (hb1.mono hbd.size); obtain ⟨A5, c5, rfl, _, _⟩ := own_form ho1; have hX1 := hXd.below hb1; clear _t tok)
      | (go_at_call 36; refine (HNum.out _ 4 S (by omega)).mono ?_; rintro e w2 ⟨v2, rfl, ho2, hb2⟩; have hq2 := hq1.trans (hb2.mono hq1.size); obtain ⟨A6, c6, rfl, _, _⟩ := own_form ho2; have hX2 := hX1.below hb2)
      | (go_at_call 35; refine (HJ.out _ _ _ _ _ (Bss.new3 (by first | rfl | simp) (((own_bs ho1).2).below hb2) (own_bs ho2).2 hX2) (by omega) HLens.out).mono ?_; rintro e w3 ⟨v3, rfl, ho3, hb3⟩; have hq3 := (hq2.alloc hq2.size _).trans (hb3.mono (hq2.alloc hq2.size _).size))))
  all_goals
    go_wp2
    go_ret
    refine ⟨v3, rfl, ?_, hq3⟩
    have hf := ho3.mono (B' := w.heap.size) (by have := hq2.size; simp; omega)
    have e3 : [numB (wid 8) E, numB (wid 4) S, live].flatten = cmtB E live S := by show _ = numB 8 E ++ (numB 4 S ++ live); rw [show wid 8 = 8 from rfl, show wid 4 = 4 from rfl]; simp
    rw [e3] at hf
    exact hf
end Go.Proofs.YtljdfhckllncoaaK
