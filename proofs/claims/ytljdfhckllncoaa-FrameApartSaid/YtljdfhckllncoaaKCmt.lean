import Derived.Test.YtljdfhckllncoaaKOpenN
import Derived.Test.YtljdfhckllncoaaKArr
namespace Go.Proofs.YtljdfhckllncoaaK
open Go.RowKit
set_option linter.unusedSimpArgs false
set_option linter.unusedVariables false
theorem cmtC_list (ep : Int) (live : List UInt8) (sum : Int) : (cmtC ep live sum).toList = [Value.int .u64 ep] ++ (live.map encB ++ [Value.int .u32 sum]) := by unfold cmtC; rfl
theorem cmtC_length (ep : Int) (live : List UInt8) (sum : Int) (hl : live.length = 32) : (cmtC ep live sum).toList.length = 34 := by rw [cmtC_list]; simp [hl]
theorem cmt0 (ep : Int) (live : List UInt8) (sum : Int) : ((cmtC ep live sum).toList.drop 0).take 1 = [.int .u64 ep] := by rw [cmtC_list]; rfl
theorem cmt1 (ep : Int) (live : List UInt8) (sum : Int) (hl : live.length = 32) : ((cmtC ep live sum).toList.drop 1).take 32 = live.map encB := by
  rw [cmtC_list]
  show (live.map encB ++ [Value.int .u32 sum]).take 32 = _
  rw [List.take_append_of_le_length (by simp [hl]), List.take_of_length_le (by simp [hl])]
theorem cmt2 (ep : Int) (live : List UInt8) (sum : Int) (hl : live.length = 32) : ((cmtC ep live sum).toList.drop 33).take 1 = [.int .u32 sum] := by
  rw [cmtC_list]
  show ((live.map encB ++ [Value.int .u32 sum]).drop 32).take 1 = _
  rw [List.drop_append_of_le_length (by simp [hl]), List.drop_of_length_le (by simp [hl])]
  rfl
set_option maxRecDepth 100000 in
theorem keyLits_cmt (ep : Int) (live : List UInt8) (sum : Int) (hl : live.length = 32) (he : 0 ≤ ep ∧ ep < 18446744073709551616) (hs : 0 ≤ sum ∧ sum < 4294967296) :
    Try.prog.keyLits 3 50 (cmtC ep live sum).toList = some ([.int .u64 ep] ++ (live.map litB ++ [.int .u32 sum])) := by
  have c0 : Try.prog.cellsOf 43 = 1 := by kernel_rfl
  have c1 : Try.prog.cellsOf 47 = 32 := by kernel_rfl
  have c2 : Try.prog.cellsOf 48 = 1 := by kernel_rfl
  have c3 : Try.prog.cellsOf 50 = 34 := by kernel_rfl
  have k0 : Try.prog.keyLits 2 43 [.int .u64 ep] = some [.int .u64 ep] := by
    unfold Program.keyLits
    rw [Try.underlying43]
    have : (Lit.int .u64 ep).wf = true := by simp [Lit.wf, IntKind.min, IntKind.max, IntKind.signed, IntKind.bits]; omega
    simp [this]
  have k1 := keyLits_arr (P := Try.prog) (D := 0) Try.underlying47 Try.underlying5 (by kernel_rfl) c1 live hl
  have k2 : Try.prog.keyLits 2 48 [.int .u32 sum] = some [.int .u32 sum] := by
    unfold Program.keyLits
    rw [Try.underlying48]
    have : (Lit.int .u32 sum).wf = true := by simp [Lit.wf, IntKind.min, IntKind.max, IntKind.signed, IntKind.bits]; omega
    simp [this]
  unfold Program.keyLits
  rw [Try.underlying50]
  simp only []
  rw [if_pos ⟨by rw [cmtC_length _ _ _ hl, c3], by decide +kernel⟩]
  show Option.map List.flatten (List.mapM _ [_, _, _]) = _
  rw [List.mapM_cons, List.mapM_cons, List.mapM_cons, List.mapM_nil]
  simp only [c0, c1, c2, cmt0, cmt1 _ _ _ hl, cmt2 _ _ _ hl, k0, k1, k2]
  simp
set_option maxRecDepth 100000 in
theorem commit_eql (e1 : Int) (l1 : List UInt8) (s1 : Int) (e2 : Int) (l2 : List UInt8) (s2 : Int) (hl1 : l1.length = 32) (hl2 : l2.length = 32)
    (h1 : 0 ≤ e1 ∧ e1 < 18446744073709551616) (h2 : 0 ≤ s1 ∧ s1 < 4294967296) (h3 : 0 ≤ e2 ∧ e2 < 18446744073709551616) (h4 : 0 ≤ s2 ∧ s2 < 4294967296) (w : World) :
    (Op.equalIn 10000 50 (.agg (cmtC e1 l1 s1)) (.agg (cmtC e2 l2 s2))).run Try.prog w = .ok (decide (e1 = e2 ∧ l1 = l2 ∧ s1 = s2)) w := by
  have hf : ∀ (e : Int) (l : List UInt8) (s : Int), l.length = 32 → (Value.agg (cmtC e l s)).formed Try.prog 50 = true := by
    intro e l s hl
    unfold Value.formed
    rw [Try.underlying50]
    have := cmtC_length e l s hl
    rw [Array.length_toList] at this
    rw [show Try.prog.cellsOf 50 = 34 from by kernel_rfl]
    show ((cmtC e l s).size == 34) = true
    rw [this]
    rfl
  obtain ⟨r, h5, h6⟩ := run_equalIn_deep (P := Try.prog) 9997 3 50 (by kernel_rfl) w 3 3 _ _ _ _ (hf e1 l1 s1 hl1) (hf e2 l2 s2 hl2) (keyLits_cmt e1 l1 s1 hl1 h1 h2) (keyLits_cmt e2 l2 s2 hl2 h3 h4)
  rw [show (10000 : Nat) = 9997 + 3 from rfl, h5]
  congr 1
  have h7 : ([Lit.int .u64 e1] ++ (l1.map litB ++ [Lit.int .u32 s1]) = [Lit.int .u64 e2] ++ (l2.map litB ++ [Lit.int .u32 s2])) ↔ (e1 = e2 ∧ l1 = l2 ∧ s1 = s2) := by
    constructor
    · intro h
      have h8 := List.append_inj h rfl
      have h9 := List.append_inj h8.2 (by simp [hl1, hl2])
      refine ⟨?_, (litB_inj _ _).1 h9.1, ?_⟩
      · have := h8.1; simpa using this
      · have := h9.2; simpa using this
    · rintro ⟨rfl, rfl, rfl⟩; rfl
  rw [h7] at h6
  by_cases h : e1 = e2 ∧ l1 = l2 ∧ s1 = s2
  · rw [decide_eq_true h]; exact h6.2 h
  · rw [decide_eq_false h]
    cases r
    · rfl
    · exact absurd (h6.1 rfl) h
end Go.Proofs.YtljdfhckllncoaaK
