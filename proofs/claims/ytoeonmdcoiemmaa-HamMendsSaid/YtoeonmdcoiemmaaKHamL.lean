import Derived.Test.YtoeonmdcoiemmaaKHamK
import Derived.Deep.RegionHeld3
import Derived.Deep.MidRow
import Derived.Deep.WholeRow
namespace Go.Proofs.YtoeonmdcoiemmaaK
open Go.RowKit
set_option linter.unusedSimpArgs false
set_option linter.unusedVariables false
theorem range_below {w w1 : World} {b o : Nat} {cs : List Value} (h : w.rangeAt b o cs) (hb : Below w.heap.size w w1) : w1.rangeAt b o cs := fun j v hv => cell_later hb (h j v hv)
theorem range_row {w : World} {b : Nat} {cs : List Value} {T : TypeId} {fz : Nat × Nat} (h : w.heap[b]? = some (.cells cs.toArray T fz)) : w.rangeAt b 0 cs := fun j v hv => by
  rw [Nat.zero_add, cell_of_row _ _ j _ _ _ h]; simpa using hv
theorem _root_.Go.World.rangeAt.head {w : World} {b : Nat} {cs : List Value} (h : w.rangeAt b 0 cs) (hl : 0 < cs.length) : w.cell? ⟨b, 0, none⟩ = cs[0]? := by
  have := h 0 _ (List.getElem?_eq_getElem hl)
  rw [List.getElem?_eq_getElem hl]; exact this
def oneD : List UInt8 := 1 :: List.replicate 255 0
set_option maxRecDepth 100000 in
theorem chk_one : chk oneD = 4099 := by decide +kernel
set_option maxRecDepth 100000 in
theorem ham_speaks (w : World) : Calls Try.prog 12 #[] w fun e w' => e = .returned (.bool true) ∧ Below w.heap.size w w' := by
  have HC := Lib.hid (check_any oneD (by decide) w)
  rw [chk_one] at HC
  have hz := (zero_of_info (P := Try.prog) (t := 23) (v := .agg (Array.replicate 256 (.int .u8 0))) (n := 256) (by kernel_rfl)).1
  have hone : (Array.replicate 256 (Value.int .u8 0)).setIfInBounds 0 (.int .u8 1) = (oneD.map encB).toArray := by kernel_rfl
  rw [← hone] at HC
  clear hone
  go_enter Try.func12, Try.ntmps12
  go_wp2_with (go_at_call 13; refine HC.out.mono ?_; rintro e w1 ⟨rfl, hb1⟩)
  go_ret
  exact ⟨by rfl, hb1⟩
set_option maxRecDepth 100000 in
set_option maxHeartbeats 2000000 in
theorem hamChecks_walk (bs : List UInt8) (hl : bs.length = 256) (w : World) :
    Calls Try.prog 3 #[.agg (bs.map encB).toArray] w fun e w' => e = .returned (.bool true) ∧ Below w.heap.size w w' := by
  have HC := Lib.hid (fun W => check_any bs hl W)
  have HR := Lib.hid (fun W => rcheck_any bs hl W)
  have hk := chk_lt bs
  obtain ⟨K, hK⟩ : ∃ K, K = chk bs := ⟨_, rfl⟩
  rw [← hK] at HC HR hk
  have hi0 : (Try.prog.info? 23).map (·.size) = some (bs.map encB).length := by rw [List.length_map, hl]; kernel_rfl
  obtain ⟨L, hL⟩ : ∃ L, L = bs.map encB := ⟨_, rfl⟩
  rw [← hL] at HC HR hi0 ⊢
  have HI := Lib.hid hi0
  obtain ⟨W, hW⟩ : ∃ W, W = w.alloc (.cells L.toArray 23) := ⟨_, rfl⟩
  obtain ⟨xb, hxb⟩ : ∃ xb, xb = w.heap.size := ⟨_, rfl⟩
  have hb0 : Below w.heap.size w W := by rw [hW]; exact (Below.refl _ _).alloc (Nat.le_refl _) _
  have hrg : W.rangeAt xb 0 L := range_row (by rw [hW, hxb]; exact heap_alloc_new w _)
  clear hK hL hi0
  go_enter Try.func3, Try.ntmps3
  go_wp2_with fail
  rw [← hW]
  simp only [← hxb]
  clear hW hxb
  go_wp2_with (go_at_call 12; refine (ham_speaks _).mono ?_; rintro e w1 ⟨rfl, hb1⟩; have hr1 := range_below hrg hb1; have hq1 := hb0.trans (hb1.mono hb0.size))
  have hu := Try.underlying23
  have hi1 := HI.out
  have hqd := hq1.drew
  have hrd := range_below hr1 (Below.refl w1.heap.size w1).drew
  have e1 : IntKind.i64.wrap (K : Int) = K := by rw [IntKind.wrap_i64]; omega
  have hk0 : (0 : Int) ≤ K := by omega
  refine wp_region_held_drew (S := fun w' => w'.rangeAt xb 0 L) (by kernel_rfl) hrd (fun _ => ?_)
  refine' wpAnyH_take (i := 0) (oi := _) (v := _) rfl (by kernel_rfl) (by kernel_rfl) (by kernel_rfl) (fun _ _ _ h => h) (yieldsIf_load_mid (by rfl) _ _ rfl _ _ rfl _ _ (fun w h => h) hu (by rfl) hi1) hrd ?_
  try simp only [Act.put, List.setIfInBounds_toArray, List.set_cons_zero, List.set_cons_succ]
  refine' wpAnyH_take (i := 3) (oi := _) (v := _) rfl (by kernel_rfl) (by kernel_rfl) (by kernel_rfl) (fun _ _ _ h => h) (yieldsIf_load_mid (by rfl) _ _ rfl _ _ rfl _ _ (fun w h => h) hu (by rfl) hi1) hrd ?_
  try simp only [Act.put, List.setIfInBounds_toArray, List.set_cons_zero, List.set_cons_succ]
  refine wpAnyH_ready (rs := [1]) (by kernel_rfl) (by simp) ?_
  refine AllReadyH.cons (o := ({ dst := some 6, op := Op.call { callee := Callee.value (Operand.func 13), args := #[Operand.tmp 5], argTypes := #[23] }, type := 25, pos := "law.go:18", after := #[{ on := 0, ground := Ground.data }], guard := none } : Oper)) rfl (fun Kk hKk => ?_) AllReadyH.nil
  go_simp
  go_at_call 13
  refine (HC.out _).mono ?_
  rintro e w2 ⟨rfl, hb2⟩
  have hr2 := range_below hrd hb2
  have hq2 := hqd.trans (hb2.mono hqd.size)
  refine hKk.out _ _ hr2 (fun _ => ?_)
  clear hKk Kk
  try simp only [Act.put, List.setIfInBounds_toArray, List.set_cons_zero, List.set_cons_succ]
  refine wpAnyH_take (i := 2) (oi := _) (v := .int .i64 (K : Int)) rfl (by kernel_rfl) (by kernel_rfl) (by kernel_rfl) (fun _ _ _ h => h) (Or.inl ⟨by rfl, fun w _ => by go_simp⟩) hr2 ?_
  try simp only [Act.put, List.setIfInBounds_toArray, List.set_cons_zero, List.set_cons_succ]
  refine wpAnyH_ready (rs := [4]) (by kernel_rfl) (by simp) ?_
  refine AllReadyH.cons (o := ({ dst := some 9, op := Op.call { callee := Callee.value (Operand.func 14), args := #[Operand.tmp 8], argTypes := #[23] }, type := 3, pos := "law.go:18", after := #[{ on := 3, ground := Ground.data }, { on := 1, ground := Ground.chain }], guard := none } : Oper)) rfl (fun Kk hKk => ?_) AllReadyH.nil
  go_simp
  go_at_call 14
  refine (HR.out _).mono ?_
  rintro e w3 ⟨rfl, hb3⟩
  have hr3 := range_below hr2 hb3
  have hq3 := hq2.trans (hb3.mono hq2.size)
  refine hKk.out _ _ hr3 (fun _ => ?_)
  clear hKk Kk
  try simp only [Act.put, List.setIfInBounds_toArray, List.set_cons_zero, List.set_cons_succ]
  refine wpAnyH_ready (rs := [5]) (by kernel_rfl) (by simp) ?_
  refine AllReadyH.cons (o := ({ dst := some 10, op := Op.binOp BinOp.eql 3 (Operand.tmp 7) (Operand.tmp 9) 3, type := 4, pos := "law.go:18", after := #[{ on := 2, ground := Ground.data }, { on := 4, ground := Ground.data }], guard := none } : Oper)) rfl (fun Kk hKk => ?_) AllReadyH.nil
  go_simp
  refine hKk.out _ _ hr3 (fun _ => ?_)
  clear hKk Kk
  try simp only [Act.put, List.setIfInBounds_toArray, List.set_cons_zero, List.set_cons_succ]
  refine wpAnyH_ready (rs := [6]) (by kernel_rfl) (by simp) ?_
  refine AllReadyH.cons (o := ({ dst := some 2, op := Op.assign (Operand.tmp 10), type := 4, pos := "law.go:18", after := #[{ on := 5, ground := Ground.data }, { on := 4, ground := Ground.chain }, { on := 0, ground := Ground.phase }, { on := 1, ground := Ground.phase }, { on := 2, ground := Ground.phase }, { on := 3, ground := Ground.phase }, { on := 4, ground := Ground.phase }, { on := 5, ground := Ground.phase }], guard := none } : Oper)) rfl (fun Kk hKk => ?_) AllReadyH.nil
  go_simp
  refine hKk.out _ _ hr3 (fun _ => ?_)
  clear hKk Kk
  try simp only [Act.put, List.setIfInBounds_toArray, List.set_cons_zero, List.set_cons_succ]
  refine wpAnyH_done (by kernel_rfl) ?_ _
  go_wp2
  go_ret
  refine ⟨?_, hq3⟩
  show Ending.returned (Value.bool _) = _
  congr 2
  first | done | simp
end Go.Proofs.YtoeonmdcoiemmaaK
