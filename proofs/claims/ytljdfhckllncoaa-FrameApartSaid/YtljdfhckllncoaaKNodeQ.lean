import Derived.Test.YtljdfhckllncoaaKNodeD
namespace Go.Proofs.YtljdfhckllncoaaK
open Go.RowKit
set_option linter.unusedSimpArgs false
set_option linter.unusedVariables false
theorem enum8 (b : Nat) (A : Option Addr) (n c : Nat) (bs : List UInt8) (w : World) (h : Eye w b A n c 1 false) (h9 : 9 ≤ n) (hn : n ≤ 140737488355328) (hX : Bs w (.slice A n c) bs) :
    Calls Try.prog 52 #[.pointer (some ⟨b, 0, none⟩), .int .i64 8] w fun e w' => e = .returned (.int .u64 (nodeE bs : Int)) ∧ w.grownBy w' (some b) := by
  have hl := hX.len
  have h0 := enum_any b A n c 1 bs false 8 w h (by omega) hn hX
  have e1 : ¬ ((bs.drop 1).length : Int) < max ((8 : Nat) : Int) 0 := by rw [List.length_drop]; omega
  rw [show wid 8 = 8 from rfl] at h0
  unfold rdTake rdLeft rdBad at h0
  rw [if_neg e1, if_neg e1, if_neg e1] at h0
  refine h0.mono ?_
  rintro e w' ⟨i', h1, _, _, _, h5⟩
  exact ⟨h1, h5⟩
theorem nodeK_head (bs : List UInt8) (h : 0 < bs.length) : nodeK bs = bs[0].toNat := by
  match bs, h with
  | x :: l, _ => simp [nodeK, numV]
set_option maxRecDepth 10000 in
theorem rread_bad (A : Option Addr) (n c : Nat) (w : World) (h : n < 9 ∨ 233 < n) :
    Calls Try.prog 32 #[.slice A n c] w fun e w' => e = .returned (.tuple #[.agg #[.int .i64 0, .int .u64 0, .slice none 0 0], .int .i64 11]) ∧ Below w.heap.size w w' := by
  have hb0 : Below w.heap.size w (w.alloc (.cells #[.int .i64 0, .int .u64 0, .slice none 0 0] 45)) := (Below.refl _ _).alloc (Nat.le_refl _) _
  have hld := node_load (heap_alloc_new w (.cells #[.int .i64 0, .int .u64 0, .slice none 0 0] 45))
  have HLD := Lib.hid hld
  clear hld
  by_cases h1 : n < 9
  · clear h
    go_enter Try.func32, Try.ntmps32
    go_wp2
    refine bodyPost_ret (v := .tuple #[.agg #[.int .i64 0, .int .u64 0, .slice none 0 0], .int .i64 11]) ?_ rfl ⟨rfl, hb0⟩
    rw [results_cell_tmp rfl]
    simp [asAddr, Result.andThen, HLD.out]
  have h2 : 233 < n := by omega
  clear h
  go_enter Try.func32, Try.ntmps32
  go_wp2
  refine bodyPost_ret (v := .tuple #[.agg #[.int .i64 0, .int .u64 0, .slice none 0 0], .int .i64 11]) ?_ rfl ⟨rfl, hb0⟩
  rw [results_cell_tmp rfl]
  simp [asAddr, Result.andThen, HLD.out]
set_option maxRecDepth 10000 in
set_option maxHeartbeats 4000000 in
theorem rread_ok (A : Option Addr) (n c : Nat) (bs : List UInt8) (w : World) (hX : Bs w (.slice A n c) bs) (h9 : 9 ≤ n) (hn : n ≤ 233) :
    Calls Try.prog 32 #[.slice A n c] w fun e w' => ∃ v m, e = .returned (.tuple #[.agg #[.int .i64 (nodeK bs : Int), .int .u64 (nodeE bs : Int), v], .int .i64 0]) ∧ w'.ownsRow w.heap.size 5 1 v m ((bs.drop 9).map encB) ∧ Below w.heap.size w w' := by
  have hl := hX.len
  have H8 := Lib.hid (fun b W h hX => enum8 b A n c bs W h h9 (by omega) hX)
  obtain ⟨a, rfl, hcell⟩ := hX.at.map 0 (by omega)
  have hKh := nodeK_head bs (by omega)
  obtain ⟨K, hK⟩ : ∃ K, K = nodeK bs := ⟨_, rfl⟩
  obtain ⟨E, hE⟩ : ∃ K, K = nodeE bs := ⟨_, rfl⟩
  have hK8 : K < 256 := by rw [hK, hKh]; exact bs[0].toNat_lt
  have hcell2 : w.cell? a = some (.int .u8 (K : Int)) := by
    rw [hK, hKh]
    have h0 : a.add 0 = a := by unfold Addr.add; simp
    rw [h0] at hcell
    exact hcell
  rw [← hE] at H8
  rw [← hK, ← hE]
  clear hK hE hKh
  have e1 : IntKind.i64.wrap (K : Int) = K := by rw [IntKind.wrap_i64]; omega
  have hn0 : (0 : Int) < n := by omega
  have hn1 : 0 < n := by omega
  have ha0 : a.add 0 = a := by unfold Addr.add; simp
  obtain ⟨A', hcut0, hcutB, _⟩ := cut_from w (some a) n c 9 bs hX h9
  have hcut : ∀ W : World, (Instr.slice 22 (.slice (some a) n c) (some (.int .i64 9)) none none).run Try.prog W = .ok (.slice A' (n - 9) (c - 9)) W := hcut0
  obtain ⟨W0, hW0⟩ : ∃ W0, W0 = w.alloc (.cells #[.int .i64 0, .int .u64 0, .slice none 0 0] 45) := ⟨_, rfl⟩
  obtain ⟨xb, hxb⟩ : ∃ xb, xb = w.heap.size := ⟨_, rfl⟩
  have hb0 : Below w.heap.size w W0 := by rw [hW0]; exact (Below.refl _ _).alloc (Nat.le_refl _) _
  have hrow : W0.heap[xb]? = some (.cells #[.int .i64 0, .int .u64 0, .slice none 0 0] 45 (0, 0)) := by rw [hW0, hxb]; exact heap_alloc_new w _
  have hsz0 : W0.heap.size = xb + 1 := by rw [hW0, hxb]; simp
  have HG := Lib.hid (show w.heap.size ≤ xb by rw [hxb]; exact Nat.le_refl _)
  have hc0 := cell_later hb0 hcell2
  have HY0 := Lib.hid (hcutB W0 (hX.below hb0))
  have HLn := Lib.hid (hcutB W0 (hX.below hb0)).cells
  have hl' : (bs.drop 9).length = n - 9 := by rw [List.length_drop, hl]
  obtain ⟨W, hW⟩ : ∃ W, W = W0.alloc (.cells #[.slice (some a) n c, .int .i64 1, .bool false] 98) := ⟨_, rfl⟩
  have hBW : Below W0.heap.size W0 W := by rw [hW]; exact (Below.refl _ _).alloc (Nat.le_refl _) _
  have hEW : Eye W (xb + 1) (some a) n c 1 false := by
    have h0 := heap_alloc_new W0 (.cells #[.slice (some a) n c, .int .i64 1, .bool false] 98)
    rw [hsz0, ← hW] at h0
    exact h0
  have hszW : W.heap.size = xb + 2 := by rw [hW]; simp [hsz0]
  have HB0 := Lib.hid (show W0.heap.size ≤ xb + 1 by omega)
  have HCB := Lib.hid hcutB
  clear hcell hcutB hl hcut0 hc0
  have hqW := hb0.trans (hBW.mono hb0.size)
  have hBA := (hBW.alloc hBW.size (.cells #[] 5)).drew
  have hqA := (hqW.alloc hqW.size (.cells #[] 5)).drew
  have hatA := World.ownsRow.drew (own_empty (w := W) (b := W.heap.size) (base := W0.heap.size) (e := 5) (size := 1) rfl hBW.size)
  have hEA : Eye ((W.alloc (.cells #[] 5)).drew) (xb + 1) (some a) n c 1 false := (((Below.refl W.heap.size W).alloc (Nat.le_refl _) (.cells #[] 5)).drew.block (xb + 1) (by omega)).trans hEW
  have hneA : (Value.slice (some ⟨W.heap.size, 0, none⟩) 0 0).ownBlock ≠ some (xb + 1) := by
    show some W.heap.size ≠ _
    rw [hszW]; simp
  have HSW := Lib.hid hszW
  clear hszW hsz0
  go_enter Try.func32, Try.ntmps32
  go_wp2
  rw [← hW0]
  simp only [← hxb]
  rw [← hW]
  clear hW hW0 hxb
  have tok : True := trivial
  go_region_held3 (fun w' => w'.cell? a = some (.int .u8 (K : Int))) (first | exact cell_later hqS hcell2 | exact cell_later (node_below3 hq4 HG.out _ _ _) hcell2 | exact cell_later hq4 hcell2 | exact cell_later hq3 hcell2 | exact cell_later hq2 hcell2 | exact cell_later hqA hcell2 | exact cell_later hqW hcell2 | exact cell_later hqW.drew hcell2 | assumption | exact cell_later (hqW.alloc hqW.size (.cells #[] 5)) hcell2)
    ((first
      | (go_at_call 52; refine (H8.out (xb + 1) ((W.alloc (.cells #[] 5)).drew) hEA (hX.below hqA)).mono ?_; rintro e w2 ⟨rfl, hg2⟩; have hB3 := below_row hBA hg2 hBA.size HB0.out; have hq3 := hb0.trans (hB3.mono hb0.size); have hat3 := hatA.kept hg2 (.inr hneA))
      | (go_at_call 52; refine (H8.out (xb + 1) W.drew hEW (hX.below hqW.drew)).mono ?_; rintro e w2 ⟨rfl, hg2⟩; have hB2 := below_row hBW.drew hg2 hBW.size HB0.out; have hq2 := hb0.trans (hB2.mono hb0.size); have hB3 := hB2.alloc hB2.size (.cells #[] 5); have hq3 := hb0.trans (hB3.mono hb0.size); have hat3 := own_empty (w := w2) (b := w2.heap.size) (base := W0.heap.size) (e := 5) (size := 1) rfl hB2.size)
      | (refine step_append W0.heap.size rfl _ _ 22 5 (.int .u8 0) 1 1 rfl Try.underlying22 info_u8 rfl (by decide) (by decide) _ 0 [] A' (n - 9) (c - 9) ((bs.drop 9).map encB) (by simp [Act.eval, Act.put]) (by simp [Act.eval, Act.put]) hat3 (HCB.out _ (hX.below hq3)).at HLn.out (encB_all _) hB3.size (by omega) ?_; intro v3 w3 ho3 hg3 ha3; have hB4 := below_grown hB3 hat3 hg3 hB3.size; have hq4 := hb0.trans (hB4.mono hb0.size); obtain ⟨A7, c7, rfl, _, _⟩ := own_form ho3; have hrow5 := (hB4.block xb (Array.getElem?_eq_some_iff.1 hrow).1).trans hrow; have y0 := cell_of_row _ _ 0 _ _ _ hrow5; have y1 := cell_of_row _ _ 1 _ _ _ hrow5; have y2 := cell_of_row _ _ 2 _ _ _ hrow5; have z0 := frozen_of hrow5 0; have z1 := frozen_of hrow5 1; have z2 := frozen_of hrow5 2)))
  all_goals
    rw [Nat.zero_add, List.nil_append] at ho3
    have hlt : xb < W0.heap.size := (Array.getElem?_eq_some_iff.1 hrow).1
    have hfin := own_mono (own_set3 ho3 hlt (.int .i64 (K : Int)) (.int .u64 (E : Int)) (.slice A7 (n - 9) c7)) hb0.size
    have hbf := node_below3 hq4 HG.out (.int .i64 (K : Int)) (.int .u64 (E : Int)) (.slice A7 (n - 9) c7)
    have HLD := Lib.hid (node_load (node_row3 hrow5 (.int .i64 (K : Int)) (.int .u64 (E : Int)) (.slice A7 (n - 9) c7)))
    go_wp2
    refine bodyPost_ret (v := .tuple #[.agg #[.int .i64 (K : Int), .int .u64 (E : Int), .slice A7 (n - 9) c7], .int .i64 0]) ?_ rfl ⟨_, _, rfl, hfin, hbf⟩
    rw [results_cell_tmp rfl]
    simp [asAddr, Result.andThen, HLD.out]
end Go.Proofs.YtljdfhckllncoaaK
