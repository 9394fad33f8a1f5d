import Derived.Test.YtcknoadoeonbjaaKCrc
import Derived.Lib.SlBytesConst
namespace Go.Proofs.YtcknoadoeonbjaaK
open Go.RowKit
set_option linter.unusedSimpArgs false
set_option linter.unusedVariables false
theorem info5 : (Try.prog.info? 5).map (fun i => (i.zero, i.size, i.bytes)) = some (some (.int .u8 0), 1, 1) := by kernel_rfl
theorem info24 : (Try.prog.info? 24).map (fun i => (i.zero, i.size, i.bytes)) = some (some (.slice none 0 0), 1, 24) := by kernel_rfl
def nine : List UInt8 := [49, 50, 51, 52, 53, 54, 55, 56, 57]
theorem crc_nine : (crcF 0#32 nine).toNat = 3421780262 := by decide +kernel
set_option maxHeartbeats 400000 in
theorem crc_speaks (w : World) : Calls Try.prog 28 #[] w fun e w' => e = .returned (.bool true) ∧ Below w.heap.size w w' := by
  have kc := fun (w : World) (C : Array Value) (n c : Nat) => Lib.run_convert_bytes_const (P := Try.prog) w 24 5 C n c Try.underlying24 Try.underlying5
  go_enter Try.func28, Try.ntmps28
  go_wp2_with fail
  refine Calls.mono (sum_r 3421780262 _ _ _ [nine] _ rfl ?_ ?_) ?_
  · exact Bss.new1 (by simp) (Bs.new rfl rfl rfl (by omega))
  · rw [show [nine].flatten = nine from rfl, crc_nine]; rfl
  rintro e w' ⟨rfl, rfl⟩
  go_wp2
  go_ret
  exact ⟨rfl, ((Below.refl _ _).alloc (Nat.le_refl _) _).alloc (by simp) _⟩
set_option maxHeartbeats 400000 in
theorem crcSums_walk (s : Int) (s0 : B32) (hs : s = (s0.toNat : Int)) (A : Option Addr) (n cap : Nat) (xss : List (List UInt8)) (w : World) (hn : n = xss.length) (hX : Bss w (.slice A n cap) xss) :
    Calls Try.prog 8 #[.int .u32 s, .slice A n cap] w fun e w' => e = .returned (.bool true) ∧ Below w.heap.size w w' := by
  have HN := Lib.hid hn
  clear hn
  have HS := Lib.hid hs
  clear hs
  by_cases h50 : 50 < n
  · go_enter Try.func8, Try.ntmps8
    go_wp2_with (go_at_call 28; refine (crc_speaks _).mono ?_; rintro e w' ⟨rfl, hb⟩)
    go_ret
    exact ⟨rfl, ‹_›⟩
  go_enter Try.func8, Try.ntmps8
  go_wp2_with (go_at_call 28; refine (crc_speaks _).mono ?_; rintro e w' ⟨rfl, hb⟩)
  go_loopw [5, 16] (fun v i wr => ∃ k m : Nat, k ≤ n ∧ i = .int .i64 k ∧ wr.ownsRow w.heap.size 5 1 v m ((xss.take k).flatten.map encB) ∧ Below w.heap.size w wr) (fun _ i _ => n - (intOf i).toNat)
  case atStart =>
    refine ⟨0, 0, Nat.zero_le _, rfl, ?_, hb.alloc hb.size _⟩
    exact (World.ownsRow_made _ #[] 0 hb.size (by decide) rfl)
  case round =>
    obtain ⟨k, m, hk, rfl, hown, hbw⟩ := hrel
    by_cases hlt : k < n
    · obtain ⟨a, v, rfl, hc, hv⟩ := (hX.below hbw).get k (by rw [← HN.out]; exact hlt)
      obtain ⟨A1, c1, rfl, h1, h2, h3⟩ := hv
      obtain ⟨bs, hbs⟩ : ∃ bs, bs = xss[k]'(by rw [← HN.out]; exact hlt) := ⟨_, rfl⟩
      rw [← hbs] at hc h1 h2 h3
      have HB := Lib.hid hbs
      clear hbs
      obtain ⟨A2, c2, rfl, h4, h5⟩ := own_form hown
      by_cases h6 : 2000 < bs.length ∨ 20000 < m
      · clear hown h3
        go_wp2
        all_goals
          go_ret
          exact ⟨rfl, hbw⟩
      have h7 : (m + bs.length) * 1 ≤ 140737488355328 := by omega
      go_wp2_with (at_builtin; refine wp_append w.heap.size rfl _ _ 24 5 (.int .u8 0) 1 1 rfl Try.underlying24 info5 rfl (by decide) (by decide) (.slice A2 m c2) m _ A1 bs.length c1 (bs.map encB) rfl rfl hown h3 (by simp) (encB_all bs) hbw.size h7 ?_; intro v1 w1 hown1 hg1 hat1; have hb1 := below_grown hbw hown hg1 hbw.size; clear hown hg1 hat1)
      go_roundw
      case rel => exact ⟨k + 1, _, by omega, by go_num, by rw [take_snoc' xss k (by rw [← HN.out]; exact hlt), List.flatten_append, List.map_append, ← HB.out]; simpa using hown1, hb1⟩
      case measure => simp [intOf]; omega
    · obtain rfl : k = n := by omega
      obtain ⟨A2, c2, rfl, h4, h5⟩ := own_form hown
      obtain ⟨hm1, hbs⟩ := own_bs hown
      have HM := Lib.hid hm1
      rw [List.take_of_length_le (by rw [← HN.out]; exact Nat.le_refl _)] at hbs
      clear hown hm1
      have hX1 := hX.below hbw
      obtain ⟨r1, hr1⟩ : ∃ r, ((crcF 0#32 xss.flatten).toNat : Int) = r := ⟨_, rfl⟩
      obtain ⟨r2, hr2⟩ : ∃ r, ((crcF s0 xss.flatten).toNat : Int) = r := ⟨_, rfl⟩
      have HR1 := Lib.hid hr1
      have HR2 := Lib.hid hr2
      clear hr1 hr2
      have hm2 : m = xss.flatten.length := by
        rw [HM.out, List.take_of_length_le (by rw [← HN.out]; exact Nat.le_refl _)]
      have HM2 := Lib.hid hm2
      clear hm2
      go_wp2_with fail
      refine (sum_r r1 _ _ _ xss _ HN.out hX1 HR1.out).mono ?_
      rintro e w2 ⟨rfl, rfl⟩
      go_wp2_with fail
      refine (ref_r 0 r1 0#32 rfl _ _ _ xss.flatten _ HM2.out hbs HR1.out).mono ?_
      rintro e w2 ⟨rfl, rfl⟩
      go_wp2_with fail
      refine (on_r s r2 s0 HS.out _ _ _ xss _ HN.out hX1 HR2.out).mono ?_
      rintro e w2 ⟨rfl, rfl⟩
      go_wp2_with fail
      refine (ref_r s r2 s0 HS.out _ _ _ xss.flatten _ HM2.out hbs HR2.out).mono ?_
      rintro e w2 ⟨rfl, rfl⟩
      go_wp2_with fail
      refine (on_r s s s0 HS.out _ _ _ [] _ rfl (Bss.nil _) (by rw [HS.out, List.flatten_nil, crcF_nil])).mono ?_
      rintro e w2 ⟨rfl, rfl⟩
      go_wp2
      go_ret
      exact ⟨rfl, hbw⟩
end Go.Proofs.YtcknoadoeonbjaaK
