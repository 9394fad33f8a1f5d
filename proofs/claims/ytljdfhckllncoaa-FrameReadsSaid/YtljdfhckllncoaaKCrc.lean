import Derived.Test.YtljdfhckllncoaaRows
import Derived.Test.YtljdfhckllncoaaKMa
import Derived.Test.YtljdfhckllncoaaKCrcPure
namespace Go.Proofs.YtljdfhckllncoaaK
open Go.RowKit
set_option linter.unusedSimpArgs false
set_option linter.unusedVariables false
theorem ret_u32 {k : IntKind} {a b : Int} (h : a = b) : Ending.returned (.int k a) = .returned (.int k b) := by rw [h]
theorem int_eq {k : IntKind} {a b : Int} (h : a = b) : Value.int k a = Value.int k b := by rw [h]
theorem take_snoc' {α : Type} (l : List α) (k : Nat) (h : k < l.length) : l.take (k + 1) = l.take k ++ [l[k]] := List.take_succ_eq_append_getElem h
def crcAll (c : B32) (xss : List (List UInt8)) : B32 := xss.foldl crcBytes c
theorem crcAll_snoc (c : B32) (l : List (List UInt8)) (b : List UInt8) : crcAll c (l ++ [b]) = crcBytes (crcAll c l) b := by simp [crcAll]
theorem crcAll_flat (c : B32) (l : List (List UInt8)) : crcAll c l = crcBytes c l.flatten := by
  induction l generalizing c with
  | nil => rfl
  | cons b l ih => show crcAll (crcBytes c b) l = _; rw [ih, List.flatten_cons, crcBytes_append]
set_option maxHeartbeats 400000 in
theorem on_any (c0 : B32) (A : Option Addr) (n cap : Nat) (xss : List (List UInt8)) (w : World) (hn : n = xss.length) (hX : Bss w (.slice A n cap) xss) :
    Calls Try.prog 56 #[.int .u32 (c0.toNat : Int), .slice A n cap] w fun e w' => e = .returned (.int .u32 ((crcF c0 xss.flatten).toNat : Int)) ∧ w = w' := by
  have hs0 : IntKind.u32.signed = false := rfl
  have hn63 : n ≤ 9223372036854775807 := by
    obtain ⟨_, _, _, _, _, hh, _⟩ := hX
    omega
  have HN := Lib.hid hn
  clear hn
  have H0 := Lib.hid (u32_not c0)
  go_enter Try.func56, Try.ntmps56
  go_wp2
  go_loop [5, 14] (fun c i => ∃ k : Nat, k ≤ n ∧ i = .int .i64 k ∧ c = .int .u32 ((crcAll (~~~c0) (xss.take k)).toNat : Int)) (fun _ i => n - (intOf i).toNat)
  case atStart => exact ⟨0, Nat.zero_le _, rfl, int_eq H0.out⟩
  case round =>
    obtain ⟨k, hk, rfl, rfl⟩ := hrel
    by_cases hlt : k < n
    · obtain ⟨a, v, rfl, hc, hv⟩ := hX.get k (by rw [← HN.out]; exact hlt)
      obtain ⟨A1, c1, rfl, h1, h2, h3⟩ := hv
      obtain ⟨bs, hbs⟩ : ∃ bs, bs = xss[k]'(by rw [← HN.out]; exact hlt) := ⟨_, rfl⟩
      rw [← hbs] at hc h1 h2 h3
      have HB := Lib.hid hbs
      clear hbs
      generalize hcc : crcAll (~~~c0) (xss.take k) = cc
      have HC := Lib.hid hcc
      clear hcc
      go_wp2
      go_loop [5, 20] (fun c i => ∃ q : Nat, q ≤ bs.length ∧ i = .int .i64 q ∧ c = .int .u32 ((crcBytes cc (bs.take q)).toNat : Int)) (fun _ i => bs.length - (intOf i).toNat)
      case atStart => exact ⟨0, Nat.zero_le _, rfl, rfl⟩
      case round =>
        obtain ⟨q, hq, rfl, rfl⟩ := hrel
        by_cases hlq : q < bs.length
        · obtain ⟨a1, rfl, hb⟩ := h3.map q hlq
          unfold encB at hb
          obtain ⟨x, hx⟩ : ∃ x : UInt8, x = bs[q] := ⟨_, rfl⟩
          rw [← hx] at hb
          have HX := Lib.hid hx
          clear hx
          have hx8 := x.toNat_lt
          generalize hdd : crcBytes cc (bs.take q) = dd
          have HD := Lib.hid hdd
          clear hdd
          go_wp2
          go_loop [5, 28] (fun c i => ∃ m : Nat, m ≤ 8 ∧ i = .int .i64 m ∧ c = .int .u32 ((steps m (dd ^^^ byteB x)).toNat : Int)) (fun _ i => 8 - (intOf i).toNat)
          case atStart => exact ⟨0, Nat.zero_le _, rfl, int_eq (u32_byte dd x)⟩
          case round =>
            obtain ⟨m, hm, rfl, rfl⟩ := hrel
            by_cases hl8 : m < 8
            · generalize hee : steps m (dd ^^^ byteB x) = ee
              have HE := Lib.hid hee
              clear hee
              go_wp2
              go_round
              case rel => exact ⟨m + 1, by omega, by go_num, int_eq (by rw [u32_step, ← HE.out]; rfl)⟩
              case measure => simp [intOf]; omega
            · obtain rfl : m = 8 := by omega
              go_wp2
              go_round
              case rel => exact ⟨q + 1, by omega, by go_num, by rw [take_snoc' bs q hlq, crcBytes_snoc, HD.out, ← HX.out]; rfl⟩
              case measure => simp [intOf]; omega
        · obtain rfl : q = bs.length := by omega
          go_wp2
          go_round
          case rel => exact ⟨k + 1, by omega, by go_num, by rw [take_snoc' xss k (by rw [← HN.out]; exact hlt), crcAll_snoc, HC.out, ← HB.out, List.take_length]⟩
          case measure => simp [intOf]; omega
    · obtain rfl : k = n := by omega
      go_wp2
      go_ret
      exact ⟨ret_u32 ((u32_not _).trans (by rw [List.take_of_length_le (by rw [← HN.out]; exact Nat.le_refl _), crcAll_flat]; rfl)), rfl⟩
theorem on_at (c : Int) (c0 : B32) (hc : c = (c0.toNat : Int)) (A : Option Addr) (n cap : Nat) (xss : List (List UInt8)) (w : World) (hn : n = xss.length) (hX : Bss w (.slice A n cap) xss) :
    Calls Try.prog 56 #[.int .u32 c, .slice A n cap] w fun e w' => e = .returned (.int .u32 ((crcF c0 xss.flatten).toNat : Int)) ∧ w = w' := by
  rw [hc]; exact on_any c0 A n cap xss w hn hX
theorem sum_any (A : Option Addr) (n cap : Nat) (xss : List (List UInt8)) (w : World) (hn : n = xss.length) (hX : Bss w (.slice A n cap) xss) :
    Calls Try.prog 37 #[.slice A n cap] w fun e w' => e = .returned (.int .u32 ((crcF 0#32 xss.flatten).toNat : Int)) ∧ w = w' := by
  have HC := Lib.hid (on_at 0 0#32 rfl A n cap xss w hn hX)
  clear hn hX
  go_enter Try.func37, Try.ntmps37
  go_wp2_with (go_at_call 56; refine HC.out.mono ?_; rintro e w' ⟨rfl, rfl⟩)
  go_ret
  exact ⟨rfl, rfl⟩
set_option maxHeartbeats 400000 in
theorem ref_any (c0 : B32) (A : Option Addr) (n cap : Nat) (bs : List UInt8) (w : World) (hn : n = bs.length) (hX : Bs w (.slice A n cap) bs) :
    Calls Try.prog 39 #[.int .u32 (c0.toNat : Int), .slice A n cap] w fun e w' => e = .returned (.int .u32 ((crcF c0 bs).toNat : Int)) ∧ w = w' := by
  obtain ⟨A', c', he, h1, hn63, h3⟩ := hX
  injection he with e1 e2 e3
  subst e1
  rw [← hn] at hn63
  clear e2 e3 h1
  have HN := Lib.hid hn
  clear hn
  have H0 := Lib.hid (u32_not' c0)
  go_enter Try.func39, Try.ntmps39
  go_wp2
  go_loop [5, 6] (fun c i => ∃ k : Nat, k ≤ n ∧ i = .int .i64 k ∧ c = .int .u32 ((crcBytes (~~~c0) (bs.take k)).toNat : Int)) (fun _ i => n - (intOf i).toNat)
  case atStart => exact ⟨0, Nat.zero_le _, rfl, int_eq H0.out⟩
  case round =>
    obtain ⟨k, hk, rfl, rfl⟩ := hrel
    by_cases hlt : k < n
    · obtain ⟨a1, rfl, hb⟩ := h3.map k (by rw [← HN.out]; exact hlt)
      unfold encB at hb
      obtain ⟨x, hx⟩ : ∃ x : UInt8, x = bs[k]'(by rw [← HN.out]; exact hlt) := ⟨_, rfl⟩
      rw [← hx] at hb
      have HX := Lib.hid hx
      clear hx
      have hx8 := x.toNat_lt
      generalize hcc : crcBytes (~~~c0) (bs.take k) = cc
      have HC := Lib.hid hcc
      clear hcc
      go_wp2
      go_loop [5, 7] (fun c i => ∃ m : Nat, m ≤ 8 ∧ i = .int .i64 m ∧ c = .int .u32 ((refRounds x m cc).toNat : Int)) (fun _ i => 8 - (intOf i).toNat)
      case atStart => exact ⟨0, Nat.zero_le _, rfl, rfl⟩
      case round =>
        obtain ⟨m, hm, rfl, rfl⟩ := hrel
        by_cases hl8 : m < 8
        · generalize hee : refRounds x m cc = ee
          have HE := Lib.hid hee
          clear hee
          go_wp2_with fail
          · have ht : (bits .xor .u32 (bits .and .u32 (ee.toNat : Int) 1) (bits .and .u32 ((x.toNat : Int) / (2 : Int) ^ m) 1) == (1 : Int)) = true := by assumption
            go_round
            case rel => exact ⟨m + 1, by omega, by go_num, int_eq (by rw [ref_yes ee x m ht, ← HE.out]; rfl)⟩
            case measure => simp [intOf]; omega
          · have ht : (bits .xor .u32 (bits .and .u32 (ee.toNat : Int) 1) (bits .and .u32 ((x.toNat : Int) / (2 : Int) ^ m) 1) == (1 : Int)) = false := by assumption
            go_round
            case rel => exact ⟨m + 1, by omega, by go_num, int_eq (by rw [ref_no ee x m ht, ← HE.out]; rfl)⟩
            case measure => simp [intOf]; omega
        · obtain rfl : m = 8 := by omega
          go_wp2
          go_round
          case rel => exact ⟨k + 1, by omega, by go_num, by rw [take_snoc' bs k (by rw [← HN.out]; exact hlt), crcBytes_snoc, HC.out, ← HX.out, refRounds_byte]⟩
          case measure => simp [intOf]; omega
    · obtain rfl : k = n := by omega
      go_wp2
      go_ret
      exact ⟨ret_u32 ((u32_not' _).trans (by rw [List.take_of_length_le (by rw [← HN.out]; exact Nat.le_refl _)]; rfl)), rfl⟩
/-! The contracts with the answer under a name of the caller's own. -/
theorem on_r (c r : Int) (c0 : B32) (hc : c = (c0.toNat : Int)) (A : Option Addr) (n cap : Nat) (xss : List (List UInt8)) (w : World) (hn : n = xss.length) (hX : Bss w (.slice A n cap) xss) (hr : ((crcF c0 xss.flatten).toNat : Int) = r) :
    Calls Try.prog 56 #[.int .u32 c, .slice A n cap] w fun e w' => e = .returned (.int .u32 r) ∧ w = w' := by
  rw [← hr]; exact on_at c c0 hc A n cap xss w hn hX
theorem sum_r (r : Int) (A : Option Addr) (n cap : Nat) (xss : List (List UInt8)) (w : World) (hn : n = xss.length) (hX : Bss w (.slice A n cap) xss) (hr : ((crcF 0#32 xss.flatten).toNat : Int) = r) :
    Calls Try.prog 37 #[.slice A n cap] w fun e w' => e = .returned (.int .u32 r) ∧ w = w' := by
  rw [← hr]; exact sum_any A n cap xss w hn hX
theorem ref_r (c r : Int) (c0 : B32) (hc : c = (c0.toNat : Int)) (A : Option Addr) (n cap : Nat) (bs : List UInt8) (w : World) (hn : n = bs.length) (hX : Bs w (.slice A n cap) bs) (hr : ((crcF c0 bs).toNat : Int) = r) :
    Calls Try.prog 39 #[.int .u32 c, .slice A n cap] w fun e w' => e = .returned (.int .u32 r) ∧ w = w' := by
  rw [← hr, hc]; exact ref_any c0 A n cap bs w hn hX
end Go.Proofs.YtljdfhckllncoaaK
