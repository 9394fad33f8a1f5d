import Derived.Test.YteghldapcfkekaaKPack
namespace Go.Proofs.YteghldapcfkekaaK
open Go.RowKit
set_option linter.unusedSimpArgs false
set_option linter.unusedVariables false
/-- A number's size within its bounds. -/
def wid (s : Int) : Nat := (min (max s 0) 8).toNat
theorem wid_le (s : Int) : wid s ≤ 8 := by unfold wid; omega
/-- A number's bytes, the lowest first. -/
def numB : Nat → Nat → List UInt8
  | 0, _ => []
  | k + 1, n => UInt8.ofNat (n % 256) :: numB k (n / 256)
theorem numB_length (k : Nat) : ∀ n, (numB k n).length = k := by
  induction k with
  | zero => intro n; rfl
  | succ k ih => intro n; simp [numB, ih]
theorem numB_snoc (k : Nat) : ∀ n, numB (k + 1) n = numB k n ++ [UInt8.ofNat (n / 256 ^ k % 256)] := by
  induction k with
  | zero => intro n; simp [numB]
  | succ k ih =>
    intro n
    rw [numB, ih (n / 256)]
    simp only [numB, List.cons_append]
    rw [Nat.div_div_eq_div_mul, show 256 * 256 ^ k = 256 ^ (k + 1) from by rw [Nat.pow_succ, Nat.mul_comm]]
theorem width_any (s : Int) (w : World) : Calls Try.prog 43 #[.int .i64 s] w fun e w' => e = .returned (.int .i64 (wid s : Int)) ∧ w = w' := by
  go_enter Try.func43, Try.ntmps43
  go_wp2
  go_ret
  refine ⟨?_, rfl⟩
  have h : min (max s 0) 8 = (wid s : Int) := by unfold wid; omega
  rw [h]; rfl
theorem encB_ofNat (n : Nat) : encB (UInt8.ofNat (n % 256)) = .int .u8 ((n : Int) % 256) := by
  unfold encB
  congr 1
  rw [UInt8.toNat_ofNat']
  omega
/-- string(b) of bytes that read. -/
theorem run_str {w : World} {A : Option Addr} {n c : Nat} {bs : List UInt8} (h : Bs w (.slice A n c) bs) : (convert 30 9 (.slice A n c)).run Try.prog w = .ok (.string (str bs)) w := by
  have hl := h.len
  rcases A with _ | a
  · have h0 : bs = [] := by
      by_cases hb : bs = []
      · exact hb
      · obtain ⟨a, ha⟩ := h.at.length_pos (by simpa using hb)
        cases ha
    subst h0
    rw [run_convert_bytes_string w _ _ 5 _ n c Try.underlying30 Try.underlying5 Try.underlying9]
    simp [Conv.bytesToString, str]
    rfl
  · have hcells : (loadCells a n).run Try.prog w = .ok ((bs.map fun b => (b.toNat : Int)).map (Value.int .u8)).toArray w := by
      have := run_loadCells_list (P := Try.prog) w a (bs.map encB) (fun j v hj => by
        obtain ⟨a', ha, hc⟩ := h.at j v hj
        injection ha with ha
        subst ha
        exact hc)
      rw [List.length_map, ← hl] at this
      rw [this, List.map_map]
      rfl
    rw [run_convert_bytes_string w _ _ 5 _ n c Try.underlying30 Try.underlying5 Try.underlying9, run_bytesToString w a n c _ hcells, foldl_push_bytes]
    congr 1
    unfold str
    simp [ByteArray.empty, ByteArray.emptyWithCapacity]
    congr 1
    apply List.map_id''
    intro b
    simp
set_option maxHeartbeats 400000 in
theorem num_any (s : Int) (N : Nat) (w : World) (hN : N < 18446744073709551616) :
    Calls Try.prog 26 #[.int .i64 s, .int .u64 (N : Int)] w fun e w' => ∃ v, e = .returned v ∧ w'.ownsRow w.heap.size 5 1 v (wid s) ((numB (wid s) N).map encB) ∧ Below w.heap.size w w' := by
  have hw := wid_le s
  go_enter Try.func26, Try.ntmps26
  go_wp2_with (go_at_call 43; refine (width_any s _).mono ?_; rintro e w1 ⟨rfl, rfl⟩)
  go_loopw [1, 4, 7] (fun x v i wr => ∃ j : Nat, j ≤ wid s ∧ i = .int .i64 j ∧ x = .int .u64 ((N / 256 ^ j : Nat) : Int) ∧ wr.ownsRow w.heap.size 5 1 v j ((numB j N).map encB) ∧ Below w.heap.size w wr) (fun _ _ i _ => wid s - (intOf i).toNat)
  case atStart => exact ⟨0, by omega, rfl, by simp, World.ownsRow_nil _ _ _ _, Below.refl _ _⟩
  case round =>
    obtain ⟨j, hj, rfl, rfl, hown, hb⟩ := hrel
    by_cases hlt : j < wid s
    · obtain ⟨M, hM⟩ : ∃ M, M = N / 256 ^ j := ⟨_, rfl⟩
      have hM2 : M < 18446744073709551616 := by rw [hM]; exact Nat.lt_of_le_of_lt (Nat.div_le_self _ _) hN
      rw [← hM]
      have HM := Lib.hid hM
      clear hM
      have hsz := hb.size
      have hat := At.new wr #[.int .u8 ((M : Int) % 256)] 5 (0, 0)
      go_wp2_with (at_builtin; go_must (refine wp_append w.heap.size rfl _ _ 30 5 (.int .u8 0) 1 1 rfl Try.underlying30 info_u8 rfl (by decide) (by decide) u4 j _ (some ⟨wr.heap.size, 0, none⟩) 1 1 [.int .u8 ((M : Int) % 256)] rfl rfl (hown.alloc _) hat rfl (by simp [Value.oneCell']) (by simp; omega) (by omega) ?_); intro v1 w1 ho1 hg1 ha1; have hb1 := below_grown (hb.alloc hsz _) (hown.alloc _) hg1 (by simp; omega); clear hown hg1 ha1 hat)
      go_roundw
      case rel =>
        refine ⟨j + 1, by omega, by go_num, ?_, ?_, hb1⟩
        · rw [HM.out, Nat.pow_succ, ← Nat.div_div_eq_div_mul]; simp
        · rw [numB_snoc, List.map_append, ← HM.out]
          simp only [List.map_cons, List.map_nil, encB_ofNat]
          exact ho1
      case measure => simp [intOf]; omega
    · obtain rfl : j = wid s := by omega
      go_wp2
      go_ret
      exact ⟨u4, rfl, hown, hb⟩
/-- Numbers as so many bytes each. -/
def numsB (k : Nat) (xs : List Int) : List UInt8 := (xs.map fun x => numB k x.toNat).flatten
theorem numsB_snoc (k : Nat) (l : List Int) (x : Int) : numsB k (l ++ [x]) = numsB k l ++ numB k x.toNat := by simp [numsB]
theorem numsB_cons (k : Nat) (l : List Int) (x : Int) : numsB k (x :: l) = numB k x.toNat ++ numsB k l := by simp [numsB]
theorem numsB_length (k : Nat) (l : List Int) : (numsB k l).length = k * l.length := by
  induction l with
  | nil => rfl
  | cons x l ih => rw [numsB_cons, List.length_append, numB_length, ih, List.length_cons, Nat.mul_succ]; omega
set_option maxHeartbeats 400000 in
theorem nums_any (s : Int) (A : Option Addr) (n c : Nat) (xs : List Int) (w : World) (hX : Is .u64 w (.slice A n c) xs) (hr : ∀ x ∈ xs, 0 ≤ x ∧ x < 18446744073709551616) (hl : n ≤ 1000000000) :
    Calls Try.prog 27 #[.int .i64 s, .slice A n c] w fun e w' => ∃ v m, e = .returned v ∧ w'.ownsRow w.heap.size 5 1 v m ((numsB (wid s) xs).map encB) ∧ Below w.heap.size w w' := by
  have HN := Lib.hid hX.len
  have hw := wid_le s
  go_enter Try.func27, Try.ntmps27
  go_wp2
  go_loopw [4, 9] (fun v i wr => ∃ j m : Nat, j ≤ n ∧ i = .int .i64 j ∧ m ≤ 8 * j ∧ wr.ownsRow w.heap.size 5 1 v m ((numsB (wid s) (xs.take j)).map encB) ∧ Below w.heap.size w wr) (fun _ i _ => n - (intOf i).toNat)
  case atStart => exact ⟨0, 0, Nat.zero_le _, rfl, by omega, World.ownsRow_nil _ _ _ _, Below.refl _ _⟩
  case round =>
    obtain ⟨j, m, hj, rfl, hm, hown, hb⟩ := hrel
    by_cases hlt : j < n
    · have hjx : j < xs.length := by rw [← HN.out]; exact hlt
      obtain ⟨a, rfl, hcell⟩ := (hX.below hb).at.map j hjx
      obtain ⟨x, hx⟩ : ∃ x, x = xs[j] := ⟨_, rfl⟩
      rw [← hx] at hcell
      have HX := Lib.hid hx
      have hxr := hr xs[j] (List.getElem_mem _)
      rw [← hx] at hxr
      obtain ⟨hx0, hx1⟩ := hxr
      clear hx
      obtain ⟨N, rfl⟩ := Int.eq_ofNat_of_zero_le hx0
      have HC := Lib.hid (fun W => num_any s N W (by omega))
      have hsz := hb.size
      obtain ⟨A4, c4, rfl, _, _⟩ := own_form hown
      go_wp2_with (first | (go_at_call 26; refine (HC.out _).mono ?_; rintro e w1 ⟨v, rfl, ho, hb1⟩; obtain ⟨A5, c5, rfl, _, _⟩ := own_form ho; have hown1 := own_below hown hb1; have hb2 := hb.trans (hb1.mono hsz); have hat := own_at ho; have hlen := Lib.hid ho.1) | (at_builtin; refine wp_append w.heap.size rfl _ _ 30 5 (.int .u8 0) 1 1 rfl Try.underlying30 info_u8 rfl (by decide) (by decide) (.slice A4 m c4) m _ A5 (wid s) c5 ((numB (wid s) N).map encB) rfl rfl hown1 hat hlen.out (encB_all _) hb2.size (by omega) ?_; intro v1 w2 ho1 hg1 ha1; have hb3 := below_grown hb2 hown1 hg1 hb2.size; clear hown hown1 ho hg1 ha1 hat))
      go_roundw
      case rel =>
        refine ⟨j + 1, m + wid s, by omega, by go_num, by omega, ?_, hb3⟩
        · rw [List.take_succ_eq_append_getElem hjx, numsB_snoc, List.map_append, ← HX.out, Int.toNat_natCast]
          exact ho1
      case measure => simp [intOf]; omega
    · obtain rfl : j = n := by omega
      go_wp2
      go_ret
      exact ⟨u4, m, rfl, by rw [List.take_of_length_le (by rw [← HN.out]; exact Nat.le_refl _)] at hown; exact hown, hb⟩
end Go.Proofs.YteghldapcfkekaaK
