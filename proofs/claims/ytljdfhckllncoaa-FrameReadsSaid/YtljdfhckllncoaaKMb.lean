import Derived.Test.YtljdfhckllncoaaRows
import Derived.Test.YtljdfhckllncoaaKMa
import Derived.Test.YtljdfhckllncoaaKShelf
import Derived.Lib.SlBytesConst
import Derived.Deep.RegionWith
import Derived.Deep.QuietTactic
import Derived.BigQuiet
namespace Go.Proofs.YtljdfhckllncoaaK
open Go.RowKit
set_option linter.unusedSimpArgs false
set_option linter.unusedVariables false
theorem info_u8 : (Try.prog.info? 5).map (fun i => (i.zero, i.size, i.bytes)) = some (some (.int .u8 0), 1, 1) := by kernel_rfl
/-- bytes.Clone: a copy. -/
theorem clone_any (A : Option Addr) (n c : Nat) (bs : List UInt8) (w : World) (hX : Bs w (.slice A n c) bs) (hl : n ≤ 140737488355328) :
    Calls Try.prog 45 #[.slice A n c] w fun e w' => ∃ v, e = .returned v ∧ w'.ownsRow w.heap.size 5 1 v n (bs.map encB) ∧ Below w.heap.size w w' := by
  have hn := hX.len
  rcases A with _ | a
  · have h0 : bs = [] := by
      by_cases hb : bs = []
      · exact hb
      · obtain ⟨a, ha⟩ := hX.at.length_pos (by simpa using hb)
        cases ha
    subst h0
    simp at hn
    subst hn
    refine (Try.bytes_Clone_nil 0 c w).mono ?_
    rintro e w' ⟨rfl, rfl⟩
    exact ⟨_, rfl, World.ownsRow_nil _ _ _ _, Below.refl _ _⟩
  · refine (Try.bytes_Clone_at a n c (bs.map fun b => (b.toNat : Int)) w (by rw [List.length_map, hn]) hl (fun i hi => ?_)).mono ?_
    · obtain ⟨a', ha, hc⟩ := hX.at.map i (by omega)
      injection ha with ha
      subst ha
      rw [hc]
      simp [encB, List.getD_eq_getElem?_getD, List.getElem?_eq_getElem (show i < bs.length by omega)]
    · rintro e w' ⟨v, rfl, ho, _, hb⟩
      refine ⟨v, rfl, ?_, hb⟩
      rw [List.map_map] at ho
      exact ho
/-- A slice of bytes in memory of the call's own (or of no byte). -/
def Fresh (B : Nat) (w : World) (v : Value) (bs : List UInt8) : Prop :=
  Bs w v bs ∧ (bs ≠ [] → ∃ g c, v = .slice (some ⟨g, 0, none⟩) bs.length c ∧ B ≤ g ∧ ∀ j, j < bs.length → w.frozen? ⟨g, j, none⟩ = false)
theorem Fresh.below {B : Nat} {w w1 : World} {v : Value} {bs : List UInt8} (h : Fresh B w v bs) (hb : Below w.heap.size w w1) : Fresh B w1 v bs := by
  refine ⟨h.1.below hb, fun hne => ?_⟩
  obtain ⟨g, c, hv, hg, hf⟩ := h.2 hne
  refine ⟨g, c, hv, hg, fun j hj => ?_⟩
  subst hv
  obtain ⟨a, ha, hc⟩ := h.1.at.map j hj
  injection ha with ha
  subst ha
  have hlt := World.block_lt_of_cell? w _ hc
  rw [show (⟨g, 0, none⟩ : Addr).add j = ⟨g, j, none⟩ from by unfold Addr.add; split <;> simp_all] at hlt
  rw [hb.frozen hlt]
  exact hf j hj
theorem Fresh.own {B : Nat} {w : World} {v : Value} {n : Nat} {e : TypeId} {bs : List UInt8} (h : w.ownsRow B e 1 v n (bs.map encB)) : Fresh B w v bs := by
  obtain ⟨hn, hb⟩ := own_bs h
  subst hn
  refine ⟨hb, fun hne => ?_⟩
  obtain ⟨g, c, rfl, _, hg, _, _⟩ := own_pos h (List.length_pos_iff.2 hne)
  refine ⟨g, c, rfl, hg, fun j hj => (own_cell h j (encB bs[j]) (by rw [List.getElem?_map, List.getElem?_eq_getElem hj]; rfl)).2⟩
theorem fresh_of {B : Nat} {w : World} {v : Value} {l : List UInt8} (h : Lib.FreshBytes B w v l) : Fresh B w v l := by
  obtain ⟨g, cap, zs, rfl, hg, hlc, hcm, hz, hr, hb, hc, hf⟩ := h
  refine ⟨⟨_, cap, rfl, hlc, by simp only [maxLen] at hcm; omega, ?_⟩, fun _ => ⟨g, cap, rfl, hg, fun j hj => hf j (by omega)⟩⟩
  intro j u hu
  refine ⟨_, rfl, ?_⟩
  have hj : j < l.length := by
    rcases Nat.lt_or_ge j l.length with h | h
    · exact h
    · rw [List.getElem?_eq_none (by simpa using h)] at hu; cases hu
  rw [show (⟨g, 0, none⟩ : Addr).add j = ⟨g, j, none⟩ from by unfold Addr.add; split <;> simp_all, hc j (by omega)]
  rw [List.getElem?_map, List.getElem?_eq_getElem hj] at hu
  simp only [Option.map_some, Option.some.injEq] at hu
  rw [← hu]
  unfold encB
  have hjz : j < zs.length := by omega
  have e1 : l[j] = UInt8.ofNat (zs[j]).toNat := by
    have e2 : l[j]? = some (UInt8.ofNat (zs[j]).toNat) := by
      rw [← hb]
      simp [Lib.bytesOf, hj, List.getElem?_eq_getElem hjz]
    rw [List.getElem?_eq_getElem hj] at e2
    injection e2
  have hr' := hr zs[j] (List.getElem_mem _)
  rw [e1, UInt8.toNat_ofNat']
  simp [List.getD_eq_getElem?_getD, List.getElem?_eq_getElem hjz]
  omega
theorem join_flat (ls : List (List UInt8)) : Lib.join ls [] = ls.flatten := by
  cases ls with
  | nil => rfl
  | cons x r => rw [Lib.join_cons]; simp [Lib.joinTail]
theorem holds_of {w : World} {v : Value} {l : List UInt8} (h : Bs w v l) : Lib.HoldsBytes w v l := by
  obtain ⟨A, c, rfl, h1, h2, h3⟩ := h
  refine ⟨A, c, rfl, fun hA => ?_, fun a ha i x hx => ?_⟩
  · by_cases hl : l = []
    · exact hl
    · obtain ⟨a, ha⟩ := h3.length_pos (by simpa using hl)
      rw [hA] at ha; cases ha
  · obtain ⟨a', ha', hc⟩ := h3 i (encB x) (by rw [List.getElem?_map, hx]; rfl)
    rw [ha] at ha'
    injection ha' with ha'
    rw [ha']; exact hc
/-- bytes.Join without a separator: the parts, one behind the other. -/
theorem bjoin_any (A : Option Addr) (n c : Nat) (xss : List (List UInt8)) (w : World) (hX : Bss w (.slice A n c) xss) (hn47 : n ≤ 140737488355328) (hlen : Lib.lens xss ≤ 140737488355328) :
    Calls Try.prog 54 #[.slice A n c, .slice none 0 0] w fun e w' => ∃ v, e = .returned v ∧ Fresh w.heap.size w' v xss.flatten ∧ Below w.heap.size w w' := by
  have hX0 := hX
  obtain ⟨A', c', vs, he, h1, h2, h3, h4, h5⟩ := hX
  injection he with e1 e2 e3
  subst e1 e2 e3
  match xss, h1, h2, h3, h5, hlen, hX0 with
  | [], _, _, _, _, _, _ =>
    refine (Try.bytes_Join_none _ _ _ w).mono ?_
    rintro e w' ⟨rfl, rfl⟩
    exact ⟨_, rfl, ⟨Bs.new rfl rfl rfl (by decide), fun h => absurd rfl h⟩, (Below.refl _ _).alloc (Nat.le_refl _) _⟩
  | [l], _, _, h3, h5, hlen, hX0 =>
    obtain ⟨a, v, rfl, hc, hv⟩ := hX0.get 0 (by simp)
    obtain ⟨A1, c1, rfl, k1, k2, k3⟩ := hv
    have hsp : a = ⟨a.block, a.off, none⟩ := by
      rcases a with ⟨b, o, _ | s⟩
      · rfl
      · simp [World.cell?, Addr.add] at hc; split at hc <;> cases hc
    rw [hsp] at hc ⊢
    simp only [List.getElem_cons_zero] at hc k1 k2 k3
    have hc0 : w.cell? ⟨a.block, a.off, none⟩ = some (.slice A1 l.length c1) := hc
    by_cases hl : l = []
    · subst hl
      refine (Try.bytes_Join_one_empty _ _ _ A1 c1 _ w hc0).mono ?_
      rintro e w' ⟨rfl, rfl⟩
      exact ⟨_, rfl, ⟨⟨none, 0, rfl, by simp, by simp, At.nil _ _⟩, fun h => absurd rfl h⟩, Below.refl _ _⟩
    · obtain ⟨a1, rfl⟩ := k3.length_pos (by simpa using hl)
      refine (Try.bytes_Join_one _ _ _ a1 c1 l _ w hc0 (fun i x hx => ?_) (List.length_pos_iff.2 hl) (by simpa [Lib.lens] using hlen)).mono ?_
      · obtain ⟨a', ha', hc'⟩ := k3 i (encB x) (by rw [List.getElem?_map, hx]; rfl)
        injection ha' with ha'
        subst ha'
        exact hc'
      · rintro e w' ⟨v, rfl, hf, hb⟩
        exact ⟨v, rfl, by simpa using fresh_of hf, hb⟩
  | l1 :: l2 :: ls, h1, h2, h3, h5, hlen, hX0 =>
    obtain ⟨a, v, rfl, hc, hv⟩ := hX0.get 0 (by simp)
    have hsp : a = ⟨a.block, a.off, none⟩ := by
      rcases a with ⟨b, o, _ | s⟩
      · rfl
      · simp [World.cell?, Addr.add] at hc; split at hc <;> cases hc
    rw [hsp] at h4 ⊢
    refine (Try.bytes_Join_many _ _ _ c vs (l1 :: l2 :: ls) (.slice none 0 0) [] w rfl (by simp) ⟨h3, fun i v hv => ?_, fun i v l hv hl => ?_⟩ h1 ⟨none, 0, rfl, fun _ => rfl, fun a ha => by cases ha⟩ hn47 (by simpa using hlen)).mono ?_
    · obtain ⟨a', ha', hc'⟩ := h4 i v hv
      injection ha' with ha'
      subst ha'
      exact hc'
    · have hi := (List.getElem?_eq_some_iff.1 hv)
      have hi2 := (List.getElem?_eq_some_iff.1 hl)
      obtain ⟨hi, rfl⟩ := hi
      obtain ⟨hi2, rfl⟩ := hi2
      exact holds_of (h5 i hi2 hi)
    · rintro e w' ⟨v, rfl, hf, hb⟩
      exact ⟨v, rfl, by rw [join_flat] at hf; exact fresh_of hf, hb⟩
theorem pjoin_any (A : Option Addr) (n c : Nat) (xss : List (List UInt8)) (w : World) (hX : Bss w (.slice A n c) xss) (hn47 : n ≤ 140737488355328) (hlen : Lib.lens xss ≤ 140737488355328) :
    Calls Try.prog 35 #[.slice A n c] w fun e w' => ∃ v, e = .returned v ∧ Fresh w.heap.size w' v xss.flatten ∧ Below w.heap.size w w' := by
  have HC := Lib.hid (bjoin_any A n c xss w hX hn47 hlen)
  clear hX hlen hn47
  go_enter Try.func35, Try.ntmps35
  go_wp2_with (go_at_call 54; refine HC.out.mono ?_; rintro e w1 ⟨v, rfl, hf, hb⟩)
  go_ret
  exact ⟨_, rfl, hf, hb⟩
end Go.Proofs.YtljdfhckllncoaaK

namespace Go.Proofs.YtljdfhckllncoaaK
open Go.RowKit
set_option linter.unusedSimpArgs false
set_option linter.unusedVariables false
/-- A number's size within its bounds. -/
def wid (s : Int) : Nat := (min (max s 0) 8).toNat
theorem wid_le (s : Int) : wid s ≤ 8 := by unfold wid; omega
/-- A number's bytes, the lowest first. -/
def numB : Nat → Nat → List UInt8
  | 0, _ => []
  | k + 1, n => UInt8.ofNat (n % 256) :: numB k (n / 256)
theorem numB_length (k : Nat) : ∀ n, (numB k n).length = k := by
  induction k with
  | zero => intro n; rfl
  | succ k ih => intro n; simp [numB, ih]
theorem numB_snoc (k : Nat) : ∀ n, numB (k + 1) n = numB k n ++ [UInt8.ofNat (n / 256 ^ k % 256)] := by
  induction k with
  | zero => intro n; simp [numB]
  | succ k ih =>
    intro n
    rw [numB, ih (n / 256)]
    simp only [numB, List.cons_append]
    rw [Nat.div_div_eq_div_mul, show 256 * 256 ^ k = 256 ^ (k + 1) from by rw [Nat.pow_succ, Nat.mul_comm]]
theorem width_any (s : Int) (w : World) : Calls Try.prog 55 #[.int .i64 s] w fun e w' => e = .returned (.int .i64 (wid s : Int)) ∧ w = w' := by
  go_enter Try.func55, Try.ntmps55
  go_wp2
  go_ret
  refine ⟨?_, rfl⟩
  have h : min (max s 0) 8 = (wid s : Int) := by unfold wid; omega
  rw [h]; rfl
theorem encB_ofNat (n : Nat) : encB (UInt8.ofNat (n % 256)) = .int .u8 ((n : Int) % 256) := by
  unfold encB
  congr 1
  rw [UInt8.toNat_ofNat']
  omega
theorem refsize_any (s : Int) (w : World) : Calls Try.prog 53 #[.int .i64 s] w fun e w' => e = .returned (.int .i64 (wid s : Int)) ∧ w = w' := by
  by_cases h1 : s < 0
  · have h : wid s = 0 := by unfold wid; omega
    rw [h]
    clear h
    go_enter Try.func53, Try.ntmps53
    go_wp2
    go_ret
    exact ⟨rfl, rfl⟩
  by_cases h2 : 8 < s
  · have h : wid s = 8 := by unfold wid; omega
    rw [h]
    clear h
    go_enter Try.func53, Try.ntmps53
    go_wp2
    go_ret
    exact ⟨rfl, rfl⟩
  · have h : (wid s : Int) = s := by unfold wid; omega
    rw [h]
    clear h
    go_enter Try.func53, Try.ntmps53
    go_wp2
    go_ret
    exact ⟨rfl, rfl⟩
/-- string(b) of bytes that read. -/
theorem run_str {w : World} {A : Option Addr} {n c : Nat} {bs : List UInt8} (h : Bs w (.slice A n c) bs) : (convert 22 9 (.slice A n c)).run Try.prog w = .ok (.string (str bs)) w := by
  have hl := h.len
  rcases A with _ | a
  · have h0 : bs = [] := by
      by_cases hb : bs = []
      · exact hb
      · obtain ⟨a, ha⟩ := h.at.length_pos (by simpa using hb)
        cases ha
    subst h0
    rw [run_convert_bytes_string w _ _ 5 _ n c Try.underlying22 Try.underlying5 Try.underlying9]
    simp [Conv.bytesToString, str]
    rfl
  · have hcells : (loadCells a n).run Try.prog w = .ok ((bs.map fun b => (b.toNat : Int)).map (Value.int .u8)).toArray w := by
      have := run_loadCells_list (P := Try.prog) w a (bs.map encB) (fun j v hj => by
        obtain ⟨a', ha, hc⟩ := h.at j v hj
        injection ha with ha
        subst ha
        exact hc)
      rw [List.length_map, ← hl] at this
      rw [this, List.map_map]
      rfl
    rw [run_convert_bytes_string w _ _ 5 _ n c Try.underlying22 Try.underlying5 Try.underlying9, run_bytesToString w a n c _ hcells, foldl_push_bytes]
    congr 1
    unfold str
    simp [ByteArray.empty, ByteArray.emptyWithCapacity]
    congr 1
    apply List.map_id''
    intro b
    simp
set_option maxHeartbeats 400000 in
theorem num_any (s : Int) (N : Nat) (w : World) (hN : N < 18446744073709551616) :
    Calls Try.prog 36 #[.int .i64 s, .int .u64 (N : Int)] w fun e w' => ∃ v, e = .returned v ∧ w'.ownsRow w.heap.size 5 1 v (wid s) ((numB (wid s) N).map encB) ∧ Below w.heap.size w w' := by
  have hw := wid_le s
  go_enter Try.func36, Try.ntmps36
  go_wp2_with (go_at_call 55; refine (width_any s _).mono ?_; rintro e w1 ⟨rfl, rfl⟩)
  go_loopw [1, 4, 7] (fun x v i wr => ∃ j : Nat, j ≤ wid s ∧ i = .int .i64 j ∧ x = .int .u64 ((N / 256 ^ j : Nat) : Int) ∧ wr.ownsRow w.heap.size 5 1 v j ((numB j N).map encB) ∧ Below w.heap.size w wr) (fun _ _ i _ => wid s - (intOf i).toNat)
  case atStart => exact ⟨0, by omega, rfl, by simp, World.ownsRow_nil _ _ _ _, Below.refl _ _⟩
  case round =>
    obtain ⟨j, hj, rfl, rfl, hown, hb⟩ := hrel
    by_cases hlt : j < wid s
    · obtain ⟨M, hM⟩ : ∃ M, M = N / 256 ^ j := ⟨_, rfl⟩
      have hM2 : M < 18446744073709551616 := by rw [hM]; exact Nat.lt_of_le_of_lt (Nat.div_le_self _ _) hN
      rw [← hM]
      have HM := Lib.hid hM
      clear hM
      have hsz := hb.size
      have hat := At.new wr #[.int .u8 ((M : Int) % 256)] 5 (0, 0)
      go_wp2_with (at_builtin; go_must (refine wp_append w.heap.size rfl _ _ 22 5 (.int .u8 0) 1 1 rfl Try.underlying22 info_u8 rfl (by decide) (by decide) u4 j _ (some ⟨wr.heap.size, 0, none⟩) 1 1 [.int .u8 ((M : Int) % 256)] rfl rfl (hown.alloc _) hat rfl (by simp [Value.oneCell']) (by simp; omega) (by omega) ?_); intro v1 w1 ho1 hg1 ha1; have hb1 := below_grown (hb.alloc hsz _) (hown.alloc _) hg1 (by simp; omega); clear hown hg1 ha1 hat)
      go_roundw
      case rel =>
        refine ⟨j + 1, by omega, by go_num, ?_, ?_, hb1⟩
        · rw [HM.out, Nat.pow_succ, ← Nat.div_div_eq_div_mul]; simp
        · rw [numB_snoc, List.map_append, ← HM.out]
          simp only [List.map_cons, List.map_nil, encB_ofNat]
          exact ho1
      case measure => simp [intOf]; omega
    · obtain rfl : j = wid s := by omega
      go_wp2
      go_ret
      exact ⟨u4, rfl, hown, hb⟩
/-- Numbers as so many bytes each. -/
def numsB (k : Nat) (xs : List Int) : List UInt8 := (xs.map fun x => numB k x.toNat).flatten
theorem numsB_snoc (k : Nat) (l : List Int) (x : Int) : numsB k (l ++ [x]) = numsB k l ++ numB k x.toNat := by simp [numsB]
theorem numsB_cons (k : Nat) (l : List Int) (x : Int) : numsB k (x :: l) = numB k x.toNat ++ numsB k l := by simp [numsB]
theorem numsB_length (k : Nat) (l : List Int) : (numsB k l).length = k * l.length := by
  induction l with
  | nil => rfl
  | cons x l ih => rw [numsB_cons, List.length_append, numB_length, ih, List.length_cons, Nat.mul_succ]; omega
set_option maxHeartbeats 400000 in
theorem refnum_any (s : Int) (N : Nat) (w : World) (hN : N < 18446744073709551616) :
    Calls Try.prog 33 #[.int .i64 s, .int .u64 (N : Int)] w fun e w' => ∃ v, e = .returned v ∧ w'.ownsRow w.heap.size 5 1 v (wid s) ((numB (wid s) N).map encB) ∧ Below w.heap.size w w' := by
  have hw := wid_le s
  go_enter Try.func33, Try.ntmps33
  go_wp2
  go_loopw [5, 6, 7] (fun v x i wr => ∃ j : Nat, j ≤ wid s ∧ i = .int .i64 j ∧ x = .int .u64 ((N / 256 ^ j : Nat) : Int) ∧ wr.ownsRow w.heap.size 5 1 v j ((numB j N).map encB) ∧ Below w.heap.size w wr) (fun _ _ i _ => wid s - (intOf i).toNat)
  case atStart => exact ⟨0, by omega, rfl, by simp, own_empty rfl (Nat.le_refl _), (Below.refl _ _).alloc (Nat.le_refl _) _⟩
  case round =>
    obtain ⟨j, hj, rfl, rfl, hown, hb⟩ := hrel
    by_cases hlt : j < wid s
    · obtain ⟨M, hM⟩ : ∃ M, M = N / 256 ^ j := ⟨_, rfl⟩
      have hM2 : M < 18446744073709551616 := by rw [hM]; exact Nat.lt_of_le_of_lt (Nat.div_le_self _ _) hN
      rw [← hM]
      have HM := Lib.hid hM
      clear hM
      have hsz := hb.size
      have hat := At.new wr #[.int .u8 ((M : Int) % 256)] 5 (0, 0)
      go_wp2_with (first | (go_at_call 53; refine (refsize_any s _).mono ?_; rintro e w1 ⟨rfl, rfl⟩) | (at_builtin; go_must (refine wp_append w.heap.size rfl _ _ 22 5 (.int .u8 0) 1 1 rfl Try.underlying22 info_u8 rfl (by decide) (by decide) u5 j _ (some ⟨wr.heap.size, 0, none⟩) 1 1 [.int .u8 ((M : Int) % 256)] rfl rfl (hown.alloc _) hat rfl (by simp [Value.oneCell']) (by simp; omega) (by omega) ?_); intro v1 w1 ho1 hg1 ha1; have hb1 := below_grown (hb.alloc hsz _) (hown.alloc _) hg1 (by simp; omega); clear hown hg1 ha1 hat))
      go_roundw
      case rel =>
        refine ⟨j + 1, by omega, by go_num, ?_, ?_, hb1⟩
        · rw [HM.out, Nat.pow_succ, ← Nat.div_div_eq_div_mul]; simp
        · rw [numB_snoc, List.map_append, ← HM.out]
          simp only [List.map_cons, List.map_nil, encB_ofNat]
          exact ho1
      case measure => simp [intOf]; omega
    · obtain rfl : j = wid s := by omega
      go_wp2_with (go_at_call 53; refine (refsize_any s _).mono ?_; rintro e w1 ⟨rfl, rfl⟩)
      go_ret
      exact ⟨u5, rfl, hown, hb⟩
end Go.Proofs.YtljdfhckllncoaaK

namespace Go.Proofs.YtljdfhckllncoaaK
open Go.RowKit
set_option linter.unusedSimpArgs false
set_option linter.unusedVariables false
theorem bcell {W w1 : World} (hb : Below W.heap.size W w1) : (∀ b o, b < W.heap.size → w1.cell? ⟨b, o, none⟩ = W.cell? ⟨b, o, none⟩) ∧ (∀ b o, b < W.heap.size → w1.frozen? ⟨b, o, none⟩ = W.frozen? ⟨b, o, none⟩) :=
  ⟨fun b o h => hb.cell (p := ⟨b, o, none⟩) h, fun b o h => hb.frozen (p := ⟨b, o, none⟩) h⟩
/-- The reader at block b, whose bytes lie in block D: what is left, whether too much was read. -/
def Rdr (w : World) (b D : Nat) (bs : List UInt8) (bad : Bool) : Prop :=
  ∃ A c, w.heap[b]? = some (.cells #[.slice A bs.length c, .bool bad] 109 (0, 0)) ∧ Bs w (.slice A bs.length c) bs ∧ (bs ≠ [] → ∃ a, A = some a ∧ a.block = D)
theorem cell_of {w : World} {b : Nat} {cs : Array Value} {T : TypeId} {fz : Nat × Nat} (h : w.heap[b]? = some (.cells cs T fz)) (i : Nat) : w.cell? ⟨b, i, none⟩ = cs[i]? := cell_of_row w b i cs T fz h
theorem frozen_of {w : World} {b : Nat} {cs : Array Value} {T : TypeId} (h : w.heap[b]? = some (.cells cs T (0, 0))) (i : Nat) : w.frozen? ⟨b, i, none⟩ = false := by simp [World.frozen?, h]
theorem lt_of {w : World} {b : Nat} {o : Obj} (h : w.heap[b]? = some o) : b < w.heap.size := (Array.getElem?_eq_some_iff.1 h).1
theorem grown_set (w : World) (b j : Nat) (u : Value) : w.grownBy (w.setCell ⟨b, j, none⟩ u) (some b) :=
  ⟨rfl, rfl, rfl, by simp, fun k hk hne => Below.heap_setCell _ _ _ _ (fun e => hne (by rw [e]))⟩
theorem grown_trans {w w1 w2 : World} {row : Option Nat} (h : w.grownBy w1 row) (k : w1.grownBy w2 row) : w.grownBy w2 row :=
  ⟨k.os.trans h.os, k.tape.trans h.tape, k.output.trans h.output, Nat.le_trans h.size k.size, fun i hi hne => (k.block i (Nat.lt_of_lt_of_le hi h.size) hne).trans (h.block i hi hne)⟩
theorem grown_of {w w1 : World} (h : Below w.heap.size w w1) {row : Option Nat} : w.grownBy w1 row := ⟨h.os, h.tape, h.output, h.size, fun i hi _ => h.block i hi⟩
theorem grown_drew {w w1 : World} {row : Option Nat} (h : w.drew.grownBy w1 row) : w.grownBy w1 row := ⟨h.os, h.tape, h.output, h.size, h.block⟩
theorem Bs.setCell {w : World} {v : Value} {bs : List UInt8} (h : Bs w v bs) {p : Addr} {A : Option Addr} {n c : Nat} (hp : w.cell? p = some (.slice A n c)) (u : Value) : Bs (w.setCell p u) v bs := by
  obtain ⟨A', c', h1, h2, h3, h4⟩ := h
  refine ⟨A', c', h1, h2, h3, fun j x hx => ?_⟩
  obtain ⟨a, ha, hc⟩ := h4 j x hx
  refine ⟨a, ha, ?_⟩
  rw [List.getElem?_map] at hx
  obtain ⟨y, _, rfl⟩ := Option.map_eq_some_iff.1 hx
  have hne : p ≠ a.add j := by
    intro e
    rw [← e, hp] at hc
    cases hc
  rw [World.cell?_setCell_other (h := hne)]; exact hc
theorem left_any (b D : Nat) (bs : List UInt8) (bad : Bool) (w : World) (h : Rdr w b D bs bad) :
    Calls Try.prog 51 #[.pointer (some ⟨b, 0, none⟩)] w fun e w' => e = .returned (.int .i64 (bs.length : Int)) ∧ w = w' := by
  obtain ⟨A, c, hb, hs, _⟩ := h
  have hc0 : w.cell? ⟨b, 0, none⟩ = some (.slice A bs.length c) := cell_of hb 0
  clear hb hs
  go_enter Try.func51, Try.ntmps51
  go_wp2
  go_ret
  exact ⟨rfl, rfl⟩
theorem new_any (A : Option Addr) (n c : Nat) (bs : List UInt8) (w : World) (hX : Bs w (.slice A n c) bs) (hl : n ≤ 140737488355328) :
    Calls Try.prog 41 #[.slice A n c] w fun e w' => ∃ b D, e = .returned (.pointer (some ⟨b, 0, none⟩)) ∧ w.heap.size ≤ b ∧ w.heap.size ≤ D ∧ D ≤ b ∧ Rdr w' b D bs false ∧ Below w.heap.size w w' := by
  have HN := Lib.hid hX.len
  have HC := Lib.hid (clone_any A n c bs w hX hl)
  clear hX hl
  go_enter Try.func41, Try.ntmps41
  go_wp2_with (go_at_call 45; refine HC.out.mono ?_; rintro e w1 ⟨v, rfl, ho, hb⟩; obtain ⟨A1, c1, rfl, hc1, hn1⟩ := own_form ho)
  go_ret
  have hsz := hb.size
  by_cases hne : bs = []
  · refine ⟨w1.heap.size, w1.heap.size, rfl, hsz, hsz, Nat.le_refl _, ⟨A1, c1, ?_, ?_, fun h => absurd hne h⟩, hb.alloc hb.size _⟩
    · rw [← HN.out]; exact heap_alloc_new w1 _
    · rw [← HN.out]; exact (own_bs ho).2.alloc _
  · have hpos : 0 < n := by rw [HN.out]; exact List.length_pos_iff.2 hne
    obtain ⟨g, c2, he, _, hg, hgl, _⟩ := own_pos ho hpos
    injection he with e1 e2 e3
    refine ⟨w1.heap.size, g, rfl, hsz, hg, by omega, ⟨A1, c1, ?_, ?_, fun _ => ⟨_, e1, rfl⟩⟩, hb.alloc hb.size _⟩
    · rw [← HN.out]; exact heap_alloc_new w1 _
    · rw [← HN.out]; exact (own_bs ho).2.alloc _
set_option maxHeartbeats 1000000 in
theorem bytes_over (b D : Nat) (bs : List UInt8) (bad : Bool) (s : Int) (w : World) (h : Rdr w b D bs bad) (hs : (bs.length : Int) < max s 0) :
    Calls Try.prog 50 #[.pointer (some ⟨b, 0, none⟩), .int .i64 s] w fun e w' => e = .returned (.slice none 0 0) ∧ Rdr w' b D [] true ∧ w.grownBy w' (some b) := by
  obtain ⟨A, c, hb, hbs, hD⟩ := h
  have hc0 : w.cell? ⟨b, 0, none⟩ = some (.slice A bs.length c) := cell_of hb 0
  have hc1 : w.cell? ⟨b, 1, none⟩ = some (.bool bad) := cell_of hb 1
  have hf0 := frozen_of hb 0
  have hf1 := frozen_of hb 1
  have HB := Lib.hid hb
  clear hb hbs hD
  go_enter Try.func50, Try.ntmps50
  go_wp2
  go_ret
  refine ⟨rfl, ⟨none, 0, ?_, ⟨none, 0, rfl, by simp, by simp, At.nil _ _⟩, fun h => absurd rfl h⟩, ?_⟩
  · exact heap_setCell_same _ b 1 _ _ _ (heap_setCell_same w b 0 _ _ _ HB.out)
  · exact grown_trans (grown_set w b 0 _) (grown_set _ b 1 _)
/-- A cut from k on, without a case on the capacity. -/
theorem cut_from (w : World) (A : Option Addr) (n c k : Nat) (bs : List UInt8) (h : Bs w (.slice A n c) bs) (hk : k ≤ n) :
    ∃ A', (∀ W : World, (Instr.slice 22 (.slice A n c) (some (.int .i64 (k : Int))) none none).run Try.prog W = .ok (.slice A' (n - k) (c - k)) W) ∧
      (∀ W : World, Bs W (.slice A n c) bs → Bs W (.slice A' (n - k) (c - k)) (bs.drop k)) ∧ (∀ a', A' = some a' → ∃ a, A = some a ∧ a.block = a'.block) := by
  have hn := h.len
  refine ⟨if c = k then A else A.map (·.add k), fun W => ?_, fun W hW => ?_, fun a' ha => ?_⟩
  · obtain ⟨i, hi, hz⟩ := Option.map_eq_some_iff.1 info_u8
    simp only [Prod.mk.injEq] at hz
    have hel : Try.prog.elem 22 = 5 := by simp [Program.elem, Try.underlying22]
    have hu : Try.prog.underlying 22 = some (.slice (Try.prog.elem 22)) := by rw [hel]; exact Try.underlying22
    rw [run_slice_l W 22 A n c hu .i64 (k : Int) (Int.natCast_nonneg _) (by omega), hel]
    simp [sizeOf, typeInfo, hi, hz.2.1, sliced, Result.andThen]
  · obtain ⟨A', c', he, h1, h2, h3⟩ := hW
    injection he with e1 e2 e3
    subst e1 e2 e3
    refine ⟨_, _, by rw [List.length_drop], by simp; omega, by simp; omega, ?_⟩
    intro j u hu
    rw [List.map_drop, List.getElem?_drop] at hu
    obtain ⟨a, rfl, hc⟩ := h3 (k + j) u hu
    have hlt : k + j < bs.length := by
      rcases Nat.lt_or_ge (k + j) bs.length with h | h
      · exact h
      · rw [List.getElem?_eq_none (by simpa using h)] at hu; cases hu
    rw [if_neg (by omega)]
    refine ⟨_, rfl, ?_⟩
    rw [← hc]
    congr 1
    unfold Addr.add
    by_cases h1 : k = 0 <;> by_cases h2 : j = 0 <;> simp [h1, h2, Nat.add_assoc]
  · split at ha
    · exact ⟨a', ha, rfl⟩
    · obtain ⟨a, h1, h2⟩ := Option.map_eq_some_iff.1 ha
      refine ⟨a, h1, ?_⟩
      rw [← h2]; unfold Addr.add; split <;> rfl
/-- The first k bytes. -/
theorem cut_to (w : World) (A : Option Addr) (n c k : Nat) (bs : List UInt8) (h : Bs w (.slice A n c) bs) (hk : k ≤ n) : Bs w (.slice A k c) (bs.take k) := by
  obtain ⟨A', c', he, h1, h2, h3⟩ := h
  injection he with e1 e2 e3
  subst e1 e2 e3
  refine ⟨A, c, by rw [List.length_take, Nat.min_eq_left hk], by simp; omega, by simp; omega, ?_⟩
  intro j u hu
  rw [List.map_take] at hu
  have hj : j < k := by
    rcases Nat.lt_or_ge j k with h | h
    · exact h
    · rw [List.getElem?_eq_none (by simp; omega)] at hu; cases hu
  rw [List.getElem?_take_of_lt hj] at hu
  exact h3 j u hu
set_option maxHeartbeats 1000000 in
theorem bytes_within (b D : Nat) (bs : List UInt8) (bad : Bool) (s : Int) (k : Nat) (w : World) (h : Rdr w b D bs bad) (hk : max s 0 = (k : Int)) (hs : k ≤ bs.length) (hl : bs.length ≤ 140737488355328) :
    Calls Try.prog 50 #[.pointer (some ⟨b, 0, none⟩), .int .i64 s] w fun e w' => ∃ v, e = .returned v ∧ w'.ownsRow w.heap.size 5 1 v k ((bs.take k).map encB) ∧ Rdr w' b D (bs.drop k) bad ∧ w.grownBy w' (some b) := by
  obtain ⟨A, c, hb, hbs, hD⟩ := h
  have hblt := lt_of hb
  have hc0 : w.cell? ⟨b, 0, none⟩ = some (.slice A bs.length c) := cell_of hb 0
  have hc1 : w.cell? ⟨b, 1, none⟩ = some (.bool bad) := cell_of hb 1
  have hf0 := frozen_of hb 0
  have hlc : bs.length ≤ c := by obtain ⟨_, _, he, h1, _⟩ := hbs; injection he with e1 e2 e3; omega
  obtain ⟨A', hrun, hdrop, hblk⟩ := cut_from w A bs.length c k bs hbs hs
  have hto := cut_to w A bs.length c k bs hbs hs
  have HD := Lib.hid hdrop
  have HBLK := Lib.hid hblk
  have HDD := Lib.hid hD
  clear hblk hD
  have HB := Lib.hid hb
  clear hb hdrop
  have HC := Lib.hid (fun W (hW : Below w.heap.size w W) => clone_any A k c (bs.take k) W (hto.below hW) (by omega))
  go_enter Try.func50, Try.ntmps50
  go_wp2
  go_region_with (go_at_call 45; refine (HC.out _ (by repeat (first | exact Below.refl _ _ | apply Below.drew))).mono ?_; rintro e w1 ⟨v, rfl, ho, hb1⟩; have hk0 : w1.cell? ⟨b, 0, none⟩ = some (.slice A bs.length c) := cell_later hb1 hc0; have hk1 : w1.frozen? ⟨b, 0, none⟩ = false := (hb1.frozen hblt).trans hf0)
  all_goals
    go_wp2
    go_ret
    refine ⟨v, rfl, ?_, ⟨A', c - k, ?_, ?_, ?_⟩, ?_⟩
    · exact ownsRow_setCell_below ho hblt _
    · rw [List.length_drop]
      exact heap_setCell_same _ b 0 _ _ _ ((hb1.block b hblt).trans HB.out)
    · rw [List.length_drop]
      exact (HD.out _ (Bs.below (w := w.drew) hbs hb1)).setCell hk0 _
    · intro hne
      obtain ⟨a', ha'⟩ := (HD.out w hbs).at.length_pos (by simpa using hne)
      obtain ⟨a, h1, h2⟩ := HBLK.out a' ha'
      have hbne : bs ≠ [] := by intro h0; rw [h0] at hne; simp at hne
      obtain ⟨a2, h3, h4⟩ := HDD.out hbne
      rw [h1] at h3
      injection h3 with h3
      exact ⟨a', ha', by rw [← h2, h3]; exact h4⟩
    · exact grown_trans (row := some b) (grown_drew (grown_of hb1)) (grown_set w1 b 0 _)
/-- What a read of s bytes gives, and leaves. -/
def rdTake (bs : List UInt8) (s : Int) : List UInt8 := if (bs.length : Int) < max s 0 then [] else bs.take (max s 0).toNat
def rdLeft (bs : List UInt8) (s : Int) : List UInt8 := if (bs.length : Int) < max s 0 then [] else bs.drop (max s 0).toNat
def rdBad (bs : List UInt8) (bad : Bool) (s : Int) : Bool := if (bs.length : Int) < max s 0 then true else bad
theorem bytes_any (b D : Nat) (bs : List UInt8) (bad : Bool) (s : Int) (w : World) (h : Rdr w b D bs bad) (hl : bs.length ≤ 140737488355328) :
    Calls Try.prog 50 #[.pointer (some ⟨b, 0, none⟩), .int .i64 s] w fun e w' => ∃ v n, e = .returned v ∧ w'.ownsRow w.heap.size 5 1 v n ((rdTake bs s).map encB) ∧ Rdr w' b D (rdLeft bs s) (rdBad bs bad s) ∧ w.grownBy w' (some b) := by
  unfold rdTake rdLeft rdBad
  by_cases hs : (bs.length : Int) < max s 0
  · refine (bytes_over b D bs bad s w h hs).mono ?_
    rintro e w' ⟨rfl, h1, h2⟩
    rw [if_pos hs, if_pos hs, if_pos hs]
    exact ⟨_, 0, rfl, World.ownsRow_nil _ _ _ _, h1, h2⟩
  · obtain ⟨k, hk⟩ : ∃ k : Nat, max s 0 = (k : Int) := ⟨(max s 0).toNat, by omega⟩
    refine (bytes_within b D bs bad s k w h hk (by omega) hl).mono ?_
    rintro e w' ⟨v, rfl, h1, h2, h3⟩
    rw [if_neg hs, if_neg hs, if_neg hs, hk, Int.toNat_natCast]
    exact ⟨v, k, rfl, h1, h2, h3⟩
end Go.Proofs.YtljdfhckllncoaaK

namespace Go.Proofs.YtljdfhckllncoaaK
open Go.RowKit
set_option linter.unusedSimpArgs false
set_option linter.unusedVariables false
/-- The number of bytes, the lowest first. -/
def numV : List UInt8 → Nat
  | [] => 0
  | b :: l => b.toNat + 256 * numV l
theorem numV_lt (l : List UInt8) : numV l < 256 ^ l.length := by
  induction l with
  | nil => simp [numV]
  | cons b l ih =>
    have := b.toNat_lt
    simp only [numV, List.length_cons, Nat.pow_succ]
    omega
theorem numV_snoc (l : List UInt8) (b : UInt8) : numV (l ++ [b]) = numV l + b.toNat * 256 ^ l.length := by
  induction l with
  | nil => simp [numV]
  | cons c l ih =>
    simp only [List.cons_append, numV, ih, List.length_cons, Nat.pow_succ, Nat.mul_add]
    rw [show 256 * (b.toNat * 256 ^ l.length) = b.toNat * (256 ^ l.length * 256) from by rw [Nat.mul_comm (256 ^ l.length) 256, Nat.mul_left_comm]]
    omega
theorem rdTake_le (bs : List UInt8) (s : Int) : (rdTake bs s).length ≤ (max s 0).toNat := by
  unfold rdTake
  split
  · simp
  · simp; omega
theorem or_shift (m k : Nat) (x : UInt8) (hm : m < 256 ^ k) (hk : k ≤ 7) :
    bits .or .u64 (m : Int) (IntKind.u64.wrap ((x.toNat : Int) * (2 : Int) ^ (8 * k))) = ((m + x.toNat * 256 ^ k : Nat) : Int) := by
  have hx := x.toNat_lt
  have hp : 256 ^ k = 2 ^ (8 * k) := by rw [Nat.pow_mul]
  have hp64 : 256 ^ k * 256 ≤ 18446744073709551616 := by
    have := Nat.pow_le_pow_right (show 0 < 256 by decide) (show k + 1 ≤ 8 by omega)
    rw [Nat.pow_succ] at this
    exact Nat.le_trans this (by decide)
  have hxb : x.toNat * 256 ^ k < 18446744073709551616 := by
    have h1 : x.toNat * 256 ^ k < 256 * 256 ^ k := Nat.mul_lt_mul_of_pos_right (by omega) (Nat.pow_pos (by decide))
    rw [Nat.mul_comm 256] at h1
    omega
  have hwr : IntKind.u64.wrap ((x.toNat : Int) * (2 : Int) ^ (8 * k)) = ((x.toNat * 256 ^ k : Nat) : Int) := by
    have e1 : ((x.toNat : Int) * (2 : Int) ^ (8 * k)) = ((x.toNat * 256 ^ k : Nat) : Int) := by
      rw [hp]; simp
    rw [e1]
    rw [IntKind.wrap_u64]
    generalize x.toNat * 256 ^ k = z at hxb ⊢
    omega
  rw [hwr]
  have hm64 : m < 2 ^ 64 := by
    have : 256 ^ k ≤ 256 ^ k * 256 := Nat.le_mul_of_pos_right _ (by decide)
    have h2 : (2 : Nat) ^ 64 = 18446744073709551616 := by decide
    omega
  have hxb' : x.toNat * 256 ^ k < 2 ^ 64 := by
    have h2 : (2 : Nat) ^ 64 = 18446744073709551616 := by decide
    omega
  rw [bits_or_u64_nat m (x.toNat * 256 ^ k) (by omega) hxb]
  congr 1
  rw [hp, Nat.or_comm, Nat.mul_comm x.toNat, ← Nat.two_pow_add_eq_or_of_lt (by rw [← hp]; exact hm) x.toNat]
  omega
set_option maxHeartbeats 1000000 in
theorem rnum_any (b D : Nat) (bs : List UInt8) (bad : Bool) (s : Int) (w : World) (h : Rdr w b D bs bad) (hl : bs.length ≤ 140737488355328) :
    Calls Try.prog 42 #[.pointer (some ⟨b, 0, none⟩), .int .i64 s] w fun e w' => e = .returned (.int .u64 (numV (rdTake bs (wid s)) : Int)) ∧ Rdr w' b D (rdLeft bs (wid s)) (rdBad bs bad (wid s)) ∧ w.grownBy w' (some b) := by
  have HC := Lib.hid (bytes_any b D bs bad (wid s) w h hl)
  have hw := wid_le s
  have hx8 : (rdTake bs (wid s)).length ≤ 8 := by
    have := rdTake_le bs (wid s)
    omega
  clear h hl
  go_enter Try.func42, Try.ntmps42
  go_wp2_with (first | (go_at_call 55; refine (width_any s _).mono ?_; rintro e w1 ⟨rfl, rfl⟩) | (go_at_call 50; refine HC.out.mono ?_; rintro e w1 ⟨v, n, rfl, ho, hr, hg⟩; obtain ⟨A, c, rfl, hc, hn⟩ := own_form ho; have HLN0 := Lib.hid (own_bs ho).1))
  have hln := HLN0.out
  clear HLN0
  obtain ⟨xs, hxs⟩ : ∃ xs, xs = rdTake bs (wid s) := ⟨_, rfl⟩
  rw [← hxs] at ho hx8 hln
  have HXS := Lib.hid hxs
  have HLN := Lib.hid hln
  have hn8 : n ≤ 8 := by rw [hln]; exact hx8
  clear hxs hln
  go_loop [4, 5, 6, 12] (fun a p q i => ∃ k : Nat, k ≤ n ∧ i = .int .i64 k ∧ a = .int .u64 (numV (xs.take k) : Int)) (fun _ _ _ i => n - (intOf i).toNat)
  case atStart => exact ⟨0, Nat.zero_le _, rfl, rfl⟩
  case round =>
    obtain ⟨k, hk, rfl, rfl⟩ := hrel
    by_cases hlt : k < n
    · have hkx : k < xs.length := by rw [← HLN.out]; exact hlt
      obtain ⟨a, rfl, hcell⟩ := (own_at ho).map k hkx
      unfold encB at hcell
      obtain ⟨x, hx⟩ : ∃ x, x = xs[k] := ⟨_, rfl⟩
      rw [← hx] at hcell
      have HX := Lib.hid hx
      have hx8' := x.toNat_lt
      obtain ⟨m, hm⟩ : ∃ m, m = numV (xs.take k) := ⟨_, rfl⟩
      rw [← hm]
      have hml : m < 18446744073709551616 := by
        rw [hm]
        have h1 := numV_lt (xs.take k)
        have h2 : (xs.take k).length ≤ 7 := by rw [List.length_take]; omega
        have h3 := Nat.pow_le_pow_right (show 0 < 256 by decide) h2
        omega
      have HM := Lib.hid hm
      clear hx hm
      have hos := Lib.hid (or_shift m k x (by rw [HM.out]; have h1 := numV_lt (xs.take k); rwa [List.length_take, Nat.min_eq_left (by omega)] at h1) (by omega))
      go_wp2
      go_round
      case rel => exact ⟨k + 1, by omega, by go_num, by rw [hos.out, List.take_succ_eq_append_getElem hkx, numV_snoc, ← HM.out, ← HX.out, List.length_take, Nat.min_eq_left (by omega)]⟩
      case measure => simp [intOf]; omega
    · obtain rfl : k = n := by omega
      go_wp2
      go_ret
      exact ⟨by rw [List.take_of_length_le (by rw [← HLN.out]; exact Nat.le_refl _), HXS.out]; rfl, hr, hg⟩
end Go.Proofs.YtljdfhckllncoaaK

namespace Go.Proofs.YtljdfhckllncoaaK
open Go.RowKit
set_option linter.unusedSimpArgs false
set_option linter.unusedVariables false
theorem speaks_bytes : numsB 2 [1, 515] = [1, 0, 3, 2] := by decide +kernel
end Go.Proofs.YtljdfhckllncoaaK

namespace Go.Proofs.YtljdfhckllncoaaK
open Go.RowKit
set_option linter.unusedSimpArgs false
set_option linter.unusedVariables false
/-- Texts with their sizes ahead of them. -/
def sized (xss : List (List UInt8)) : List UInt8 := (xss.map fun l => numB 2 l.length ++ l).flatten
theorem sized_snoc (l : List (List UInt8)) (x : List UInt8) : sized (l ++ [x]) = sized l ++ (numB 2 x.length ++ x) := by simp [sized]
theorem sized_cons (l : List (List UInt8)) (x : List UInt8) : sized (x :: l) = numB 2 x.length ++ (x ++ sized l) := by simp [sized]
theorem numV_numB (k : Nat) : ∀ n, numV (numB k n) = n % 256 ^ k := by
  induction k with
  | zero => intro n; simp [numB, numV]; omega
  | succ k ih =>
    intro n
    simp only [numB, numV, ih, Nat.pow_succ]
    have h : (UInt8.ofNat (n % 256)).toNat = n % 256 := by rw [UInt8.toNat_ofNat']; omega
    rw [h, Nat.mul_comm (256 ^ k) 256, Nat.mod_mul]
theorem rdTake_app (a b : List UInt8) (s : Int) (h : max s 0 = (a.length : Int)) : rdTake (a ++ b) s = a := by
  unfold rdTake
  rw [if_neg (by rw [h]; simp; omega), h]; simp
theorem rdLeft_app (a b : List UInt8) (s : Int) (h : max s 0 = (a.length : Int)) : rdLeft (a ++ b) s = b := by
  unfold rdLeft
  rw [if_neg (by rw [h]; simp; omega), h]; simp
theorem rdBad_app (a b : List UInt8) (bad : Bool) (s : Int) (h : max s 0 = (a.length : Int)) : rdBad (a ++ b) bad s = bad := by
  unfold rdBad
  rw [if_neg (by rw [h]; simp; omega)]
theorem Bss.len {w : World} {A : Option Addr} {n c : Nat} {xss : List (List UInt8)} (h : Bss w (.slice A n c) xss) : n = xss.length := by
  obtain ⟨A', c', vs, he, _⟩ := h
  injection he with e1 e2 e3
theorem Bss.new3 {w : World} {v v' v'' : Value} {bs bs' bs'' : List UInt8} {b : Nat} {T : TypeId} {fz : Nat × Nat} (hb : b = w.heap.size) (h : Bs w v bs) (h' : Bs w v' bs') (h'' : Bs w v'' bs'') : Bss (w.alloc (.cells #[v, v', v''] T fz)) (.slice (some ⟨b, 0, none⟩) 3 3) [bs, bs', bs''] :=
  Bss.new (vs := [v, v', v'']) hb rfl rfl (by omega) (fun j hj _ => by
    match j, hj with
    | 0, _ => exact h
    | 1, _ => exact h'
    | 2, _ => exact h'')
theorem sized_append (a b : List (List UInt8)) : sized (a ++ b) = sized a ++ sized b := by simp [sized]
theorem sized_drop_le (a : List (List UInt8)) (j : Nat) : (sized (a.drop j)).length ≤ (sized a).length := by
  conv => rhs; rw [← List.take_append_drop j a, sized_append, List.length_append]
  omega
/-- A number that lies ahead is read. -/
theorem rnum_app (b D : Nat) (N : Nat) (k : Nat) (rest : List UInt8) (bad : Bool) (s : Int) (w : World) (hk : wid s = k) (hN : N < 256 ^ k) (h : Rdr w b D (numB k N ++ rest) bad) (hl : (numB k N ++ rest).length ≤ 140737488355328) :
    Calls Try.prog 42 #[.pointer (some ⟨b, 0, none⟩), .int .i64 s] w fun e w' => e = .returned (.int .u64 (N : Int)) ∧ Rdr w' b D rest bad ∧ w.grownBy w' (some b) := by
  refine (rnum_any b D _ bad s w h hl).mono ?_
  have hm : max ((wid s : Nat) : Int) 0 = ((numB k N).length : Int) := by rw [numB_length, hk]; omega
  rw [rdTake_app _ _ _ hm, rdLeft_app _ _ _ hm, rdBad_app _ _ _ _ hm, numV_numB, Nat.mod_eq_of_lt hN]
  exact fun e w' h => h
/-- Bytes that lie ahead are read. -/
theorem bytes_app (b D : Nat) (bs rest : List UInt8) (bad : Bool) (s : Int) (w : World) (hs : max s 0 = (bs.length : Int)) (h : Rdr w b D (bs ++ rest) bad) (hl : (bs ++ rest).length ≤ 140737488355328) :
    Calls Try.prog 50 #[.pointer (some ⟨b, 0, none⟩), .int .i64 s] w fun e w' => ∃ v n, e = .returned v ∧ w'.ownsRow w.heap.size 5 1 v n (bs.map encB) ∧ Rdr w' b D rest bad ∧ w.grownBy w' (some b) := by
  refine (bytes_any b D _ bad s w h hl).mono ?_
  rw [rdTake_app _ _ _ hs, rdLeft_app _ _ _ hs, rdBad_app _ _ _ _ hs]
  exact fun e w' h => h
theorem below_row {B : Nat} {w w1 w2 : World} {b : Nat} (h : Below B w w1) (hg : w1.grownBy w2 (some b)) (hB : B ≤ w1.heap.size) (hb : B ≤ b) : Below B w w2 :=
  h.grown hg hB (fun k hk => by injection hk with hk; omega)
theorem lens3 (a b c : List UInt8) : Lib.lens [a, b, c] = a.length + b.length + c.length := by simp [Lib.lens]; omega
end Go.Proofs.YtljdfhckllncoaaK

namespace Go.Proofs.YtljdfhckllncoaaK
open Go.RowKit
set_option linter.unusedSimpArgs false
set_option linter.unusedVariables false
/-- The reference's eye at block b: bytes, the next one's place, whether too much was read. -/
def Eye (w : World) (b : Nat) (A : Option Addr) (n c i : Nat) (bad : Bool) : Prop :=
  w.heap[b]? = some (.cells #[.slice A n c, .int .i64 (i : Int), .bool bad] 98 (0, 0))
theorem grown_drewN {w w1 : World} {k : Nat} {row : Option Nat} (h : (w.drewN k).grownBy w1 row) : w.grownBy w1 row := ⟨h.os, h.tape, h.output, h.size, h.block⟩
theorem cut_mid (w : World) (A : Option Addr) (n c i k : Nat) (bs : List UInt8) (h : Bs w (.slice A n c) bs) (hk : i + k ≤ n) :
    ∃ A' c', (∀ W : World, (Instr.slice 22 (.slice A n c) (some (.int .i64 (i : Int))) (some (.int .i64 ((i : Int) + (k : Int)))) none).run Try.prog W = .ok (.slice A' k c') W) ∧
      (∀ W : World, Bs W (.slice A n c) bs → Bs W (.slice A' k c') ((bs.drop i).take k)) := by
  have hn := h.len
  refine ⟨if c = i then A else A.map (·.add i), c - i, fun W => ?_, fun W hW => ?_⟩
  · obtain ⟨inf, hi, hz⟩ := Option.map_eq_some_iff.1 info_u8
    simp only [Prod.mk.injEq] at hz
    have hel : Try.prog.elem 22 = 5 := by simp [Program.elem, Try.underlying22]
    have hu : Try.prog.underlying 22 = some (.slice (Try.prog.elem 22)) := by rw [hel]; exact Try.underlying22
    have hc : n ≤ c := by
      obtain ⟨_, _, he, h1, _⟩ := h
      injection he with e1 e2 e3
      omega
    rw [show ((i : Int) + (k : Int)) = ((i + k : Nat) : Int) from by omega]
    rw [run_slice_lh W 22 A n c hu .i64 .i64 (i : Int) ((i + k : Nat) : Int) (Int.natCast_nonneg _) (by omega) (by omega), hel]
    simp [sizeOf, typeInfo, hi, hz.2.1, sliced, Result.andThen]
    omega
  · have h1 := cut_to W (if c = i then A else A.map (·.add i)) (n - i) (c - i) k (bs.drop i) ?_ (by omega)
    · exact h1
    · obtain ⟨A', hrun, hdrop, _⟩ := cut_from W A n c i bs hW (by omega)
      obtain ⟨inf, hi, hz⟩ := Option.map_eq_some_iff.1 info_u8
      simp only [Prod.mk.injEq] at hz
      have hel : Try.prog.elem 22 = 5 := by simp [Program.elem, Try.underlying22]
      have hu : Try.prog.underlying 22 = some (.slice (Try.prog.elem 22)) := by rw [hel]; exact Try.underlying22
      have hr := hrun W
      rw [run_slice_l W 22 A n c hu .i64 (i : Int) (Int.natCast_nonneg _) (by omega), hel] at hr
      simp [sizeOf, typeInfo, hi, hz.2.1, sliced, Result.andThen] at hr
      rw [hr]
      exact hdrop W hW
set_option maxHeartbeats 1000000 in
theorem ebytes_neg (b : Nat) (A : Option Addr) (n c i : Nat) (bad : Bool) (s : Int) (w : World) (h : Eye w b A n c i bad) (hs : s < 0) :
    Calls Try.prog 63 #[.pointer (some ⟨b, 0, none⟩), .int .i64 s] w fun e w' => ∃ v, e = .returned v ∧ w'.ownsRow w.heap.size 5 1 v 0 [] ∧ Eye w' b A n c i bad ∧ w.grownBy w' (some b) := by
  have hlt := lt_of h
  have H := Lib.hid h
  clear h
  go_enter Try.func63, Try.ntmps63
  go_wp2
  go_ret
  refine ⟨_, rfl, own_empty rfl (Nat.le_refl _), ?_, grown_of ((Below.refl _ _).alloc (Nat.le_refl _) _)⟩
  unfold Eye
  rw [Below.heap_alloc _ _ _ hlt]
  exact H.out
set_option maxHeartbeats 1000000 in
theorem ebytes_over (b : Nat) (A : Option Addr) (n c i : Nat) (bad : Bool) (s : Int) (w : World) (h : Eye w b A n c i bad) (hs : 0 ≤ s) (hi : i ≤ n) (hn : n ≤ 140737488355328) (ho : (n : Int) - i < s) :
    Calls Try.prog 63 #[.pointer (some ⟨b, 0, none⟩), .int .i64 s] w fun e w' => ∃ v, e = .returned v ∧ w'.ownsRow w.heap.size 5 1 v 0 [] ∧ Eye w' b A n c n true ∧ w.grownBy w' (some b) := by
  have hlt := lt_of h
  have hc0 : w.cell? ⟨b, 0, none⟩ = some (.slice A n c) := cell_of h 0
  have hc1 : w.cell? ⟨b, 1, none⟩ = some (.int .i64 (i : Int)) := cell_of h 1
  have hc2 : w.cell? ⟨b, 2, none⟩ = some (.bool bad) := cell_of h 2
  have hf1 := frozen_of h 1
  have hf2 := frozen_of h 2
  have H := Lib.hid h
  clear h
  go_enter Try.func63, Try.ntmps63
  go_wp2
  go_quiet (fail)
  go_wp2
  go_ret
  refine ⟨_, rfl, own_empty (by simp) (by simp), ?_, ?_⟩
  · unfold Eye
    rw [Below.heap_alloc _ _ _ (by simpa using hlt)]
    exact heap_setCell_same _ b 2 _ _ _ (heap_setCell_same _ b 1 _ _ _ H.out)
  · refine grown_trans (row := some b) ?_ (grown_of ((Below.refl _ _).alloc (Nat.le_refl _) _))
    exact grown_trans (row := some b) (grown_drewN (grown_set (w.drewN nq) b 1 _)) (grown_set _ b 2 _)
set_option maxHeartbeats 1000000 in
theorem ebytes_in (b : Nat) (A : Option Addr) (n c i k : Nat) (bs : List UInt8) (bad : Bool) (s : Int) (w : World) (h : Eye w b A n c i bad) (hs : s = (k : Int)) (hi : i + k ≤ n) (hn : n ≤ 140737488355328) (hX : Bs w (.slice A n c) bs) :
    Calls Try.prog 63 #[.pointer (some ⟨b, 0, none⟩), .int .i64 s] w fun e w' => ∃ v, e = .returned v ∧ w'.ownsRow w.heap.size 5 1 v k (((bs.drop i).take k).map encB) ∧ Eye w' b A n c (i + k) bad ∧ w.grownBy w' (some b) := by
  subst hs
  have hlt := lt_of h
  have hc0 : w.cell? ⟨b, 0, none⟩ = some (.slice A n c) := cell_of h 0
  have hc1 : w.cell? ⟨b, 1, none⟩ = some (.int .i64 (i : Int)) := cell_of h 1
  have hc2 : w.cell? ⟨b, 2, none⟩ = some (.bool bad) := cell_of h 2
  have hf1 := frozen_of h 1
  obtain ⟨A', c', hrun, hcut⟩ := cut_mid w A n c i k bs hX hi
  have hwr : IntKind.i64.wrap ((i : Int) + (k : Int)) = (i : Int) + (k : Int) := by rw [IntKind.wrap_i64]; omega
  have hX1 := hcut w hX
  have H := Lib.hid h
  clear h hcut
  go_enter Try.func63, Try.ntmps63
  go_wp2
  go_quiet (fail)
  go_wp2
  have hbW : Below w.heap.size w ((w.drewN (nq + 1)).alloc (.cells #[] 5)) := (show Below w.heap.size w (w.drewN (nq + 1)) from ⟨rfl, rfl, rfl, Nat.le_refl _, fun _ _ => rfl⟩).alloc (Nat.le_refl _) _
  have k0 := cell_later hbW hc0
  have k1 := cell_later hbW hc1
  have hat := own_empty (w := w.drewN (nq + 1)) (b := w.heap.size) (base := w.heap.size) (e := 5) (size := 1) rfl (Nat.le_refl _)
  have hA := (hX1.below hbW).at
  have HL := Lib.hid hX1.cells
  go_region_law (refine step_append w.heap.size rfl _ _ 22 5 (.int .u8 0) 1 1 rfl Try.underlying22 info_u8 rfl (by decide) (by decide) (.slice (some ⟨w.heap.size, 0, none⟩) 0 0) 0 [] A' k c' (((bs.drop i).take k).map encB) (by simp [Act.eval, Act.put]) (by simp [Act.eval, Act.put]) hat hA HL.out (encB_all _) hbW.size (by omega) ?_; intro v1 w1 ho1 hg1 ha1)
  all_goals
    rw [Nat.zero_add, List.nil_append] at ho1
    have hb1 := below_grown hbW hat hg1 hbW.size
    have j1 := cell_later hb1 hc1
    have jf := (hb1.frozen hlt (p := ⟨b, 1, none⟩)).trans hf1
    go_wp2
    go_ret
    refine ⟨v1, rfl, ?_, ?_, ?_⟩
    · exact ownsRow_setCell_below ho1 hlt _
    · unfold Eye
      have e1 : ((i + k : Nat) : Int) = (i : Int) + (k : Int) := by omega
      rw [e1]
      exact heap_setCell_same _ b 1 _ _ _ ((hb1.block b hlt).trans H.out)
    · exact grown_trans (row := some b) (grown_of hb1) (grown_set w1 b 1 _)
end Go.Proofs.YtljdfhckllncoaaK

namespace Go.Proofs.YtljdfhckllncoaaK
open Go.RowKit
set_option linter.unusedSimpArgs false
set_option linter.unusedVariables false
theorem ebytes_any (b : Nat) (A : Option Addr) (n c i : Nat) (bs : List UInt8) (bad : Bool) (s : Int) (w : World) (h : Eye w b A n c i bad) (hi : i ≤ n) (hn : n ≤ 140737488355328) (hX : Bs w (.slice A n c) bs) :
    Calls Try.prog 63 #[.pointer (some ⟨b, 0, none⟩), .int .i64 s] w fun e w' => ∃ v m i', e = .returned v ∧ w'.ownsRow w.heap.size 5 1 v m ((rdTake (bs.drop i) s).map encB) ∧ Eye w' b A n c i' (rdBad (bs.drop i) bad s) ∧ i' ≤ n ∧ bs.drop i' = rdLeft (bs.drop i) s ∧ w.grownBy w' (some b) := by
  have hl := hX.len
  unfold rdTake rdBad rdLeft
  by_cases hs : s < 0
  · refine (ebytes_neg b A n c i bad s w h hs).mono ?_
    rintro e w' ⟨v, rfl, h1, h2, h3⟩
    have hm : max s 0 = 0 := by omega
    rw [hm, if_neg (by omega), if_neg (by omega), if_neg (by omega)]
    exact ⟨v, 0, i, rfl, h1, h2, hi, rfl, h3⟩
  · by_cases ho : (n : Int) - i < s
    · refine (ebytes_over b A n c i bad s w h (by omega) hi hn ho).mono ?_
      rintro e w' ⟨v, rfl, h1, h2, h3⟩
      have hc : ((bs.drop i).length : Int) < max s 0 := by rw [List.length_drop, ← hl]; omega
      rw [if_pos hc, if_pos hc, if_pos hc]
      exact ⟨v, 0, n, rfl, h1, h2, Nat.le_refl _, List.drop_of_length_le (by omega), h3⟩
    · obtain ⟨k, hk⟩ : ∃ k : Nat, s = (k : Int) := ⟨s.toNat, by omega⟩
      refine (ebytes_in b A n c i k bs bad s w h hk (by omega) hn hX).mono ?_
      rintro e w' ⟨v, rfl, h1, h2, h3⟩
      have hc : ¬ ((bs.drop i).length : Int) < max s 0 := by rw [List.length_drop, ← hl]; omega
      have hm : (max s 0).toNat = k := by omega
      rw [if_neg hc, if_neg hc, if_neg hc, hm]
      exact ⟨v, k, i + k, rfl, h1, h2, by omega, by rw [List.drop_drop], h3⟩
theorem numV_drop (xs : List UInt8) (k : Nat) (h : k < xs.length) : numV (xs.drop k) = xs[k].toNat + 256 * numV (xs.drop (k + 1)) := by
  rw [List.drop_eq_getElem_cons h]; rfl
set_option maxHeartbeats 1000000 in
theorem enum_any (b : Nat) (A : Option Addr) (n c i : Nat) (bs : List UInt8) (bad : Bool) (s : Int) (w : World) (h : Eye w b A n c i bad) (hi : i ≤ n) (hn : n ≤ 140737488355328) (hX : Bs w (.slice A n c) bs) :
    Calls Try.prog 52 #[.pointer (some ⟨b, 0, none⟩), .int .i64 s] w fun e w' => ∃ i', e = .returned (.int .u64 (numV (rdTake (bs.drop i) (wid s)) : Int)) ∧ Eye w' b A n c i' (rdBad (bs.drop i) bad (wid s)) ∧ i' ≤ n ∧ bs.drop i' = rdLeft (bs.drop i) (wid s) ∧ w.grownBy w' (some b) := by
  have HC := Lib.hid (ebytes_any b A n c i bs bad (wid s) w h hi hn hX)
  have hw := wid_le s
  have hx8 : (rdTake (bs.drop i) (wid s)).length ≤ 8 := by
    have := rdTake_le (bs.drop i) (wid s)
    omega
  clear h hi hn hX
  go_enter Try.func52, Try.ntmps52
  go_wp2_with (first | (go_at_call 53; refine (refsize_any s _).mono ?_; rintro e w1 ⟨rfl, rfl⟩) | (go_at_call 63; refine HC.out.mono ?_; rintro e w1 ⟨v, m, i', rfl, ho, hr, hi', hd, hg⟩; obtain ⟨A1, c1, rfl, hc1, hn1⟩ := own_form ho; have HLN0 := Lib.hid (own_bs ho).1; have HD := Lib.hid hd; clear hd))
  have hln := HLN0.out
  clear HLN0
  obtain ⟨xs, hxs⟩ : ∃ xs, xs = rdTake (bs.drop i) (wid s) := ⟨_, rfl⟩
  rw [← hxs] at ho hx8 hln
  have HXS := Lib.hid hxs
  have HLN := Lib.hid hln
  have hn8 : m ≤ 8 := by rw [hln]; exact hx8
  clear hxs hln
  go_loop [6, 7] (fun a p => ∃ k : Nat, k ≤ m ∧ p = .int .i64 ((k : Int) - 1) ∧ a = .int .u64 (numV (xs.drop k) : Int)) (fun _ p => ((intOf p) + 1).toNat)
  case atStart => exact ⟨m, Nat.le_refl _, rfl, by rw [List.drop_of_length_le (by rw [← HLN.out]; exact Nat.le_refl _)]; rfl⟩
  case round =>
    obtain ⟨k, hk, rfl, rfl⟩ := hrel
    by_cases hlt : 0 < k
    · obtain ⟨q, rfl⟩ : ∃ q, k = q + 1 := ⟨k - 1, by omega⟩
      have hkx : q < xs.length := by rw [← HLN.out]; omega
      obtain ⟨a, rfl, hcell⟩ := (own_at ho).map q hkx
      unfold encB at hcell
      obtain ⟨x, hx⟩ : ∃ x, x = xs[q] := ⟨_, rfl⟩
      rw [← hx] at hcell
      have HX := Lib.hid hx
      have hx8' := x.toNat_lt
      obtain ⟨z, hz⟩ : ∃ z, z = numV (xs.drop (q + 1)) := ⟨_, rfl⟩
      rw [← hz]
      have hzl : 256 * z + x.toNat < 18446744073709551616 := by
        have h1 := numV_lt (xs.drop q)
        rw [numV_drop xs q hkx, ← hx, ← hz, List.length_drop] at h1
        have h2 : xs.length - q ≤ 8 := by omega
        have h3 := Nat.pow_le_pow_right (show 0 < 256 by decide) h2
        omega
      have HZ := Lib.hid hz
      clear hx hz
      have e0 : (((q + 1 : Nat) : Int) - 1) = (q : Int) := by omega
      rw [e0]
      clear e0
      go_wp2
      go_round
      case rel => exact ⟨q, by omega, rfl, by rw [numV_drop xs q hkx, ← HX.out, ← HZ.out, show ((256 * (z : Int) + (x.toNat : Int)) = ((x.toNat + 256 * z : Nat) : Int)) from by omega]⟩
      case measure => simp [intOf]
    · obtain rfl : k = 0 := by omega
      go_wp2
      go_ret
      exact ⟨by rw [← HXS.out]; rfl, i', hr, hi', HD.out, hg⟩
end Go.Proofs.YtljdfhckllncoaaK

namespace Go.Proofs.YtljdfhckllncoaaK
open Go.RowKit
set_option linter.unusedSimpArgs false
set_option linter.unusedVariables false
theorem rdLeft_len (bs : List UInt8) (s : Int) : (rdLeft bs s).length ≤ bs.length := by
  unfold rdLeft
  split <;> simp
theorem rdTake_len (bs : List UInt8) (s : Int) : (rdTake bs s).length ≤ bs.length := by
  unfold rdTake
  split <;> simp
  omega
theorem Rdr.below {w w1 : World} {b D : Nat} {bs : List UInt8} {bad : Bool} (h : Rdr w b D bs bad) (hb : Below w.heap.size w w1) : Rdr w1 b D bs bad := by
  obtain ⟨A, c, h1, h2, h3⟩ := h
  exact ⟨A, c, (hb.block b (lt_of h1)).trans h1, h2.below hb, h3⟩
/-- A store into another block. -/
theorem Rdr.set {w : World} {b D : Nat} {bs : List UInt8} {bad : Bool} (h : Rdr w b D bs bad) {p : Addr} (h1 : p.block ≠ b) (h2 : p.block ≠ D) (u : Value) : Rdr (w.setCell p u) b D bs bad := by
  obtain ⟨A, c, k1, k2, k3⟩ := h
  refine ⟨A, c, (Below.heap_setCell w p u b (Ne.symm h1)).trans k1, ?_, k3⟩
  obtain ⟨A', c', e, e1, e2, e3⟩ := k2
  injection e with f1 f2 f3
  subst f1 f3
  refine ⟨A, c, rfl, e1, e2, fun j x hx => ?_⟩
  obtain ⟨a, ha, hc⟩ := e3 j x hx
  refine ⟨a, ha, ?_⟩
  have hne : bs ≠ [] := by rintro rfl; simp at hx
  obtain ⟨a2, ha2, hD⟩ := k3 hne
  rw [ha] at ha2
  injection ha2 with ha2
  have hb : (a.add j).block = D := by rw [← hD, ← ha2]; unfold Addr.add; split <;> rfl
  rw [World.cell?_setCell_other w p (a.add j) u (fun e => h2 (by rw [e]; exact hb))]
  exact hc
theorem Eye.below {w w1 : World} {b : Nat} {A : Option Addr} {n c i : Nat} {bad : Bool} (h : Eye w b A n c i bad) (hb : Below w.heap.size w w1) : Eye w1 b A n c i bad := (hb.block b (lt_of h)).trans h
theorem Eye.set {w : World} {b : Nat} {A : Option Addr} {n c i : Nat} {bad : Bool} (h : Eye w b A n c i bad) {p : Addr} (h1 : p.block ≠ b) (u : Value) : Eye (w.setCell p u) b A n c i bad := (Below.heap_setCell w p u b (Ne.symm h1)).trans h
theorem Eye.row {w w1 : World} {b b2 : Nat} {A : Option Addr} {n c i : Nat} {bad : Bool} (h : Eye w b A n c i bad) (hg : w.grownBy w1 (some b2)) (hne : b ≠ b2) : Eye w1 b A n c i bad := (hg.block b (lt_of h) (by simpa using hne)).trans h
/-- The row of another thing has turned. -/
theorem Rdr.row {w w1 : World} {b D b2 : Nat} {bs : List UInt8} {bad : Bool} (h : Rdr w b D bs bad) (hg : w.grownBy w1 (some b2)) (h1 : b ≠ b2) (h2 : D ≠ b2) : Rdr w1 b D bs bad := by
  obtain ⟨A, c, k1, k2, k3⟩ := h
  refine ⟨A, c, (hg.block b (lt_of k1) (by simpa using h1)).trans k1, ?_, k3⟩
  obtain ⟨A', c', e, e1, e2, e3⟩ := k2
  injection e with f1 f2 f3
  subst f1 f3
  refine ⟨A, c, rfl, e1, e2, fun j x hx => ?_⟩
  obtain ⟨a, ha, hc⟩ := e3 j x hx
  refine ⟨a, ha, ?_⟩
  have hne : bs ≠ [] := by rintro rfl; simp at hx
  obtain ⟨a2, ha2, hD⟩ := k3 hne
  rw [ha] at ha2
  injection ha2 with ha2
  have hb : (a.add j).block = D := by rw [← hD, ← ha2]; unfold Addr.add; split <;> rfl
  exact hg.cell hc (by rw [hb]; simpa using h2)
theorem below_drewN {B : Nat} {w w1 : World} {k : Nat} (h : Below B w w1) : Below B w (w1.drewN k) := ⟨h.os, h.tape, h.output, h.size, h.block⟩
theorem i64_and_one (x : Nat) : bits .and .i64 (x : Int) 1 = ((x % 2 : Nat) : Int) := by
  have h127 : (BitVec.ofInt 64 1).toNat = 2 ^ 1 - 1 := by decide
  have key : (BitVec.ofInt 64 (x : Int) &&& BitVec.ofInt 64 1).toNat = ((x : Int) % ((2 ^ 64 : Nat) : Int)).toNat % 2 ^ 1 := by
    rw [BitVec.toNat_and, BitVec.toNat_ofInt, h127, Nat.and_two_pow_sub_one_eq_mod]
  show IntKind.i64.wrap ((BitVec.ofInt 64 (x : Int) &&& BitVec.ofInt 64 1).toNat : Nat) = ((x % 2 : Nat) : Int)
  rw [key, IntKind.wrap_i64]
  omega
end Go.Proofs.YtljdfhckllncoaaK
