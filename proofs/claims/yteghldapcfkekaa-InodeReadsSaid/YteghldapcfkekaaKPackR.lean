import Derived.Test.YteghldapcfkekaaKPackN
import Derived.Deep.RegionWith
import Derived.Deep.QuietTactic
import Derived.BigQuiet
namespace Go.Proofs.YteghldapcfkekaaK
open Go.RowKit
set_option linter.unusedSimpArgs false
set_option linter.unusedVariables false
theorem bcell {W w1 : World} (hb : Below W.heap.size W w1) : (∀ b o, b < W.heap.size → w1.cell? ⟨b, o, none⟩ = W.cell? ⟨b, o, none⟩) ∧ (∀ b o, b < W.heap.size → w1.frozen? ⟨b, o, none⟩ = W.frozen? ⟨b, o, none⟩) :=
  ⟨fun b o h => hb.cell (p := ⟨b, o, none⟩) h, fun b o h => hb.frozen (p := ⟨b, o, none⟩) h⟩
/-- The reader at block b, whose bytes lie in block D: what is left, whether too much was read. -/
def Rdr (w : World) (b D : Nat) (bs : List UInt8) (bad : Bool) : Prop :=
  ∃ A c, w.heap[b]? = some (.cells #[.slice A bs.length c, .bool bad] 79 (0, 0)) ∧ Bs w (.slice A bs.length c) bs ∧ (bs ≠ [] → ∃ a, A = some a ∧ a.block = D)
theorem cell_of {w : World} {b : Nat} {cs : Array Value} {T : TypeId} {fz : Nat × Nat} (h : w.heap[b]? = some (.cells cs T fz)) (i : Nat) : w.cell? ⟨b, i, none⟩ = cs[i]? := cell_of_row w b i cs T fz h
theorem frozen_of {w : World} {b : Nat} {cs : Array Value} {T : TypeId} (h : w.heap[b]? = some (.cells cs T (0, 0))) (i : Nat) : w.frozen? ⟨b, i, none⟩ = false := by simp [World.frozen?, h]
theorem lt_of {w : World} {b : Nat} {o : Obj} (h : w.heap[b]? = some o) : b < w.heap.size := (Array.getElem?_eq_some_iff.1 h).1
theorem grown_set (w : World) (b j : Nat) (u : Value) : w.grownBy (w.setCell ⟨b, j, none⟩ u) (some b) :=
  ⟨rfl, rfl, rfl, by simp, fun k hk hne => Below.heap_setCell _ _ _ _ (fun e => hne (by rw [e]))⟩
theorem grown_trans {w w1 w2 : World} {row : Option Nat} (h : w.grownBy w1 row) (k : w1.grownBy w2 row) : w.grownBy w2 row :=
  ⟨k.os.trans h.os, k.tape.trans h.tape, k.output.trans h.output, Nat.le_trans h.size k.size, fun i hi hne => (k.block i (Nat.lt_of_lt_of_le hi h.size) hne).trans (h.block i hi hne)⟩
theorem grown_of {w w1 : World} (h : Below w.heap.size w w1) {row : Option Nat} : w.grownBy w1 row := ⟨h.os, h.tape, h.output, h.size, fun i hi _ => h.block i hi⟩
theorem grown_drew {w w1 : World} {row : Option Nat} (h : w.drew.grownBy w1 row) : w.grownBy w1 row := ⟨h.os, h.tape, h.output, h.size, h.block⟩
theorem Bs.setCell {w : World} {v : Value} {bs : List UInt8} (h : Bs w v bs) {p : Addr} {A : Option Addr} {n c : Nat} (hp : w.cell? p = some (.slice A n c)) (u : Value) : Bs (w.setCell p u) v bs := by
  obtain ⟨A', c', h1, h2, h3, h4⟩ := h
  refine ⟨A', c', h1, h2, h3, fun j x hx => ?_⟩
  obtain ⟨a, ha, hc⟩ := h4 j x hx
  refine ⟨a, ha, ?_⟩
  rw [List.getElem?_map] at hx
  obtain ⟨y, _, rfl⟩ := Option.map_eq_some_iff.1 hx
  have hne : p ≠ a.add j := by
    intro e
    rw [← e, hp] at hc
    cases hc
  rw [World.cell?_setCell_other (h := hne)]; exact hc
theorem left_any (b D : Nat) (bs : List UInt8) (bad : Bool) (w : World) (h : Rdr w b D bs bad) :
    Calls Try.prog 34 #[.pointer (some ⟨b, 0, none⟩)] w fun e w' => e = .returned (.int .i64 (bs.length : Int)) ∧ w = w' := by
  obtain ⟨A, c, hb, hs, _⟩ := h
  have hc0 : w.cell? ⟨b, 0, none⟩ = some (.slice A bs.length c) := cell_of hb 0
  clear hb hs
  go_enter Try.func34, Try.ntmps34
  go_wp2
  go_ret
  exact ⟨rfl, rfl⟩
theorem bad_any (b D : Nat) (bs : List UInt8) (bad : Bool) (w : World) (h : Rdr w b D bs bad) :
    Calls Try.prog 32 #[.pointer (some ⟨b, 0, none⟩)] w fun e w' => e = .returned (.bool bad) ∧ w = w' := by
  obtain ⟨A, c, hb, hs, _⟩ := h
  have hc0 : w.cell? ⟨b, 1, none⟩ = some (.bool bad) := cell_of hb 1
  clear hb hs
  go_enter Try.func32, Try.ntmps32
  go_wp2
  go_ret
  exact ⟨rfl, rfl⟩
theorem new_any (A : Option Addr) (n c : Nat) (bs : List UInt8) (w : World) (hX : Bs w (.slice A n c) bs) (hl : n ≤ 140737488355328) :
    Calls Try.prog 30 #[.slice A n c] w fun e w' => ∃ b D, e = .returned (.pointer (some ⟨b, 0, none⟩)) ∧ w.heap.size ≤ b ∧ w.heap.size ≤ D ∧ D ≤ b ∧ Rdr w' b D bs false ∧ Below w.heap.size w w' := by
  have HN := Lib.hid hX.len
  have HC := Lib.hid (clone_any A n c bs w hX hl)
  clear hX hl
  go_enter Try.func30, Try.ntmps30
  go_wp2_with (go_at_call 46; refine HC.out.mono ?_; rintro e w1 ⟨v, rfl, ho, hb⟩; obtain ⟨A1, c1, rfl, hc1, hn1⟩ := own_form ho)
  go_ret
  have hsz := hb.size
  by_cases hne : bs = []
  · refine ⟨w1.heap.size, w1.heap.size, rfl, hsz, hsz, Nat.le_refl _, ⟨A1, c1, ?_, ?_, fun h => absurd hne h⟩, hb.alloc hb.size _⟩
    · rw [← HN.out]; exact heap_alloc_new w1 _
    · rw [← HN.out]; exact (own_bs ho).2.alloc _
  · have hpos : 0 < n := by rw [HN.out]; exact List.length_pos_iff.2 hne
    obtain ⟨g, c2, he, _, hg, hgl, _⟩ := own_pos ho hpos
    injection he with e1 e2 e3
    refine ⟨w1.heap.size, g, rfl, hsz, hg, by omega, ⟨A1, c1, ?_, ?_, fun _ => ⟨_, e1, rfl⟩⟩, hb.alloc hb.size _⟩
    · rw [← HN.out]; exact heap_alloc_new w1 _
    · rw [← HN.out]; exact (own_bs ho).2.alloc _
set_option maxHeartbeats 1000000 in
theorem bytes_over (b D : Nat) (bs : List UInt8) (bad : Bool) (s : Int) (w : World) (h : Rdr w b D bs bad) (hs : (bs.length : Int) < max s 0) :
    Calls Try.prog 33 #[.pointer (some ⟨b, 0, none⟩), .int .i64 s] w fun e w' => e = .returned (.slice none 0 0) ∧ Rdr w' b D [] true ∧ w.grownBy w' (some b) := by
  obtain ⟨A, c, hb, hbs, hD⟩ := h
  have hc0 : w.cell? ⟨b, 0, none⟩ = some (.slice A bs.length c) := cell_of hb 0
  have hc1 : w.cell? ⟨b, 1, none⟩ = some (.bool bad) := cell_of hb 1
  have hf0 := frozen_of hb 0
  have hf1 := frozen_of hb 1
  have HB := Lib.hid hb
  clear hb hbs hD
  go_enter Try.func33, Try.ntmps33
  go_wp2
  go_ret
  refine ⟨rfl, ⟨none, 0, ?_, ⟨none, 0, rfl, by simp, by simp, At.nil _ _⟩, fun h => absurd rfl h⟩, ?_⟩
  · exact heap_setCell_same _ b 1 _ _ _ (heap_setCell_same w b 0 _ _ _ HB.out)
  · exact grown_trans (grown_set w b 0 _) (grown_set _ b 1 _)
/-- A cut from k on, without a case on the capacity. -/
theorem cut_from (w : World) (A : Option Addr) (n c k : Nat) (bs : List UInt8) (h : Bs w (.slice A n c) bs) (hk : k ≤ n) :
    ∃ A', (∀ W : World, (Instr.slice 30 (.slice A n c) (some (.int .i64 (k : Int))) none none).run Try.prog W = .ok (.slice A' (n - k) (c - k)) W) ∧
      (∀ W : World, Bs W (.slice A n c) bs → Bs W (.slice A' (n - k) (c - k)) (bs.drop k)) ∧ (∀ a', A' = some a' → ∃ a, A = some a ∧ a.block = a'.block) := by
  have hn := h.len
  refine ⟨if c = k then A else A.map (·.add k), fun W => ?_, fun W hW => ?_, fun a' ha => ?_⟩
  · obtain ⟨i, hi, hz⟩ := Option.map_eq_some_iff.1 info_u8
    simp only [Prod.mk.injEq] at hz
    have hel : Try.prog.elem 30 = 5 := by simp [Program.elem, Try.underlying30]
    have hu : Try.prog.underlying 30 = some (.slice (Try.prog.elem 30)) := by rw [hel]; exact Try.underlying30
    rw [run_slice_l W 30 A n c hu .i64 (k : Int) (Int.natCast_nonneg _) (by omega), hel]
    simp [sizeOf, typeInfo, hi, hz.2.1, sliced, Result.andThen]
  · obtain ⟨A', c', he, h1, h2, h3⟩ := hW
    injection he with e1 e2 e3
    subst e1 e2 e3
    refine ⟨_, _, by rw [List.length_drop], by simp; omega, by simp; omega, ?_⟩
    intro j u hu
    rw [List.map_drop, List.getElem?_drop] at hu
    obtain ⟨a, rfl, hc⟩ := h3 (k + j) u hu
    have hlt : k + j < bs.length := by
      rcases Nat.lt_or_ge (k + j) bs.length with h | h
      · exact h
      · rw [List.getElem?_eq_none (by simpa using h)] at hu; cases hu
    rw [if_neg (by omega)]
    refine ⟨_, rfl, ?_⟩
    rw [← hc]
    congr 1
    unfold Addr.add
    by_cases h1 : k = 0 <;> by_cases h2 : j = 0 <;> simp [h1, h2, Nat.add_assoc]
  · split at ha
    · exact ⟨a', ha, rfl⟩
    · obtain ⟨a, h1, h2⟩ := Option.map_eq_some_iff.1 ha
      refine ⟨a, h1, ?_⟩
      rw [← h2]; unfold Addr.add; split <;> rfl
/-- The first k bytes. -/
theorem cut_to (w : World) (A : Option Addr) (n c k : Nat) (bs : List UInt8) (h : Bs w (.slice A n c) bs) (hk : k ≤ n) : Bs w (.slice A k c) (bs.take k) := by
  obtain ⟨A', c', he, h1, h2, h3⟩ := h
  injection he with e1 e2 e3
  subst e1 e2 e3
  refine ⟨A, c, by rw [List.length_take, Nat.min_eq_left hk], by simp; omega, by simp; omega, ?_⟩
  intro j u hu
  rw [List.map_take] at hu
  have hj : j < k := by
    rcases Nat.lt_or_ge j k with h | h
    · exact h
    · rw [List.getElem?_eq_none (by simp; omega)] at hu; cases hu
  rw [List.getElem?_take_of_lt hj] at hu
  exact h3 j u hu
set_option maxHeartbeats 1000000 in
theorem bytes_within (b D : Nat) (bs : List UInt8) (bad : Bool) (s : Int) (k : Nat) (w : World) (h : Rdr w b D bs bad) (hk : max s 0 = (k : Int)) (hs : k ≤ bs.length) (hl : bs.length ≤ 140737488355328) :
    Calls Try.prog 33 #[.pointer (some ⟨b, 0, none⟩), .int .i64 s] w fun e w' => ∃ v, e = .returned v ∧ w'.ownsRow w.heap.size 5 1 v k ((bs.take k).map encB) ∧ Rdr w' b D (bs.drop k) bad ∧ w.grownBy w' (some b) := by
  obtain ⟨A, c, hb, hbs, hD⟩ := h
  have hblt := lt_of hb
  have hc0 : w.cell? ⟨b, 0, none⟩ = some (.slice A bs.length c) := cell_of hb 0
  have hc1 : w.cell? ⟨b, 1, none⟩ = some (.bool bad) := cell_of hb 1
  have hf0 := frozen_of hb 0
  have hlc : bs.length ≤ c := by obtain ⟨_, _, he, h1, _⟩ := hbs; injection he with e1 e2 e3; omega
  obtain ⟨A', hrun, hdrop, hblk⟩ := cut_from w A bs.length c k bs hbs hs
  have hto := cut_to w A bs.length c k bs hbs hs
  have HD := Lib.hid hdrop
  have HBLK := Lib.hid hblk
  have HDD := Lib.hid hD
  clear hblk hD
  have HB := Lib.hid hb
  clear hb hdrop
  have HC := Lib.hid (fun W (hW : Below w.heap.size w W) => clone_any A k c (bs.take k) W (hto.below hW) (by omega))
  go_enter Try.func33, Try.ntmps33
  go_wp2
  go_region_with (go_at_call 46; refine (HC.out _ (by repeat (first | exact Below.refl _ _ | apply Below.drew))).mono ?_; rintro e w1 ⟨v, rfl, ho, hb1⟩; have hk0 : w1.cell? ⟨b, 0, none⟩ = some (.slice A bs.length c) := cell_later hb1 hc0; have hk1 : w1.frozen? ⟨b, 0, none⟩ = false := (hb1.frozen hblt).trans hf0)
  all_goals
    go_wp2
    go_ret
    refine ⟨v, rfl, ?_, ⟨A', c - k, ?_, ?_, ?_⟩, ?_⟩
    · exact ownsRow_setCell_below ho hblt _
    · rw [List.length_drop]
      exact heap_setCell_same _ b 0 _ _ _ ((hb1.block b hblt).trans HB.out)
    · rw [List.length_drop]
      exact (HD.out _ (Bs.below (w := w.drew) hbs hb1)).setCell hk0 _
    · intro hne
      obtain ⟨a', ha'⟩ := (HD.out w hbs).at.length_pos (by simpa using hne)
      obtain ⟨a, h1, h2⟩ := HBLK.out a' ha'
      have hbne : bs ≠ [] := by intro h0; rw [h0] at hne; simp at hne
      obtain ⟨a2, h3, h4⟩ := HDD.out hbne
      rw [h1] at h3
      injection h3 with h3
      exact ⟨a', ha', by rw [← h2, h3]; exact h4⟩
    · exact grown_trans (row := some b) (grown_drew (grown_of hb1)) (grown_set w1 b 0 _)
/-- What a read of s bytes gives, and leaves. -/
def rdTake (bs : List UInt8) (s : Int) : List UInt8 := if (bs.length : Int) < max s 0 then [] else bs.take (max s 0).toNat
def rdLeft (bs : List UInt8) (s : Int) : List UInt8 := if (bs.length : Int) < max s 0 then [] else bs.drop (max s 0).toNat
def rdBad (bs : List UInt8) (bad : Bool) (s : Int) : Bool := if (bs.length : Int) < max s 0 then true else bad
theorem bytes_any (b D : Nat) (bs : List UInt8) (bad : Bool) (s : Int) (w : World) (h : Rdr w b D bs bad) (hl : bs.length ≤ 140737488355328) :
    Calls Try.prog 33 #[.pointer (some ⟨b, 0, none⟩), .int .i64 s] w fun e w' => ∃ v n, e = .returned v ∧ w'.ownsRow w.heap.size 5 1 v n ((rdTake bs s).map encB) ∧ Rdr w' b D (rdLeft bs s) (rdBad bs bad s) ∧ w.grownBy w' (some b) := by
  unfold rdTake rdLeft rdBad
  by_cases hs : (bs.length : Int) < max s 0
  · refine (bytes_over b D bs bad s w h hs).mono ?_
    rintro e w' ⟨rfl, h1, h2⟩
    rw [if_pos hs, if_pos hs, if_pos hs]
    exact ⟨_, 0, rfl, World.ownsRow_nil _ _ _ _, h1, h2⟩
  · obtain ⟨k, hk⟩ : ∃ k : Nat, max s 0 = (k : Int) := ⟨(max s 0).toNat, by omega⟩
    refine (bytes_within b D bs bad s k w h hk (by omega) hl).mono ?_
    rintro e w' ⟨v, rfl, h1, h2, h3⟩
    rw [if_neg hs, if_neg hs, if_neg hs, hk, Int.toNat_natCast]
    exact ⟨v, k, rfl, h1, h2, h3⟩
end Go.Proofs.YteghldapcfkekaaK
