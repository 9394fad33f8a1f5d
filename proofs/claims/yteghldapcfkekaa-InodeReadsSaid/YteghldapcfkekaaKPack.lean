import Derived.Test.YteghldapcfkekaaRows
import Derived.Test.YteghldapcfkekaaKCore
import Derived.Test.YteghldapcfkekaaKShelf
import Derived.Lib.SlBytesConst
namespace Go.Proofs.YteghldapcfkekaaK
open Go.RowKit
set_option linter.unusedSimpArgs false
set_option linter.unusedVariables false
theorem info_u8 : (Try.prog.info? 5).map (fun i => (i.zero, i.size, i.bytes)) = some (some (.int .u8 0), 1, 1) := by kernel_rfl
/-- bytes.Clone: a copy. -/
theorem clone_any (A : Option Addr) (n c : Nat) (bs : List UInt8) (w : World) (hX : Bs w (.slice A n c) bs) (hl : n ≤ 140737488355328) :
    Calls Try.prog 46 #[.slice A n c] w fun e w' => ∃ v, e = .returned v ∧ w'.ownsRow w.heap.size 5 1 v n (bs.map encB) ∧ Below w.heap.size w w' := by
  have hn := hX.len
  rcases A with _ | a
  · have h0 : bs = [] := by
      by_cases hb : bs = []
      · exact hb
      · obtain ⟨a, ha⟩ := hX.at.length_pos (by simpa using hb)
        cases ha
    subst h0
    simp at hn
    subst hn
    refine (Try.bytes_Clone_nil 0 c w).mono ?_
    rintro e w' ⟨rfl, rfl⟩
    exact ⟨_, rfl, World.ownsRow_nil _ _ _ _, Below.refl _ _⟩
  · refine (Try.bytes_Clone_at a n c (bs.map fun b => (b.toNat : Int)) w (by rw [List.length_map, hn]) hl (fun i hi => ?_)).mono ?_
    · obtain ⟨a', ha, hc⟩ := hX.at.map i (by omega)
      injection ha with ha
      subst ha
      rw [hc]
      simp [encB, List.getD_eq_getElem?_getD, List.getElem?_eq_getElem (show i < bs.length by omega)]
    · rintro e w' ⟨v, rfl, ho, _, hb⟩
      refine ⟨v, rfl, ?_, hb⟩
      rw [List.map_map] at ho
      exact ho
/-- A slice of bytes in memory of the call's own (or of no byte). -/
def Fresh (B : Nat) (w : World) (v : Value) (bs : List UInt8) : Prop :=
  Bs w v bs ∧ (bs ≠ [] → ∃ g c, v = .slice (some ⟨g, 0, none⟩) bs.length c ∧ B ≤ g ∧ ∀ j, j < bs.length → w.frozen? ⟨g, j, none⟩ = false)
theorem Fresh.below {B : Nat} {w w1 : World} {v : Value} {bs : List UInt8} (h : Fresh B w v bs) (hb : Below w.heap.size w w1) : Fresh B w1 v bs := by
  refine ⟨h.1.below hb, fun hne => ?_⟩
  obtain ⟨g, c, hv, hg, hf⟩ := h.2 hne
  refine ⟨g, c, hv, hg, fun j hj => ?_⟩
  subst hv
  obtain ⟨a, ha, hc⟩ := h.1.at.map j hj
  injection ha with ha
  subst ha
  have hlt := World.block_lt_of_cell? w _ hc
  rw [show (⟨g, 0, none⟩ : Addr).add j = ⟨g, j, none⟩ from by unfold Addr.add; split <;> simp_all] at hlt
  rw [hb.frozen hlt]
  exact hf j hj
theorem Fresh.own {B : Nat} {w : World} {v : Value} {n : Nat} {e : TypeId} {bs : List UInt8} (h : w.ownsRow B e 1 v n (bs.map encB)) : Fresh B w v bs := by
  obtain ⟨hn, hb⟩ := own_bs h
  subst hn
  refine ⟨hb, fun hne => ?_⟩
  obtain ⟨g, c, rfl, _, hg, _, _⟩ := own_pos h (List.length_pos_iff.2 hne)
  refine ⟨g, c, rfl, hg, fun j hj => (own_cell h j (encB bs[j]) (by rw [List.getElem?_map, List.getElem?_eq_getElem hj]; rfl)).2⟩
theorem fresh_of {B : Nat} {w : World} {v : Value} {l : List UInt8} (h : Lib.FreshBytes B w v l) : Fresh B w v l := by
  obtain ⟨g, cap, zs, rfl, hg, hlc, hcm, hz, hr, hb, hc, hf⟩ := h
  refine ⟨⟨_, cap, rfl, hlc, by simp only [maxLen] at hcm; omega, ?_⟩, fun _ => ⟨g, cap, rfl, hg, fun j hj => hf j (by omega)⟩⟩
  intro j u hu
  refine ⟨_, rfl, ?_⟩
  have hj : j < l.length := by
    rcases Nat.lt_or_ge j l.length with h | h
    · exact h
    · rw [List.getElem?_eq_none (by simpa using h)] at hu; cases hu
  rw [show (⟨g, 0, none⟩ : Addr).add j = ⟨g, j, none⟩ from by unfold Addr.add; split <;> simp_all, hc j (by omega)]
  rw [List.getElem?_map, List.getElem?_eq_getElem hj] at hu
  simp only [Option.map_some, Option.some.injEq] at hu
  rw [← hu]
  unfold encB
  have hjz : j < zs.length := by omega
  have e1 : l[j] = UInt8.ofNat (zs[j]).toNat := by
    have e2 : l[j]? = some (UInt8.ofNat (zs[j]).toNat) := by
      rw [← hb]
      simp [Lib.bytesOf, hj, List.getElem?_eq_getElem hjz]
    rw [List.getElem?_eq_getElem hj] at e2
    injection e2
  have hr' := hr zs[j] (List.getElem_mem _)
  rw [e1, UInt8.toNat_ofNat']
  simp [List.getD_eq_getElem?_getD, List.getElem?_eq_getElem hjz]
  omega
theorem join_flat (ls : List (List UInt8)) : Lib.join ls [] = ls.flatten := by
  cases ls with
  | nil => rfl
  | cons x r => rw [Lib.join_cons]; simp [Lib.joinTail]
theorem holds_of {w : World} {v : Value} {l : List UInt8} (h : Bs w v l) : Lib.HoldsBytes w v l := by
  obtain ⟨A, c, rfl, h1, h2, h3⟩ := h
  refine ⟨A, c, rfl, fun hA => ?_, fun a ha i x hx => ?_⟩
  · by_cases hl : l = []
    · exact hl
    · obtain ⟨a, ha⟩ := h3.length_pos (by simpa using hl)
      rw [hA] at ha; cases ha
  · obtain ⟨a', ha', hc⟩ := h3 i (encB x) (by rw [List.getElem?_map, hx]; rfl)
    rw [ha] at ha'
    injection ha' with ha'
    rw [ha']; exact hc
/-- bytes.Join without a separator: the parts, one behind the other. -/
theorem bjoin_any (A : Option Addr) (n c : Nat) (xss : List (List UInt8)) (w : World) (hX : Bss w (.slice A n c) xss) (hn47 : n ≤ 140737488355328) (hlen : Lib.lens xss ≤ 140737488355328) :
    Calls Try.prog 42 #[.slice A n c, .slice none 0 0] w fun e w' => ∃ v, e = .returned v ∧ Fresh w.heap.size w' v xss.flatten ∧ Below w.heap.size w w' := by
  have hX0 := hX
  obtain ⟨A', c', vs, he, h1, h2, h3, h4, h5⟩ := hX
  injection he with e1 e2 e3
  subst e1 e2 e3
  match xss, h1, h2, h3, h5, hlen, hX0 with
  | [], _, _, _, _, _, _ =>
    refine (Try.bytes_Join_none _ _ _ w).mono ?_
    rintro e w' ⟨rfl, rfl⟩
    exact ⟨_, rfl, ⟨Bs.new rfl rfl rfl (by decide), fun h => absurd rfl h⟩, (Below.refl _ _).alloc (Nat.le_refl _) _⟩
  | [l], _, _, h3, h5, hlen, hX0 =>
    obtain ⟨a, v, rfl, hc, hv⟩ := hX0.get 0 (by simp)
    obtain ⟨A1, c1, rfl, k1, k2, k3⟩ := hv
    have hsp : a = ⟨a.block, a.off, none⟩ := by
      rcases a with ⟨b, o, _ | s⟩
      · rfl
      · simp [World.cell?, Addr.add] at hc; split at hc <;> cases hc
    rw [hsp] at hc ⊢
    simp only [List.getElem_cons_zero] at hc k1 k2 k3
    have hc0 : w.cell? ⟨a.block, a.off, none⟩ = some (.slice A1 l.length c1) := hc
    by_cases hl : l = []
    · subst hl
      refine (Try.bytes_Join_one_empty _ _ _ A1 c1 _ w hc0).mono ?_
      rintro e w' ⟨rfl, rfl⟩
      exact ⟨_, rfl, ⟨⟨none, 0, rfl, by simp, by simp, At.nil _ _⟩, fun h => absurd rfl h⟩, Below.refl _ _⟩
    · obtain ⟨a1, rfl⟩ := k3.length_pos (by simpa using hl)
      refine (Try.bytes_Join_one _ _ _ a1 c1 l _ w hc0 (fun i x hx => ?_) (List.length_pos_iff.2 hl) (by simpa [Lib.lens] using hlen)).mono ?_
      · obtain ⟨a', ha', hc'⟩ := k3 i (encB x) (by rw [List.getElem?_map, hx]; rfl)
        injection ha' with ha'
        subst ha'
        exact hc'
      · rintro e w' ⟨v, rfl, hf, hb⟩
        exact ⟨v, rfl, by simpa using fresh_of hf, hb⟩
  | l1 :: l2 :: ls, h1, h2, h3, h5, hlen, hX0 =>
    obtain ⟨a, v, rfl, hc, hv⟩ := hX0.get 0 (by simp)
    have hsp : a = ⟨a.block, a.off, none⟩ := by
      rcases a with ⟨b, o, _ | s⟩
      · rfl
      · simp [World.cell?, Addr.add] at hc; split at hc <;> cases hc
    rw [hsp] at h4 ⊢
    refine (Try.bytes_Join_many _ _ _ c vs (l1 :: l2 :: ls) (.slice none 0 0) [] w rfl (by simp) ⟨h3, fun i v hv => ?_, fun i v l hv hl => ?_⟩ h1 ⟨none, 0, rfl, fun _ => rfl, fun a ha => by cases ha⟩ hn47 (by simpa using hlen)).mono ?_
    · obtain ⟨a', ha', hc'⟩ := h4 i v hv
      injection ha' with ha'
      subst ha'
      exact hc'
    · have hi := (List.getElem?_eq_some_iff.1 hv)
      have hi2 := (List.getElem?_eq_some_iff.1 hl)
      obtain ⟨hi, rfl⟩ := hi
      obtain ⟨hi2, rfl⟩ := hi2
      exact holds_of (h5 i hi2 hi)
    · rintro e w' ⟨v, rfl, hf, hb⟩
      exact ⟨v, rfl, by rw [join_flat] at hf; exact fresh_of hf, hb⟩
theorem pjoin_any (A : Option Addr) (n c : Nat) (xss : List (List UInt8)) (w : World) (hX : Bss w (.slice A n c) xss) (hn47 : n ≤ 140737488355328) (hlen : Lib.lens xss ≤ 140737488355328) :
    Calls Try.prog 25 #[.slice A n c] w fun e w' => ∃ v, e = .returned v ∧ Fresh w.heap.size w' v xss.flatten ∧ Below w.heap.size w w' := by
  have HC := Lib.hid (bjoin_any A n c xss w hX hn47 hlen)
  clear hX hlen hn47
  go_enter Try.func25, Try.ntmps25
  go_wp2_with (go_at_call 42; refine HC.out.mono ?_; rintro e w1 ⟨v, rfl, hf, hb⟩)
  go_ret
  exact ⟨_, rfl, hf, hb⟩
end Go.Proofs.YteghldapcfkekaaK
