import Derived.Test.YtljdfhckllncoaaKFrmZ
import Derived.Test.YtljdfhckllncoaaKFrmG
namespace Go.Proofs.YtljdfhckllncoaaK
open Go.RowKit
set_option linter.unusedSimpArgs false
set_option linter.unusedVariables false
/-! FrameWrites. -/
theorem info_bytes9 : (Try.prog.info? 22).map (fun i => (i.zero, i.size, i.bytes)) = some (some (.slice none 0 0), 1, 24) := by kernel_rfl
theorem own_other {w : World} {b b' : Nat} {e e' : TypeId} {s s' n n' : Nat} {v v' : Value} {xs xs' : List Value} (h : w.ownsRow b e s v n xs) (h' : w.ownsRow b' e' s' v' n' xs') (hne : e ≠ e') : v.ownBlock = none ∨ v.ownBlock ≠ v'.ownBlock := by
  rcases h.2 with ⟨rfl, _⟩ | ⟨g, cap, cur, rfl, _, hg, _⟩
  · exact .inl rfl
  · rcases h'.2 with ⟨rfl, _⟩ | ⟨g', cap', cur', rfl, _, hg', _⟩
    · exact .inr (by simp [Value.ownBlock])
    · refine .inr fun e1 => ?_
      simp only [Value.ownBlock, Option.some.injEq] at e1
      subst e1
      rw [hg] at hg'
      injection hg' with hg'
      injection hg' with _ h2 _
      exact hne h2
theorem bs_form {w : World} {v : Value} {bs : List UInt8} (h : Bs w v bs) : ∃ A n c, v = .slice A n c ∧ n = bs.length := by
  obtain ⟨A, c, rfl, _⟩ := h
  exact ⟨A, _, c, rfl, rfl⟩
/-- Rows of bytes of the call's own, one for each value, none of them the row of u. -/
def RowsB (w : World) (B : Nat) (u : Value) (vs : List Value) (xss : List (List UInt8)) : Prop :=
  vs.length = xss.length ∧ ∀ j (hj : j < xss.length) (hv : j < vs.length), w.ownsRow B 5 1 vs[j] xss[j].length (xss[j].map encB) ∧ (vs[j].ownBlock = none ∨ vs[j].ownBlock ≠ u.ownBlock)
theorem RowsB.snoc {w : World} {B : Nat} {u : Value} {vs : List Value} {xss : List (List UInt8)} (h : RowsB w B u vs xss) {v : Value} {bs : List UInt8} (hv : w.ownsRow B 5 1 v bs.length (bs.map encB)) (hn : v.ownBlock = none ∨ v.ownBlock ≠ u.ownBlock) : RowsB w B u (vs ++ [v]) (xss ++ [bs]) := by
  refine ⟨by simp [h.1], fun j hj hv' => ?_⟩
  by_cases hjl : j < xss.length
  · have h1 : (vs ++ [v])[j] = vs[j]'(by rw [h.1]; exact hjl) := List.getElem_append_left (by rw [h.1]; exact hjl)
    have h2 : (xss ++ [bs])[j] = xss[j] := List.getElem_append_left hjl
    simp only [h1, h2]
    exact h.2 j hjl _
  · have hje : j = xss.length := by simp at hj; omega
    subst hje
    have h1 : (vs ++ [v])[xss.length]'hv' = v := by
      rw [List.getElem_append_right (by rw [h.1]; exact Nat.le_refl _)]
      simp [h.1]
    have h2 : (xss ++ [bs])[xss.length]'hj = bs := by
      rw [List.getElem_append_right (Nat.le_refl _)]
      simp
    simp only [h1, h2]
    exact ⟨hv, hn⟩
theorem RowsB.below {w w1 : World} {B : Nat} {u : Value} {vs : List Value} {xss : List (List UInt8)} (h : RowsB w B u vs xss) (hb : Below w.heap.size w w1) : RowsB w1 B u vs xss :=
  ⟨h.1, fun j hj hv => ⟨own_below (h.2 j hj hv).1 hb, (h.2 j hj hv).2⟩⟩
theorem RowsB.grown {w w1 : World} {B B' : Nat} {u : Value} {vs : List Value} {xss : List (List UInt8)} (h : RowsB w B u vs xss) {e : TypeId} {n : Nat} {v : Value} {ys : List Value} (ho : w.ownsRow B' e 1 v n ys) (he : 5 ≠ e) (hg : w.grownBy w1 v.ownBlock) : RowsB w1 B u vs xss :=
  ⟨h.1, fun j hj hv => ⟨(h.2 j hj hv).1.kept hg (own_other (h.2 j hj hv).1 ho he), (h.2 j hj hv).2⟩⟩
theorem RowsB.all {w w1 : World} {B : Nat} {u u1 : Value} {vs : List Value} {xss : List (List UInt8)} (h : RowsB w B u vs xss) (hg : w.grownBy w1 u.ownBlock) (ha : u1.ownBlock = u.ownBlock ∨ u1.ownBlock = some w.heap.size) : RowsB w1 B u1 vs xss :=
  ⟨h.1, fun j hj hv => ⟨(h.2 j hj hv).1.kept hg (h.2 j hj hv).2, by
    have h1 := (h.2 j hj hv).1
    rcases (h.2 j hj hv).2 with h2 | h2
    · exact .inl h2
    · rcases ha with ha | ha
      · rw [ha]; exact .inr h2
      · refine .inr (fun e => ?_)
        rw [ha] at e
        have := (h1.lt _ e).2
        omega⟩⟩
theorem RowsB.bss {w : World} {B : Nat} {u : Value} {A : Option Addr} {n c : Nat} {vs : List Value} {xss : List (List UInt8)} (h : RowsB w B u vs xss) {e : TypeId} (ho : w.ownsRow B e 1 (.slice A n c) n vs) : Bss w (.slice A n c) xss := by
  have hl := ho.1
  rw [h.1] at hl
  simp at hl
  subst hl
  obtain ⟨A', c', he, h1, h2⟩ := own_form ho
  injection he with e1 e2 e3
  subst e1 e3
  exact ⟨A, c, vs, rfl, h1, h2, h.1, own_at ho, fun j hj hv => (own_bs (h.2 j hj hv).1).2⟩
theorem new_aside {w : World} {B n : Nat} {e : TypeId} {u v : Value} {xs : List Value} (h : w.ownsRow B e 1 u n xs) (k : Nat) (hv : v.ownBlock = some k) (hk : w.heap.size ≤ k) : v.ownBlock = none ∨ v.ownBlock ≠ u.ownBlock :=
  .inr (fun e => by
    rw [hv] at e
    have := (h.lt _ e.symm).2
    omega)
theorem below_made {wr w2 : World} {o : Obj} {n c : Nat} (hg : (wr.alloc o).grownBy w2 (Value.slice (some ⟨wr.heap.size, 0, none⟩) n c).ownBlock) : Below wr.heap.size wr w2 :=
  ((Below.refl _ wr).alloc (Nat.le_refl _) o).grown hg (by simp) (fun k hk => by simp [Value.ownBlock] at hk; omega)
theorem flat_le (xss : List (List UInt8)) (M : Nat) : ∀ k, k ≤ xss.length → (∀ j (hj : j < xss.length), j < k → xss[j].length ≤ M) → (xss.take k).flatten.length ≤ M * k := by
  intro k
  induction k with
  | zero => intro _ _; simp
  | succ k ih =>
    intro hk h
    have h1 := ih (by omega) (fun j hj hjk => h j hj (by omega))
    have h2 := h k (by omega) (by omega)
    rw [List.take_succ_eq_append_getElem (by omega), List.flatten_append, List.length_append, Nat.mul_succ, show ([xss[k]] : List (List UInt8)).flatten = xss[k] from by simp]
    omega
set_option maxRecDepth 100000 in
set_option maxHeartbeats 8000000 in
theorem writes_walk (k : UInt8) (A : Option Addr) (n c : Nat) (xss : List (List UInt8)) (w : World) (hX : Bss w (.slice A n c) xss) :
    Calls Try.prog 4 #[.int .u8 (k.toNat : Int), .slice A n c] w fun e w' => e = .returned (.bool true) ∧ Below w.heap.size w w' := by
  have HN := Lib.hid hX.len
  obtain ⟨K, hK⟩ : ∃ K, K = (k.toNat : Int) := ⟨_, rfl⟩
  rw [← hK]
  have HK := Lib.hid hK
  clear hK
  by_cases h50 : 20 < n
  · clear hX
    go_enter Try.func4, Try.ntmps4
    go_wp2_with (go_at_call 13; refine (frame_speaks _).mono ?_; rintro e w' ⟨rfl, hb⟩)
    go_ret
    exact ⟨rfl, ‹_›⟩
  have HF : ∀ W A2 n2 c2 xs (h : Bss W (.slice A2 n2 c2) xs) (hn : n2 ≤ 1000000) (hl : Lib.lens xs ≤ 100000000), Calls Try.prog 14 #[.int .u8 K, .slice A2 n2 c2] W fun e w' => e = .returned (.tuple #[.agg ((fwR k xs.flatten).1.map encB).toArray, .int .i64 ((fwR k xs.flatten).2 : Int)]) ∧ Below W.heap.size W w' := fun W A2 n2 c2 xs h hn hl => by
    rw [HK.out]; exact fw_any k A2 n2 c2 xs W h hn hl
  have HG : ∀ W A2 n2 c2 b (h : Bs W (.slice A2 n2 c2) b), Calls Try.prog 15 #[.int .u8 K, .slice A2 n2 c2] W fun e w' => e = .returned (.tuple #[.agg ((fwR k b).1.map encB).toArray, .int .i64 ((fwR k b).2 : Int)]) ∧ Below W.heap.size W w' := fun W A2 n2 c2 b h => by
    rw [HK.out]; exact rw_any k A2 n2 c2 b W h
  replace HF := Lib.hid HF
  replace HG := Lib.hid HG
  go_enter Try.func4, Try.ntmps4
  go_wp2_with (go_at_call 13; refine (frame_speaks _).mono ?_; rintro e w' ⟨rfl, hb⟩)
  go_loopw [5, 6, 27] (fun v u i wr => ∃ (j : Nat) (A3 : Option Addr) (c3 : Nat) (vs : List Value) (A4 : Option Addr) (m c4 : Nat), j ≤ n ∧ i = .int .i64 (j : Int) ∧ v = .slice A3 j c3 ∧ u = .slice A4 m c4 ∧ wr.ownsRow w.heap.size 22 1 (.slice A3 j c3) j vs ∧ wr.ownsRow w.heap.size 5 1 (.slice A4 m c4) m ((xss.take j).flatten.map encB) ∧ RowsB wr w.heap.size (.slice A4 m c4) vs (xss.take j) ∧ (∀ q (hq : q < xss.length), q < j → xss[q].length ≤ 300) ∧ Below w.heap.size w wr) (fun _ _ i _ => n - (intOf i).toNat)
  case atStart => exact ⟨0, _, _, [], _, _, _, Nat.zero_le _, rfl, rfl, rfl, (own_empty rfl hb.size).alloc _, own_empty (by simp) (by have := hb.size; simp; omega), ⟨rfl, fun j hj => by simp at hj⟩, fun j hj h => by omega, (hb.alloc hb.size _).alloc (by have := hb.size; simp; omega) _⟩
  case round =>
    obtain ⟨j, A3, c3, vs, A4, m, c4, hj, rfl, rfl, rfl, hout, hall, hrows, hle, hbr⟩ := hrel
    have HLE := Lib.hid hle
    clear hle
    have hmf : m = (xss.take j).flatten.length := (own_bs hall).1
    have hfl := flat_le xss 300 j (by rw [← HN.out]; exact hj) HLE.out
    rw [← hmf] at hfl
    have HMF := Lib.hid hmf
    clear hmf
    by_cases hlt : j < n
    · have hkx : j < xss.length := by rw [← HN.out]; exact hlt
      obtain ⟨a, v, rfl, hcw, hel⟩ := hX.get j hkx
      obtain ⟨bs, hbx⟩ : ∃ bs, bs = xss[j] := ⟨_, rfl⟩
      rw [← hbx] at hel
      obtain ⟨A1, c1, rfl, h1, h2, h3⟩ := hel
      have hel : Bs w (.slice A1 bs.length c1) bs := ⟨A1, c1, rfl, h1, h2, h3⟩
      have hc := cell_later hbr hcw
      have HB := Lib.hid hbx
      clear hbx h3 hcw
      by_cases h6 : 300 < bs.length
      · clear hout hrows hall
        go_wp2
        go_ret
        exact ⟨rfl, hbr⟩
      have hat0 := own_empty (w := wr) (b := wr.heap.size) (base := w.heap.size) (e := 5) (size := 1) rfl hbr.size
      have hb1 := hbr.alloc hbr.size (.cells #[] 5)
      have hA1 := (hel.below hb1).at
      have HBL := Lib.hid hel.cells
      have tok : True := trivial
      have tok2 : True := trivial
      go_wp2_with (first | (at_builtin; have _t := tok; refine wp_append w.heap.size rfl _ _ 22 5 (.int .u8 0) 1 1 rfl Try.underlying22 info_u8 rfl (by decide) (by decide) (.slice (some ⟨wr.heap.size, 0, none⟩) 0 0) 0 [] A1 bs.length c1 (bs.map encB) rfl rfl hat0 hA1 HBL.out (encB_all bs) hb1.size (by omega) ?_; intro v1 w2 ho1 hg1 ha1; have hbw2 := below_made hg1; rw [Nat.zero_add, List.nil_append] at ho1; have hne := (show v1.ownBlock = none ∨ v1.ownBlock ≠ (Value.slice A4 m c4).ownBlock by rcases ha1 with h | h; exact new_aside hall _ h (Nat.le_refl _); exact new_aside hall _ h (by simp)); have hrows2 := (hrows.below hbw2).snoc ho1 hne; obtain ⟨A5, c5, rfl, _, _⟩ := own_form ho1; have hout2 := (own_below hout hbw2).alloc (.cells #[.slice A5 bs.length c5] 22); have hall2 := (own_below hall hbw2).alloc (.cells #[.slice A5 bs.length c5] 22); have hat2 := At.new w2 #[.slice A5 bs.length c5] 22 (0, 0); have hb3 := (hbr.trans (hbw2.mono hbr.size)); have hb4 := hb3.alloc hb3.size (.cells #[.slice A5 bs.length c5] 22); clear tok _t hout hrows hall hg1 ha1 hat0 hA1 ho1 hne) | (at_builtin; have _t := tok2; refine wp_append w.heap.size rfl _ _ 31 22 (.slice none 0 0) 1 24 rfl Try.underlying31 info_bytes9 rfl (by decide) (by decide) (.slice A3 j c3) j vs (some ⟨w2.heap.size, 0, none⟩) 1 1 [.slice A5 bs.length c5] rfl rfl hout2 hat2 rfl (by simp [Value.oneCell']) hb4.size (by omega) ?_; intro v3 w3 ho3 hg3 ha3; have hrows3 := (hrows2.below ((Below.refl _ w2).alloc (Nat.le_refl _) _)).grown hout2 (by decide) hg3; have hall3 := hall2.kept hg3 (own_other hall2 hout2 (by decide)); have hb5 := below_grown hb4 hout2 hg3 hb4.size; obtain ⟨A6, c6, rfl, _, _⟩ := own_form ho3; have hA3 := (hel.below hb5).at; clear tok2 _t hout2 hrows2 hall2 hg3 ha3 hat2) | (at_builtin; refine wp_append w.heap.size rfl _ _ 22 5 (.int .u8 0) 1 1 rfl Try.underlying22 info_u8 rfl (by decide) (by decide) (.slice A4 m c4) m ((xss.take j).flatten.map encB) A1 bs.length c1 (bs.map encB) rfl rfl hall3 hA3 HBL.out (encB_all bs) hb5.size (by omega) ?_; intro v5 w5 ho5 hg5 ha5; have hrows5 := hrows3.all hg5 ha5; have hout5 := ho3.kept hg5 (own_other ho3 hall3 (by decide)); have hb6 := below_grown hb5 hall3 hg5 hb5.size; obtain ⟨A7, c7, rfl, _, _⟩ := own_form ho5; clear hrows3 hall3 hg5 ha5 hA3))
      go_roundw
      case rel =>
        refine ⟨j + 1, A6, c6, vs ++ [.slice A5 bs.length c5], A7, m + bs.length, c7, by omega, by go_num, rfl, rfl, hout5, ?_, ?_, ?_, hb6⟩
        · rw [List.take_succ_eq_append_getElem hkx, List.flatten_append, List.map_append, ← HB.out, show ([bs] : List (List UInt8)).flatten = bs from by simp]
          exact ho5
        · rw [List.take_succ_eq_append_getElem hkx, ← HB.out]
          exact hrows5
        · intro q hq hqk
          by_cases e : q = j
          · subst e; rw [← HB.out]; omega
          · exact HLE.out q hq (by omega)
      case measure => simp [intOf]; omega
    · have hjn : j = n := by omega
      subst hjn
      have htk : xss.take j = xss := List.take_of_length_le (by rw [← HN.out]; exact Nat.le_refl _)
      rw [htk] at hrows hall HMF
      have hin := hrows.bss hout
      have hal := (own_bs hall).2
      have hln : Lib.lens xss = xss.flatten.length := by simp [Lib.lens, List.length_flatten]
      rw [← HMF.out] at hln
      have HLN := Lib.hid hln
      obtain ⟨fl, hflx⟩ : ∃ f, f = xss.flatten := ⟨_, rfl⟩
      rw [← hflx] at hal
      have HFL := Lib.hid hflx
      clear htk hln hflx hrows hout hall HLE
      obtain ⟨wo, hwo⟩ : ∃ wo : World, wo = wr := ⟨_, rfl⟩
      rw [← hwo] at hin hal hbr ⊢
      clear hwo
      have hHF := fun W A2 n2 c2 h hn hl => HF.out W A2 n2 c2 xss h hn hl
      rw [← HFL.out] at hHF
      have hHG := fun W A2 n2 c2 h => HG.out W A2 n2 c2 fl h
      have hl1 := fwR_len k fl
      have he1 := fwR_01 k fl
      have hf0 := fwR_0 k fl
      have hf2 := fwR_ok k fl
      obtain ⟨E1, hE1⟩ : ∃ E, E = (fwR k fl).2 := ⟨_, rfl⟩
      obtain ⟨pl, hpl⟩ : ∃ E, E = (fwR k fl).1 := ⟨_, rfl⟩
      rw [← hE1, ← hpl] at hHF hHG
      rw [← hE1] at hf0
      rw [← hE1, ← hpl] at hf2
      rw [← hpl] at hl1
      rw [← hE1] at he1
      obtain ⟨P1, hP1⟩ : ∃ E, E = pl.map encB := ⟨_, rfl⟩
      rw [← hP1] at hHF hHG
      have hP1l : P1.length = 258 := by rw [hP1, List.length_map]; exact hl1
      have HIA1 := Lib.hid (show (Try.prog.info? 26).map (·.size) = some P1.toArray.size by rw [List.size_toArray, hP1l]; exact page_info)
      have HI1 := Lib.hid (show (Try.prog.info? 26).map (·.size) = some P1.length by rw [hP1l]; exact page_info)
      have H11 : Hid (P1.toArray.all (·.oneCell') = true) := Lib.hid (all_oneCell_toArray (by rw [hP1]; exact encB_all _))
      have hz := page_zero
      obtain ⟨Z, hZ⟩ : ∃ Z, Z = z258.map encB := ⟨_, rfl⟩
      have hZl : Z.length = 258 := by rw [hZ, List.length_map, z258_len]
      rw [← hZ] at hz
      have HZ1 : Hid (P1.toArray.size = Z.toArray.toList.length) := Lib.hid (by simp [hP1l, hZl])
      have hEq : ∀ w, (Op.equalIn 10000 26 (.agg P1.toArray) (.agg P1.toArray)).run Try.prog w = .ok true w := fun w => by
        rw [hP1, arr_eql Try.underlying26 Try.underlying5 (by kernel_rfl) (by kernel_rfl) (by kernel_rfl) pl pl hl1 hl1 w, decide_eq_true rfl]
      have HHF := Lib.hid hHF
      have HHG := Lib.hid hHG
      have HP1 := Lib.hid hP1
      have HPL := Lib.hid hl1
      have HF0 := Lib.hid hf0
      have HF2 := Lib.hid hf2
      have HIN := Lib.hid hin
      have HAL := Lib.hid hal
      clear hl1 hE1 hpl hP1 hP1l hZ hZl hf0 hf2 hHF hHG hin hal
      have hR0 : Rows wo [] wo := Rows.nil wo
      go_upto_region 14 with (first
        | (go_at_call 14; refine (HHF.out _ _ _ _ HIN.out (by omega) (by rw [HLN.out]; omega)).mono ?_; rintro e w4 ⟨rfl, hb4⟩; have hR4 := hR0.go hb4; have hR5 := hR4.new Z.toArray 26)
        | (refine wpList_store_mid rfl 26 _ _ rfl w4.heap.size 0 P1.toArray rfl rfl ((hR5.get (b := w4.heap.size) (L := Z.toArray.toList) (by simp)).thereA HZ1.out) HIA1.out H11.out ?_))
      have hR6 := hR5.storeA HZ1.out
      rw [List.toList_toArray] at hR6
      obtain ⟨W6, hW6⟩ : ∃ W6, W6 = (w4.alloc (.cells Z.toArray 26)).setCells w4.heap.size 0 P1 := ⟨_, rfl⟩
      obtain ⟨pb, hpb9⟩ : ∃ db, db = w4.heap.size := ⟨_, rfl⟩
      rw [← hW6] at hR6 ⊢
      simp only [← hpb9] at hR6 ⊢
      clear hW6 hpb9 hR5 hR4 hR0 hb4
      have HAL6 := Lib.hid (HAL.out.below hR6.below)
      go_upto_region 15 with (first
        | (go_at_call 15; refine (HHG.out _ _ _ _ HAL6.out).mono ?_; rintro e w7 ⟨rfl, hb7⟩; have hR7 := hR6.go hb7; have hR8 := hR7.new Z.toArray 26)
        | (refine wpList_store_mid rfl 26 _ _ rfl w7.heap.size 0 P1.toArray rfl rfl ((hR8.get (b := w7.heap.size) (L := Z.toArray.toList) (by simp)).thereA HZ1.out) HIA1.out H11.out ?_))
      have hR9 := hR8.storeA HZ1.out
      rw [List.toList_toArray] at hR9
      obtain ⟨W9, hW9⟩ : ∃ W6, W6 = (w7.alloc (.cells Z.toArray 26)).setCells w7.heap.size 0 P1 := ⟨_, rfl⟩
      obtain ⟨qb, hqb9⟩ : ∃ db, db = w7.heap.size := ⟨_, rfl⟩
      rw [← hW9] at hR9 ⊢
      simp only [← hqb9] at hR9 ⊢
      clear hW9 hqb9 hR8 hR7 hR6 hb7
      have hA1 := hR9.get (b := pb) (L := P1) (by simp)
      have hA2 := hR9.get (b := qb) (L := P1) (by simp)
      have HBW := Lib.hid (hbr.trans (hR9.below.mono hbr.size))
      go_upto_region 17 with (first
        | (refine wpList_load_g (by rfl) 26 _ rfl pb 0 rfl P1 _ hA1.1 Try.underlying26 rfl HI1.out ?_)
        | (refine wpList_load_g (by rfl) 26 _ rfl qb 0 rfl P1 _ hA2.1 Try.underlying26 rfl HI1.out ?_))
      clear hEq hA1 hA2 hz
      go_wp2_with fail
      go_loopw [13, 66] (fun v i wr => ∃ q : Nat, q ≤ j ∧ i = .int .i64 (q : Int) ∧ Below W9.heap.size W9 wr) (fun _ i _ => j - (intOf i).toNat)
      case atStart => exact ⟨0, Nat.zero_le _, rfl, Below.refl _ _⟩
      case round =>
        obtain ⟨q, hq, rfl, hbz⟩ := hrel
        by_cases hlq : q < j
        · have hqx : q < xss.length := by rw [← HN.out]; exact hlq
          have hbw := HBW.out.trans (hbz.mono HBW.out.size)
          obtain ⟨a, v, rfl, hc, hv⟩ := (hX.below hbw).get q hqx
          obtain ⟨A8, n8, c8, rfl, hn8⟩ := bs_form hv
          obtain ⟨a2, v2, rfl, hc2, hv2⟩ := ((HIN.out.below hR9.below).below hbz).get q hqx
          obtain ⟨A9, n9, c9, rfl, hn9⟩ := bs_form hv2
          have hd1 := run_str (w := wr.drew) hv
          have hd2 := run_str (w := wr.drew) hv2
          have hqj : (q : Int) < (j : Int) := by omega
          clear hn8 hn9 hv hv2 hR9 hbr
          go_wp2_with fail
          go_region
          go_wp2_with fail
          go_roundw
          case rel => exact ⟨q + 1, by omega, by go_num, hbz.drew⟩
          case measure => simp [intOf]; omega
        · have hqj : q = j := by omega
          subst hqj
          have hRz := hR9.go hbz
          have hAz := hRz.get (b := pb) (L := P1) (by simp)
          clear hR9 hbz
          rcases he1 with rfl | rfl
          rotate_left
          · rw [show ((1 : Nat) : Int) = 1 from rfl]
            go_wp2_with fail
            go_ret
            exact ⟨rfl, hbr.trans (hRz.below.mono hbr.size)⟩
          obtain ⟨hk0, hk255⟩ := HF0.out rfl
          have hf9 := HF2.out rfl
          rw [show ((0 : Nat) : Int) = 0 from rfl]
          have hmn := mends_none k fl hk0 hk255 hf9.1
          rw [← hf9.2] at hmn
          have hbl0 : blankB pl = false := by rw [hf9.2]; exact not_blank_of _ 242 (by decide) (frP_zero k fl hf9.1 242 (by decide) (by decide))
          have HRD := Lib.hid (fun W => mends_call k fl pl HPL.out 0 0 0 0 rfl rfl K HK.out hmn W)
          have HBK := Lib.hid (fun W => blank_any pl HPL.out W)
          rw [hbl0, ← HP1.out] at HBK
          rw [← HP1.out] at HRD
          clear hmn hbl0 hf9 hk0 hk255
          go_upto_region 25 with fail
          refine wp_region_lit ?_
          refine wpList_load_mid rfl 26 _ rfl pb 0 rfl P1 _ hAz.1 Try.underlying26 rfl HI1.out ?_
          go_wp2_with (first
            | (go_at_call 16; refine (HRD.out _).mono ?_; rintro e wa ⟨AA, nA, cA, rfl, hBA, hbA⟩; have hRa := hRz.go hbA; have hv1 := run_str hBA; have hv2 := run_str (HAL.out.below hRa.below); have hAa := hRa.get (b := pb) (L := P1) (by simp))
            | (refine wpList_load_g (by rfl) 26 _ rfl pb 0 rfl P1 _ hAa.1 Try.underlying26 rfl HI1.out ?_)
            | (go_at_call 17; refine (HBK.out _).mono ?_; rintro e wb ⟨rfl, hbb⟩; have hRb := hRa.go hbb))
          go_ret
          exact ⟨rfl, hbr.trans (hRb.below.mono hbr.size)⟩
theorem writes_row (a0 : Int) (w0 : (Lit.int .u8 a0).wf = true) (A : Option Addr) (n c : Nat) (xss : List (List UInt8)) (w : World) (hX : Bss w (.slice A n c) xss) :
    Calls Try.prog 4 #[.int .u8 a0, .slice A n c] w fun e w' => e = .returned (.bool true) ∧ Below w.heap.size w w' := by
  rw [← toB_back w0]
  exact writes_walk (toB a0) A n c xss w hX
end Go.Proofs.YtljdfhckllncoaaK
