import Derived.Test.YtcknoadoeonbjaaKPackBk
namespace Go.Proofs.YtcknoadoeonbjaaK
open Go.RowKit
set_option linter.unusedSimpArgs false
set_option linter.unusedVariables false
theorem info_bytes : (Try.prog.info? 24).map (fun i => (i.zero, i.size, i.bytes)) = some (some (.slice none 0 0), 1, 24) := by kernel_rfl
theorem own_type_ne {w : World} {b b' : Nat} {e e' : TypeId} {s s' n n' : Nat} {v v' : Value} {xs xs' : List Value} (h : w.ownsRow b e s v n xs) (h' : w.ownsRow b' e' s' v' n' xs') (hne : e ≠ e') : v.ownBlock = none ∨ v.ownBlock ≠ v'.ownBlock := by
  rcases h.2 with ⟨rfl, _⟩ | ⟨g, cap, cur, rfl, _, hg, _⟩
  · exact .inl rfl
  · rcases h'.2 with ⟨rfl, _⟩ | ⟨g', cap', cur', rfl, _, hg', _⟩
    · exact .inr (by simp [Value.ownBlock])
    · refine .inr fun e1 => ?_
      simp only [Value.ownBlock, Option.some.injEq] at e1
      subst e1
      rw [hg] at hg'
      injection hg' with hg'
      injection hg' with _ h2 _
      exact hne h2
theorem str_append (a b : List UInt8) : str a ++ str b = str (a ++ b) := by
  unfold str
  apply WideShapes.bytes_inj
  simp
theorem bs_slice {w : World} {v : Value} {bs : List UInt8} (h : Bs w v bs) : ∃ A n c, v = .slice A n c ∧ n = bs.length := by
  obtain ⟨A, c, rfl, _⟩ := h
  exact ⟨A, _, c, rfl, rfl⟩
/-- Rows of bytes of the call's own, one for each value. -/
def Rows (w : World) (B : Nat) (vs : List Value) (xss : List (List UInt8)) : Prop :=
  vs.length = xss.length ∧ ∀ j (hj : j < xss.length) (hv : j < vs.length), w.ownsRow B 5 1 vs[j] xss[j].length (xss[j].map encB)
theorem Rows.snoc {w : World} {B : Nat} {vs : List Value} {xss : List (List UInt8)} (h : Rows w B vs xss) {v : Value} {bs : List UInt8} (hv : w.ownsRow B 5 1 v bs.length (bs.map encB)) : Rows w B (vs ++ [v]) (xss ++ [bs]) := by
  refine ⟨by simp [h.1], fun j hj hv' => ?_⟩
  by_cases hjl : j < xss.length
  · have h1 : (vs ++ [v])[j] = vs[j]'(by rw [h.1]; exact hjl) := List.getElem_append_left (by rw [h.1]; exact hjl)
    have h2 : (xss ++ [bs])[j] = xss[j] := List.getElem_append_left hjl
    simp only [h1, h2]
    exact h.2 j hjl _
  · have hje : j = xss.length := by simp at hj; omega
    subst hje
    have h1 : (vs ++ [v])[xss.length]'hv' = v := by
      rw [List.getElem_append_right (by rw [h.1]; exact Nat.le_refl _)]
      simp [h.1]
    have h2 : (xss ++ [bs])[xss.length]'hj = bs := by
      rw [List.getElem_append_right (Nat.le_refl _)]
      simp
    simp only [h1, h2]
    exact hv
theorem Rows.below {w w1 : World} {B : Nat} {vs : List Value} {xss : List (List UInt8)} (h : Rows w B vs xss) (hb : Below w.heap.size w w1) : Rows w1 B vs xss :=
  ⟨h.1, fun j hj hv => own_below (h.2 j hj hv) hb⟩
theorem Rows.grown {w w1 : World} {B B' : Nat} {vs : List Value} {xss : List (List UInt8)} (h : Rows w B vs xss) {e : TypeId} {n : Nat} {v : Value} {ys : List Value} (ho : w.ownsRow B' e 1 v n ys) (he : 5 ≠ e) (hg : w.grownBy w1 v.ownBlock) : Rows w1 B vs xss :=
  ⟨h.1, fun j hj hv => (h.2 j hj hv).kept hg (own_type_ne (h.2 j hj hv) ho he)⟩
theorem Rows.bss {w : World} {B : Nat} {A : Option Addr} {n c : Nat} {vs : List Value} {xss : List (List UInt8)} (h : Rows w B vs xss) {e : TypeId} (ho : w.ownsRow B e 1 (.slice A n c) n vs) : Bss w (.slice A n c) xss := by
  have hl := ho.1
  rw [h.1] at hl
  simp at hl
  subst hl
  obtain ⟨A', c', he, h1, h2⟩ := own_form ho
  injection he with e1 e2 e3
  subst e1 e3
  exact ⟨A, c, vs, rfl, h1, h2, h.1, own_at ho, fun j hj hv => (own_bs (h.2 j hj hv)).2⟩
theorem slices_one {w : World} {B : Nat} {vs : List Value} {xss : List (List UInt8)} (h : Rows w B vs xss) : ∀ u ∈ vs, u.oneCell' = true := by
  intro u hu
  obtain ⟨j, hj, rfl⟩ := List.getElem_of_mem hu
  obtain ⟨A, c, he, _⟩ := own_form (h.2 j (by rw [← h.1]; exact hj) hj)
  rw [he]; rfl
theorem below_new {wr w2 : World} {o : Obj} {n c : Nat} (hg : (wr.alloc o).grownBy w2 (Value.slice (some ⟨wr.heap.size, 0, none⟩) n c).ownBlock) : Below wr.heap.size wr w2 :=
  ((Below.refl _ wr).alloc (Nat.le_refl _) o).grown hg (by simp) (fun k hk => by simp [Value.ownBlock] at hk; omega)
theorem take_flat_le (xss : List (List UInt8)) (M : Nat) : ∀ k, k ≤ xss.length → (∀ j (hj : j < xss.length), j < k → xss[j].length ≤ M) → (xss.take k).flatten.length ≤ M * k := by
  intro k
  induction k with
  | zero => intro _ _; simp
  | succ k ih =>
    intro hk h
    have h1 := ih (by omega) (fun j hj hjk => h j hj (by omega))
    have h2 := h k (by omega) (by omega)
    rw [List.take_succ_eq_append_getElem (by omega), List.flatten_append, List.length_append, Nat.mul_succ, show ([xss[k]] : List (List UInt8)).flatten = xss[k] from by simp]
    omega
theorem cells_set {w : World} {g m : Nat} (h : ∀ j, j < m → ∃ u, w.cell? ⟨g, j, none⟩ = some u ∧ w.frozen? ⟨g, j, none⟩ = false) (p : Addr) (x : Value) : ∀ j, j < m → ∃ u, (w.setCell p x).cell? ⟨g, j, none⟩ = some u ∧ (w.setCell p x).frozen? ⟨g, j, none⟩ = false := by
  intro j hj
  obtain ⟨u, hu, hf⟩ := h j hj
  obtain ⟨u', hu'⟩ := cell?_setCell_some (p := p) (x := x) hu
  exact ⟨u', hu', by rw [World.frozen?_setCell]; exact hf⟩
set_option maxHeartbeats 1000000 in
theorem packJoins_walk (A : Option Addr) (n c : Nat) (xss : List (List UInt8)) (w : World) (hX : Bss w (.slice A n c) xss) :
    Calls Try.prog 6 #[.slice A n c] w fun e w' => e = .returned (.bool true) ∧ Below w.heap.size w w' := by
  have HN := Lib.hid hX.len
  by_cases h50 : 100 < n
  · clear hX
    go_enter Try.func6, Try.ntmps6
    go_wp2_with (go_at_call 15; refine (pack_speaks _).mono ?_; rintro e w' ⟨rfl, hb⟩)
    go_ret
    exact ⟨rfl, ‹_›⟩
  go_enter Try.func6, Try.ntmps6
  go_wp2_with (go_at_call 15; refine (pack_speaks _).mono ?_; rintro e w' ⟨rfl, hb⟩)
  go_loopw [3, 4, 18] (fun v t i wr => ∃ (k : Nat) (A3 : Option Addr) (c3 : Nat) (vs : List Value), k ≤ n ∧ i = .int .i64 k ∧ v = .slice A3 k c3 ∧ t = .string (str (xss.take k).flatten) ∧ wr.ownsRow w.heap.size 24 1 (.slice A3 k c3) k vs ∧ Rows wr w.heap.size vs (xss.take k) ∧ (∀ j (hj : j < xss.length), j < k → xss[j].length ≤ 1000) ∧ Below w.heap.size w wr) (fun _ _ i _ => n - (intOf i).toNat)
  case atStart => exact ⟨0, _, _, [], Nat.zero_le _, rfl, rfl, rfl, own_empty rfl hb.size, ⟨rfl, fun j hj => by simp at hj⟩, fun j hj h => by omega, hb.alloc hb.size _⟩
  case round =>
    obtain ⟨k, A3, c3, vs, hk, rfl, rfl, rfl, hout, hrows, hle, hbr⟩ := hrel
    have HLE := Lib.hid hle
    clear hle
    by_cases hlt : k < n
    · have hkx : k < xss.length := by rw [← HN.out]; exact hlt
      obtain ⟨a, v, rfl, hcw, hel⟩ := hX.get k hkx
      obtain ⟨bs, hbx⟩ : ∃ bs, bs = xss[k] := ⟨_, rfl⟩
      rw [← hbx] at hel
      obtain ⟨A1, c1, rfl, h1, h2, h3⟩ := hel
      have hel : Bs w (.slice A1 bs.length c1) bs := ⟨A1, c1, rfl, h1, h2, h3⟩
      have hc := cell_later hbr hcw
      have HB := Lib.hid hbx
      clear hbx h3 hcw
      by_cases h6 : 1000 < bs.length
      · clear hout hrows
        go_wp2
        go_ret
        exact ⟨rfl, hbr⟩
      have hat0 := own_empty (w := wr) (b := wr.heap.size) (base := w.heap.size) (e := 5) (size := 1) rfl hbr.size
      have hb1 := hbr.alloc hbr.size (.cells #[] 5)
      have hA1 := (hel.below hb1).at
      have HL := Lib.hid hel.cells
      have hs := run_str (hel.below hbr)
      have hfl := take_flat_le xss 1000 k (by omega) HLE.out
      have hss : (str (List.take k xss).flatten).size + (str bs).size ≤ 9223372036854775807 := by rw [str_size, str_size]; omega
      have tok : True := trivial
      go_wp2_with (first | (at_builtin; have _t := tok; refine wp_append w.heap.size rfl _ _ 24 5 (.int .u8 0) 1 1 rfl Try.underlying24 info_u8 rfl (by decide) (by decide) (.slice (some ⟨wr.heap.size, 0, none⟩) 0 0) 0 [] A1 bs.length c1 (bs.map encB) rfl rfl hat0 hA1 HL.out (encB_all bs) hb1.size (by omega) ?_; intro v1 w2 ho1 hg1 ha1; have hbw2 := below_new hg1; rw [Nat.zero_add, List.nil_append] at ho1; obtain ⟨A5, c5, rfl, _, _⟩ := own_form ho1; have hout2 := (own_below hout hbw2).alloc (.cells #[.slice A5 bs.length c5] 24); have hrows2 := (hrows.below hbw2).snoc ho1; have hat2 := At.new w2 #[.slice A5 bs.length c5] 24 (0, 0); have hb3 := (hbr.trans (hbw2.mono hbr.size)); have hb4 := hb3.alloc hb3.size (.cells #[.slice A5 bs.length c5] 24); clear tok _t hout hrows hg1 ha1 hat0 hA1 ho1) | (at_builtin; refine wp_append w.heap.size rfl _ _ 41 24 (.slice none 0 0) 1 24 rfl Try.underlying41 info_bytes rfl (by decide) (by decide) (.slice A3 k c3) k vs (some ⟨w2.heap.size, 0, none⟩) 1 1 [.slice A5 bs.length c5] rfl rfl hout2 hat2 rfl (by simp [Value.oneCell']) hb4.size (by omega) ?_; intro v3 w3 ho3 hg3 ha3; have hrows3 := (hrows2.below ((Below.refl _ w2).alloc (Nat.le_refl _) _)).grown hout2 (by decide) hg3; have hb5 := below_grown hb4 hout2 hg3 hb4.size; obtain ⟨A6, c6, rfl, _, _⟩ := own_form ho3; have hs3 := run_str (hel.below hb5); clear hout2 hrows2 hg3 ha3 hat2))
      go_roundw
      case rel =>
        refine ⟨k + 1, A6, c6, vs ++ [.slice A5 bs.length c5], by omega, by go_num, rfl, ?_, ho3, ?_, ?_, hb5⟩
        · rw [str_append, List.take_succ_eq_append_getElem hkx, List.flatten_append, ← HB.out]
          simp
        · rw [List.take_succ_eq_append_getElem hkx, ← HB.out]
          exact hrows3
        · intro j hj hjk
          by_cases e : j = k
          · subst e; rw [← HB.out]; omega
          · exact HLE.out j hj (by omega)
      case measure => simp [intOf]; omega
    · obtain rfl : k = n := by omega
      have htk : xss.take k = xss := List.take_of_length_le (by rw [← HN.out]; exact Nat.le_refl _)
      have hfl := take_flat_le xss 1000 k (by rw [HN.out]; exact Nat.le_refl _) HLE.out
      rw [htk] at hrows hfl ⊢
      have hin := hrows.bss hout
      have hln : Lib.lens xss = xss.flatten.length := by simp [Lib.lens, List.length_flatten]
      have HLN := Lib.hid hln
      clear htk hln
      obtain ⟨wo, hwo⟩ : ∃ wo : World, wo = wr := ⟨_, rfl⟩
      subst hwo
      go_wp2_with (go_at_call 27; refine (pjoin_any _ _ _ xss _ hin (by omega) (by rw [HLN.out]; omega)).mono ?_; rintro e w2 ⟨v, rfl, hf, hb2⟩; obtain ⟨m, hm⟩ : ∃ m, m = xss.flatten.length := ⟨_, rfl⟩; obtain ⟨A7, c7, hv7, _⟩ := hf.1; rw [← hm] at hv7 hfl; have HM := Lib.hid hm; subst hv7; have hs7 := run_str hf.1; clear hm)
      have hb3 := hbr.trans (hb2.mono hbr.size)
      have hin2 := hin.below hb2
      have hgot : m = 0 ∨ ∃ g, A7 = some ⟨g, 0, none⟩ ∧ wo.heap.size ≤ g ∧ (∀ j, j < m → ∃ u, w2.cell? ⟨g, j, none⟩ = some u ∧ w2.frozen? ⟨g, j, none⟩ = false) := by
        by_cases hne : xss.flatten = []
        · left; rw [HM.out, hne]; rfl
        · right
          obtain ⟨g, cg, he, hg, hfz⟩ := hf.2 hne
          injection he with e1 e2 e3
          refine ⟨g, e1, hg, fun j hj => ?_⟩
          obtain ⟨a, ha, hc⟩ := hf.1.at.map j (by rw [← HM.out]; exact hj)
          rw [e1] at ha
          injection ha with ha
          subst ha
          rw [show (⟨g, 0, none⟩ : Addr).add j = ⟨g, j, none⟩ from by unfold Addr.add; split <;> simp_all] at hc
          exact ⟨_, hc, hfz j (by rw [← HM.out]; exact hj)⟩
      clear hs7 hf hrows hout hin2
      go_loopw [8, 44] (fun v i wq => ∃ j : Nat, j ≤ m ∧ i = .int .i64 j ∧ (m = 0 ∨ ∃ g, A7 = some ⟨g, 0, none⟩ ∧ wo.heap.size ≤ g ∧ (∀ j, j < m → ∃ u, wq.cell? ⟨g, j, none⟩ = some u ∧ wq.frozen? ⟨g, j, none⟩ = false)) ∧ Below wo.heap.size wo wq) (fun _ i _ => m - (intOf i).toNat)
      case atStart => exact ⟨0, Nat.zero_le _, rfl, hgot, hb2⟩
      case round =>
        obtain ⟨j, hj, rfl, hg, hbq⟩ := hrel
        clear hgot
        by_cases hlj : j < m
        · obtain ⟨g, rfl, hgr, hcs⟩ : ∃ g, A7 = some ⟨g, 0, none⟩ ∧ wo.heap.size ≤ g ∧ (∀ j, j < m → ∃ u, wr.cell? ⟨g, j, none⟩ = some u ∧ wr.frozen? ⟨g, j, none⟩ = false) := by
            rcases hg with h0 | h
            · omega
            · exact h
          obtain ⟨u, hu, hfz⟩ := hcs j hlj
          have HCS := Lib.hid (cells_set hcs ⟨g, j, none⟩ (.int .u8 238))
          clear hcs hg
          go_wp2
          go_roundw
          case rel => exact ⟨j + 1, by omega, by go_num, .inr ⟨g, rfl, hgr, HCS.out⟩, hbq.setCell hgr _⟩
          case measure => simp [intOf]; omega
        · obtain rfl : j = m := by omega
          clear hg
          obtain ⟨wp, hwp⟩ : ∃ wp : World, wp = wr := ⟨_, rfl⟩
          subst hwp
          have hbp := hbr.trans (hbq.mono hbr.size)
          have hinp := hin.below hbq
          go_wp2
          go_loopw [9, 53] (fun v i wq => ∃ q : Nat, q ≤ k ∧ i = .int .i64 q ∧ Below wp.heap.size wp wq) (fun _ i _ => k - (intOf i).toNat)
          case atStart => exact ⟨0, Nat.zero_le _, rfl, Below.refl _ _⟩
          case round =>
            obtain ⟨q, hq, rfl, hbz⟩ := hrel
            have hbw := hbp.trans (hbz.mono hbp.size)
            by_cases hlq : q < k
            · have hqx : q < xss.length := by rw [← HN.out]; exact hlq
              obtain ⟨a, v, rfl, hc, hv⟩ := (hX.below hbw).get q hqx
              obtain ⟨A8, n8, c8, rfl, hn8⟩ := bs_slice hv
              obtain ⟨a2, v2, rfl, hc2, hv2⟩ := (hinp.below hbz).get q hqx
              obtain ⟨A9, n9, c9, rfl, hn9⟩ := bs_slice hv2
              have hd1 := run_str (w := wr.drew) hv
              have hd2 := run_str (w := wr.drew) hv2
              clear hn8 hn9
              go_wp2
              go_region
              go_wp2
              go_roundw
              case rel => exact ⟨q + 1, by omega, by go_num, hbz.drew⟩
              case measure => simp [intOf]; omega
            · obtain rfl : q = k := by omega
              go_wp2_with (go_at_call 27; refine (pjoin_any none 0 0 [] _ (Bss.nil _) (by decide) (by decide)).mono ?_; rintro e w9 ⟨v9, rfl, hf9, hb9⟩; obtain ⟨A9, c9, hv9, _⟩ := hf9.1; rw [show (([] : List (List UInt8)).flatten).length = 0 from rfl] at hv9; subst hv9; clear hf9)
              go_ret
              exact ⟨rfl, hbw.trans (hb9.mono hbw.size)⟩
end Go.Proofs.YtcknoadoeonbjaaK
