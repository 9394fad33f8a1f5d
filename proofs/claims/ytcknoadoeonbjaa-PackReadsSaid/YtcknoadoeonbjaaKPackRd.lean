import Derived.Test.YtcknoadoeonbjaaKPackF
import Derived.Test.YtcknoadoeonbjaaKPackBk
import Derived.Deep.QuietTactic
import Derived.BigQuiet
namespace Go.Proofs.YtcknoadoeonbjaaK
open Go.RowKit
set_option linter.unusedSimpArgs false
set_option linter.unusedVariables false
theorem rdLeft_len (bs : List UInt8) (s : Int) : (rdLeft bs s).length ≤ bs.length := by
  unfold rdLeft
  split <;> simp
theorem rdTake_len (bs : List UInt8) (s : Int) : (rdTake bs s).length ≤ bs.length := by
  unfold rdTake
  split <;> simp
  omega
theorem Rdr.below {w w1 : World} {b D : Nat} {bs : List UInt8} {bad : Bool} (h : Rdr w b D bs bad) (hb : Below w.heap.size w w1) : Rdr w1 b D bs bad := by
  obtain ⟨A, c, h1, h2, h3⟩ := h
  exact ⟨A, c, (hb.block b (lt_of h1)).trans h1, h2.below hb, h3⟩
/-- A store into another block. -/
theorem Rdr.set {w : World} {b D : Nat} {bs : List UInt8} {bad : Bool} (h : Rdr w b D bs bad) {p : Addr} (h1 : p.block ≠ b) (h2 : p.block ≠ D) (u : Value) : Rdr (w.setCell p u) b D bs bad := by
  obtain ⟨A, c, k1, k2, k3⟩ := h
  refine ⟨A, c, (Below.heap_setCell w p u b (Ne.symm h1)).trans k1, ?_, k3⟩
  obtain ⟨A', c', e, e1, e2, e3⟩ := k2
  injection e with f1 f2 f3
  subst f1 f3
  refine ⟨A, c, rfl, e1, e2, fun j x hx => ?_⟩
  obtain ⟨a, ha, hc⟩ := e3 j x hx
  refine ⟨a, ha, ?_⟩
  have hne : bs ≠ [] := by rintro rfl; simp at hx
  obtain ⟨a2, ha2, hD⟩ := k3 hne
  rw [ha] at ha2
  injection ha2 with ha2
  have hb : (a.add j).block = D := by rw [← hD, ← ha2]; unfold Addr.add; split <;> rfl
  rw [World.cell?_setCell_other w p (a.add j) u (fun e => h2 (by rw [e]; exact hb))]
  exact hc
theorem Eye.below {w w1 : World} {b : Nat} {A : Option Addr} {n c i : Nat} {bad : Bool} (h : Eye w b A n c i bad) (hb : Below w.heap.size w w1) : Eye w1 b A n c i bad := (hb.block b (lt_of h)).trans h
theorem Eye.set {w : World} {b : Nat} {A : Option Addr} {n c i : Nat} {bad : Bool} (h : Eye w b A n c i bad) {p : Addr} (h1 : p.block ≠ b) (u : Value) : Eye (w.setCell p u) b A n c i bad := (Below.heap_setCell w p u b (Ne.symm h1)).trans h
theorem Eye.row {w w1 : World} {b b2 : Nat} {A : Option Addr} {n c i : Nat} {bad : Bool} (h : Eye w b A n c i bad) (hg : w.grownBy w1 (some b2)) (hne : b ≠ b2) : Eye w1 b A n c i bad := (hg.block b (lt_of h) (by simpa using hne)).trans h
/-- The row of another thing has turned. -/
theorem Rdr.row {w w1 : World} {b D b2 : Nat} {bs : List UInt8} {bad : Bool} (h : Rdr w b D bs bad) (hg : w.grownBy w1 (some b2)) (h1 : b ≠ b2) (h2 : D ≠ b2) : Rdr w1 b D bs bad := by
  obtain ⟨A, c, k1, k2, k3⟩ := h
  refine ⟨A, c, (hg.block b (lt_of k1) (by simpa using h1)).trans k1, ?_, k3⟩
  obtain ⟨A', c', e, e1, e2, e3⟩ := k2
  injection e with f1 f2 f3
  subst f1 f3
  refine ⟨A, c, rfl, e1, e2, fun j x hx => ?_⟩
  obtain ⟨a, ha, hc⟩ := e3 j x hx
  refine ⟨a, ha, ?_⟩
  have hne : bs ≠ [] := by rintro rfl; simp at hx
  obtain ⟨a2, ha2, hD⟩ := k3 hne
  rw [ha] at ha2
  injection ha2 with ha2
  have hb : (a.add j).block = D := by rw [← hD, ← ha2]; unfold Addr.add; split <;> rfl
  exact hg.cell hc (by rw [hb]; simpa using h2)
theorem below_drewN {B : Nat} {w w1 : World} {k : Nat} (h : Below B w w1) : Below B w (w1.drewN k) := ⟨h.os, h.tape, h.output, h.size, h.block⟩
theorem i64_and_one (x : Nat) : bits .and .i64 (x : Int) 1 = ((x % 2 : Nat) : Int) := by
  have h127 : (BitVec.ofInt 64 1).toNat = 2 ^ 1 - 1 := by decide
  have key : (BitVec.ofInt 64 (x : Int) &&& BitVec.ofInt 64 1).toNat = ((x : Int) % ((2 ^ 64 : Nat) : Int)).toNat % 2 ^ 1 := by
    rw [BitVec.toNat_and, BitVec.toNat_ofInt, h127, Nat.and_two_pow_sub_one_eq_mod]
  show IntKind.i64.wrap ((BitVec.ofInt 64 (x : Int) &&& BitVec.ofInt 64 1).toNat : Nat) = ((x % 2 : Nat) : Int)
  rw [key, IntKind.wrap_i64]
  omega
set_option maxHeartbeats 2000000 in
theorem packReads_walk (A B : Option Addr) (n m cap cap2 : Nat) (bs : List UInt8) (xs : List Int) (w : World) (hX : Bs w (.slice A n cap) bs) (hY : Is .i64 w (.slice B m cap2) xs) :
    Calls Try.prog 5 #[.slice A n cap, .slice B m cap2] w fun e w' => e = .returned (.bool true) ∧ Below w.heap.size w w' := by
  have HN := Lib.hid hX.len
  have HM := Lib.hid hY.len
  by_cases h50 : 5000 < n ∨ 200 < m
  · clear hX hY
    go_enter Try.func5, Try.ntmps5
    go_wp2_with (go_at_call 15; refine (pack_speaks _).mono ?_; rintro e w' ⟨rfl, hb⟩)
    all_goals
      go_ret
      exact ⟨rfl, ‹_›⟩
  have hn1 : n ≤ 5000 := by omega
  have hm1 : m ≤ 200 := by omega
  clear h50
  have HXL := Lib.hid hX.cells
  go_enter Try.func5, Try.ntmps5
  go_wp2_with (first | (go_at_call 15; refine (pack_speaks _).mono ?_; rintro e w1 ⟨rfl, hb⟩; have hat := own_empty (w := w1) (b := w1.heap.size) (base := w.heap.size) (e := 5) (size := 1) rfl hb.size; have hb3 := hb.alloc hb.size (.cells #[] 5); have hA := (hX.below hb3).at) | (at_builtin; refine wp_append w.heap.size rfl _ _ 24 5 (.int .u8 0) 1 1 rfl Try.underlying24 info_u8 rfl (by decide) (by decide) (.slice (some ⟨w1.heap.size, 0, none⟩) 0 0) 0 [] A n cap (bs.map encB) rfl rfl hat hA HXL.out (encB_all bs) hb3.size (by omega) ?_; intro v1 w2 ho1 hg1 ha1; have hb4 := below_grown hb3 hat hg1 hb3.size; clear hat hA hg1 ha1; rw [Nat.zero_add, List.nil_append] at ho1; obtain ⟨A5, c5, rfl, hc5, hn5⟩ := own_form ho1; have hnew := Lib.hid (new_any A5 n c5 bs w2 (own_bs ho1).2 (by omega))) | (go_at_call 19; refine hnew.out.mono ?_; rintro e w3 ⟨rb, D, rfl, hrb, hDl, hDr, hr, hb5⟩; clear hnew))
  obtain ⟨eb, heb⟩ : ∃ eb, eb = w3.heap.size := ⟨_, rfl⟩
  obtain ⟨W, hW⟩ : ∃ W, W = w3.alloc (Obj.cells #[.slice A n cap, .int .i64 0, .bool false] 38) := ⟨_, rfl⟩
  rw [← hW, ← heb]
  have hsz2 := hb4.size
  have hsz3 := hb5.size
  have hbl := lt_of hr.choose_spec.choose_spec.1
  have hrW : Rdr W rb D bs false := by rw [hW]; exact hr.below ((Below.refl _ _).alloc (Nat.le_refl _) _)
  have heW : Eye W eb A n cap 0 false := by rw [hW, heb]; exact heap_alloc_new w3 _
  have hoW : W.ownsRow w.heap.size 5 1 (.slice A5 n c5) n (bs.map encB) := by rw [hW]; exact (own_below ho1 hb5).alloc _
  have hbW : Below w.heap.size w W := by rw [hW]; exact (hb4.trans (hb5.mono hsz2)).alloc (by omega) _
  have hdis : ∀ g, (Value.slice A5 n c5).ownBlock = some g → g ≠ rb ∧ g ≠ D ∧ g ≠ eb := by
    intro g hg
    have := (ho1.lt g hg).2
    refine ⟨by omega, by omega, by omega⟩
  have hre : rb ≠ eb ∧ D ≠ eb := ⟨by omega, by omega⟩
  have hge : w.heap.size ≤ eb ∧ w.heap.size ≤ rb := ⟨by omega, by omega⟩
  have HDIS := Lib.hid hdis
  have HRE := Lib.hid hre
  clear hr ho1 hb4 hb5 hb hb3 hW heb hdis hre hrb hDl hbl hsz2 hsz3
  go_loopw [8, 35] (fun v i wr => ∃ (j : Nat) (ys : List UInt8), j ≤ n ∧ i = .int .i64 j ∧ Rdr wr rb D bs false ∧ Eye wr eb A n cap 0 false ∧ wr.ownsRow w.heap.size 5 1 (.slice A5 n c5) n (ys.map encB) ∧ Below w.heap.size w wr) (fun _ i _ => n - (intOf i).toNat)
  case atStart => exact ⟨0, bs, Nat.zero_le _, rfl, hrW, heW, hoW, hbW⟩
  case round =>
    obtain ⟨j, ys, hj, rfl, hrd, hey, how, hbw⟩ := hrel
    clear hrW heW hoW hbW
    by_cases hlt : j < n
    · obtain ⟨g, c6, he, _, hgb, _, _⟩ := own_pos how (by omega)
      injection he with e1 e2 e3
      subst e1
      clear e2 e3
      obtain ⟨d1, d2, d3⟩ := HDIS.out g rfl
      obtain ⟨z, hz⟩ : ∃ z, ys[j]? = some z := ⟨ys[j]'(by have := (own_bs how).1; omega), List.getElem?_eq_getElem _⟩
      obtain ⟨hcell, hfr⟩ := own_cell how j (encB z) (by rw [List.getElem?_map, hz]; rfl)
      have hs := Lib.hid (how.stored j (encB 238)).1
      rw [show (ys.map encB).set j (encB 238) = (ys.set j 238).map encB from by rw [List.map_set]] at hs
      go_wp2
      go_roundw
      case rel => exact ⟨j + 1, ys.set j 238, by omega, by go_num, hrd.set d1 d2 _, hey.set d3 _, hs.out, hbw.setCell hgb _⟩
      case measure => simp [intOf]; omega
    · obtain rfl : j = n := by omega
      clear how
      go_wp2
      obtain ⟨wo, hwo⟩ : ∃ wo : World, wo = wr := ⟨_, rfl⟩
      subst hwo
      have hsz := hbw.size
      have hge1 := hge.1
      have hge2 := hge.2
      go_loopw [9, 10, 11, 12, 44] (fun v1 v2 v3 v4 i wr => ∃ (k p : Nat) (rest : List UInt8) (bad : Bool), k ≤ m ∧ i = .int .i64 k ∧ p ≤ j ∧ rest = bs.drop p ∧ Rdr wr rb D rest bad ∧ Eye wr eb A j cap p bad ∧ Below w.heap.size w wr) (fun _ _ _ _ i _ => m - (intOf i).toNat)
      case atStart => exact ⟨0, 0, bs, false, Nat.zero_le _, rfl, Nat.zero_le _, rfl, hrd, hey, hbw⟩
      case round =>
        obtain ⟨k, p, rest, bad, hk, rfl, hp, hrest, hrk, hek, hbk⟩ := hrel
        clear hrd hey hbw
        by_cases hlt : k < m
        · obtain ⟨a, rfl, hcell⟩ := (hY.below hbk).at.map k (by rw [← HM.out]; exact hlt)
          obtain ⟨s, hs⟩ : ∃ s, s = xs[k]'(by rw [← HM.out]; exact hlt) := ⟨_, rfl⟩
          rw [← hs] at hcell
          clear hs
          have hand := i64_and_one k
          have hXk := hX.below hbk
          have hlen : rest.length = j - p := by rw [hrest, List.length_drop, ← HN.out]
          have hl47 : rest.length ≤ 140737488355328 := by omega
          have HNm := Lib.hid (fun W hR => rnum_any rb D rest bad s W hR hl47)
          have HEm := Lib.hid (fun W hE hXW => enum_any eb A j cap p bs bad s W hE hp (by omega) hXW)
          have HBy := Lib.hid (fun W hR => bytes_any rb D rest bad s W hR hl47)
          have HEb := Lib.hid (fun W hE hXW => ebytes_any eb A j cap p bs bad s W hE hp (by omega) hXW)
          rw [← hrest] at HEm HEb
          clear hrest
          have hsk := hbk.size
          go_wp2_with (first
            | (go_at_call 21; refine (HNm.out _ (by exact hrk)).mono ?_; rintro e w2 ⟨rfl, hr2, hg2⟩; have hb2 := below_row hbk hg2 hsk hge2; have he2 := hek.row hg2 (Ne.symm HRE.out.1); have hX2 := hX.below hb2)
            | (go_at_call 25; refine (HBy.out _ (by exact hrk)).mono ?_; rintro e w2 ⟨v, m7, rfl, hox, hr2, hg2⟩; have hb2 := below_row hbk hg2 hsk hge2; have he2 := hek.row hg2 (Ne.symm HRE.out.1); have hX2 := hX.below hb2; obtain ⟨A7, c7, rfl, hc7, hm7⟩ := own_form hox)
            | (go_at_call 24; refine (HEm.out _ (by exact he2) (by exact hX2)).mono ?_; rintro e w3 ⟨q, rfl, he3, hq, hdq, hg3⟩; have hb3 := below_row hb2 hg3 hb2.size hge1; have hr3 := hr2.row hg3 HRE.out.1 HRE.out.2; have HDQ := Lib.hid hdq; clear hdq))
          · obtain ⟨r3, hr3e⟩ : ∃ r, r = rdLeft rest (wid s) := ⟨_, rfl⟩
            obtain ⟨b3, hb3e⟩ : ∃ r, r = rdBad rest bad (wid s) := ⟨_, rfl⟩
            rw [← hr3e] at hr3
            rw [← hb3e] at hr3 he3
            have HR3 := Lib.hid (HDQ.out.trans hr3e.symm)
            clear hr3e hb3e hr2
            have hlr : r3.length = j - q := by rw [← HR3.out, List.length_drop, ← HN.out]
            have k0 : w3.cell? ⟨eb, 0, none⟩ = some (.slice A j cap) := cell_of he3 0
            have k1 : w3.cell? ⟨eb, 1, none⟩ = some (.int .i64 q) := cell_of he3 1
            have k2 : w3.cell? ⟨eb, 2, none⟩ = some (.bool b3) := cell_of he3 2
            obtain ⟨L, hL⟩ : ∃ L : Int, L = (r3.length : Int) := ⟨_, rfl⟩
            have hsub : IntKind.i64.wrap ((j : Int) - (q : Int)) = L := by rw [IntKind.wrap_i64, hL, hlr]; omega
            have hne : (L != L) = false := by simp
            have HLf := Lib.hid (fun (W : World) (hR : Rdr W rb D r3 b3) => left_any rb D r3 b3 W hR)
            have HBd := Lib.hid (fun (W : World) (hR : Rdr W rb D r3 b3) => bad_any rb D r3 b3 W hR)
            rw [← hL] at HLf
            clear hL hlr
            go_quiet ((first | (go_at_call 22; exact Calls.quiet_of_same ((HLf.out _ (by exact hr3)).mono fun _ _ h => ⟨h.1, h.2.symm⟩)) | (go_at_call 23; exact Calls.quiet_of_same ((HBd.out _ (by exact hr3)).mono fun _ _ h => ⟨h.1, h.2.symm⟩))))
            go_wp2
            go_roundw
            case rel => exact ⟨k + 1, q, r3, b3, by omega, by go_num, hq, HR3.out.symm, hr3, he3, below_drewN hb3⟩
            case measure => simp [intOf]; omega
          · have hsk2 := hb2.size
            have hlt1 := lt_of hek
            have hlt2 := lt_of hrk.choose_spec.choose_spec.1
            obtain ⟨B0, hB0⟩ : ∃ b, b = wr.heap.size := ⟨_, rfl⟩
            rw [← hB0] at hox hlt1 hlt2 hsk
            clear hB0
            have hne3 : (Value.slice A7 m7 c7).ownBlock = none ∨ (Value.slice A7 m7 c7).ownBlock ≠ some eb := by
              cases hq : (Value.slice A7 m7 c7).ownBlock with
              | none => exact .inl rfl
              | some g => exact .inr (by intro e; injection e with e; have := (hox.lt g hq).1; omega)
            have hsA := run_str (own_bs (World.ownsRow.drew hox)).2
            go_region_with (go_at_call 26; refine (HEb.out _ (by exact he2) (by exact hX2)).mono ?_; rintro e w3 ⟨v3, m3, q, rfl, ho3, he3, hq, hdq, hg3⟩; have hb3 := below_row hb2 (grown_drew hg3) hsk2 hge1; have hr3 := hr2.row (grown_drew hg3) HRE.out.1 HRE.out.2; have HDQ := Lib.hid hdq; clear hdq; obtain ⟨A8, c8, rfl, _, _⟩ := own_form ho3; have hsB := run_str (own_bs ho3).2; have hox3 := hox.kept (grown_drew hg3) hne3; have hsC := run_str (own_bs hox3).2)
            all_goals
              obtain ⟨r3, hr3e⟩ : ∃ r, r = rdLeft rest s := ⟨_, rfl⟩
              obtain ⟨b3, hb3e⟩ : ∃ r, r = rdBad rest bad s := ⟨_, rfl⟩
              rw [← hr3e] at hr3
              rw [← hb3e] at hr3 he3
              have HR3 := Lib.hid (HDQ.out.trans hr3e.symm)
              clear hr3e hb3e hr2
              obtain ⟨ts, hts⟩ : ∃ t, t = rdTake rest s := ⟨_, rfl⟩
              rw [← hts] at hsA hsB hsC hox3
              clear hts ho3
              go_wp2
              obtain ⟨wo3, hwo3⟩ : ∃ wo : World, wo = w3 := ⟨_, rfl⟩
              rw [← hwo3] at hr3 he3 hb3 hox3
              rw [← hwo3]
              clear hwo3 hsA hsB hsC
              go_loopw [12, 71] (fun v i wr => ∃ (l : Nat) (zs : List UInt8), l ≤ m7 ∧ i = .int .i64 l ∧ Rdr wr rb D r3 b3 ∧ Eye wr eb A j cap q b3 ∧ wr.ownsRow B0 5 1 (.slice A7 m7 c7) m7 (zs.map encB) ∧ Below w.heap.size w wr) (fun _ i _ => m7 - (intOf i).toNat)
              case atStart => exact ⟨0, ts, Nat.zero_le _, rfl, hr3, he3, hox3, hb3⟩
              case round =>
                obtain ⟨l, zs, hl, rfl, hrl, hel, hol, hbl⟩ := hrel
                clear hr3 he3 hox3 hb3
                by_cases hlt : l < m7
                · obtain ⟨g, c6, he, _, hgb, _, _⟩ := own_pos hol (by omega)
                  injection he with e1 e2 e3
                  subst e1
                  clear e2 e3
                  obtain ⟨z, hz⟩ : ∃ z, zs[l]? = some z := ⟨zs[l]'(by have := (own_bs hol).1; omega), List.getElem?_eq_getElem _⟩
                  obtain ⟨hcl, hfr⟩ := own_cell hol l (encB z) (by rw [List.getElem?_map, hz]; rfl)
                  have hs := Lib.hid (hol.stored l (encB 238)).1
                  rw [show (zs.map encB).set l (encB 238) = (zs.set l 238).map encB from by rw [List.map_set]] at hs
                  clear hz
                  go_wp2
                  go_roundw
                  case rel => exact ⟨l + 1, zs.set l 238, by omega, by go_num, hrl.set (by simp; omega) (by simp; omega) _, hel.set (by simp; omega) _, hs.out, hbl.setCell (by simp; omega) _⟩
                  case measure => simp [intOf]; omega
                · obtain rfl : l = m7 := by omega
                  clear hol
                  have hlr : r3.length = j - q := by rw [← HR3.out, List.length_drop, ← HN.out]
                  obtain ⟨w9, hw9⟩ : ∃ wo : World, wo = wr := ⟨_, rfl⟩
                  rw [← hw9] at hrl hel hbl
                  rw [← hw9]
                  clear hw9
                  have k0 : w9.cell? ⟨eb, 0, none⟩ = some (.slice A j cap) := cell_of hel 0
                  have k1 : w9.cell? ⟨eb, 1, none⟩ = some (.int .i64 q) := cell_of hel 1
                  have k2 : w9.cell? ⟨eb, 2, none⟩ = some (.bool b3) := cell_of hel 2
                  obtain ⟨L, hL⟩ : ∃ L : Int, L = (r3.length : Int) := ⟨_, rfl⟩
                  have hsub : IntKind.i64.wrap ((j : Int) - (q : Int)) = L := by rw [IntKind.wrap_i64, hL, hlr]; omega
                  have hne : (L != L) = false := by simp
                  have HLf := Lib.hid (fun (W : World) (hR : Rdr W rb D r3 b3) => left_any rb D r3 b3 W hR)
                  have HBd := Lib.hid (fun (W : World) (hR : Rdr W rb D r3 b3) => bad_any rb D r3 b3 W hR)
                  rw [← hL] at HLf
                  clear hL hlr
                  go_wp2_with fail
                  go_quiet ((first | (go_at_call 22; exact Calls.quiet_of_same ((HLf.out _ (by exact hrl)).mono fun _ _ h => ⟨h.1, h.2.symm⟩)) | (go_at_call 23; exact Calls.quiet_of_same ((HBd.out _ (by exact hrl)).mono fun _ _ h => ⟨h.1, h.2.symm⟩))))
                  go_wp2
                  go_roundw
                  case rel => exact ⟨k + 1, q, r3, b3, by omega, by go_num, hq, HR3.out.symm, hrl, hel, below_drewN hbl⟩
                  case measure => simp [intOf]; omega
        · obtain rfl : k = m := by omega
          go_wp2
          go_ret
          exact ⟨rfl, hbk⟩
end Go.Proofs.YtcknoadoeonbjaaK
