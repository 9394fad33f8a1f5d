import Derived.Test.YtcknoadoeonbjaaKHanL
import Derived.Maps.Own
import Derived.Maps.OwnOps
import Derived.Maps.OwnSet
import Derived.Maps.RangeWalk
namespace Go.Proofs.YtcknoadoeonbjaaK
open Go.RowKit Go.Maps
set_option linter.unusedSimpArgs false
set_option linter.unusedVariables false
theorem law3 : Keyed Try.prog 3 := int_keyed Try.underlying3
theorem zeroE3 (w : World) : (zeroValue 3).run Try.prog w = .ok (.int .i64 0) w := by kernel_rfl
theorem lit_inj {a b : Int} (h : (DataW.lit (.int .i64 a) : DataW Unit) = .lit (.int .i64 b)) : a = b := by simpa using h
/-- What the map reads as, behind p handles. -/
def Opened (D : DataW Unit) (xs : List Int) (p : Nat) : Prop :=
  IsMap D ∧ (∀ z, Maps.has D z = true → ∃ j : Nat, j < p ∧ z = Lit.int .i64 ((j : Int) + 1)) ∧ (∀ j : Nat, j < p → ∀ zd, D.atKey (.int .i64 ((j : Int) + 1)) zd = .lit (.int .i64 (xs.getD j 0))) ∧ (∀ j : Nat, j < p → Maps.has D (.int .i64 ((j : Int) + 1)) = true)
theorem opened_zero (xs : List Int) : Opened (.map []) xs 0 := ⟨⟨[], rfl⟩, fun z h => by simp [Maps.has] at h, fun j h => by omega, fun j h => by omega⟩
theorem Opened.none {D : DataW Unit} {xs : List Int} {p : Nat} (h : Opened D xs p) : Maps.has D (.int .i64 ((p : Int) + 1)) = false := by
  cases hh : Maps.has D (.int .i64 ((p : Int) + 1)) with
  | false => rfl
  | true =>
    obtain ⟨j, hj, he⟩ := h.2.1 _ hh
    injection he with _ e
    omega
theorem Opened.step {D : DataW Unit} {xs : List Int} {p : Nat} (h : Opened D xs p) (x : Int) (hx : xs.getD p 0 = x) : Opened (D.put (.int .i64 ((p : Int) + 1)) (.lit (.int .i64 x))) xs (p + 1) := by
  obtain ⟨h1, h2, h3, h4⟩ := h
  refine ⟨h1.put _ _, fun z hz => ?_, fun j hj zd => ?_, fun j hj => ?_⟩
  · by_cases e : z = Lit.int .i64 ((p : Int) + 1)
    · exact ⟨p, by omega, e⟩
    · rw [has_put_other e] at hz
      obtain ⟨j, hj, he⟩ := h2 z hz
      exact ⟨j, by omega, he⟩
  · by_cases e : j = p
    · subst e
      rw [atKey_put_same h1 (show WideAt.IsKeyLit (.int .i64 ((j : Int) + 1)) from trivial), hx]
    · rw [atKey_put_other (by intro e2; injection e2 with _ e3; omega)]
      exact h3 j (by omega) zd
  · by_cases e : j = p
    · subst e
      exact has_put_same h1 (show WideAt.IsKeyLit (.int .i64 ((j : Int) + 1)) from trivial) _
    · rw [has_put_other (by intro e2; injection e2 with _ e3; omega)]
      exact h4 j (by omega)
set_option maxRecDepth 100000 in
set_option maxHeartbeats 20000000 in
theorem handleApart_walk (A : Option Addr) (n c : Nat) (xs : List Int) (w : World) (hX : Is .i64 w (.slice A n c) xs) (hwf : ∀ y ∈ xs, (Lit.int .i64 y).wf = true) :
    Calls Try.prog 14 #[.slice A n c] w fun e w' => e = .returned (.bool true) ∧ Below w.heap.size w w' := by
  have HN := Lib.hid hX.len
  by_cases h50 : 50 < n
  · clear hX
    go_enter Try.func14, Try.ntmps14
    go_wp2_with (go_at_call 32; refine (han_speaks _).mono ?_; rintro e w' ⟨rfl, hb⟩)
    go_ret
    exact ⟨rfl, ‹_›⟩
  have hmm := @run_makeMap Try.prog
  have HWF := Lib.hid hwf
  clear hwf
  go_enter Try.func14, Try.ntmps14
  go_wp2_with (first | (go_at_call 32; refine (han_speaks _).mono ?_; rintro e w1 ⟨rfl, hb⟩) | (go_at_call 33; refine (new_tab _).mono ?_; rintro e w2 ⟨tb, rfl, hbl, hT, hb2⟩))
  clear hmm
  obtain ⟨mb, hmb⟩ : ∃ mb, mb = w2.heap.size := ⟨_, rfl⟩
  obtain ⟨W, hW⟩ : ∃ W, W = w2.alloc (.map #[] 0) := ⟨_, rfl⟩
  have hown : W.ownsMap Try.prog 3 (plainElem Try.prog 3) mb 0 (.map [] : DataW Unit) := by rw [hW, hmb]; exact World.ownsMap_made _ _ _ _
  have hT2 : Tbl W tb (fun _ => false) (fun _ => 0) := by rw [hW]; exact hT.below ((Below.refl _ _).alloc (Nat.le_refl _) _)
  have hs1 := hb.size
  have hs2 := hb2.size
  have hbW : Below w.heap.size w W := by rw [hW]; exact (hb.trans (hb2.mono hs1)).alloc (by omega) _
  have hne : tb ≠ mb := by
    obtain ⟨cs, h1, _⟩ := hT
    rw [hmb]
    exact Nat.ne_of_lt (Array.getElem?_eq_some_iff.1 h1).1
  have hge : w.heap.size ≤ tb ∧ w.heap.size ≤ mb := ⟨by omega, by omega⟩
  have HNE := Lib.hid hne
  rw [← hW, ← hmb]
  clear hW hmb hne hT hb hb2 hbl hs1 hs2
  go_loopw [5, 6, 7, 8, 9, 10, 28] (fun v5 v6 v7 v8 v9 v10 i wr => ∃ (k p : Nat) (D : DataW Unit), k ≤ n ∧ p = min k 6 ∧ i = .int .i64 k ∧ Tbl wr tb (fun j => decide (j < p)) (fun j => if j < p then xs.getD j 0 else 0) ∧ wr.ownsMap Try.prog 3 (plainElem Try.prog 3) mb p D ∧ Opened D xs p ∧ Below w.heap.size w wr) (fun _ _ _ _ _ _ i _ => n - (intOf i).toNat)
  case atStart => exact ⟨0, 0, .map [], Nat.zero_le _, rfl, rfl, by simpa using hT2, hown, opened_zero xs, hbW⟩
  case round =>
    obtain ⟨k, p, D, hk, hp, rfl, hT, hO, hOp, hb⟩ := hrel
    clear hT2 hown hbW
    have HP := Lib.hid hp
    clear hp
    by_cases hlt : k < n
    · have hkx : k < xs.length := by rw [← HN.out]; exact hlt
      obtain ⟨a, rfl, hc⟩ := (hX.below hb).at.map k hkx
      obtain ⟨x, hx⟩ : ∃ x, x = xs[k] := ⟨_, rfl⟩
      have hxw : (Lit.int .i64 x).wf = true := by rw [hx]; exact HWF.out _ (List.getElem_mem _)
      rw [← hx] at hc
      have HXK := Lib.hid hx
      clear hx
      have hga := hge.1
      have hgm := hge.2
      by_cases h6 : k < 6
      · obtain rfl : p = k := by rw [HP.out]; omega
        have hF : Free (fun j => decide (j < p)) p := ⟨by omega, fun j hj => by simpa using hj, fun _ => by simp⟩
        have HO := Lib.hid (open_any tb _ _ x p wr hT hF h6)
        have h6' : (p : Int) < 6 := by omega
        have hpw : (Lit.int .i64 ((p : Int) + 1)).wf = true := WalkArith.wf_i64 (by omega)
        clear hF
        go_wp2_with (first
          | (go_at_call 35; refine HO.out.mono ?_; rintro e w3 ⟨rfl, hT3, hg3⟩; have hO3 := hO.kept hg3 (by simpa using (Ne.symm HNE.out)); have hb3 := hb.grown hg3 hb.size (fun k hk => by injection hk with hk; omega))
          | (at_lookup; refine wpList_lookup_own_ok_int _ rfl _ _ 71 rfl 3 3 .i64 law3 Try.underlying71 Try.underlying3 (zeroE3 _) mb p D rfl hO3 _ _ rfl (keyOf_int_mk Try.underlying3 hpw) ?_; intro c hat hwc; rw [hOp.none])
          | (at_mapUpdate; refine wpList_mapUpdate_own _ rfl _ _ _ 71 rfl 3 3 law3 Try.underlying71 _ mb p D rfl hO3 (by unfold maxLen; omega) _ _ _ rfl rfl (keyOf_int_mk Try.underlying3 hpw) _ [] (plainElem_int Try.underlying3 hxw) ?_; intro w4 hO4 hg4))
        go_roundw
        case rel =>
          have e1 : (fun j => decide (j < p + 1)) = put (fun j => decide (j < p)) p true := by
            funext j; show _ = (if j = p then _ else _)
            by_cases e : j = p
            · rw [if_pos e]; simp [e]
            · rw [if_neg e]; simp; omega
          have e2 : (fun j => if j < p + 1 then xs.getD j 0 else 0) = put (fun j => if j < p then xs.getD j 0 else 0) p x := by
            funext j; show _ = (if j = p then _ else _)
            by_cases e : j = p
            · rw [if_pos e, if_pos (by omega), HXK.out, e, List.getD_eq_getElem?_getD, List.getElem?_eq_getElem hkx]; rfl
            · rw [if_neg e]
              show _ = (if j < p then xs.getD j 0 else 0)
              by_cases e3 : j < p
              · rw [if_pos e3, if_pos (by omega)]
              · rw [if_neg e3, if_neg (by omega)]
          refine ⟨p + 1, p + 1, _, by omega, by omega, by go_num, ?_, hO4, hOp.step x (by rw [HXK.out, List.getD_eq_getElem?_getD, List.getElem?_eq_getElem hkx]; rfl), hb3.grown hg4 hb3.size (fun k hk => by injection hk with hk; omega)⟩
          rw [e1, e2]
          exact hT3.grown hg4 HNE.out
        case measure => simp [intOf]; omega
      · obtain rfl : p = 6 := by rw [HP.out]; omega
        have hF : Free (fun j => decide (j < 6)) 6 := ⟨by omega, fun j hj => by simpa using hj, fun h => by omega⟩
        have HO := Lib.hid (open_full tb _ _ x wr hT hF)
        have h6' : (6 : Int) ≤ k := by omega
        clear hF
        go_wp2_with (go_at_call 35; refine HO.out.mono ?_; rintro e w3 ⟨rfl, hb3⟩; have hO3 := hO.kept (grown_of hb3) (row := none) (by simp); have hT3 := hT.below hb3; have hb4 := hb.trans (hb3.mono hb.size))
        go_roundw
        case rel => exact ⟨k + 1, 6, D, by omega, by omega, by go_num, hT3, hO3, hOp, hb4⟩
        case measure => simp [intOf]; omega
    · obtain rfl : k = n := by omega
      have hga := hge.1
      have hgm := hge.2
      have htl : tb < wr.heap.size := by
        obtain ⟨cs, h1, _⟩ := hT
        exact (Array.getElem?_eq_some_iff.1 h1).1
      have hml := hO.lt
      have hsz := hb.size
      go_wp2_with (at_range; refine wpList_range_own _ rfl _ 71 rfl 3 3 law3 Try.underlying71 _ mb p D rfl hO ?_; intro w3 hrg3 hg3 hs3)
      go_frame
      obtain ⟨rb, hrb⟩ : ∃ rb, rb = wr.heap.size := ⟨_, rfl⟩
      have hT3 := hT.grown (hg3.but (some rb)) (by omega)
      have hb3 : Below w.heap.size w w3 := hb.grown hg3 hb.size (fun k hk => by cases hk)
      rw [← hrb] at hrg3 htl hml hsz
      rw [← hrb]
      clear hrb
      clear hO hT
      have HOp := Lib.hid hOp
      clear hOp
      go_loopw [11, 12, 13, 14] (fun v11 v12 v13 v14 wr => ∃ (left : Lit → Bool) (cnt : Nat) (u : Nat → Bool) (m : Nat → Int), wr.ranges Try.prog 3 (plainElem Try.prog 3) mb rb p D left cnt ∧ Tbl wr tb u m ∧ (∀ z, left z = true → Maps.has D z = true) ∧ (∀ j : Nat, j < 6 → u j = left (.int .i64 ((j : Int) + 1))) ∧ (∀ j, j < 6 → u j = true → m j = xs.getD j 0) ∧ Below w.heap.size w wr) (fun _ _ _ _ wr => wr.rangeLeft mb rb)
      case atStart =>
        refine ⟨_, _, _, _, hrg3, hT3, fun z hz => hz, fun j hj => ?_, fun j hj hu => ?_, hb3⟩
        · by_cases e : j < p
          · rw [HOp.out.2.2.2 j e]; simpa using e
          · cases hh : Maps.has D (.int .i64 ((j : Int) + 1)) with
            | false => simpa using e
            | true =>
              obtain ⟨i, hi, he⟩ := HOp.out.2.1 _ hh
              injection he with _ e2
              omega
        · have : j < p := by simpa using hu
          exact if_pos this
      case round =>
        obtain ⟨left, cnt, u, m, hrg, hT, hlh, hul, hm, hbl⟩ := hrel
        have HLH := Lib.hid hlh
        have HUL := Lib.hid hul
        have HM := Lib.hid hm
        clear hlh hul hm hrg3 hT3 hb3
        go_wp2_with (at_next; refine wpList_next_ranges_ii _ rfl _ rfl 3 3 .i64 .i64 law3 Try.underlying3 Try.underlying3 mb rb p _ _ _ rfl hrg ?_ ?_)
        · intro hc0 hl0
          have HL0 := Lib.hid hl0
          clear hl0 hc0
          have hu0 : ∀ j, j < 6 → u j = false := fun j hj => by rw [HUL.out j hj]; exact HL0.out _
          have HU0 := Lib.hid hu0
          clear hu0
          obtain ⟨wo, hwo⟩ : ∃ wo : World, wo = wr := ⟨_, rfl⟩
          go_wp2
          rw [← hwo] at hT hbl
          rw [← hwo]
          clear hwo hrg
          go_loopw [16, 103] (fun v i wr => ∃ q : Nat, q ≤ k ∧ i = .int .i64 q ∧ Tbl wr tb u m ∧ Below w.heap.size w wr) (fun _ i _ => k - (intOf i).toNat)
          case atStart => exact ⟨0, Nat.zero_le _, rfl, hT, hbl⟩
          case round =>
            obtain ⟨q, hq, rfl, hTq, hbq⟩ := hrel
            clear hT hbl
            by_cases hlt : q < k
            · obtain ⟨a, rfl, hc⟩ := (hX.below hbq).at.map q (by rw [← HN.out]; exact hlt)
              obtain ⟨x, hx⟩ : ∃ x, x = xs[q]'(by rw [← HN.out]; exact hlt) := ⟨_, rfl⟩
              rw [← hx] at hc
              clear hx
              have hSk : Seeks u m x 6 := by
                refine ⟨by omega, fun j hj h => ?_, fun h => by omega⟩
                rw [HU0.out j hj] at h
                cases h.1
              have HS := Lib.hid (uses_any tb u m x 6 wr hTq hSk)
              clear hSk
              rw [show decide (6 < 6) = false from rfl] at HS
              go_wp2_with (go_at_call 40; refine HS.out.mono ?_; rintro e w5 ⟨rfl, hb5⟩; have hT5 := hTq.below hb5; have hb6 := hbq.trans (hb5.mono hbq.size))
              go_roundw
              case rel => exact ⟨q + 1, by omega, by go_num, hT5, hb6⟩
              case measure => simp [intOf]; omega
            · obtain rfl : q = k := by omega
              go_wp2
              go_ret
              exact ⟨rfl, hbq⟩
        · intro x c w4 cnt1 hwx hwc hlx hat hrg1 hlt hg1 hs1 hen
          obtain ⟨j, hj, hxj⟩ := HOp.out.2.1 _ (HLH.out _ hlx)
          injection hxj with _ hxj
          subst hxj
          have hj6 : j < 6 := by have := HP.out; omega
          have huj : u j = true := by rw [HUL.out j hj6]; exact hlx
          have hcm : c = m j := by
            have h1 := hat (.lit (.int .i64 0))
            rw [HOp.out.2.2.1 j hj] at h1
            rw [HM.out j hj6 huj, lit_inj h1]
          have hTw := hT.grown hg1 (by omega)
          have hbw := hbl.grown hg1 hbl.size (fun k hk => by injection hk with hk; omega)
          have HG := Lib.hid (get_some tb u m j w4 hTw hj6 huj)
          have HC := Lib.hid (close_some tb u m j w4 hTw hj6 huj)
          have HD := Lib.hid (fun W hT => close_none tb (put u j false) (put m j 0) ((j : Int) + 1) W hT (.inr (.inr ⟨j, hj6, rfl, by simp [put]⟩)))
          rw [← hcm] at HG
          have tok : True := trivial
          have HLX := Lib.hid hlx
          have HUJ := Lib.hid huj
          clear hcm hwx hwc hlx hat huj hT hbl
          go_wp2_with (first
            | (go_at_call 38; refine HG.out.mono ?_; rintro e w5 ⟨rfl, rfl⟩)
            | (go_at_call 34; have _t := tok; refine HC.out.mono ?_; clear tok _t; rintro e w5 ⟨rfl, hT5, hg5⟩; have hrg5 := hrg1.kept hg5 (by simpa using (Ne.symm HNE.out)) (by simp; omega); have hb5 := hbw.grown hg5 hbw.size (fun k hk => by injection hk with hk; omega))
            | (go_at_call 34; refine (HD.out _ hT5).mono ?_; rintro e w6 ⟨rfl, rfl⟩))
          go_roundw
          case rel =>
            refine ⟨_, _, _, _, hrg5, hT5, fun z hz => ?_, fun i hi => ?_, fun i hi hu => ?_, hb5⟩
            · simp at hz; exact HLH.out z hz.1
            · show (if i = j then false else u i) = _
              by_cases e : i = j
              · rw [if_pos e, e, WideAt.sameKey_self (show WideAt.IsKeyLit (.int .i64 ((j : Int) + 1)) from trivial)]
                simp
              · rw [if_neg e, sameKey_ne (by intro e2; injection e2 with _ e3; omega), HUL.out i hi]
                simp
            · have hu' : (if i = j then false else u i) = true := hu
              show (if i = j then 0 else m i) = _
              by_cases e : i = j
              · rw [if_pos e] at hu'; cases hu'
              · rw [if_neg e] at hu'
                rw [if_neg e]
                exact HM.out i hi hu'
          case measure => rw [hrg5.left_eq, hrg.left_eq]; omega
end Go.Proofs.YtcknoadoeonbjaaK
