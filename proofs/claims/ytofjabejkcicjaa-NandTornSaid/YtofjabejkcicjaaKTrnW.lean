import Derived.Test.YtofjabejkcicjaaKTrn
import Derived.Deep.RegionHeld3
namespace Go.Proofs.YtofjabejkcicjaaK
open Go.RowKit
set_option linter.unusedSimpArgs false
set_option linter.unusedVariables false
/-! NandTorn. -/
theorem run_index_arr {P : Program} {t e : TypeId} {n k : Nat} {cs : Array Value} {v : Value} {w : World} {i : TypeInfo} (hu : P.underlying t = some (.array n e)) (he : P.underlying e = some (.int .u8)) (hi : P.info? e = some i) (hs : i.size = 1) (hk : k < n) (hget : cs[k]? = some v) :
    (Instr.index t (.agg cs) (.int .i64 (k : Int))).run P w = .ok v w := by
  have h1 : ((k : Int) < (n : Int)) := by omega
  have h2 : ¬ n ≤ k := by omega
  simp [Instr.index, h2, asIntOf, Sem.run_bind, run_underlying hu, h1, Result.andThen, sizeOf, typeInfo, hi, hs, part, isAgg, run_underlying he, hget]
/-- A page in a variable: it is read whole, and three of its bytes alone. -/
def S4 (x1 : Nat) (X : List Value) (v0 v1 v2 : Value) (w : World) : Prop := w.rangeAt x1 0 X ∧ w.cell? ⟨x1, 0, none⟩ = some v0 ∧ w.cell? ⟨x1, 100, none⟩ = some v1 ∧ w.cell? ⟨x1, 257, none⟩ = some v2
theorem S4.chg {x1 : Nat} {X : List Value} {v0 v1 v2 : Value} {w w' : World} {S : List Nat} (h : S4 x1 X v0 v1 v2 w) (g : Chg S w w') (hn : x1 ∉ S) : S4 x1 X v0 v1 v2 w' :=
  ⟨range_chg h.1 g hn, g.cell h.2.1 hn, g.cell h.2.2.1 hn, g.cell h.2.2.2 hn⟩
theorem S4.below {x1 : Nat} {X : List Value} {v0 v1 v2 : Value} {w w' : World} (h : S4 x1 X v0 v1 v2 w) (hb : Below w.heap.size w w') : S4 x1 X v0 v1 v2 w' := h.chg (S := []) (Chg.ofBelow hb) (by simp)
set_option maxRecDepth 100000 in
set_option maxHeartbeats 20000000 in
theorem nandTorn_walk (b : UInt8) (keep : Int) (er : Bool) (w : World) :
    Calls Try.prog 6 #[encB b, .int .i64 keep, .bool er] w fun e w' => e = .returned (.bool true) ∧ Below w.heap.size w w' := by
  have HPG := Lib.hid (fun w => page_any b w)
  have hb0 : encB b = .int .u8 (b.toNat : Int) := rfl
  rw [hb0] at HPG ⊢
  clear hb0
  have HN := Lib.hid (fun (w1 : World) (pb : Nat) => new_any pb 16 (.slice none 0 0) [] [] w1 (by omega) (by omega) (Ints.nil _ _ _ _) rfl)
  obtain ⟨F, hF⟩ : ∃ F, F = pgF b := ⟨_, rfl⟩
  rw [← hF] at HPG
  clear hF
  obtain ⟨L, hL⟩ : ∃ L, L = pgL F := ⟨_, rfl⟩
  go_enter Try.func6, Try.ntmps6
  go_upto_region 3 with (go_at_call 9; refine (nand_speaks _).mono ?_; rintro e w1 ⟨rfl, hb1⟩)
  obtain ⟨pb, hpb⟩ : ∃ pb, pb = w1.heap.size := ⟨_, rfl⟩
  have HNP := Lib.hid (newPower_any w1)
  rw [← hpb] at HNP
  have HPB := Lib.hid hpb
  clear hpb
  go_upto_region 4 with (first
    | (go_at_call 10; refine HNP.out.mono ?_; rintro e w2 ⟨rfl, hp2, hb2⟩)
    | (go_at_call 11; refine (HN.out w2 pb).mono ?_; rintro e w3 ⟨rfl, hb3, hc3⟩))
  have hl2 : pb < w2.heap.size := (Array.getElem?_eq_some_iff.1 hp2).1
  have hg2 : w.heap.size ≤ pb := by rw [HPB.out]; exact hb1.size
  have hb02 := hb1.trans (hb2.mono hg2)
  have ho := one_new hb02 pb pw0 (newC 16 []) hg2 hl2 (PwW.below (P := pw0) hp2 hb3) hc3 hb3
  obtain ⟨cb, hcb⟩ : ∃ cb, cb = w2.heap.size + 1 := ⟨_, rfl⟩
  obtain ⟨rb, hrb⟩ : ∃ rb, rb = w2.heap.size := ⟨_, rfl⟩
  rw [← hcb, ← hrb] at ho
  simp only [← hcb]
  have HO := Lib.hid ho
  have HPR := Lib.hid (fun w4 (h : One w w4 pb cb rb pw0 (newC 16 [])) => (by
    have h1 := one_prog 2 0 F h (ok_new 16 [])
    obtain ⟨e1, e2, e3⟩ := torn_new F
    rw [e1, e2, ← hL] at h1
    exact h1.mono (fun e w' h3 => ⟨h3.1, _, h3.2, e3⟩) : Calls Try.prog 13 #[.pointer (some ⟨cb, 0, none⟩),   .int .i64 2, .int .i64 0, .agg L.toArray] w4 fun e w' => e = .returned (.int .i64 0) ∧ ∃ c, One w w' pb cb rb pw0 c ∧ TI F c))
  rw [← hL] at HPG
  have HLF := Lib.hid hL
  have hLl : L.length = 258 := by rw [hL]; exact pgL_len _
  obtain ⟨Z, hZ⟩ : ∃ Z : List Value, Z = pgL (fun _ => 0) := ⟨_, rfl⟩
  have hz := page_zero
  rw [← hZ] at hz
  have hZl : Z.length = 258 := by rw [hZ]; exact pgL_len _
  have HIL := Lib.hid (show (Try.prog.info? 34).map (·.size) = some L.length by rw [hLl]; exact page_info)
  have HIA := Lib.hid (show (Try.prog.info? 34).map (·.size) = some L.toArray.size by rw [List.size_toArray, hLl]; exact page_info)
  have HIZ := Lib.hid (show (Try.prog.info? 34).map (·.size) = some Z.toArray.size by rw [List.size_toArray, hZl]; exact page_info)
  have H1A := Lib.hid (show L.toArray.all (·.oneCell') = true by rw [hL]; exact pgL_one _)
  have H1Z := Lib.hid (show Z.toArray.all (·.oneCell') = true by rw [hZ]; exact pgL_one _)
  have HLZ := Lib.hid (show L.toArray.size = Z.length by simp [hLl, hZl])
  have HZZ := Lib.hid (show Z.toArray.size = Z.length by simp)
  have HZE := Lib.hid hZ
  have heq : ∀ w9, (Op.equalIn 10000 34 (.agg L.toArray) (.agg L.toArray)).run Try.prog w9 = .ok true w9 := fun w9 => by rw [hL]; exact pg_self F w9
  clear hcb hrb ho hb3 hc3 hb02 hp2 hl2 hg2 HN HNP hb1 hb2 hL hLl hZ hZl
  go_upto_region 6 with (first
    | (go_at_call 14; refine (HPG.out _).mono ?_; rintro e w4 ⟨rfl, hb4⟩; have HO4 := Lib.hid (HO.out.below hb4); clear hb4 HO)
    | (go_at_call 13; refine (HPR.out _ HO4.out).mono ?_; rintro e w5 ⟨rfl, c, hO5, hI5⟩; clear HPR))
  have HI := Lib.hid hI5
  clear hI5 HO4
  have hI5 := HI.out
  clear HI
  have k0 := hO5.cell0
  have HCT := Lib.hid (one_cut 0 keep hO5)
  clear hO5
  go_upto_region 7 with (go_at_call 17; refine HCT.out.mono ?_; rintro e w6 ⟨⟨u, rfl⟩, hO6⟩)
  have hO6' : One w w6 pb cb rb ⟨false, 0, keep⟩ c := hO6
  have HO6 := Lib.hid hO6'
  clear hO6 hO6' k0 HCT
  rcases er with _ | _
  rotate_left
  · obtain ⟨c2, hc2⟩ : ∃ c2, c2 = eraC ⟨false, 0, keep⟩ c 2 := ⟨_, rfl⟩
    have hE := hI5.era keep
    rw [← hc2] at hE
    obtain ⟨e1, e2, e3, e4⟩ := hE
    have HER := Lib.hid (by
      have h1 := one_era 2 HO6.out (hI5.okays _ (by simp) (by simp))
      rw [e1, e2, ← hc2] at h1
      exact h1 : Calls Try.prog 19 #[.pointer (some ⟨cb, 0, none⟩), .int .i64 2] w6 fun e w' => e = .returned (.int .i64 30) ∧ One w w' pb cb rb ⟨true, -1, keep⟩ c2)
    have HON := Lib.hid (fun w7 (h : One w w7 pb cb rb ⟨true, -1, keep⟩ c2) => (by have h1 := one_on h; exact h1 : Calls Try.prog 20 #[.pointer (some ⟨pb, 0, none⟩)] w7 fun e w' => (∃ u, e = .returned u) ∧ One w w' pb cb rb ⟨false, -1, keep⟩ c2))
    obtain ⟨P1, hP1⟩ : ∃ P1, P1 = (⟨false, -1, keep⟩ : Pw) := ⟨_, rfl⟩
    have hm : mayC P1 c2 2 0 = 0 := by rw [hP1]; exact e3.may keep 0 (by omega) (by omega)
    have o1 := e3.order keep 1 (by omega) (by omega) (by omega) F
    have o0 := e3.order keep 0 (by omega) (by omega) (by omega) F
    have ok1 := e3.k P1 (by rw [hP1]; simp) (by rw [hP1]; simp)
    rw [← hP1] at HON o1 o0
    have HP1 := Lib.hid (fun w7 (h : One w w7 pb cb rb P1 c2) => (by
      have h1 := one_progG 2 1 F h ok1
      rw [o1.1, o1.2.1, o1.2.2, ← HLF.out] at h1
      exact h1 : Calls Try.prog 13 #[.pointer (some ⟨cb, 0, none⟩), .int .i64 2, .int .i64 1, .agg L.toArray] w7 fun e w' => e = .returned (.int .i64 32) ∧ One w w' pb cb rb P1 c2 ∧ Chg [pb, cb, rb] w7 w'))
    have HP0 := Lib.hid (fun w7 (h : One w w7 pb cb rb P1 c2) => (by
      have h1 := one_progG 2 0 F h ok1
      rw [o0.1, o0.2.1, o0.2.2, ← HLF.out] at h1
      exact h1 : Calls Try.prog 13 #[.pointer (some ⟨cb, 0, none⟩), .int .i64 2, .int .i64 0, .agg L.toArray] w7 fun e w' => e = .returned (.int .i64 32) ∧ One w w' pb cb rb P1 c2 ∧ Chg [pb, cb, rb] w7 w'))
    obtain ⟨X, hX⟩ : ∃ X, X = pgL (readD P1 c2 2 0) := ⟨_, rfl⟩
    have HRD := Lib.hid (fun w7 (h : One w w7 pb cb rb P1 c2) => (by
      have h1 := one_read 2 0 h
      rw [hm, ← hX] at h1
      exact h1.mono (fun e w' h3 => ⟨h3.1, h.below h3.2⟩) : Calls Try.prog 21 #[.pointer (some ⟨cb, 0, none⟩), .int .i64 2, .int .i64 0] w7 fun e w' => e = .returned (.tuple #[.agg X.toArray, .int .i64 0]) ∧ One w w' pb cb rb P1 c2))
    have hXl : X.length = 258 := by rw [hX]; exact pgL_len _
    have HXL := Lib.hid (show (Try.prog.info? 34).map (·.size) = some X.length by rw [hXl]; exact page_info)
    have HXA := Lib.hid (show (Try.prog.info? 34).map (·.size) = some X.toArray.size by rw [List.size_toArray, hXl]; exact page_info)
    have H1X := Lib.hid (show X.toArray.all (·.oneCell') = true by rw [hX]; exact pgL_one _)
    have HXZ := Lib.hid (show X.toArray.size = Z.length by
      have h := HLZ.out
      rw [List.size_toArray] at h ⊢
      rw [← h, hXl, HLF.out, pgL_len])
    have HXE := Lib.hid (show X = pgL F ∨ X = pgL (fun _ => 255) by
      rw [hX]
      unfold readD
      rw [if_pos hm]
      rcases e4 with e4 | e4
      · exact .inl (pgL_congr e4)
      · exact .inr (pgL_congr e4))
    have k0 := HO6.out.cell0
    clear hc2 e1 e2 e3 e4 hP1 hm o1 o0 ok1 hX hXl hI5
    go_upto_region 10 with (go_at_call 19; refine HER.out.mono ?_; rintro e w7 ⟨rfl, hO7⟩; have HO7 := Lib.hid hO7; have k7 := hO7.cell0; clear hO7)
    go_upto_region 12 with (first
      | (go_at_call 20; refine (HON.out _ HO7.out).mono ?_; rintro e w8 ⟨⟨u8, rfl⟩, hO8⟩; have HO8 := Lib.hid hO8; clear hO8)
      | (go_at_call 21; refine (HRD.out _ HO8.out).mono ?_; rintro e w9 ⟨rfl, hO9⟩; have HO9 := Lib.hid hO9; clear hO9; have hA9 := arr_newL w9 Z 34)
      | (refine wpList_store_mid rfl 34 _ _ rfl w9.heap.size 0 X.toArray rfl rfl (hA9.thereA HXZ.out) HXA.out H1X.out ?_))
    obtain ⟨x1, hx1⟩ : ∃ x1, x1 = w9.heap.size := ⟨_, rfl⟩
    obtain ⟨W9, hW9⟩ : ∃ W9, W9 = (w9.alloc (.cells Z.toArray 34)).setCells w9.heap.size 0 X.toArray.toList := ⟨_, rfl⟩
    have hA10 : Arr W9 x1 X := by rw [hW9, hx1]; have := hA9.setA_same HXZ.out; simpa using this
    have HO10 := Lib.hid (show One w W9 pb cb rb P1 c2 from HO9.out.below (by rw [hW9]; exact below_setCells (Nat.le_refl _) _ 0 ((Below.refl _ _).alloc (Nat.le_refl _) _)))
    have hn1 : x1 ∉ [pb, cb, rb] := fun hm => by have := HO9.out.lt x1 hm; omega
    have HN1 := Lib.hid hn1
    have HXX : Hid (∃ v0 v1 v2, S4 x1 X v0 v1 v2 W9 ∧ (X = pgL F ∨ (X = pgL (fun _ => 255) ∧ v0 = .int .u8 255 ∧ v1 = .int .u8 255 ∧ v2 = .int .u8 255))) := Lib.hid (by
      rcases HXE.out with h | h
      · exact ⟨_, _, _, ⟨hA10.1, hA10.at_ 0 _ (by rw [h]; exact pgL_at F 0 (by omega)), hA10.at_ 100 _ (by rw [h]; exact pgL_at F 100 (by omega)), hA10.at_ 257 _ (by rw [h]; exact pgL_at F 257 (by omega))⟩, .inl h⟩
      · exact ⟨_, _, _, ⟨hA10.1, hA10.at_ 0 _ (by rw [h]; exact pgL_at _ 0 (by omega)), hA10.at_ 100 _ (by rw [h]; exact pgL_at _ 100 (by omega)), hA10.at_ 257 _ (by rw [h]; exact pgL_at _ 257 (by omega))⟩, .inr ⟨h, rfl, rfl, rfl⟩⟩)
    rw [← hW9]
    simp only [← hx1]
    clear hW9 hx1 hA9 HO9 HO7 HO8 hz hA10 hn1 HXE k0 k7 heq HON HRD HER
    have hu := Try.underlying34
    have hiX := HXL.out
    obtain ⟨v0, v1, v2, hS, hcase⟩ := HXX.out
    have HS0 := Lib.hid (hS.below (Below.refl _ _).drew)
    have HD0 := Lib.hid HO10.out.drew
    clear hS HXX
    have HQ : Hid (∃ q : Bool, (∀ w9, (Op.equalIn 10000 34 (.agg X.toArray) (.agg L.toArray)).run Try.prog w9 = .ok q w9) ∧ (q = false → v0 = .int .u8 255 ∧ v1 = .int .u8 255 ∧ v2 = .int .u8 255)) := Lib.hid (by
      rcases hcase with hXF | ⟨hXF, h1, h2, h3⟩
      · exact ⟨true, fun w9 => by rw [HLF.out, hXF]; exact pg_self F w9, fun e => by cases e⟩
      · exact ⟨_, fun w9 => by rw [HLF.out, hXF]; exact pg_eql _ F w9, fun _ => ⟨h1, h2, h3⟩⟩)
    clear hcase
    obtain ⟨q, heq, hv⟩ := HQ.out
    clear HQ
    rcases q with _ | _
    · obtain ⟨rfl, rfl, rfl⟩ := hv rfl
      clear hv
      go_wp2_with fail
      go_region_held3 (fun w' => w'.rangeAt x1 0 X ∧ w'.cell? ⟨x1, 0, none⟩ = some (.int .u8 255) ∧ w'.cell? ⟨x1, 100, none⟩ = some (.int .u8 255) ∧ w'.cell? ⟨x1, 257, none⟩ = some (.int .u8 255)) (first | exact HS5.out | exact HS4.out | exact HS3.out | exact HS2.out | exact HS1.out | exact HS0.out)
        (first
          | (go_at_call 14; refine (HPG.out _).mono ?_; rintro e wA ⟨rfl, hbx⟩; have HS1 := Lib.hid (HS0.out.below hbx); have HD1 := Lib.hid (HD0.out.below hbx); clear hbx HS0 HD0)
          | (go_at_call 14; refine (HPG.out _).mono ?_; rintro e wB ⟨rfl, hbx⟩; have HS2 := Lib.hid (HS1.out.below hbx); have HD2 := Lib.hid (HD1.out.below hbx); clear hbx HS1 HD1)
          | (go_at_call 13; refine (HP1.out _ HD2.out).mono ?_; rintro e wC ⟨rfl, hOx, hgx⟩; have HS3 := Lib.hid (HS2.out.chg hgx HN1.out); have HD3 := Lib.hid hOx; clear hgx hOx HS2 HD2 HP1)
          | (go_at_call 14; refine (HPG.out _).mono ?_; rintro e wD ⟨rfl, hbx⟩; have HS4 := Lib.hid (HS3.out.below hbx); have HD4 := Lib.hid (HD3.out.below hbx); clear hbx HS3 HD3)
          | (go_at_call 13; refine (HP0.out _ HD4.out).mono ?_; rintro e wE ⟨rfl, hOx, hgx⟩; have HS5 := Lib.hid (HS4.out.chg hgx HN1.out); have HD5 := Lib.hid hOx; clear hgx hOx HS4 HD4 HP0))
      go_wp2_with fail
      go_ret
      exact ⟨rfl, HD5.out.b⟩
    · clear hv
      -- REGTRUE
      go_wp2_with fail
      refine wp_region_held_drew (S := (fun w' => w'.rangeAt x1 0 X ∧ w'.cell? ⟨x1, 0, none⟩ = some v0 ∧ w'.cell? ⟨x1, 100, none⟩ = some v1 ∧ w'.cell? ⟨x1, 257, none⟩ = some v2)) (by kernel_rfl) HS0.out (fun hH0 => ?_)
      refine' wpAnyH_take (i := 0) (oi := ({ dst := some 53, op := Op.move (Operand.tmp 10), type := 27, pos := "law.go:240", after := #[], guard := none } : Oper)) (v := (.int .i64 0)) rfl (by kernel_rfl) (by kernel_rfl) (by kernel_rfl) (fun _ _ _ h => h) (Or.inl ⟨by rfl, fun w hSw => by first | (go_simp; done) | (go_simp; with_reducible rfl)⟩) hH0 ?_
      try simp only [Act.put, List.setIfInBounds_toArray, List.set_cons_zero, List.set_cons_succ]
      refine' wpAnyH_take (i := 1) (oi := ({ dst := some 54, op := Op.binOp BinOp.eql 27 (Operand.tmp 53) (Operand.const (Value.int IntKind.i64 0)) 27, type := 4, pos := "law.go:240", after := #[{ on := 0, ground := Ground.data }], guard := none } : Oper)) (v := (.bool true)) rfl (by kernel_rfl) (by kernel_rfl) (by kernel_rfl) (fun _ _ _ h => h) (Or.inl ⟨by rfl, fun w hSw => by first | (go_simp; done) | (go_simp; with_reducible rfl)⟩) hH0 ?_
      try simp only [Act.put, List.setIfInBounds_toArray, List.set_cons_zero, List.set_cons_succ]
      refine' wpAnyH_take (i := 2) (oi := ({ dst := some 55, op := Op.move (Operand.tmp 54), type := 4, pos := "law.go:240", after := #[{ on := 1, ground := Ground.data }], guard := none } : Oper)) (v := (.bool true)) rfl (by kernel_rfl) (by kernel_rfl) (by kernel_rfl) (fun _ _ _ h => h) (Or.inl ⟨by rfl, fun w hSw => by first | (go_simp; done) | (go_simp; with_reducible rfl)⟩) hH0 ?_
      try simp only [Act.put, List.setIfInBounds_toArray, List.set_cons_zero, List.set_cons_succ]
      refine' wpAnyH_take (i := 3) (oi := ({ dst := some 56, op := Op.load 34 (Operand.tmp 9), type := 34, pos := "law.go:240", after := #[{ on := 2, ground := Ground.guard }], guard := some (2, true) } : Oper)) (v := _) rfl (by kernel_rfl) (by kernel_rfl) (by kernel_rfl) (fun _ _ _ h => h) (yieldsIf_load_mid (by rfl) _ _ rfl _ _ rfl _ _ (fun w h => h.1) hu (by rfl) hiX) hH0 ?_
      try simp only [Act.put, List.setIfInBounds_toArray, List.set_cons_zero, List.set_cons_succ]
      refine' wpAnyH_take (i := 4) (oi := ({ dst := some 57, op := Op.move (Operand.tmp 0), type := 5, pos := "law.go:240", after := #[{ on := 2, ground := Ground.guard }], guard := some (2, true) } : Oper)) (v := (.int .u8 (b.toNat : Int))) rfl (by kernel_rfl) (by kernel_rfl) (by kernel_rfl) (fun _ _ _ h => h) (Or.inl ⟨by rfl, fun w hSw => by first | (go_simp; done) | (go_simp; with_reducible rfl)⟩) hH0 ?_
      try simp only [Act.put, List.setIfInBounds_toArray, List.set_cons_zero, List.set_cons_succ]
      refine wpAnyH_ready (rs := [5]) (by kernel_rfl) (by simp) ?_
      refine AllReadyH.cons (o := ({ dst := some 58, op := Op.call { callee := Callee.value (Operand.func 14), args := #[Operand.tmp 57], argTypes := #[5] }, type := 34, pos := "law.go:240", after := #[{ on := 4, ground := Ground.data }, { on := 2, ground := Ground.chain }, { on := 2, ground := Ground.guard }], guard := some (2, true) } : Oper)) rfl (fun Kk hKk => ?_) AllReadyH.nil
      go_simp
      go_at_call 14
      refine (HPG.out _).mono ?_
      rintro e wA ⟨rfl, hbx⟩
      have HS1 := Lib.hid (HS0.out.below hbx)
      have HD1 := Lib.hid (HD0.out.below hbx)
      clear hbx HS0 HD0
      refine hKk.out _ _ HS1.out (fun hH1 => ?_)
      clear hKk Kk
      try simp only [Act.put, List.setIfInBounds_toArray, List.set_cons_zero, List.set_cons_succ]
      refine' wpAnyH_take (i := 6) (oi := ({ dst := some 59, op := Op.binOp BinOp.eql 34 (Operand.tmp 56) (Operand.tmp 58) 34, type := 4, pos := "law.go:240", after := #[{ on := 3, ground := Ground.data }, { on := 5, ground := Ground.data }, { on := 2, ground := Ground.guard }], guard := some (2, true) } : Oper)) (v := (.bool true)) rfl (by kernel_rfl) (by kernel_rfl) (by kernel_rfl) (fun _ _ _ h => h) (Or.inl ⟨by rfl, fun w hSw => by first | (go_simp; done) | (go_simp; with_reducible rfl)⟩) hH1 ?_
      try simp only [Act.put, List.setIfInBounds_toArray, List.set_cons_zero, List.set_cons_succ]
      refine' wpAnyH_take (i := 7) (oi := ({ dst := some 60, op := Op.move (Operand.tmp 59), type := 4, pos := "law.go:240", after := #[{ on := 6, ground := Ground.data }, { on := 5, ground := Ground.chain }, { on := 2, ground := Ground.guard }], guard := some (2, true) } : Oper)) (v := (.bool true)) rfl (by kernel_rfl) (by kernel_rfl) (by kernel_rfl) (fun _ _ _ h => h) (Or.inl ⟨by rfl, fun w hSw => by first | (go_simp; done) | (go_simp; with_reducible rfl)⟩) hH1 ?_
      try simp only [Act.put, List.setIfInBounds_toArray, List.set_cons_zero, List.set_cons_succ]
      refine' wpAnyH_take (i := 8) (oi := ({ dst := some 61, op := Op.indexAddr 34 (Operand.tmp 9) (Operand.const (Value.int IntKind.i64 0)), type := 0, pos := "law.go:240", after := #[{ on := 7, ground := Ground.guard }], guard := some (7, false) } : Oper)) (v := undef) rfl (by kernel_rfl) (by kernel_rfl) (by kernel_rfl) (fun _ _ _ h => h) (Or.inr ⟨by rfl, rfl⟩) hH1 ?_
      try simp only [Act.put, List.setIfInBounds_toArray, List.set_cons_zero, List.set_cons_succ]
      refine' wpAnyH_take (i := 9) (oi := ({ dst := some 62, op := Op.load 5 (Operand.tmp 61), type := 5, pos := "law.go:240", after := #[{ on := 8, ground := Ground.data }, { on := 7, ground := Ground.guard }], guard := some (7, false) } : Oper)) (v := undef) rfl (by kernel_rfl) (by kernel_rfl) (by kernel_rfl) (fun _ _ _ h => h) (Or.inr ⟨by rfl, rfl⟩) hH1 ?_
      try simp only [Act.put, List.setIfInBounds_toArray, List.set_cons_zero, List.set_cons_succ]
      refine' wpAnyH_take (i := 10) (oi := ({ dst := some 63, op := Op.binOp BinOp.eql 5 (Operand.tmp 62) (Operand.const (Value.int IntKind.u8 255)) 5, type := 4, pos := "law.go:240", after := #[{ on := 9, ground := Ground.data }, { on := 7, ground := Ground.guard }], guard := some (7, false) } : Oper)) (v := undef) rfl (by kernel_rfl) (by kernel_rfl) (by kernel_rfl) (fun _ _ _ h => h) (Or.inr ⟨by rfl, rfl⟩) hH1 ?_
      try simp only [Act.put, List.setIfInBounds_toArray, List.set_cons_zero, List.set_cons_succ]
      refine' wpAnyH_take (i := 11) (oi := ({ dst := some 64, op := Op.move (Operand.tmp 63), type := 4, pos := "law.go:240", after := #[{ on := 10, ground := Ground.data }, { on := 7, ground := Ground.chain }, { on := 7, ground := Ground.guard }], guard := some (7, false) } : Oper)) (v := undef) rfl (by kernel_rfl) (by kernel_rfl) (by kernel_rfl) (fun _ _ _ h => h) (Or.inr ⟨by rfl, rfl⟩) hH1 ?_
      try simp only [Act.put, List.setIfInBounds_toArray, List.set_cons_zero, List.set_cons_succ]
      refine' wpAnyH_take (i := 12) (oi := ({ dst := some 65, op := Op.indexAddr 34 (Operand.tmp 9) (Operand.const (Value.int IntKind.i64 100)), type := 0, pos := "law.go:240", after := #[{ on := 11, ground := Ground.guard }], guard := some (11, true) } : Oper)) (v := undef) rfl (by kernel_rfl) (by kernel_rfl) (by kernel_rfl) (fun _ _ _ h => h) (Or.inr ⟨by rfl, rfl⟩) hH1 ?_
      try simp only [Act.put, List.setIfInBounds_toArray, List.set_cons_zero, List.set_cons_succ]
      refine' wpAnyH_take (i := 13) (oi := ({ dst := some 66, op := Op.load 5 (Operand.tmp 65), type := 5, pos := "law.go:240", after := #[{ on := 12, ground := Ground.data }, { on := 11, ground := Ground.guard }], guard := some (11, true) } : Oper)) (v := undef) rfl (by kernel_rfl) (by kernel_rfl) (by kernel_rfl) (fun _ _ _ h => h) (Or.inr ⟨by rfl, rfl⟩) hH1 ?_
      try simp only [Act.put, List.setIfInBounds_toArray, List.set_cons_zero, List.set_cons_succ]
      refine' wpAnyH_take (i := 14) (oi := ({ dst := some 67, op := Op.binOp BinOp.eql 5 (Operand.tmp 66) (Operand.const (Value.int IntKind.u8 255)) 5, type := 4, pos := "law.go:240", after := #[{ on := 13, ground := Ground.data }, { on := 11, ground := Ground.guard }], guard := some (11, true) } : Oper)) (v := undef) rfl (by kernel_rfl) (by kernel_rfl) (by kernel_rfl) (fun _ _ _ h => h) (Or.inr ⟨by rfl, rfl⟩) hH1 ?_
      try simp only [Act.put, List.setIfInBounds_toArray, List.set_cons_zero, List.set_cons_succ]
      refine' wpAnyH_take (i := 15) (oi := ({ dst := some 68, op := Op.pick (Operand.tmp 64) (Operand.tmp 67) (Operand.const (Value.bool false)), type := 4, pos := "law.go:240", after := #[{ on := 11, ground := Ground.data }, { on := 14, ground := Ground.data }, { on := 7, ground := Ground.guard }], guard := some (7, false) } : Oper)) (v := undef) rfl (by kernel_rfl) (by kernel_rfl) (by kernel_rfl) (fun _ _ _ h => h) (Or.inr ⟨by rfl, rfl⟩) hH1 ?_
      try simp only [Act.put, List.setIfInBounds_toArray, List.set_cons_zero, List.set_cons_succ]
      refine' wpAnyH_take (i := 16) (oi := ({ dst := some 69, op := Op.move (Operand.tmp 68), type := 4, pos := "law.go:240", after := #[{ on := 15, ground := Ground.data }, { on := 11, ground := Ground.chain }, { on := 7, ground := Ground.guard }], guard := some (7, false) } : Oper)) (v := undef) rfl (by kernel_rfl) (by kernel_rfl) (by kernel_rfl) (fun _ _ _ h => h) (Or.inr ⟨by rfl, rfl⟩) hH1 ?_
      try simp only [Act.put, List.setIfInBounds_toArray, List.set_cons_zero, List.set_cons_succ]
      refine' wpAnyH_take (i := 17) (oi := ({ dst := some 70, op := Op.indexAddr 34 (Operand.tmp 9) (Operand.const (Value.int IntKind.i64 257)), type := 0, pos := "law.go:240", after := #[{ on := 16, ground := Ground.guard }], guard := some (16, true) } : Oper)) (v := undef) rfl (by kernel_rfl) (by kernel_rfl) (by kernel_rfl) (fun _ _ _ h => h) (Or.inr ⟨by rfl, rfl⟩) hH1 ?_
      try simp only [Act.put, List.setIfInBounds_toArray, List.set_cons_zero, List.set_cons_succ]
      refine' wpAnyH_take (i := 18) (oi := ({ dst := some 71, op := Op.load 5 (Operand.tmp 70), type := 5, pos := "law.go:240", after := #[{ on := 17, ground := Ground.data }, { on := 16, ground := Ground.guard }], guard := some (16, true) } : Oper)) (v := undef) rfl (by kernel_rfl) (by kernel_rfl) (by kernel_rfl) (fun _ _ _ h => h) (Or.inr ⟨by rfl, rfl⟩) hH1 ?_
      try simp only [Act.put, List.setIfInBounds_toArray, List.set_cons_zero, List.set_cons_succ]
      refine' wpAnyH_take (i := 19) (oi := ({ dst := some 72, op := Op.binOp BinOp.eql 5 (Operand.tmp 71) (Operand.const (Value.int IntKind.u8 255)) 5, type := 4, pos := "law.go:240", after := #[{ on := 18, ground := Ground.data }, { on := 16, ground := Ground.guard }], guard := some (16, true) } : Oper)) (v := undef) rfl (by kernel_rfl) (by kernel_rfl) (by kernel_rfl) (fun _ _ _ h => h) (Or.inr ⟨by rfl, rfl⟩) hH1 ?_
      try simp only [Act.put, List.setIfInBounds_toArray, List.set_cons_zero, List.set_cons_succ]
      refine' wpAnyH_take (i := 20) (oi := ({ dst := some 73, op := Op.pick (Operand.tmp 69) (Operand.tmp 72) (Operand.const (Value.bool false)), type := 4, pos := "law.go:240", after := #[{ on := 16, ground := Ground.data }, { on := 19, ground := Ground.data }, { on := 7, ground := Ground.guard }], guard := some (7, false) } : Oper)) (v := undef) rfl (by kernel_rfl) (by kernel_rfl) (by kernel_rfl) (fun _ _ _ h => h) (Or.inr ⟨by rfl, rfl⟩) hH1 ?_
      try simp only [Act.put, List.setIfInBounds_toArray, List.set_cons_zero, List.set_cons_succ]
      refine' wpAnyH_take (i := 21) (oi := ({ dst := some 74, op := Op.pick (Operand.tmp 60) (Operand.const (Value.bool true)) (Operand.tmp 73), type := 4, pos := "law.go:240", after := #[{ on := 7, ground := Ground.data }, { on := 20, ground := Ground.data }, { on := 2, ground := Ground.guard }], guard := some (2, true) } : Oper)) (v := (.bool true)) rfl (by kernel_rfl) (by kernel_rfl) (by kernel_rfl) (fun _ _ _ h => h) (Or.inl ⟨by rfl, fun w hSw => by first | (go_simp; done) | (go_simp; with_reducible rfl)⟩) hH1 ?_
      try simp only [Act.put, List.setIfInBounds_toArray, List.set_cons_zero, List.set_cons_succ]
      refine' wpAnyH_take (i := 22) (oi := ({ dst := some 75, op := Op.pick (Operand.tmp 55) (Operand.tmp 74) (Operand.const (Value.bool false)), type := 4, pos := "law.go:240", after := #[{ on := 2, ground := Ground.data }, { on := 21, ground := Ground.data }], guard := none } : Oper)) (v := (.bool true)) rfl (by kernel_rfl) (by kernel_rfl) (by kernel_rfl) (fun _ _ _ h => h) (Or.inl ⟨by rfl, fun w hSw => by first | (go_simp; done) | (go_simp; with_reducible rfl)⟩) hH1 ?_
      try simp only [Act.put, List.setIfInBounds_toArray, List.set_cons_zero, List.set_cons_succ]
      refine' wpAnyH_take (i := 23) (oi := ({ dst := some 76, op := Op.move (Operand.tmp 75), type := 4, pos := "law.go:240", after := #[{ on := 22, ground := Ground.data }, { on := 16, ground := Ground.chain }], guard := none } : Oper)) (v := (.bool true)) rfl (by kernel_rfl) (by kernel_rfl) (by kernel_rfl) (fun _ _ _ h => h) (Or.inl ⟨by rfl, fun w hSw => by first | (go_simp; done) | (go_simp; with_reducible rfl)⟩) hH1 ?_
      try simp only [Act.put, List.setIfInBounds_toArray, List.set_cons_zero, List.set_cons_succ]
      refine' wpAnyH_take (i := 24) (oi := ({ dst := some 77, op := Op.move (Operand.tmp 7), type := 26, pos := "law.go:240", after := #[{ on := 23, ground := Ground.guard }], guard := some (23, true) } : Oper)) (v := (.pointer (some ⟨cb, 0, none⟩))) rfl (by kernel_rfl) (by kernel_rfl) (by kernel_rfl) (fun _ _ _ h => h) (Or.inl ⟨by rfl, fun w hSw => by first | (go_simp; done) | (go_simp; with_reducible rfl)⟩) hH1 ?_
      try simp only [Act.put, List.setIfInBounds_toArray, List.set_cons_zero, List.set_cons_succ]
      refine' wpAnyH_take (i := 25) (oi := ({ dst := some 78, op := Op.move (Operand.tmp 0), type := 5, pos := "law.go:240", after := #[{ on := 23, ground := Ground.guard }], guard := some (23, true) } : Oper)) (v := (.int .u8 (b.toNat : Int))) rfl (by kernel_rfl) (by kernel_rfl) (by kernel_rfl) (fun _ _ _ h => h) (Or.inl ⟨by rfl, fun w hSw => by first | (go_simp; done) | (go_simp; with_reducible rfl)⟩) hH1 ?_
      try simp only [Act.put, List.setIfInBounds_toArray, List.set_cons_zero, List.set_cons_succ]
      refine wpAnyH_ready (rs := [26]) (by kernel_rfl) (by simp) ?_
      refine AllReadyH.cons (o := ({ dst := some 79, op := Op.call { callee := Callee.value (Operand.func 14), args := #[Operand.tmp 78], argTypes := #[5] }, type := 34, pos := "law.go:240", after := #[{ on := 25, ground := Ground.data }, { on := 23, ground := Ground.chain }, { on := 23, ground := Ground.guard }], guard := some (23, true) } : Oper)) rfl (fun Kk hKk => ?_) AllReadyH.nil
      go_simp
      go_at_call 14
      refine (HPG.out _).mono ?_
      rintro e wB ⟨rfl, hbx⟩
      have HS2 := Lib.hid (HS1.out.below hbx)
      have HD2 := Lib.hid (HD1.out.below hbx)
      clear hbx HS1 HD1
      refine hKk.out _ _ HS2.out (fun hH2 => ?_)
      clear hKk Kk
      try simp only [Act.put, List.setIfInBounds_toArray, List.set_cons_zero, List.set_cons_succ]
      refine wpAnyH_ready (rs := [27]) (by kernel_rfl) (by simp) ?_
      refine AllReadyH.cons (o := ({ dst := some 80, op := Op.call { callee := Callee.value (Operand.func 13), args := #[Operand.tmp 77, Operand.const (Value.int IntKind.i64 2), Operand.const (Value.int IntKind.i64 1), Operand.tmp 79], argTypes := #[26, 3, 3, 34] }, type := 27, pos := "law.go:240", after := #[{ on := 24, ground := Ground.data }, { on := 26, ground := Ground.data }, { on := 26, ground := Ground.chain }, { on := 23, ground := Ground.guard }], guard := some (23, true) } : Oper)) rfl (fun Kk hKk => ?_) AllReadyH.nil
      go_simp
      go_at_call 13
      refine (HP1.out _ HD2.out).mono ?_
      rintro e wC ⟨rfl, hOx, hgx⟩
      have HS3 := Lib.hid (HS2.out.chg hgx HN1.out)
      have HD3 := Lib.hid hOx
      clear hgx hOx HS2 HD2 HP1
      refine hKk.out _ _ HS3.out (fun hH3 => ?_)
      clear hKk Kk
      try simp only [Act.put, List.setIfInBounds_toArray, List.set_cons_zero, List.set_cons_succ]
      refine' wpAnyH_take (i := 28) (oi := ({ dst := some 81, op := Op.binOp BinOp.eql 27 (Operand.tmp 80) (Operand.const (Value.int IntKind.i64 32)) 27, type := 4, pos := "law.go:240", after := #[{ on := 27, ground := Ground.data }, { on := 23, ground := Ground.guard }], guard := some (23, true) } : Oper)) (v := (.bool true)) rfl (by kernel_rfl) (by kernel_rfl) (by kernel_rfl) (fun _ _ _ h => h) (Or.inl ⟨by rfl, fun w hSw => by first | (go_simp; done) | (go_simp; with_reducible rfl)⟩) hH3 ?_
      try simp only [Act.put, List.setIfInBounds_toArray, List.set_cons_zero, List.set_cons_succ]
      refine' wpAnyH_take (i := 29) (oi := ({ dst := some 82, op := Op.pick (Operand.tmp 76) (Operand.tmp 81) (Operand.const (Value.bool false)), type := 4, pos := "law.go:240", after := #[{ on := 23, ground := Ground.data }, { on := 28, ground := Ground.data }], guard := none } : Oper)) (v := (.bool true)) rfl (by kernel_rfl) (by kernel_rfl) (by kernel_rfl) (fun _ _ _ h => h) (Or.inl ⟨by rfl, fun w hSw => by first | (go_simp; done) | (go_simp; with_reducible rfl)⟩) hH3 ?_
      try simp only [Act.put, List.setIfInBounds_toArray, List.set_cons_zero, List.set_cons_succ]
      refine' wpAnyH_take (i := 30) (oi := ({ dst := some 83, op := Op.move (Operand.tmp 82), type := 4, pos := "law.go:240", after := #[{ on := 29, ground := Ground.data }, { on := 27, ground := Ground.chain }], guard := none } : Oper)) (v := (.bool true)) rfl (by kernel_rfl) (by kernel_rfl) (by kernel_rfl) (fun _ _ _ h => h) (Or.inl ⟨by rfl, fun w hSw => by first | (go_simp; done) | (go_simp; with_reducible rfl)⟩) hH3 ?_
      try simp only [Act.put, List.setIfInBounds_toArray, List.set_cons_zero, List.set_cons_succ]
      refine' wpAnyH_take (i := 31) (oi := ({ dst := some 84, op := Op.move (Operand.tmp 7), type := 26, pos := "law.go:240", after := #[{ on := 30, ground := Ground.guard }], guard := some (30, true) } : Oper)) (v := (.pointer (some ⟨cb, 0, none⟩))) rfl (by kernel_rfl) (by kernel_rfl) (by kernel_rfl) (fun _ _ _ h => h) (Or.inl ⟨by rfl, fun w hSw => by first | (go_simp; done) | (go_simp; with_reducible rfl)⟩) hH3 ?_
      try simp only [Act.put, List.setIfInBounds_toArray, List.set_cons_zero, List.set_cons_succ]
      refine' wpAnyH_take (i := 32) (oi := ({ dst := some 85, op := Op.move (Operand.tmp 0), type := 5, pos := "law.go:240", after := #[{ on := 30, ground := Ground.guard }], guard := some (30, true) } : Oper)) (v := (.int .u8 (b.toNat : Int))) rfl (by kernel_rfl) (by kernel_rfl) (by kernel_rfl) (fun _ _ _ h => h) (Or.inl ⟨by rfl, fun w hSw => by first | (go_simp; done) | (go_simp; with_reducible rfl)⟩) hH3 ?_
      try simp only [Act.put, List.setIfInBounds_toArray, List.set_cons_zero, List.set_cons_succ]
      refine wpAnyH_ready (rs := [33]) (by kernel_rfl) (by simp) ?_
      refine AllReadyH.cons (o := ({ dst := some 86, op := Op.call { callee := Callee.value (Operand.func 14), args := #[Operand.tmp 85], argTypes := #[5] }, type := 34, pos := "law.go:240", after := #[{ on := 32, ground := Ground.data }, { on := 30, ground := Ground.chain }, { on := 30, ground := Ground.guard }], guard := some (30, true) } : Oper)) rfl (fun Kk hKk => ?_) AllReadyH.nil
      go_simp
      go_at_call 14
      refine (HPG.out _).mono ?_
      rintro e wD ⟨rfl, hbx⟩
      have HS4 := Lib.hid (HS3.out.below hbx)
      have HD4 := Lib.hid (HD3.out.below hbx)
      clear hbx HS3 HD3
      refine hKk.out _ _ HS4.out (fun hH4 => ?_)
      clear hKk Kk
      try simp only [Act.put, List.setIfInBounds_toArray, List.set_cons_zero, List.set_cons_succ]
      refine wpAnyH_ready (rs := [34]) (by kernel_rfl) (by simp) ?_
      refine AllReadyH.cons (o := ({ dst := some 87, op := Op.call { callee := Callee.value (Operand.func 13), args := #[Operand.tmp 84, Operand.const (Value.int IntKind.i64 2), Operand.const (Value.int IntKind.i64 0), Operand.tmp 86], argTypes := #[26, 3, 3, 34] }, type := 27, pos := "law.go:240", after := #[{ on := 31, ground := Ground.data }, { on := 33, ground := Ground.data }, { on := 33, ground := Ground.chain }, { on := 30, ground := Ground.guard }], guard := some (30, true) } : Oper)) rfl (fun Kk hKk => ?_) AllReadyH.nil
      go_simp
      go_at_call 13
      refine (HP0.out _ HD4.out).mono ?_
      rintro e wE ⟨rfl, hOx, hgx⟩
      have HS5 := Lib.hid (HS4.out.chg hgx HN1.out)
      have HD5 := Lib.hid hOx
      clear hgx hOx HS4 HD4 HP0
      refine hKk.out _ _ HS5.out (fun hH5 => ?_)
      clear hKk Kk
      try simp only [Act.put, List.setIfInBounds_toArray, List.set_cons_zero, List.set_cons_succ]
      refine' wpAnyH_take (i := 35) (oi := ({ dst := some 88, op := Op.binOp BinOp.eql 27 (Operand.tmp 87) (Operand.const (Value.int IntKind.i64 32)) 27, type := 4, pos := "law.go:240", after := #[{ on := 34, ground := Ground.data }, { on := 30, ground := Ground.guard }], guard := some (30, true) } : Oper)) (v := (.bool true)) rfl (by kernel_rfl) (by kernel_rfl) (by kernel_rfl) (fun _ _ _ h => h) (Or.inl ⟨by rfl, fun w hSw => by first | (go_simp; done) | (go_simp; with_reducible rfl)⟩) hH5 ?_
      try simp only [Act.put, List.setIfInBounds_toArray, List.set_cons_zero, List.set_cons_succ]
      refine' wpAnyH_take (i := 36) (oi := ({ dst := some 89, op := Op.pick (Operand.tmp 83) (Operand.tmp 88) (Operand.const (Value.bool false)), type := 4, pos := "law.go:240", after := #[{ on := 30, ground := Ground.data }, { on := 35, ground := Ground.data }], guard := none } : Oper)) (v := (.bool true)) rfl (by kernel_rfl) (by kernel_rfl) (by kernel_rfl) (fun _ _ _ h => h) (Or.inl ⟨by rfl, fun w hSw => by first | (go_simp; done) | (go_simp; with_reducible rfl)⟩) hH5 ?_
      try simp only [Act.put, List.setIfInBounds_toArray, List.set_cons_zero, List.set_cons_succ]
      refine' wpAnyH_take (i := 37) (oi := ({ dst := some 6, op := Op.assign (Operand.tmp 89), type := 4, pos := "law.go:240", after := #[{ on := 36, ground := Ground.data }, { on := 34, ground := Ground.chain }, { on := 0, ground := Ground.phase }, { on := 1, ground := Ground.phase }, { on := 2, ground := Ground.phase }, { on := 3, ground := Ground.phase }, { on := 4, ground := Ground.phase }, { on := 5, ground := Ground.phase }, { on := 6, ground := Ground.phase }, { on := 7, ground := Ground.phase }, { on := 8, ground := Ground.phase }, { on := 9, ground := Ground.phase }, { on := 10, ground := Ground.phase }, { on := 11, ground := Ground.phase }, { on := 12, ground := Ground.phase }, { on := 13, ground := Ground.phase }, { on := 14, ground := Ground.phase }, { on := 15, ground := Ground.phase }, { on := 16, ground := Ground.phase }, { on := 17, ground := Ground.phase }, { on := 18, ground := Ground.phase }, { on := 19, ground := Ground.phase }, { on := 20, ground := Ground.phase }, { on := 21, ground := Ground.phase }, { on := 22, ground := Ground.phase }, { on := 23, ground := Ground.phase }, { on := 24, ground := Ground.phase }, { on := 25, ground := Ground.phase }, { on := 26, ground := Ground.phase }, { on := 27, ground := Ground.phase }, { on := 28, ground := Ground.phase }, { on := 29, ground := Ground.phase }, { on := 30, ground := Ground.phase }, { on := 31, ground := Ground.phase }, { on := 32, ground := Ground.phase }, { on := 33, ground := Ground.phase }, { on := 34, ground := Ground.phase }, { on := 35, ground := Ground.phase }, { on := 36, ground := Ground.phase }], guard := none } : Oper)) (v := (.bool true)) rfl (by kernel_rfl) (by kernel_rfl) (by kernel_rfl) (fun _ _ _ h => h) (Or.inl ⟨by rfl, fun w hSw => by first | (go_simp; done) | (go_simp; with_reducible rfl)⟩) hH5 ?_
      try simp only [Act.put, List.setIfInBounds_toArray, List.set_cons_zero, List.set_cons_succ]
      refine wpAnyH_done (by kernel_rfl) ?_ _
      go_wp2_with fail
      go_ret
      exact ⟨rfl, HD5.out.b⟩
      -- REGEND
  · obtain ⟨c2, hc2⟩ : ∃ c2, c2 = progC ⟨false, 0, keep⟩ c 2 1 F := ⟨_, rfl⟩
    have hE := hI5.prog keep
    rw [← hc2] at hE
    obtain ⟨e1, e2, e3, e4, e5⟩ := hE
    have HPA := Lib.hid (fun w7 (h : One w w7 pb cb rb ⟨false, 0, keep⟩ c) => (by
      have h1 := one_prog 2 1 F h (hI5.okays _ (by simp) (by simp))
      rw [e1, e2, ← hc2, ← HLF.out] at h1
      exact h1 : Calls Try.prog 13 #[.pointer (some ⟨cb, 0, none⟩), .int .i64 2, .int .i64 1, .agg L.toArray] w7 fun e w' => e = .returned (.int .i64 30) ∧ One w w' pb cb rb ⟨true, -1, keep⟩ c2))
    have HON := Lib.hid (fun w7 (h : One w w7 pb cb rb ⟨true, -1, keep⟩ c2) => (by have h1 := one_on h; exact h1 : Calls Try.prog 20 #[.pointer (some ⟨pb, 0, none⟩)] w7 fun e w' => (∃ u, e = .returned u) ∧ One w w' pb cb rb ⟨false, -1, keep⟩ c2))
    obtain ⟨P1, hP1⟩ : ∃ P1, P1 = (⟨false, -1, keep⟩ : Pw) := ⟨_, rfl⟩
    have hm : mayC P1 c2 2 0 = 0 := by rw [hP1]; exact e3.may keep 0 (by omega) (by omega)
    have hm1 : mayC P1 c2 2 1 = 0 := by rw [hP1]; exact e3.may keep 1 (by omega) (by omega)
    have o1 := e3.order keep 1 (by omega) (by omega) (by omega) F
    have o2 := e3.okay keep 2 (by omega) (by omega) rfl
    have ok1 := e3.k P1 (by rw [hP1]; simp) (by rw [hP1]; simp)
    rw [← hP1] at HON o1 o2
    have HP1 := Lib.hid (fun w7 (h : One w w7 pb cb rb P1 c2) => (by
      have h1 := one_progG 2 1 F h ok1
      rw [o1.1, o1.2.1, o1.2.2, ← HLF.out] at h1
      exact h1 : Calls Try.prog 13 #[.pointer (some ⟨cb, 0, none⟩), .int .i64 2, .int .i64 1, .agg L.toArray] w7 fun e w' => e = .returned (.int .i64 32) ∧ One w w' pb cb rb P1 c2 ∧ Chg [pb, cb, rb] w7 w'))
    have HP2 := Lib.hid (fun w7 (h : One w w7 pb cb rb P1 c2) => (by
      have h1 := one_progG 2 2 F h ok1
      rw [o2, ← HLF.out] at h1
      exact h1.mono (fun e w' h3 => ⟨h3.1, h3.2.1.b, h3.2.2⟩) : Calls Try.prog 13 #[.pointer (some ⟨cb, 0, none⟩), .int .i64 2, .int .i64 2, .agg L.toArray] w7 fun e w' => e = .returned (.int .i64 0) ∧ Below w.heap.size w w' ∧ Chg [pb, cb, rb] w7 w'))
    obtain ⟨g, hg⟩ : ∃ g : Nat → UInt8, g = c2.M 2 1 := ⟨_, rfl⟩
    rw [← hg] at e5
    obtain ⟨X, hX⟩ : ∃ X, X = pgL g := ⟨_, rfl⟩
    have HRX := Lib.hid (fun w7 (h : One w w7 pb cb rb P1 c2) => (by
      have h1 := one_read 2 1 h
      have hd : pgL (readD P1 c2 2 1) = X := by
        rw [hX, hg]
        unfold readD
        rw [if_pos hm1]; rfl
      rw [hm1, hd] at h1
      exact h1.mono (fun e w' h3 => ⟨h3.1, h.below h3.2, h3.2⟩) : Calls Try.prog 21 #[.pointer (some ⟨cb, 0, none⟩), .int .i64 2, .int .i64 1] w7 fun e w' => e = .returned (.tuple #[.agg X.toArray, .int .i64 0]) ∧ One w w' pb cb rb P1 c2 ∧ Below w7.heap.size w7 w'))
    have HRY := Lib.hid (fun w7 (h : One w w7 pb cb rb P1 c2) => (by
      have h1 := one_read 2 0 h
      have hd : pgL (readD P1 c2 2 0) = L := by
        rw [HLF.out]
        unfold readD
        rw [if_pos hm]
        exact pgL_congr e4
      rw [hm, hd] at h1
      exact h1.mono (fun e w' h3 => ⟨h3.1, h.below h3.2, h3.2⟩) : Calls Try.prog 21 #[.pointer (some ⟨cb, 0, none⟩), .int .i64 2, .int .i64 0] w7 fun e w' => e = .returned (.tuple #[.agg L.toArray, .int .i64 0]) ∧ One w w' pb cb rb P1 c2 ∧ Below w7.heap.size w7 w'))
    have hXl : X.length = 258 := by rw [hX]; exact pgL_len _
    have HXA := Lib.hid (show (Try.prog.info? 34).map (·.size) = some X.toArray.size by rw [List.size_toArray, hXl]; exact page_info)
    have H1X := Lib.hid (show X.toArray.all (·.oneCell') = true by rw [hX]; exact pgL_one _)
    have HXZ := Lib.hid (show X.toArray.size = Z.length by
      have h := HLZ.out
      rw [List.size_toArray] at h ⊢
      rw [← h, hXl, HLF.out, pgL_len])
    have HGX := Lib.hid (fun k (hk : k < 258) => show X[k]? = some (encB (g k)) by rw [hX]; exact pgL_at g k hk)
    have HGL := Lib.hid (fun k (hk : k < 258) => show L[k]? = some (encB (F k)) by rw [HLF.out]; exact pgL_at F k hk)
    have HG := Lib.hid e5
    have k0 := HO6.out.cell0
    clear hc2 e1 e2 e3 e4 hP1 hm hm1 o1 o2 ok1 hX hXl hI5 hg e5
    go_upto_region 15 with (first
      | (go_at_call 14; refine (HPG.out _).mono ?_; rintro e w7 ⟨rfl, hbx⟩; have HO7 := Lib.hid (HO6.out.below hbx); clear hbx HO6)
      | (go_at_call 13; refine (HPA.out _ HO7.out).mono ?_; rintro e w8 ⟨rfl, hO8⟩; have HO8 := Lib.hid hO8; have k8 := hO8.cell0; clear hO8 HPA HO7))
    go_upto_region 17 with (first
      | (go_at_call 20; refine (HON.out _ HO8.out).mono ?_; rintro e w9 ⟨⟨u9, rfl⟩, hO9⟩; have HO9 := Lib.hid hO9; clear hO9)
      | (go_at_call 21; refine (HRX.out _ HO9.out).mono ?_; rintro e wA ⟨rfl, hOA, hbA⟩; have HOA := Lib.hid hOA; clear hOA hbA; have hAA := arr_newL wA Z 34)
      | (refine wpList_store_mid rfl 34 _ _ rfl wA.heap.size 0 X.toArray rfl rfl (hAA.thereA HXZ.out) HXA.out H1X.out ?_))
    obtain ⟨x1, hx1⟩ : ∃ x1, x1 = wA.heap.size := ⟨_, rfl⟩
    obtain ⟨W1, hW1⟩ : ∃ W1, W1 = (wA.alloc (.cells Z.toArray 34)).setCells wA.heap.size 0 X.toArray.toList := ⟨_, rfl⟩
    have HAX := Lib.hid (show Arr W1 x1 X by rw [hW1, hx1]; have := hAA.setA_same HXZ.out; simpa using this)
    have HOB := Lib.hid (show One w W1 pb cb rb P1 c2 from HOA.out.below (by rw [hW1]; exact below_setCells (Nat.le_refl _) _ 0 ((Below.refl _ _).alloc (Nat.le_refl _) _)))
    rw [← hW1]
    simp only [← hx1]
    clear hW1 hx1 hAA HOA HO9 HO8 k8 k0 HON HRX
    go_upto_region 18 with (first
      | (go_at_call 21; refine (HRY.out _ HOB.out).mono ?_; rintro e wB ⟨rfl, hOC, hbB⟩; have HOC := Lib.hid hOC; have HAX2 := Lib.hid (HAX.out.below hbB); clear hOC hbB; have hAB := arr_newL wB Z 34)
      | (refine wpList_store_mid rfl 34 _ _ rfl wB.heap.size 0 L.toArray rfl rfl (hAB.thereA HLZ.out) HIA.out H1A.out ?_))
    obtain ⟨y1, hy1⟩ : ∃ y1, y1 = wB.heap.size := ⟨_, rfl⟩
    obtain ⟨W2, hW2⟩ : ∃ W2, W2 = (wB.alloc (.cells Z.toArray 34)).setCells wB.heap.size 0 L.toArray.toList := ⟨_, rfl⟩
    have hb2 : Below wB.heap.size wB W2 := by rw [hW2]; exact below_setCells (Nat.le_refl _) _ 0 ((Below.refl _ _).alloc (Nat.le_refl _) _)
    have HAY := Lib.hid (show Arr W2 y1 L by rw [hW2, hy1]; have := hAB.setA_same HLZ.out; simpa using this)
    have HOD := Lib.hid (HOC.out.below hb2)
    have HAX3 := Lib.hid (HAX2.out.below hb2)
    have hny : y1 ∉ [pb, cb, rb] := fun hm => by have := HOC.out.lt y1 hm; omega
    have HNY := Lib.hid hny
    rw [← hW2]
    simp only [← hy1]
    clear hW2 hy1 hAB HOC HAX2 HAX HOB hb2 hny HRY hz
    go_wp2_with (go_at_call 14; refine (HPG.out _).mono ?_; rintro e W3 ⟨rfl, hbx⟩; have HOE := Lib.hid (HOD.out.below hbx); have HX3 := Lib.hid (HAX3.out.below hbx); have HY3 := Lib.hid (HAY.out.below hbx); clear hbx)
    go_loopw [15, 16, 112] (fun v15 v16 v112 wr => ∃ k : Nat, k ≤ 258 ∧ v112 = .int .i64 k ∧ wr = W3) (fun _ _ v112 _ => 258 - (intOf v112).toNat)
    case atStart => exact ⟨0, by omega, rfl, rfl⟩
    case round =>
      obtain ⟨k, hk, rfl, rfl⟩ := hrel
      by_cases hlt : k < 258
      · have hk1 : (k : Int) < 258 := by omega
        have hk0 : (0 : Int) ≤ k := by omega
        have hcx := HX3.out.at_ k _ (HGX.out k hlt)
        obtain ⟨i5, hi5⟩ : ∃ i, Try.prog.info? 5 = some i := by
          cases h : Try.prog.info? 5 with
          | none => have := info_u8c; rw [h] at this; cases this
          | some i => exact ⟨i, rfl⟩
        have hi1 : i5.size = 1 := by have := info_u8c; rw [hi5] at this; simp at this; exact this.2.1
        have hidx := fun W => run_index_arr (P := Try.prog) (w := W) Try.underlying34 Try.underlying5 hi5 hi1 hlt (show L.toArray[k]? = some (encB (F k)) by rw [List.getElem?_toArray]; exact HGL.out k hlt)
        clear hi5 hi1
        have hcase := HG.out k hlt
        obtain ⟨x, hx⟩ : ∃ x, x = g k := ⟨_, rfl⟩
        obtain ⟨y, hy⟩ : ∃ y, y = F k := ⟨_, rfl⟩
        rw [← hx] at hcx
        rw [← hy] at hidx
        rw [← hx, ← hy] at hcase
        have hand : bits .and .u8 (x.toNat : Int) (y.toNat : Int) = (y.toNat : Int) := by
          rw [u8_and]
          rcases hcase with rfl | rfl
          · rw [UInt8.and_self]
          · rw [and_255]
        unfold encB at hcx hidx
        clear hx hy
        clear HOE HX3 HY3
        by_cases hxy : x = y
        · subst hxy
          clear hcase
          go_wp2_with fail
          go_roundw
          case rel => exact ⟨k + 1, by omega, by go_num, by first | rfl | trivial⟩
          case measure => simp [intOf]; omega
        · have hx5 : x = 255 := hcase.resolve_left hxy
          have hyn : ((255 : Int) != (y.toNat : Int)) = true := by
            rw [bne_iff_ne]
            intro e
            apply hxy
            rw [hx5]
            apply UInt8.toNat_inj.1
            show 255 = y.toNat
            omega
          have hx6 : (x.toNat : Int) = 255 := by rw [hx5]; rfl
          rw [hx6] at hcx hand
          clear hcase hxy hx5 hx6
          go_wp2_with fail
          go_roundw
          case rel => exact ⟨k + 1, by omega, by go_num, by first | rfl | trivial⟩
          case measure => simp [intOf]; omega
      · obtain rfl : k = 258 := by omega
        have hu := Try.underlying34
        have hiL := HIL.out
        have HS0 := Lib.hid (HY3.out.below (Below.refl _ _).drew)
        have HD0 := Lib.hid HOE.out.drew
        clear HX3 HY3 HOE
        go_wp2_with fail
        go_region_held3 (fun w' => w'.rangeAt y1 0 L) (first | exact HS5.out.1 | exact HS4.out.1 | exact HS3.out.1 | exact HS2.out.1 | exact HS1.out.1 | exact HS0.out.1)
          (first
            | (go_at_call 14; refine (HPG.out _).mono ?_; rintro e wC ⟨rfl, hbx⟩; have HS1 := Lib.hid (HS0.out.below hbx); have HD1 := Lib.hid (HD0.out.below hbx); clear hbx HS0 HD0)
            | (go_at_call 14; refine (HPG.out _).mono ?_; rintro e wD ⟨rfl, hbx⟩; have HS2 := Lib.hid (HS1.out.below hbx); have HD2 := Lib.hid (HD1.out.below hbx); clear hbx HS1 HD1)
            | (go_at_call 13; refine (HP1.out _ HD2.out).mono ?_; rintro e wE ⟨rfl, hOx, hgx⟩; have HS3 := Lib.hid (HS2.out.chg' hgx HNY.out); have HD3 := Lib.hid hOx; clear hgx hOx HS2 HD2 HP1)
            | (go_at_call 14; refine (HPG.out _).mono ?_; rintro e wF ⟨rfl, hbx⟩; have HS4 := Lib.hid (HS3.out.below hbx); have HD4 := Lib.hid (HD3.out.below hbx); clear hbx HS3 HD3)
            | (go_at_call 13; refine (HP2.out _ HD4.out).mono ?_; rintro e wG ⟨rfl, hBx, hgx⟩; have HS5 := Lib.hid (HS4.out.chg' hgx HNY.out); clear hgx HS4 HD4 HP2))
        go_wp2_with fail
        go_ret
        exact ⟨rfl, hBx⟩
theorem nandTorn_row (a0 : Int) (w0 : (Lit.int .u8 a0).wf = true) (keep : Int) (er : Bool) (w : World) :
    Calls Try.prog 6 #[.int .u8 a0, .int .i64 keep, .bool er] w fun e w' => e = .returned (.bool true) ∧ Below w.heap.size w w' := by
  have hb := bounds_u8 w0
  have he : encB (UInt8.ofNat a0.toNat) = .int .u8 a0 := by
    unfold encB
    rw [UInt8.toNat_ofNat']
    congr 1
    omega
  rw [← he]
  exact nandTorn_walk _ keep er w
end Go.Proofs.YtofjabejkcicjaaK
