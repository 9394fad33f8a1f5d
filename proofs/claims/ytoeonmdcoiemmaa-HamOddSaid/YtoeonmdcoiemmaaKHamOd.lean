import Derived.Test.YtoeonmdcoiemmaaKHamT
import Derived.Test.YtoeonmdcoiemmaaKMapB
import Derived.Test.YtoeonmdcoiemmaaKRow
import Derived.Test.YtoeonmdcoiemmaaKOpen2
import Derived.Deep.DeepCutAuto
namespace Go.Proofs.YtoeonmdcoiemmaaK
open Go.RowKit Go.Maps
set_option linter.unusedSimpArgs false
set_option linter.unusedVariables false
theorem law3b : Keyed Try.prog 3 := int_keyed Try.underlying3
theorem zeroBool (w : World) : (zeroValue 4).run Try.prog w = .ok (.bool false) w := by kernel_rfl
theorem fix_odd (bs : List UInt8) (c : Nat) (h : parO bs c = 1) : (fixR bs c).2 = (1, 0) ∨ (fixR bs c).2 = (0, 21) := by
  rw [fix_synd, if_neg (fun h2 => by omega), if_neg (by omega)]
  split
  · exact .inl rfl
  · split
    · exact .inr rfl
    · exact .inl rfl
theorem and_mask2 (x : Int) : bits .and .i64 x 65535 = ((x % 65536).toNat : Int) := by
  show IntKind.i64.wrap (((BitVec.ofInt 64 x) &&& (BitVec.ofInt 64 65535)).toNat : Int) = _
  rw [BitVec.toNat_and, BitVec.toNat_ofInt, BitVec.toNat_ofInt]
  have h1 : ((65535 : Int) % ((2 ^ 64 : Nat) : Int)).toNat = 2 ^ 16 - 1 := by decide
  rw [h1, Nat.and_two_pow_sub_one_eq_mod, IntKind.wrap_i64]
  omega
theorem there_below2 {w w1 : World} {b o n : Nat} (h : w.there b o n) (hb : Below w.heap.size w w1) (hlt : b < w.heap.size) : w1.there b o n := fun j hj => by
  have h1 := h j hj
  have h2 := hb.block b hlt
  unfold World.cell? World.frozen? at h1 ⊢
  simp only [h2]
  exact h1
theorem grown_of2 {w w1 : World} (h : Below w.heap.size w w1) {row : Option Nat} : w.grownBy w1 row := ⟨h.os, h.tape, h.output, h.size, fun i hi _ => h.block i hi⟩
theorem owns_setCells {H : Type} {P : Program} {k : TypeId} {R : Value → Option (DataW H × List MemPlace)} {b n : Nat} {D : DataW H} {b' : Nat} (hne : b ≠ b') : ∀ (vs : List Value) (o : Nat) {w : World}, w.ownsMap P k R b n D → (w.setCells b' o vs).ownsMap P k R b n D
  | [], _, _, h => h
  | v :: r, o, w, h => by rw [World.setCells]; exact owns_setCells hne r (o + 1) (h.setCell (a := ⟨b', o, none⟩) hne v)
def Kp (w0 : World) (xb : Nat) (L : List Value) (w' : World) : Prop := Arr w' xb L ∧ Below w0.heap.size w0 w'
section
variable {w0 w' w2 : World} {xb : Nat} {L : List Value}
theorem Kp.both (h : Kp w0 xb L w') : w'.rangeAt xb 0 L ∧ Kp w0 xb L w' := ⟨h.1.1, h⟩
theorem Kp.below (h : Kp w0 xb L w') (hb : Below w'.heap.size w' w2) : Kp w0 xb L w2 := ⟨h.1.below hb, h.2.trans (hb.mono h.2.size)⟩
theorem Kp.alloc (h : Kp w0 xb L w') (o : Obj) : Kp w0 xb L (w'.alloc o) := h.below ((Below.refl _ _).alloc (Nat.le_refl _) _)
theorem Kp.drew (h : Kp w0 xb L w') : Kp w0 xb L w'.drew := h.below (Below.refl _ _).drew
theorem Kp.setC (h : Kp w0 xb L w') {b : Nat} (hlt : xb < b) (hge : w0.heap.size ≤ xb) (vs : List Value) : Kp w0 xb L (w'.setCells b 0 vs) :=
  ⟨h.1.set_other (Nat.ne_of_lt hlt) 0 vs, below_setCells (Nat.le_trans hge (Nat.le_of_lt hlt)) vs 0 h.2⟩
end
set_option maxRecDepth 100000 in
set_option maxHeartbeats 20000000 in
theorem hamOdd_walk (bs : List UInt8) (hl : bs.length = 256) (A : Option Addr) (n c0 : Nat) (xs : List Int) (w : World) (hX : Is .i64 w (.slice A n c0) xs) :
    Calls Try.prog 7 #[.agg (bs.map encB).toArray, .slice A n c0] w fun e w' => e = .returned (.bool true) ∧ Below w.heap.size w w' := by
  have HN := Lib.hid hX.len
  have hi0 : (Try.prog.info? 23).map (·.size) = some 256 := by kernel_rfl
  have HCk := Lib.hid (fun W => check_any bs hl W)
  have hkl := chk_lt bs
  have HP0 := Lib.hid (parO_chk bs)
  obtain ⟨K, hK⟩ : ∃ K, K = chk bs := ⟨_, rfl⟩
  rw [← hK] at HCk hkl HP0
  obtain ⟨L, hL⟩ : ∃ L, L = bs.map encB := ⟨_, rfl⟩
  rw [← hL] at HCk ⊢
  have hLl : L.length = 256 := by rw [hL]; simp [hl]
  have h1L : ∀ v ∈ L, v.oneCell' = true := by rw [hL]; exact encB_all _
  have HIL := Lib.hid (show (Try.prog.info? 23).map (·.size) = some L.length by rw [hLl]; exact hi0)
  have HIAL := Lib.hid (show (Try.prog.info? 23).map (·.size) = some L.toArray.size by rw [List.size_toArray, hLl]; exact hi0)
  have H1AL : Hid (L.toArray.all (·.oneCell') = true) := Lib.hid (all_oneCell_toArray h1L)
  obtain ⟨Z, hZ⟩ : ∃ Z : Array Value, Z = Array.replicate 256 (.int .u8 0) := ⟨_, rfl⟩
  have hZs : Z.size = 256 := by rw [hZ]; simp
  have hz : ∀ w, (zeroValue 23).run Try.prog w = .ok (.agg Z) w := by rw [hZ]; exact (zero_of_info (P := Try.prog) (t := 23) (v := .agg (Array.replicate 256 (.int .u8 0))) (n := 256) (by kernel_rfl)).1
  have HZSL : Hid (Z.size = L.toArray.size) := Lib.hid (by rw [hZs, List.size_toArray, hLl])
  have HZLL : Hid (Z.size = L.length) := Lib.hid (by rw [hZs, hLl])
  have HLL := Lib.hid hLl
  have HLE := Lib.hid hL
  have HL := Lib.hid hl
  have HZS := Lib.hid hZs
  obtain ⟨W, hW⟩ : ∃ W, W = w.alloc (.cells L.toArray 23) := ⟨_, rfl⟩
  obtain ⟨xb, hxb⟩ : ∃ xb, xb = w.heap.size := ⟨_, rfl⟩
  have hb0 : Below w.heap.size w W := by rw [hW]; exact (Below.refl _ _).alloc (Nat.le_refl _) _
  have hrg : W.rangeAt xb 0 L := range_row (by rw [hW, hxb]; exact heap_alloc_new w _)
  have hlx : xb < W.heap.size := by rw [hW, hxb]; simp
  have hAW : Arr W xb L := by rw [hW, hxb]; exact arr_newL w L _
  have hge : w.heap.size ≤ xb := by omega
  have HZD : Hid (L.toArray.size = Z.toList.length) := Lib.hid (by simp [hLl, hZs])
  have hmm := @run_makeMap Try.prog
  have hcl : (K : Int) < 8192 := by omega
  have hcl0 : (0 : Int) ≤ K := by omega
  clear hK hL hLl h1L hi0 hZ hZs hl
  by_cases h50 : 50 < n
  · clear hX
    go_enter Try.func7, Try.ntmps7
    go_wp2_with fail
    rw [← hW]
    simp only [← hxb]
    clear hW hxb
    go_wp2_with (go_at_call 12; refine (ham_speaks _).mono ?_; rintro e w1 ⟨rfl, hb1⟩; have hq1 := hb0.trans (hb1.mono hb0.size))
    go_ret
    exact ⟨rfl, hq1⟩
  go_enter Try.func7, Try.ntmps7
  go_wp2_with fail
  rw [← hW]
  simp only [← hxb]
  clear hW hxb
  go_upto_region 5 with (go_at_call 12; refine (ham_speaks _).mono ?_; rintro e w1 ⟨rfl, hb1⟩; have hr1 := range_below hrg hb1; have hq1 := hb0.trans (hb1.mono hb0.size))
  go_cut [5, 6] (fun s5 s6 wx => ∃ db : Nat, s5 = .pointer (some ⟨db, 0, none⟩) ∧ s6 = .int .u16 (K : Int) ∧ Arr wx db L ∧ w.heap.size ≤ db ∧ Below w.heap.size w wx)
  case first =>
    have hK1 : Kp w xb L w1 := ⟨hAW.below hb1, hq1⟩
    clear hr1 hq1 hrg hb0 hb1
    have hi1 := HIL.out
    have hu := Try.underlying23
    have hKd := hK1.drew
    refine wp_region_held_drew (S := fun w' => w'.rangeAt xb 0 L ∧ Kp w xb L w') (by kernel_rfl) hKd.both (fun _ => ?_)
    refine' wpAnyH_take (i := 0) (oi := _) (v := _) rfl (by kernel_rfl) (by kernel_rfl) (by kernel_rfl) (fun _ _ _ h => h) (yieldsIf_load_mid (by rfl) _ _ rfl _ _ rfl _ _ (fun w h => h.1) hu (by rfl) hi1) hKd.both ?_
    try simp only [Act.put, List.setIfInBounds_toArray, List.set_cons_zero, List.set_cons_succ]
    refine' wpAnyH_take (i := 1) (oi := _) (v := _) rfl (by kernel_rfl) (by kernel_rfl) (by kernel_rfl) (fun _ _ _ h => h) (yieldsIf_load_mid (by rfl) _ _ rfl _ _ rfl _ _ (fun w h => h.1) hu (by rfl) hi1) hKd.both ?_
    try simp only [Act.put, List.setIfInBounds_toArray, List.set_cons_zero, List.set_cons_succ]
    refine wpAnyH_ready (rs := [2, 3]) (by kernel_rfl) (by simp) ?_
    refine AllReadyH.cons (o := ({ dst := some 24, op := Op.call { callee := Callee.value (Operand.func 13), args := #[Operand.tmp 23], argTypes := #[23] }, type := 25, pos := "law.go:79", after := #[{ on := 1, ground := Ground.data }], guard := none } : Oper)) rfl (fun Kk hKk => ?_) (AllReadyH.cons (o := ({ dst := some 5, op := Op.alloc 23, type := 0, pos := "law.go:79", after := #[], guard := none } : Oper)) rfl (fun Kk hKk => ?_) AllReadyH.nil)
    · go_simp
      go_at_call 13
      refine (HCk.out _).mono ?_
      rintro e w2 ⟨rfl, hb2⟩
      have hK2 := hKd.below hb2
      refine hKk.out _ _ hK2.both (fun _ => ?_)
      clear hKk Kk
      try simp only [Act.put, List.setIfInBounds_toArray, List.set_cons_zero, List.set_cons_succ]
      refine wpAnyH_ready (rs := [3]) (by kernel_rfl) (by simp) ?_
      refine AllReadyH.cons (o := ({ dst := some 5, op := Op.alloc 23, type := 0, pos := "law.go:79", after := #[], guard := none } : Oper)) rfl (fun Kk hKk => ?_) AllReadyH.nil
      go_simp
      have hK3 := hK2.alloc (.cells Z 23)
      have hA3 := arr_new w2 Z 23
      refine hKk.out _ _ hK3.both (fun _ => ?_)
      clear hKk Kk
      try simp only [Act.put, List.setIfInBounds_toArray, List.set_cons_zero, List.set_cons_succ]
      refine wpAnyH_ready (rs := [4]) (by kernel_rfl) (by simp) ?_
      refine AllReadyH.cons (o := ({ dst := none, op := Op.store 23 (Operand.tmp 5) (Operand.tmp 22), type := 0, pos := "law.go:79", after := #[{ on := 3, ground := Ground.data }, { on := 0, ground := Ground.data }, { on := 2, ground := Ground.chain }, { on := 0, ground := Ground.phase }, { on := 1, ground := Ground.textOnly Departure.lateStores }, { on := 2, ground := Ground.textOnly Departure.lateStoresUnsure }, { on := 3, ground := Ground.phase }], guard := none } : Oper)) rfl (fun Kk hKk => ?_) AllReadyH.nil
      refine wp_store_mid 23 _ _ (by rfl) w2.heap.size 0 L.toArray (by rfl) (by rfl) (hA3.thereA (HZD.out)) HIAL.out H1AL.out ?_
      have hA5 := hA3.setA_same HZD.out
      have hK5 := hK3.setC (b := w2.heap.size) hK2.1.2.2 hge L.toArray.toList
      refine hKk.out _ _ hK5.both (fun _ => ?_)
      clear hKk Kk
      try simp only [Act.put, List.setIfInBounds_toArray, List.set_cons_zero, List.set_cons_succ]
      refine wpAnyH_ready (rs := [5]) (by kernel_rfl) (by simp) ?_
      refine AllReadyH.cons (o := ({ dst := some 6, op := Op.assign (Operand.tmp 24), type := 25, pos := "law.go:79", after := #[{ on := 2, ground := Ground.data }, { on := 4, ground := Ground.chain }, { on := 0, ground := Ground.phase }, { on := 1, ground := Ground.phase }, { on := 2, ground := Ground.phase }, { on := 3, ground := Ground.phase }, { on := 4, ground := Ground.phase }], guard := none } : Oper)) rfl (fun Kk hKk => ?_) AllReadyH.nil
      go_simp
      refine hKk.out _ _ hK5.both (fun _ => ?_)
      clear hKk Kk
      try simp only [Act.put, List.setIfInBounds_toArray, List.set_cons_zero, List.set_cons_succ]
      refine wpAnyH_done (by kernel_rfl) ?_ _
      go_wp2_with fail
      go_meet
      refine ⟨w2.heap.size, rfl, rfl, by simpa using hA5, ?_, hK5.2⟩
      have h1 := hK2.2.size; have h2 := hKd.2.size; simp at h1 h2 ⊢; omega
    · go_simp
      have hK3 := hKd.alloc (.cells Z 23)
      have hA3 := arr_new w1.drew Z 23
      refine hKk.out _ _ hK3.both (fun _ => ?_)
      clear hKk Kk
      try simp only [Act.put, List.setIfInBounds_toArray, List.set_cons_zero, List.set_cons_succ]
      refine wpAnyH_ready (rs := [2]) (by kernel_rfl) (by simp) ?_
      refine AllReadyH.cons (o := ({ dst := some 24, op := Op.call { callee := Callee.value (Operand.func 13), args := #[Operand.tmp 23], argTypes := #[23] }, type := 25, pos := "law.go:79", after := #[{ on := 1, ground := Ground.data }], guard := none } : Oper)) rfl (fun Kk hKk => ?_) AllReadyH.nil
      go_simp
      go_at_call 13
      refine (HCk.out _).mono ?_
      rintro e w2 ⟨rfl, hb2⟩
      have hK2 := hK3.below hb2
      have hA3 := hA3.below hb2
      refine hKk.out _ _ hK2.both (fun _ => ?_)
      clear hKk Kk
      try simp only [Act.put, List.setIfInBounds_toArray, List.set_cons_zero, List.set_cons_succ]
      refine wpAnyH_ready (rs := [4]) (by kernel_rfl) (by simp) ?_
      refine AllReadyH.cons (o := ({ dst := none, op := Op.store 23 (Operand.tmp 5) (Operand.tmp 22), type := 0, pos := "law.go:79", after := #[{ on := 3, ground := Ground.data }, { on := 0, ground := Ground.data }, { on := 2, ground := Ground.chain }, { on := 0, ground := Ground.phase }, { on := 1, ground := Ground.textOnly Departure.lateStores }, { on := 2, ground := Ground.textOnly Departure.lateStoresUnsure }, { on := 3, ground := Ground.phase }], guard := none } : Oper)) rfl (fun Kk hKk => ?_) AllReadyH.nil
      refine wp_store_mid 23 _ _ (by rfl) w1.drew.heap.size 0 L.toArray (by rfl) (by rfl) (hA3.thereA (HZD.out)) HIAL.out H1AL.out ?_
      have hA5 := hA3.setA_same HZD.out
      have hK5 := hK2.setC (b := w1.drew.heap.size) hKd.1.2.2 hge L.toArray.toList
      refine hKk.out _ _ hK5.both (fun _ => ?_)
      clear hKk Kk
      try simp only [Act.put, List.setIfInBounds_toArray, List.set_cons_zero, List.set_cons_succ]
      refine wpAnyH_ready (rs := [5]) (by kernel_rfl) (by simp) ?_
      refine AllReadyH.cons (o := ({ dst := some 6, op := Op.assign (Operand.tmp 24), type := 25, pos := "law.go:79", after := #[{ on := 2, ground := Ground.data }, { on := 4, ground := Ground.chain }, { on := 0, ground := Ground.phase }, { on := 1, ground := Ground.phase }, { on := 2, ground := Ground.phase }, { on := 3, ground := Ground.phase }, { on := 4, ground := Ground.phase }], guard := none } : Oper)) rfl (fun Kk hKk => ?_) AllReadyH.nil
      go_simp
      refine hKk.out _ _ hK5.both (fun _ => ?_)
      clear hKk Kk
      try simp only [Act.put, List.setIfInBounds_toArray, List.set_cons_zero, List.set_cons_succ]
      refine wpAnyH_done (by kernel_rfl) ?_ _
      go_wp2_with fail
      go_meet
      refine ⟨w1.drew.heap.size, rfl, rfl, by simpa using hA5, ?_, hK5.2⟩
      have h1 := hK2.2.size; have h2 := hKd.2.size; simp at h1 h2 ⊢; omega

  case rest =>
    obtain ⟨db, rfl, rfl, hA, hdb, hb⟩ := hcut
    clear hb0 hrg hlx hAW hb1 hr1 hq1
    go_wp2_with fail
    clear hmm
    obtain ⟨mb, hmb⟩ : ∃ mb, mb = wc.heap.size := ⟨_, rfl⟩
    obtain ⟨W2, hW2⟩ : ∃ W2, W2 = wc.alloc (.map #[] 0) := ⟨_, rfl⟩
    have hown : W2.ownsMap Try.prog 3 (plainElem Try.prog 4) mb 0 (.map [] : DataW Unit) := by rw [hW2, hmb]; exact World.ownsMap_made _ _ _ _
    have hA2 : Arr W2 db L := by rw [hW2]; exact hA.alloc _
    have hbW : Below w.heap.size w W2 := by rw [hW2]; exact hb.alloc hb.size _
    have hne : db ≠ mb := by rw [hmb]; exact Nat.ne_of_lt hA.2.2
    have hgm : w.heap.size ≤ mb := by rw [hmb]; exact hb.size
    have HNE := Lib.hid hne
    rw [← hW2, ← hmb]
    clear hW2 hmb hne hA hb
    go_loopw [6, 9, 10, 28] (fun v6 v9 v10 i wr => ∃ (k : Nat) (ds : List UInt8) (c : Nat) (D : DataW Unit) (f : Nat → Bool), k ≤ n ∧ i = .int .i64 k ∧ v6 = .int .u16 (c : Int) ∧ ds.length = 256 ∧ c < 8192 ∧ parO ds c = k % 2 ∧ parF f 2061 = decide (k % 2 = 1) ∧ Arr wr db (ds.map encB) ∧ wr.ownsMap Try.prog 3 (plainElem Try.prog 4) mb k D ∧ OMap D f ∧ Below w.heap.size w wr) (fun _ _ _ i _ => n - (intOf i).toNat)
    case atStart => exact ⟨0, bs, K, .map [], _, Nat.zero_le _, rfl, rfl, HL.out, hkl, HP0.out, by rw [parF_none _ _ (fun _ _ => rfl)]; rfl, by rw [← HLE.out]; exact hA2, hown, omap_zero, hbW⟩
    case round =>
      obtain ⟨k, ds, c, D, f, hk, rfl, rfl, hds, hc, hpo, hpf, hA, hO, hOM, hb⟩ := hrel
      clear hA2 hown hbW
      have HPO := Lib.hid hpo
      have HPF := Lib.hid hpf
      have HOM := Lib.hid hOM
      have HDS := Lib.hid hds
      have hi0 : (Try.prog.info? 23).map (·.size) = some 256 := by kernel_rfl
      have h1D : ∀ v ∈ ds.map encB, v.oneCell' = true := encB_all _
      obtain ⟨LD, hLD⟩ : ∃ L, L = ds.map encB := ⟨_, rfl⟩
      have hLDl : LD.length = 256 := by rw [hLD]; simp [hds]
      have HID := Lib.hid (show (Try.prog.info? 23).map (·.size) = some LD.length by rw [hLDl]; exact hi0)
      have hc0 : (0 : Int) ≤ c := by omega
      have hc9 : (c : Int) < 8192 := by omega
      rw [← hLD] at hA
      by_cases hlt : k < n
      · have hkx : k < xs.length := by rw [← HN.out]; exact hlt
        obtain ⟨a, rfl, hcx⟩ := (hX.below hb).at.map k hkx
        obtain ⟨x, hx⟩ : ∃ x, x = xs[k] := ⟨_, rfl⟩
        rw [← hx] at hcx
        obtain ⟨p, hp⟩ : ∃ p, p = (x % 65536).toNat := ⟨_, rfl⟩
        obtain ⟨j, hj⟩ : ∃ j, j = p % 2061 := ⟨_, rfl⟩
        have x1 : bits .and .i64 x 65535 = (p : Int) := by rw [and_mask2, hp]
        have x3 : (p : Int) % 2061 = (j : Int) := by omega
        have hp0 : (0 : Int) ≤ p := by omega
        have hp9 : (p : Int) < 65536 := by omega
        have hjl : j < 2061 := by rw [hj]; exact Nat.mod_lt _ (by decide)
        have hj0 : (0 : Int) ≤ j := by omega
        have hj9 : (j : Int) < 2061 := by omega
        have hjw : (Lit.int .i64 ((p : Int) % 2061)).wf = true := WalkArith.wf_i64 (by omega)
        have hm9 : (p : Int) % 2061 < 2061 := by omega
        have hm0 : 0 ≤ (p : Int) % 2061 := by omega
        have HT := fun W => turned_any ds hds c (by omega) j hjl W
        have h3 := parO_turn ds hds c j hjl
        have hl2 : (turnR ds c j).1.length = 256 := by rw [turn_len]; exact hds
        have h4 := turn_lt ds c j hc hjl
        obtain ⟨d2, hd2⟩ : ∃ d, d = (turnR ds c j).1 := ⟨_, rfl⟩
        obtain ⟨c2, hc2⟩ : ∃ d, d = (turnR ds c j).2 := ⟨_, rfl⟩
        rw [← hd2, ← hc2] at HT h3
        rw [← hd2] at hl2
        rw [← hc2] at h4
        have h1D2 : ∀ v ∈ d2.map encB, v.oneCell' = true := encB_all _
        obtain ⟨LD2, hLD2⟩ : ∃ L, L = d2.map encB := ⟨_, rfl⟩
        have hLD2l : LD2.length = 256 := by rw [hLD2]; simp [hl2]
        rw [← hLD, ← hLD2] at HT
        rw [← hLD2] at h1D2
        rw [← x3] at HT
        replace HT := Lib.hid HT
        have X3 := Lib.hid x3
        have H3 := Lib.hid h3
        have HL2 := Lib.hid hl2
        have HLD2 := Lib.hid hLD2
        have HIAD2 := Lib.hid (show (Try.prog.info? 23).map (·.size) = some LD2.toArray.size by rw [List.size_toArray, hLD2l]; exact hi0)
        have H1AD2 : Hid (LD2.toArray.all (·.oneCell') = true) := Lib.hid (all_oneCell_toArray h1D2)
        have HDD : Hid (LD2.toArray.size = LD.length) := Lib.hid (by rw [List.size_toArray, hLDl, hLD2l])
        clear hpo hpf hOM hds hLD hLDl hx hp hj h3 hl2 hd2 hc2 h1D2 h1D hLD2 hLD2l hi0 x3
        go_wp2_with (first
          | (at_lookup; refine wpList_lookup_own_bool _ rfl _ _ 40 rfl 3 4 law3b Try.underlying40 Try.underlying4 (zeroBool _) mb k D rfl hO _ _ rfl (keyOf_int_mk Try.underlying3 hjw) ?_; intro cc hat; rw [X3.out] at hat; obtain rfl := OMap.look HOM.out j hat; clear hat)
          | (at_mapUpdate; refine wpList_mapUpdate_own _ rfl _ _ _ 40 rfl 3 4 law3b Try.underlying40 _ mb k D rfl hO (by unfold maxLen; omega) _ _ _ rfl rfl (keyOf_int_mk Try.underlying3 hjw) _ [] (plainElem_bool Try.underlying4 _) ?_; intro w4 hO4 hg4; rw [X3.out] at hO4; have hA4 := hA.grown hg4 (by simpa using HNE.out); have hb4 := hb.grown hg4 hb.size (fun k hk => by injection hk with hk; omega))
          | (refine wpList_load_mid rfl 23 _ rfl db 0 rfl LD _ hA4.1 Try.underlying23 rfl HID.out ?_)
          | (refine wp_load_mid 23 _ rfl db 0 rfl LD _ hA4.1 Try.underlying23 rfl HID.out ?_)
          | (go_at_call 17; refine (HT.out _).mono ?_; rintro e w5 ⟨rfl, hb5⟩; have hA5 := hA4.below hb5; have hO5 := hO4.kept (grown_of2 hb5) (row := none) (by simp); have hq5 := hb4.trans (hb5.mono hb4.size))
          | (refine wpList_store_mid rfl 23 _ _ rfl db 0 LD2.toArray rfl rfl (hA5.thereA HDD.out) HIAD2.out H1AD2.out ?_))
        go_roundw
        case rel =>
          refine ⟨k + 1, d2, c2, _, _, by omega, by go_num, rfl, HL2.out, h4, by rw [H3.out, HPO.out]; omega, ?_, ?_, owns_setCells (Ne.symm HNE.out) _ _ hO5, HOM.out.step j hjl (!f j), below_setCells hdb _ _ hq5⟩
          · rw [parF_put f j (!f j) 2061 hjl, HPF.out]
            rcases Nat.mod_two_eq_zero_or_one k with h | h
            · rw [show (k + 1) % 2 = 1 by omega, h]; cases f j <;> rfl
            · rw [show (k + 1) % 2 = 0 by omega, h]; cases f j <;> rfl
          · have := hA5.setA_same HDD.out
            rw [← HLD2.out]; simpa using this
        case measure => simp [intOf]; omega
      · obtain rfl : k = n := by omega
        clear h1D hi0
        have htl := hA.2.2
        have hml := hO.lt
        have hsz := hb.size
        have HLDE := Lib.hid hLD
        clear hLD hpo hpf hOM hds hLDl
        go_wp2_with (at_range; refine wpList_range_own _ rfl _ 40 rfl 3 4 law3b Try.underlying40 _ mb k D rfl hO ?_; intro w3 hrg3 hg3 hs3)
        go_frame
        obtain ⟨rb, hrb⟩ : ∃ rb, rb = wr.heap.size := ⟨_, rfl⟩
        have hA3 := hA.grown (hg3.but (some rb)) (by intro h; injection h; omega)
        have hb3 : Below w.heap.size w w3 := hb.grown hg3 hb.size (fun k hk => by cases hk)
        rw [← hrb] at hrg3 htl hml hsz
        rw [← hrb]
        clear hrb hO hA
        go_loopw [11, 13] (fun v11 v13 wr => ∃ (left : Lit → Bool) (cnt : Nat), wr.ranges Try.prog 3 (plainElem Try.prog 4) mb rb k D left cnt ∧ Arr wr db LD ∧ (∀ z, left z = true → Maps.has D z = true) ∧ v11 = .bool (parF (fun j => f j && !left (.int .i64 (j : Int))) 2061) ∧ Below w.heap.size w wr) (fun _ _ wr => wr.rangeLeft mb rb)
        case atStart =>
          refine ⟨_, _, hrg3, hA3, fun z hz => hz, ?_, hb3⟩
          rw [parF_none]
          intro i hi
          cases hh : Maps.has D (.int .i64 (i : Int)) with
          | false => rw [HOM.out.2.2.1 i hh]; rfl
          | true => simp
        case round =>
          obtain ⟨left, cnt, hrg, hA, hlh, rfl, hbl⟩ := hrel
          have HLH := Lib.hid hlh
          clear hlh hrg3 hA3 hb3
          obtain ⟨o1, ho1⟩ : ∃ o, o = parF (fun j => f j && !left (.int .i64 (j : Int))) 2061 := ⟨_, rfl⟩
          rw [← ho1]
          have HO1 := Lib.hid ho1
          clear ho1
          go_wp2_with (at_next; refine wpList_next_ranges_ib _ rfl _ rfl 3 4 .i64 law3b Try.underlying3 Try.underlying4 mb rb k _ _ _ rfl hrg ?_ ?_)
          · intro hc0 hl0
            have ho : o1 = decide (k % 2 = 1) := by
              rw [HO1.out, ← HPF.out]
              exact parF_same _ _ _ (fun i hi => by rw [hl0]; simp)
            clear hl0 hc0
            have HF := fun W => fix_any ds HDS.out c (by omega) W
            have hRl := fixR_len ds HDS.out c
            have hfo' := fix_odd ds c
            rw [HPO.out] at hfo'
            obtain ⟨h1e, h2e⟩ := fixR_err ds c
            obtain ⟨nn, hn⟩ : ∃ n, n = (fixR ds c).2.1 := ⟨_, rfl⟩
            obtain ⟨ee, he⟩ : ∃ e, e = (fixR ds c).2.2 := ⟨_, rfl⟩
            have hfo : k % 2 = 1 → (nn = 1 ∧ ee = 0) ∨ (nn = 0 ∧ ee = 21) := fun h => by
              rcases hfo' h with h | h
              · exact .inl ⟨by rw [hn, h], by rw [he, h]⟩
              · exact .inr ⟨by rw [hn, h], by rw [he, h]⟩
            obtain ⟨L1, hL1⟩ : ∃ L, L = (fixR ds c).1.map encB := ⟨_, rfl⟩
            rw [← HLDE.out, ← hL1, ← hn, ← he] at HF
            rw [← hn] at h1e
            rw [← he] at h2e
            have hL1l : L1.length = 256 := by rw [hL1]; simp [hRl]
            have h1L1 : ∀ v ∈ L1, v.oneCell' = true := by rw [hL1]; exact encB_all _
            have hi0 : (Try.prog.info? 23).map (·.size) = some 256 := by kernel_rfl
            have HIA1 := Lib.hid (show (Try.prog.info? 23).map (·.size) = some L1.toArray.size by rw [List.size_toArray, hL1l]; exact hi0)
            have H1A1 : Hid (L1.toArray.all (·.oneCell') = true) := Lib.hid (all_oneCell_toArray h1L1)
            have HZ1 : Hid (L1.toArray.size = Z.toList.length) := Lib.hid (by simp [hL1l, HZS.out])
            replace HF := Lib.hid HF
            clear hn he hL1 hL1l h1L1 hi0 hRl hfo'
            have hkk := Nat.mod_two_eq_zero_or_one k
            rcases hkk with h0 | h0
            · have ho2 : o1 = false := by rw [ho, h0]; rfl
              clear ho
              subst ho2
              have H0 := Lib.hid h0
              clear h0 hfo
              go_wp2_with (first
                | (refine wpList_load_mid rfl 23 _ rfl db 0 rfl LD _ hA.1 Try.underlying23 rfl HID.out ?_)
                | (refine wp_load_mid 23 _ rfl db 0 rfl LD _ hA.1 Try.underlying23 rfl HID.out ?_)
                | (go_at_call 15; refine (HF.out _).mono ?_; rintro e9 w5 ⟨rfl, hb5⟩; have hq5 := hbl.trans (hb5.mono hbl.size))
                | (refine wpList_store_mid rfl 23 _ _ rfl w5.heap.size 0 L1.toArray rfl rfl ((arr_new w5 Z 23).thereA HZ1.out) HIA1.out H1A1.out ?_; have hq6 := below_setCells hq5.size L1.toArray.toList 0 (hq5.alloc hq5.size (.cells Z 23))))
              go_ret
              exact ⟨rfl, hq6⟩
            · have ho2 : o1 = true := by rw [ho, h0]; rfl
              clear ho
              subst ho2
              have hfo := hfo h0
              have H0 := Lib.hid h0
              clear h0
              rcases hfo with ⟨hn, he⟩ | ⟨hn, he⟩
              all_goals
                subst hn he
                go_wp2_with (first
                  | (refine wpList_load_mid rfl 23 _ rfl db 0 rfl LD _ hA.1 Try.underlying23 rfl HID.out ?_)
                  | (refine wp_load_mid 23 _ rfl db 0 rfl LD _ hA.1 Try.underlying23 rfl HID.out ?_)
                  | (go_at_call 15; refine (HF.out _).mono ?_; rintro e9 w5 ⟨rfl, hb5⟩; have hq5 := hbl.trans (hb5.mono hbl.size))
                  | (refine wpList_store_mid rfl 23 _ _ rfl w5.heap.size 0 L1.toArray rfl rfl ((arr_new w5 Z 23).thereA HZ1.out) HIA1.out H1A1.out ?_; have hq6 := below_setCells hq5.size L1.toArray.toList 0 (hq5.alloc hq5.size (.cells Z 23))))
                go_ret
                exact ⟨rfl, hq6⟩
          · intro x v w4 cnt1 hwx hlx hat hrg1 hlt hg1 hs1 hen
            obtain ⟨cc, rfl, hat⟩ := hat
            obtain ⟨j, hj, hxj⟩ := HOM.out.2.1 _ (HLH.out _ hlx)
            injection hxj with _ hxj
            subst hxj
            have hcc : cc = f j := by
              have h1 := hat (.lit (.bool false))
              rw [HOM.out.2.2.2 j _ (HLH.out _ hlx)] at h1
              injection h1 with h1; injection h1 with h1; exact h1.symm
            have hA4 := hA.grown hg1 (by intro h; injection h; omega)
            have hb4 := hbl.grown hg1 hbl.size (fun k hk => by injection hk with hk; omega)
            have HCC := Lib.hid hcc
            have HLX := Lib.hid hlx
            clear hcc hat hwx hlx hA hbl
            go_wp2
            go_roundw
            case rel =>
              refine ⟨_, _, hrg1, hA4, fun z hz => ?_, ?_, hb4⟩
              · simp at hz; exact HLH.out z hz.1
              · have e1 : parF (fun i : Nat => f i && !(left (.int .i64 (i : Int)) && !(Lit.int .i64 (i : Int)).sameKey (.int .i64 (j : Int)))) 2061 = parF (fun i => if i = j then f j else (f i && !left (.int .i64 (i : Int)))) 2061 := by
                  refine parF_same _ _ _ (fun i hi => ?_)
                  by_cases e : i = j
                  · subst e
                    rw [if_pos rfl, WideAt.sameKey_self (show WideAt.IsKeyLit (.int .i64 (i : Int)) from trivial)]
                    simp
                  · rw [if_neg e, sameKey_ne (by intro e2; injection e2 with _ e3; omega)]
                    simp
                rw [e1, parF_put _ j _ 2061 hj, ← HO1.out, HLX.out, HCC.out]
                cases o1 <;> cases f j <;> rfl
            case measure => rw [hrg1.left_eq, hrg.left_eq]; omega
end Go.Proofs.YtoeonmdcoiemmaaK
