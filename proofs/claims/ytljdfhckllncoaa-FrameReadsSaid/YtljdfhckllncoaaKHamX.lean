import Derived.Test.YtljdfhckllncoaaKHamF
import Derived.Laws.ResultCell
namespace Go.Proofs.YtljdfhckllncoaaK
open Go.RowKit
set_option linter.unusedSimpArgs false
set_option linter.unusedVariables false
theorem results_cell_tmp2 {fn : Func} {p u v : Tmp} {ty : TypeId} (h : fn.results = #[.cell p ty, .tmp u, .tmp v]) (tmps : Array Value) (P : Program) (w : World) :
    (results fn tmps).run P w =
      ((asAddr (tmps.getD p undef)).run P w).andThen fun a w₁ => ((loadVar ty a).run P w₁).andThen fun x w₂ => .ok (.tuple #[x, tmps.getD u undef, tmps.getD v undef]) w₂ := by
  simp only [results, h]
  simp [Sem.run_bind, Result.andThen]
theorem below_setC {B b : Nat} {a : World} (hb : B ≤ b) : ∀ (vs : List Value) (o : Nat) {w : World}, Below B a w → Below B a (w.setCells b o vs)
  | [], _, _, h => h
  | v :: r, o, w, h => below_setC hb r (o + 1) (h.setCell (p := ⟨b, o, none⟩) hb v)
theorem row_there {w : World} {b : Nat} {cs : Array Value} {T : TypeId} (h : w.heap[b]? = some (.cells cs T (0, 0))) : w.there b 0 cs.size := fun j hj => by
  constructor
  · rw [Nat.zero_add, cell_of_row _ _ j _ _ _ h, Array.getElem?_eq_getElem hj]; rfl
  · simp [World.frozen?, h]
theorem i64_and_low (k : Nat) (hk : k ≤ 13) (x : Nat) (hx : x < 65536) : bits .and .i64 (x : Int) ((2 ^ k - 1 : Nat) : Int) = ((x % 2 ^ k : Nat) : Int) := by
  have hp : 2 ^ k ≤ 2 ^ 13 := Nat.pow_le_pow_right (by decide) hk
  have hp0 : 0 < 2 ^ k := Nat.pow_pos (by decide)
  have hm : x % 2 ^ k < 2 ^ k := Nat.mod_lt _ hp0
  show IntKind.i64.wrap (((BitVec.ofInt 64 (x : Int)) &&& (BitVec.ofInt 64 ((2 ^ k - 1 : Nat) : Int))).toNat : Int) = _
  rw [BitVec.ofInt_natCast, BitVec.ofInt_natCast, BitVec.toNat_and, BitVec.toNat_ofNat, BitVec.toNat_ofNat, Nat.mod_eq_of_lt (by omega), Nat.mod_eq_of_lt (by omega), Nat.and_two_pow_sub_one_eq_mod, IntKind.wrap_i64]
  omega
def powB (s : Nat) : Bool := s &&& (s - 1) == 0
theorem power_any (s : Nat) (hs : s < 4096) (w : World) : Calls Try.prog 61 #[.int .i64 (s : Int)] w fun e w' => e = .returned (.bool (powB s)) ∧ w = w' := by
  have h0 : (0 : Int) ≤ s := by omega
  have e1 : bits .and .i64 (s : Int) ((s : Int) - 1) = ((s &&& (s - 1) : Nat) : Int) := by
    rcases Nat.eq_zero_or_pos s with h | h
    · subst h; decide
    · have h1 : (s : Int) - 1 = ((s - 1 : Nat) : Int) := by omega
      rw [h1]
      show IntKind.i64.wrap (((BitVec.ofInt 64 (s : Int)) &&& (BitVec.ofInt 64 ((s - 1 : Nat) : Int))).toNat : Int) = _
      have h2 : s &&& (s - 1) ≤ s := Nat.and_le_left
      rw [BitVec.ofInt_natCast, BitVec.ofInt_natCast, BitVec.toNat_and, BitVec.toNat_ofNat, BitVec.toNat_ofNat, Nat.mod_eq_of_lt (by omega), Nat.mod_eq_of_lt (by omega), IntKind.wrap_i64]
      omega
  obtain ⟨y, hy⟩ : ∃ y, y = s &&& (s - 1) := ⟨_, rfl⟩
  have hp : powB s = (y == 0) := by unfold powB; rw [hy]
  rw [← hy] at e1
  have e2 : ((y : Int) == 0) = (y == 0) := by
    by_cases h : y = 0
    · subst h; rfl
    · rw [beq_eq_false_iff_ne.2 (by omega : (y : Int) ≠ 0), beq_eq_false_iff_ne.2 h]
  have HP := Lib.hid hp
  have E2 := Lib.hid e2
  clear hy hp e2
  go_enter Try.func61, Try.ntmps61
  go_wp2
  go_ret
  exact ⟨by rw [HP.out, ← E2.out]; rfl, rfl⟩
theorem u8_flip (x r : Nat) (hx : x < 256) (hr : r < 8) : bits .xor .u8 (x : Int) ((2 : Int) ^ r % 256) = ((x ^^^ 2 ^ r : Nat) : Int) := by
  have h2 : 2 ^ r < 256 := by have := Nat.pow_lt_pow_right (a := 2) (by decide) hr; simpa using this
  have e : ((2 : Int) ^ r % 256) = ((2 ^ r : Nat) : Int) := by
    have h4 : ((2 : Int) ^ r) = ((2 ^ r : Nat) : Int) := by simp
    rw [h4]
    generalize 2 ^ r = n at h2 ⊢
    omega
  have h := Nat.xor_lt_two_pow (n := 8) hx h2
  rw [e]
  show IntKind.u8.wrap (((BitVec.ofInt 8 (x : Int)) ^^^ (BitVec.ofInt 8 ((2 ^ r : Nat) : Int))).toNat : Int) = _
  rw [BitVec.ofInt_natCast, BitVec.ofInt_natCast, BitVec.toNat_xor, BitVec.toNat_ofNat, BitVec.toNat_ofNat, Nat.mod_eq_of_lt (by omega), Nat.mod_eq_of_lt (by omega), IntKind.wrap_u8]
  omega
def zeroD : List UInt8 := List.replicate 256 0
def flipD (bs : List UInt8) (i : Nat) : List UInt8 := bs.set (i / 8) (UInt8.ofNat ((bs.getD (i / 8) 0).toNat ^^^ 2 ^ (i % 8)))
/-- What is mended, how many bits, and the error's number. -/
def fixR (bs : List UInt8) (c : Nat) : List UInt8 × Nat × Nat :=
  if foldS bs 2048 ^^^ (c % 4096) = 0 ∧ (foldT bs 2048 % 2 + pc16 (c % 8192)) % 2 = 0 then (bs, 0, 0)
  else if (foldT bs 2048 % 2 + pc16 (c % 8192)) % 2 = 0 then (zeroD, 0, 21)
  else if powB (foldS bs 2048 ^^^ (c % 4096)) = true then (bs, 1, 0)
  else if 2048 ≤ (foldS bs 2048 ^^^ (c % 4096)) - 1 - Lib.bitLen (foldS bs 2048 ^^^ (c % 4096)) then (zeroD, 0, 21)
  else (flipD bs ((foldS bs 2048 ^^^ (c % 4096)) - 1 - Lib.bitLen (foldS bs 2048 ^^^ (c % 4096))), 1, 0)
set_option maxRecDepth 100000 in
theorem len_all : ∀ s : Fin 4096, powB s.val = false → Lib.bitLen s.val + 1 ≤ s.val ∧ s.val - 1 - Lib.bitLen s.val < 4096 := by decide +kernel
set_option maxRecDepth 100000 in
set_option maxHeartbeats 4000000 in
theorem fix_A (bs : List UInt8) (hl : bs.length = 256) (c : Nat) (hc : c < 65536) (l m s t p o : Nat) (hle : l = foldS bs 2048) (hme : m = c % 4096) (hse : s = l ^^^ m) (hte : t = foldT bs 2048 % 2) (hpe : p = pc16 (c % 8192)) (hoe : o = (t + p) % 2) (h1 : s = 0) (h2 : o = 0) (w : World) :
    Calls Try.prog 44 #[.agg (bs.map encB).toArray, .int .u16 (c : Int)] w fun e w' => e = .returned (.tuple #[.agg ((bs).map encB).toArray, .int .i64 0, .int .i64 0]) ∧ Below w.heap.size w w' := by
  have hll := foldS_lt bs 2048 (Nat.le_refl _)
  have htl : t < 2 := by rw [hte]; exact Nat.mod_lt _ (by decide)
  have hml : m < 4096 := by omega
  have hsl : s < 4096 := by rw [hse]; exact Nat.xor_lt_two_pow (n := 12) (by rw [hle]; exact hll) hml
  have hpl : p ≤ 16 := by
    rw [hpe]; unfold pc16
    have a1 := pop8_le ⟨c % 8192 / 256, by omega⟩
    have a2 := pop8_le ⟨c % 8192 % 256, by omega⟩
    simp only at a1 a2
    omega
  obtain ⟨d, hd⟩ : ∃ d, d = c % 8192 := ⟨_, rfl⟩
  have hdl : d < 8192 := by omega
  have HO := Lib.hid (fun W => ones16 d hdl W)
  rw [hd, ← hpe, ← hd] at HO
  have x1 : bits .and .i64 (c : Int) 4095 = (m : Int) := by rw [hme]; exact i64_and_low 12 (by decide) c hc
  have x2 : bits .xor .i64 (l : Int) (m : Int) = (s : Int) := by rw [hse]; exact i64_xor_nat l m (by rw [hle]; exact hll) hml
  have x3 : bits .and .u16 (c : Int) 8191 = (d : Int) := by rw [hd]; exact u16_and_low 13 (by decide) c hc
  have x4 : bits .and .i64 ((t : Int) + (p : Int)) 1 = (o : Int) := by
    have h := i64_and1 (t + p) (by omega)
    rw [hoe, ← h]; congr 1
  have hi0 : (Try.prog.info? 76).map (·.size) = some 256 := by kernel_rfl
  obtain ⟨C, hC⟩ : ∃ C, C = (bs.map encB).toArray := ⟨_, rfl⟩
  have hCs : C.size = 256 := by rw [hC]; simp [hl]
  have h1C : C.all (·.oneCell') = true := by rw [hC]; exact all_oneCell_toArray (encB_all bs)
  obtain ⟨Z, hZ⟩ : ∃ Z : Array Value, Z = Array.replicate 256 (.int .u8 0) := ⟨_, rfl⟩
  have hZs : Z.size = 256 := by rw [hZ]; simp
  have h1Z : Z.all (·.oneCell') = true := by rw [hZ]; decide +kernel
  have hZe : (zeroD.map encB).toArray = Z := by rw [hZ]; kernel_rfl
  have hz : ∀ w, (zeroValue 76).run Try.prog w = .ok (.agg Z) w := by rw [hZ]; exact (zero_of_info (P := Try.prog) (t := 76) (v := .agg (Array.replicate 256 (.int .u8 0))) (n := 256) (by kernel_rfl)).1
  have HI := Lib.hid (show (Try.prog.info? 76).map (·.size) = some C.size by rw [hCs]; exact hi0)
  have HIZ := Lib.hid (show (Try.prog.info? 76).map (·.size) = some Z.size by rw [hZs]; exact hi0)
  have H1C := Lib.hid h1C
  have HSZ : Hid (Z.size = C.size) := Lib.hid (by rw [hZs, hCs])
  have H1Z := Lib.hid h1Z
  obtain ⟨W, hW⟩ : ∃ W, W = (w.alloc (.cells C 76)).alloc (.cells Z 76) := ⟨_, rfl⟩
  obtain ⟨xb, hxb⟩ : ∃ xb, xb = w.heap.size := ⟨_, rfl⟩
  obtain ⟨rb, hrb⟩ : ∃ rb, rb = xb + 1 := ⟨_, rfl⟩
  have hb0 : Below w.heap.size w W := by rw [hW]; exact ((Below.refl _ _).alloc (Nat.le_refl _) _).alloc (by simp) _
  have hrx : W.heap[xb]? = some (.cells C 76 (0, 0)) := by
    rw [hW, hxb]
    exact (((Below.refl _ (w.alloc (.cells C 76))).alloc (Nat.le_refl _) (.cells Z 76)).block w.heap.size (by simp)).trans (heap_alloc_new w _)
  have hrr : W.heap[rb]? = some (.cells Z 76 (0, 0)) := by
    have h0 := heap_alloc_new (w.alloc (.cells C 76)) (.cells Z 76)
    rw [show (w.alloc (.cells C 76)).heap.size = rb from by rw [hrb, hxb]; simp, ← hW] at h0
    exact h0
  have HGR := Lib.hid (show w.heap.size ≤ rb by omega)
  have HGX := Lib.hid (show w.heap.size ≤ xb by omega)
  have HNE := Lib.hid (show xb ≠ rb by omega)
  have HF := Lib.hid (fold_any xb bs W ⟨hl, 76, (0, 0), by rw [← hC]; exact hrx⟩)
  rw [← hle, ← hte] at HF
  have HP := Lib.hid (fun W => power_any s hsl W)
  have HLen := Lib.hid (fun W => by have h := Try.bits_Len (s : Int) W (by omega) (by omega); rw [Int.toNat_natCast] at h; exact h)
  rw [← hC]
  clear hi0 hC hCs h1C hZ hZs h1Z hle hme hse hte hpe hoe hd hZe hll
  subst h1 h2
  go_enter Try.func44, Try.ntmps44
  go_wp2_with fail
  rw [← hW]
  simp only [← hxb]
  simp only [← hrb]
  clear hW hxb hrb
  go_wp2_with (first
    | (go_at_call 57; refine HF.out.mono ?_; rintro e w1 ⟨rfl, hb1⟩; have hq1 := hb0.trans (hb1.mono hb0.size); have hrx1 := (hb1.block xb (Array.getElem?_eq_some_iff.1 hrx).1).trans hrx; have hrr1 := (hb1.block rb (Array.getElem?_eq_some_iff.1 hrr).1).trans hrr)
    | (go_at_call 43; refine (HO.out _).mono ?_; rintro e w2 ⟨rfl, hb2⟩; have hq2 := hq1.trans (hb2.mono hq1.size); have hrx2 := (hb2.block xb (Array.getElem?_eq_some_iff.1 hrx1).1).trans hrx1; have hrr2 := (hb2.block rb (Array.getElem?_eq_some_iff.1 hrr1).1).trans hrr1)
    | (go_at_call 61; refine (HP.out _).mono ?_; rintro e w3 ⟨rfl, hw3⟩; subst hw3)
    | (go_at_call 62; refine (HLen.out _).mono ?_; rintro e w4 ⟨rfl, hw4⟩; have hw5 := hw4.symm; subst hw5)
    | (refine wpList_load_row rfl 76 _ rfl xb rfl 76 C (0, 0) _ hrx2 Try.underlying76 rfl HI.out ?_)
    | (refine wpList_store_mid rfl 76 _ _ rfl rb 0 C rfl rfl (by have h := row_there hrr2; exact (HSZ.out ▸ h)) HI.out H1C.out ?_))
  have hth : w2.there rb 0 C.toList.length := by have h := row_there hrr2; rw [Array.length_toList]; exact (HSZ.out ▸ h)
  have HLD := Lib.hid (run_loadVar_mid (P := Try.prog) (w2.setCells rb 0 C.toList) rb 0 76 C.toList _ (World.rangeAt_setCells_same _ _ _ _ hth) Try.underlying76 rfl (by rw [Array.length_toList]; exact HI.out))
  rw [Array.toArray_toList] at HLD
  have hqf := below_setC HGR.out C.toList 0 hq2
  refine bodyPost_ret (v := .tuple #[.agg C, .int .i64 0, .int .i64 0]) ?_ rfl ⟨rfl, hqf⟩
  rw [results_cell_tmp2 rfl]
  simp [asAddr, Result.andThen, HLD.out]
set_option maxRecDepth 100000 in
set_option maxHeartbeats 4000000 in
theorem fix_B (bs : List UInt8) (hl : bs.length = 256) (c : Nat) (hc : c < 65536) (l m s t p o : Nat) (hle : l = foldS bs 2048) (hme : m = c % 4096) (hse : s = l ^^^ m) (hte : t = foldT bs 2048 % 2) (hpe : p = pc16 (c % 8192)) (hoe : o = (t + p) % 2) (h1 : s ≠ 0) (h2 : o = 0) (w : World) :
    Calls Try.prog 44 #[.agg (bs.map encB).toArray, .int .u16 (c : Int)] w fun e w' => e = .returned (.tuple #[.agg ((zeroD).map encB).toArray, .int .i64 0, .int .i64 21]) ∧ Below w.heap.size w w' := by
  have hll := foldS_lt bs 2048 (Nat.le_refl _)
  have htl : t < 2 := by rw [hte]; exact Nat.mod_lt _ (by decide)
  have hml : m < 4096 := by omega
  have hsl : s < 4096 := by rw [hse]; exact Nat.xor_lt_two_pow (n := 12) (by rw [hle]; exact hll) hml
  have hpl : p ≤ 16 := by
    rw [hpe]; unfold pc16
    have a1 := pop8_le ⟨c % 8192 / 256, by omega⟩
    have a2 := pop8_le ⟨c % 8192 % 256, by omega⟩
    simp only at a1 a2
    omega
  obtain ⟨d, hd⟩ : ∃ d, d = c % 8192 := ⟨_, rfl⟩
  have hdl : d < 8192 := by omega
  have HO := Lib.hid (fun W => ones16 d hdl W)
  rw [hd, ← hpe, ← hd] at HO
  have x1 : bits .and .i64 (c : Int) 4095 = (m : Int) := by rw [hme]; exact i64_and_low 12 (by decide) c hc
  have x2 : bits .xor .i64 (l : Int) (m : Int) = (s : Int) := by rw [hse]; exact i64_xor_nat l m (by rw [hle]; exact hll) hml
  have x3 : bits .and .u16 (c : Int) 8191 = (d : Int) := by rw [hd]; exact u16_and_low 13 (by decide) c hc
  have x4 : bits .and .i64 ((t : Int) + (p : Int)) 1 = (o : Int) := by
    have h := i64_and1 (t + p) (by omega)
    rw [hoe, ← h]; congr 1
  have hi0 : (Try.prog.info? 76).map (·.size) = some 256 := by kernel_rfl
  obtain ⟨C, hC⟩ : ∃ C, C = (bs.map encB).toArray := ⟨_, rfl⟩
  have hCs : C.size = 256 := by rw [hC]; simp [hl]
  have h1C : C.all (·.oneCell') = true := by rw [hC]; exact all_oneCell_toArray (encB_all bs)
  obtain ⟨Z, hZ⟩ : ∃ Z : Array Value, Z = Array.replicate 256 (.int .u8 0) := ⟨_, rfl⟩
  have hZs : Z.size = 256 := by rw [hZ]; simp
  have h1Z : Z.all (·.oneCell') = true := by rw [hZ]; decide +kernel
  have hZe : (zeroD.map encB).toArray = Z := by rw [hZ]; kernel_rfl
  have hz : ∀ w, (zeroValue 76).run Try.prog w = .ok (.agg Z) w := by rw [hZ]; exact (zero_of_info (P := Try.prog) (t := 76) (v := .agg (Array.replicate 256 (.int .u8 0))) (n := 256) (by kernel_rfl)).1
  have HI := Lib.hid (show (Try.prog.info? 76).map (·.size) = some C.size by rw [hCs]; exact hi0)
  have HIZ := Lib.hid (show (Try.prog.info? 76).map (·.size) = some Z.size by rw [hZs]; exact hi0)
  have H1C := Lib.hid h1C
  have HSZ : Hid (Z.size = C.size) := Lib.hid (by rw [hZs, hCs])
  have H1Z := Lib.hid h1Z
  obtain ⟨W, hW⟩ : ∃ W, W = (w.alloc (.cells C 76)).alloc (.cells Z 76) := ⟨_, rfl⟩
  obtain ⟨xb, hxb⟩ : ∃ xb, xb = w.heap.size := ⟨_, rfl⟩
  obtain ⟨rb, hrb⟩ : ∃ rb, rb = xb + 1 := ⟨_, rfl⟩
  have hb0 : Below w.heap.size w W := by rw [hW]; exact ((Below.refl _ _).alloc (Nat.le_refl _) _).alloc (by simp) _
  have hrx : W.heap[xb]? = some (.cells C 76 (0, 0)) := by
    rw [hW, hxb]
    exact (((Below.refl _ (w.alloc (.cells C 76))).alloc (Nat.le_refl _) (.cells Z 76)).block w.heap.size (by simp)).trans (heap_alloc_new w _)
  have hrr : W.heap[rb]? = some (.cells Z 76 (0, 0)) := by
    have h0 := heap_alloc_new (w.alloc (.cells C 76)) (.cells Z 76)
    rw [show (w.alloc (.cells C 76)).heap.size = rb from by rw [hrb, hxb]; simp, ← hW] at h0
    exact h0
  have HGR := Lib.hid (show w.heap.size ≤ rb by omega)
  have HGX := Lib.hid (show w.heap.size ≤ xb by omega)
  have HNE := Lib.hid (show xb ≠ rb by omega)
  have HF := Lib.hid (fold_any xb bs W ⟨hl, 76, (0, 0), by rw [← hC]; exact hrx⟩)
  rw [← hle, ← hte] at HF
  have HP := Lib.hid (fun W => power_any s hsl W)
  have HLen := Lib.hid (fun W => by have h := Try.bits_Len (s : Int) W (by omega) (by omega); rw [Int.toNat_natCast] at h; exact h)
  rw [hZe, ← hC]
  clear hi0 hC hCs h1C hZ hZs h1Z hle hme hse hte hpe hoe hd hZe hll
  subst h2
  have h1i : ((s : Int) == 0) = false := by rw [beq_eq_false_iff_ne]; omega
  go_enter Try.func44, Try.ntmps44
  go_wp2_with fail
  rw [← hW]
  simp only [← hxb]
  simp only [← hrb]
  clear hW hxb hrb
  go_wp2_with (first
    | (go_at_call 57; refine HF.out.mono ?_; rintro e w1 ⟨rfl, hb1⟩; have hq1 := hb0.trans (hb1.mono hb0.size); have hrx1 := (hb1.block xb (Array.getElem?_eq_some_iff.1 hrx).1).trans hrx; have hrr1 := (hb1.block rb (Array.getElem?_eq_some_iff.1 hrr).1).trans hrr)
    | (go_at_call 43; refine (HO.out _).mono ?_; rintro e w2 ⟨rfl, hb2⟩; have hq2 := hq1.trans (hb2.mono hq1.size); have hrx2 := (hb2.block xb (Array.getElem?_eq_some_iff.1 hrx1).1).trans hrx1; have hrr2 := (hb2.block rb (Array.getElem?_eq_some_iff.1 hrr1).1).trans hrr1)
    | (go_at_call 61; refine (HP.out _).mono ?_; rintro e w3 ⟨rfl, hw3⟩; subst hw3)
    | (go_at_call 62; refine (HLen.out _).mono ?_; rintro e w4 ⟨rfl, hw4⟩; have hw5 := hw4.symm; subst hw5)
    | (refine wpList_load_row rfl 76 _ rfl xb rfl 76 C (0, 0) _ hrx2 Try.underlying76 rfl HI.out ?_)
    | (refine wpList_store_mid rfl 76 _ _ rfl rb 0 Z rfl rfl (by have h := row_there hrr2; exact h) HIZ.out H1Z.out ?_))
  have hth : w2.there rb 0 Z.toList.length := by have h := row_there hrr2; rw [Array.length_toList]; exact h
  have HLD := Lib.hid (run_loadVar_mid (P := Try.prog) (w2.setCells rb 0 Z.toList) rb 0 76 Z.toList _ (World.rangeAt_setCells_same _ _ _ _ hth) Try.underlying76 rfl (by rw [Array.length_toList]; exact HIZ.out))
  rw [Array.toArray_toList] at HLD
  have hqf := below_setC HGR.out Z.toList 0 hq2
  refine bodyPost_ret (v := .tuple #[.agg Z, .int .i64 0, .int .i64 21]) ?_ rfl ⟨rfl, hqf⟩
  rw [results_cell_tmp2 rfl]
  simp [asAddr, Result.andThen, HLD.out]
set_option maxRecDepth 100000 in
set_option maxHeartbeats 4000000 in
theorem fix_C (bs : List UInt8) (hl : bs.length = 256) (c : Nat) (hc : c < 65536) (l m s t p o : Nat) (hle : l = foldS bs 2048) (hme : m = c % 4096) (hse : s = l ^^^ m) (hte : t = foldT bs 2048 % 2) (hpe : p = pc16 (c % 8192)) (hoe : o = (t + p) % 2) (h1 : s ≠ 0) (h2 : o = 1) (h3 : powB s = true) (w : World) :
    Calls Try.prog 44 #[.agg (bs.map encB).toArray, .int .u16 (c : Int)] w fun e w' => e = .returned (.tuple #[.agg ((bs).map encB).toArray, .int .i64 1, .int .i64 0]) ∧ Below w.heap.size w w' := by
  have hll := foldS_lt bs 2048 (Nat.le_refl _)
  have htl : t < 2 := by rw [hte]; exact Nat.mod_lt _ (by decide)
  have hml : m < 4096 := by omega
  have hsl : s < 4096 := by rw [hse]; exact Nat.xor_lt_two_pow (n := 12) (by rw [hle]; exact hll) hml
  have hpl : p ≤ 16 := by
    rw [hpe]; unfold pc16
    have a1 := pop8_le ⟨c % 8192 / 256, by omega⟩
    have a2 := pop8_le ⟨c % 8192 % 256, by omega⟩
    simp only at a1 a2
    omega
  obtain ⟨d, hd⟩ : ∃ d, d = c % 8192 := ⟨_, rfl⟩
  have hdl : d < 8192 := by omega
  have HO := Lib.hid (fun W => ones16 d hdl W)
  rw [hd, ← hpe, ← hd] at HO
  have x1 : bits .and .i64 (c : Int) 4095 = (m : Int) := by rw [hme]; exact i64_and_low 12 (by decide) c hc
  have x2 : bits .xor .i64 (l : Int) (m : Int) = (s : Int) := by rw [hse]; exact i64_xor_nat l m (by rw [hle]; exact hll) hml
  have x3 : bits .and .u16 (c : Int) 8191 = (d : Int) := by rw [hd]; exact u16_and_low 13 (by decide) c hc
  have x4 : bits .and .i64 ((t : Int) + (p : Int)) 1 = (o : Int) := by
    have h := i64_and1 (t + p) (by omega)
    rw [hoe, ← h]; congr 1
  have hi0 : (Try.prog.info? 76).map (·.size) = some 256 := by kernel_rfl
  obtain ⟨C, hC⟩ : ∃ C, C = (bs.map encB).toArray := ⟨_, rfl⟩
  have hCs : C.size = 256 := by rw [hC]; simp [hl]
  have h1C : C.all (·.oneCell') = true := by rw [hC]; exact all_oneCell_toArray (encB_all bs)
  obtain ⟨Z, hZ⟩ : ∃ Z : Array Value, Z = Array.replicate 256 (.int .u8 0) := ⟨_, rfl⟩
  have hZs : Z.size = 256 := by rw [hZ]; simp
  have h1Z : Z.all (·.oneCell') = true := by rw [hZ]; decide +kernel
  have hZe : (zeroD.map encB).toArray = Z := by rw [hZ]; kernel_rfl
  have hz : ∀ w, (zeroValue 76).run Try.prog w = .ok (.agg Z) w := by rw [hZ]; exact (zero_of_info (P := Try.prog) (t := 76) (v := .agg (Array.replicate 256 (.int .u8 0))) (n := 256) (by kernel_rfl)).1
  have HI := Lib.hid (show (Try.prog.info? 76).map (·.size) = some C.size by rw [hCs]; exact hi0)
  have HIZ := Lib.hid (show (Try.prog.info? 76).map (·.size) = some Z.size by rw [hZs]; exact hi0)
  have H1C := Lib.hid h1C
  have HSZ : Hid (Z.size = C.size) := Lib.hid (by rw [hZs, hCs])
  have H1Z := Lib.hid h1Z
  obtain ⟨W, hW⟩ : ∃ W, W = (w.alloc (.cells C 76)).alloc (.cells Z 76) := ⟨_, rfl⟩
  obtain ⟨xb, hxb⟩ : ∃ xb, xb = w.heap.size := ⟨_, rfl⟩
  obtain ⟨rb, hrb⟩ : ∃ rb, rb = xb + 1 := ⟨_, rfl⟩
  have hb0 : Below w.heap.size w W := by rw [hW]; exact ((Below.refl _ _).alloc (Nat.le_refl _) _).alloc (by simp) _
  have hrx : W.heap[xb]? = some (.cells C 76 (0, 0)) := by
    rw [hW, hxb]
    exact (((Below.refl _ (w.alloc (.cells C 76))).alloc (Nat.le_refl _) (.cells Z 76)).block w.heap.size (by simp)).trans (heap_alloc_new w _)
  have hrr : W.heap[rb]? = some (.cells Z 76 (0, 0)) := by
    have h0 := heap_alloc_new (w.alloc (.cells C 76)) (.cells Z 76)
    rw [show (w.alloc (.cells C 76)).heap.size = rb from by rw [hrb, hxb]; simp, ← hW] at h0
    exact h0
  have HGR := Lib.hid (show w.heap.size ≤ rb by omega)
  have HGX := Lib.hid (show w.heap.size ≤ xb by omega)
  have HNE := Lib.hid (show xb ≠ rb by omega)
  have HF := Lib.hid (fold_any xb bs W ⟨hl, 76, (0, 0), by rw [← hC]; exact hrx⟩)
  rw [← hle, ← hte] at HF
  have HP := Lib.hid (fun W => power_any s hsl W)
  have HLen := Lib.hid (fun W => by have h := Try.bits_Len (s : Int) W (by omega) (by omega); rw [Int.toNat_natCast] at h; exact h)
  rw [← hC]
  clear hi0 hC hCs h1C hZ hZs h1Z hle hme hse hte hpe hoe hd hZe hll
  subst h2
  have h1i : ((s : Int) == 0) = false := by rw [beq_eq_false_iff_ne]; omega
  rw [h3] at HP
  go_enter Try.func44, Try.ntmps44
  go_wp2_with fail
  rw [← hW]
  simp only [← hxb]
  simp only [← hrb]
  clear hW hxb hrb
  go_wp2_with (first
    | (go_at_call 57; refine HF.out.mono ?_; rintro e w1 ⟨rfl, hb1⟩; have hq1 := hb0.trans (hb1.mono hb0.size); have hrx1 := (hb1.block xb (Array.getElem?_eq_some_iff.1 hrx).1).trans hrx; have hrr1 := (hb1.block rb (Array.getElem?_eq_some_iff.1 hrr).1).trans hrr)
    | (go_at_call 43; refine (HO.out _).mono ?_; rintro e w2 ⟨rfl, hb2⟩; have hq2 := hq1.trans (hb2.mono hq1.size); have hrx2 := (hb2.block xb (Array.getElem?_eq_some_iff.1 hrx1).1).trans hrx1; have hrr2 := (hb2.block rb (Array.getElem?_eq_some_iff.1 hrr1).1).trans hrr1)
    | (go_at_call 61; refine (HP.out _).mono ?_; rintro e w3 ⟨rfl, hw3⟩; subst hw3)
    | (go_at_call 62; refine (HLen.out _).mono ?_; rintro e w4 ⟨rfl, hw4⟩; have hw5 := hw4.symm; subst hw5)
    | (refine wpList_load_row rfl 76 _ rfl xb rfl 76 C (0, 0) _ hrx2 Try.underlying76 rfl HI.out ?_)
    | (refine wpList_store_mid rfl 76 _ _ rfl rb 0 C rfl rfl (by have h := row_there hrr2; exact (HSZ.out ▸ h)) HI.out H1C.out ?_))
  have hth : w2.there rb 0 C.toList.length := by have h := row_there hrr2; rw [Array.length_toList]; exact (HSZ.out ▸ h)
  have HLD := Lib.hid (run_loadVar_mid (P := Try.prog) (w2.setCells rb 0 C.toList) rb 0 76 C.toList _ (World.rangeAt_setCells_same _ _ _ _ hth) Try.underlying76 rfl (by rw [Array.length_toList]; exact HI.out))
  rw [Array.toArray_toList] at HLD
  have hqf := below_setC HGR.out C.toList 0 hq2
  refine bodyPost_ret (v := .tuple #[.agg C, .int .i64 1, .int .i64 0]) ?_ rfl ⟨rfl, hqf⟩
  rw [results_cell_tmp2 rfl]
  simp [asAddr, Result.andThen, HLD.out]
set_option maxRecDepth 100000 in
set_option maxHeartbeats 4000000 in
theorem fix_G (bs : List UInt8) (hl : bs.length = 256) (c : Nat) (hc : c < 65536) (l m s t p o : Nat) (hle : l = foldS bs 2048) (hme : m = c % 4096) (hse : s = l ^^^ m) (hte : t = foldT bs 2048 % 2) (hpe : p = pc16 (c % 8192)) (hoe : o = (t + p) % 2) (h1 : s = 0) (h2 : o = 1) (w : World) :
    Calls Try.prog 44 #[.agg (bs.map encB).toArray, .int .u16 (c : Int)] w fun e w' => e = .returned (.tuple #[.agg ((bs).map encB).toArray, .int .i64 1, .int .i64 0]) ∧ Below w.heap.size w w' := by
  have hll := foldS_lt bs 2048 (Nat.le_refl _)
  have htl : t < 2 := by rw [hte]; exact Nat.mod_lt _ (by decide)
  have hml : m < 4096 := by omega
  have hsl : s < 4096 := by rw [hse]; exact Nat.xor_lt_two_pow (n := 12) (by rw [hle]; exact hll) hml
  have hpl : p ≤ 16 := by
    rw [hpe]; unfold pc16
    have a1 := pop8_le ⟨c % 8192 / 256, by omega⟩
    have a2 := pop8_le ⟨c % 8192 % 256, by omega⟩
    simp only at a1 a2
    omega
  obtain ⟨d, hd⟩ : ∃ d, d = c % 8192 := ⟨_, rfl⟩
  have hdl : d < 8192 := by omega
  have HO := Lib.hid (fun W => ones16 d hdl W)
  rw [hd, ← hpe, ← hd] at HO
  have x1 : bits .and .i64 (c : Int) 4095 = (m : Int) := by rw [hme]; exact i64_and_low 12 (by decide) c hc
  have x2 : bits .xor .i64 (l : Int) (m : Int) = (s : Int) := by rw [hse]; exact i64_xor_nat l m (by rw [hle]; exact hll) hml
  have x3 : bits .and .u16 (c : Int) 8191 = (d : Int) := by rw [hd]; exact u16_and_low 13 (by decide) c hc
  have x4 : bits .and .i64 ((t : Int) + (p : Int)) 1 = (o : Int) := by
    have h := i64_and1 (t + p) (by omega)
    rw [hoe, ← h]; congr 1
  have hi0 : (Try.prog.info? 76).map (·.size) = some 256 := by kernel_rfl
  obtain ⟨C, hC⟩ : ∃ C, C = (bs.map encB).toArray := ⟨_, rfl⟩
  have hCs : C.size = 256 := by rw [hC]; simp [hl]
  have h1C : C.all (·.oneCell') = true := by rw [hC]; exact all_oneCell_toArray (encB_all bs)
  obtain ⟨Z, hZ⟩ : ∃ Z : Array Value, Z = Array.replicate 256 (.int .u8 0) := ⟨_, rfl⟩
  have hZs : Z.size = 256 := by rw [hZ]; simp
  have h1Z : Z.all (·.oneCell') = true := by rw [hZ]; decide +kernel
  have hZe : (zeroD.map encB).toArray = Z := by rw [hZ]; kernel_rfl
  have hz : ∀ w, (zeroValue 76).run Try.prog w = .ok (.agg Z) w := by rw [hZ]; exact (zero_of_info (P := Try.prog) (t := 76) (v := .agg (Array.replicate 256 (.int .u8 0))) (n := 256) (by kernel_rfl)).1
  have HI := Lib.hid (show (Try.prog.info? 76).map (·.size) = some C.size by rw [hCs]; exact hi0)
  have HIZ := Lib.hid (show (Try.prog.info? 76).map (·.size) = some Z.size by rw [hZs]; exact hi0)
  have H1C := Lib.hid h1C
  have HSZ : Hid (Z.size = C.size) := Lib.hid (by rw [hZs, hCs])
  have H1Z := Lib.hid h1Z
  obtain ⟨W, hW⟩ : ∃ W, W = (w.alloc (.cells C 76)).alloc (.cells Z 76) := ⟨_, rfl⟩
  obtain ⟨xb, hxb⟩ : ∃ xb, xb = w.heap.size := ⟨_, rfl⟩
  obtain ⟨rb, hrb⟩ : ∃ rb, rb = xb + 1 := ⟨_, rfl⟩
  have hb0 : Below w.heap.size w W := by rw [hW]; exact ((Below.refl _ _).alloc (Nat.le_refl _) _).alloc (by simp) _
  have hrx : W.heap[xb]? = some (.cells C 76 (0, 0)) := by
    rw [hW, hxb]
    exact (((Below.refl _ (w.alloc (.cells C 76))).alloc (Nat.le_refl _) (.cells Z 76)).block w.heap.size (by simp)).trans (heap_alloc_new w _)
  have hrr : W.heap[rb]? = some (.cells Z 76 (0, 0)) := by
    have h0 := heap_alloc_new (w.alloc (.cells C 76)) (.cells Z 76)
    rw [show (w.alloc (.cells C 76)).heap.size = rb from by rw [hrb, hxb]; simp, ← hW] at h0
    exact h0
  have HGR := Lib.hid (show w.heap.size ≤ rb by omega)
  have HGX := Lib.hid (show w.heap.size ≤ xb by omega)
  have HNE := Lib.hid (show xb ≠ rb by omega)
  have HF := Lib.hid (fold_any xb bs W ⟨hl, 76, (0, 0), by rw [← hC]; exact hrx⟩)
  rw [← hle, ← hte] at HF
  have HP := Lib.hid (fun W => power_any s hsl W)
  have HLen := Lib.hid (fun W => by have h := Try.bits_Len (s : Int) W (by omega) (by omega); rw [Int.toNat_natCast] at h; exact h)
  rw [← hC]
  clear hi0 hC hCs h1C hZ hZs h1Z hle hme hse hte hpe hoe hd hZe hll
  subst h1 h2
  rw [show powB 0 = true from by decide] at HP
  go_enter Try.func44, Try.ntmps44
  go_wp2_with fail
  rw [← hW]
  simp only [← hxb]
  simp only [← hrb]
  clear hW hxb hrb
  go_wp2_with (first
    | (go_at_call 57; refine HF.out.mono ?_; rintro e w1 ⟨rfl, hb1⟩; have hq1 := hb0.trans (hb1.mono hb0.size); have hrx1 := (hb1.block xb (Array.getElem?_eq_some_iff.1 hrx).1).trans hrx; have hrr1 := (hb1.block rb (Array.getElem?_eq_some_iff.1 hrr).1).trans hrr)
    | (go_at_call 43; refine (HO.out _).mono ?_; rintro e w2 ⟨rfl, hb2⟩; have hq2 := hq1.trans (hb2.mono hq1.size); have hrx2 := (hb2.block xb (Array.getElem?_eq_some_iff.1 hrx1).1).trans hrx1; have hrr2 := (hb2.block rb (Array.getElem?_eq_some_iff.1 hrr1).1).trans hrr1)
    | (go_at_call 61; refine (HP.out _).mono ?_; rintro e w3 ⟨rfl, hw3⟩; subst hw3)
    | (go_at_call 62; refine (HLen.out _).mono ?_; rintro e w4 ⟨rfl, hw4⟩; have hw5 := hw4.symm; subst hw5)
    | (refine wpList_load_row rfl 76 _ rfl xb rfl 76 C (0, 0) _ hrx2 Try.underlying76 rfl HI.out ?_)
    | (refine wpList_store_mid rfl 76 _ _ rfl rb 0 C rfl rfl (by have h := row_there hrr2; exact (HSZ.out ▸ h)) HI.out H1C.out ?_))
  have hth : w2.there rb 0 C.toList.length := by have h := row_there hrr2; rw [Array.length_toList]; exact (HSZ.out ▸ h)
  have HLD := Lib.hid (run_loadVar_mid (P := Try.prog) (w2.setCells rb 0 C.toList) rb 0 76 C.toList _ (World.rangeAt_setCells_same _ _ _ _ hth) Try.underlying76 rfl (by rw [Array.length_toList]; exact HI.out))
  rw [Array.toArray_toList] at HLD
  have hqf := below_setC HGR.out C.toList 0 hq2
  refine bodyPost_ret (v := .tuple #[.agg C, .int .i64 1, .int .i64 0]) ?_ rfl ⟨rfl, hqf⟩
  rw [results_cell_tmp2 rfl]
  simp [asAddr, Result.andThen, HLD.out]
set_option maxRecDepth 100000 in
set_option maxHeartbeats 4000000 in
theorem fix_D (bs : List UInt8) (hl : bs.length = 256) (c : Nat) (hc : c < 65536) (l m s t p o : Nat) (hle : l = foldS bs 2048) (hme : m = c % 4096) (hse : s = l ^^^ m) (hte : t = foldT bs 2048 % 2) (hpe : p = pc16 (c % 8192)) (hoe : o = (t + p) % 2) (h2 : o = 1) (h3 : powB s = false) (b i : Nat) (hbe : b = Lib.bitLen s) (hie : (i : Int) = (s : Int) - 1 - b) (h4 : 2048 ≤ i) (w : World) :
    Calls Try.prog 44 #[.agg (bs.map encB).toArray, .int .u16 (c : Int)] w fun e w' => e = .returned (.tuple #[.agg ((zeroD).map encB).toArray, .int .i64 0, .int .i64 21]) ∧ Below w.heap.size w w' := by
  have hll := foldS_lt bs 2048 (Nat.le_refl _)
  have htl : t < 2 := by rw [hte]; exact Nat.mod_lt _ (by decide)
  have hml : m < 4096 := by omega
  have hsl : s < 4096 := by rw [hse]; exact Nat.xor_lt_two_pow (n := 12) (by rw [hle]; exact hll) hml
  have hpl : p ≤ 16 := by
    rw [hpe]; unfold pc16
    have a1 := pop8_le ⟨c % 8192 / 256, by omega⟩
    have a2 := pop8_le ⟨c % 8192 % 256, by omega⟩
    simp only at a1 a2
    omega
  obtain ⟨d, hd⟩ : ∃ d, d = c % 8192 := ⟨_, rfl⟩
  have hdl : d < 8192 := by omega
  have HO := Lib.hid (fun W => ones16 d hdl W)
  rw [hd, ← hpe, ← hd] at HO
  have x1 : bits .and .i64 (c : Int) 4095 = (m : Int) := by rw [hme]; exact i64_and_low 12 (by decide) c hc
  have x2 : bits .xor .i64 (l : Int) (m : Int) = (s : Int) := by rw [hse]; exact i64_xor_nat l m (by rw [hle]; exact hll) hml
  have x3 : bits .and .u16 (c : Int) 8191 = (d : Int) := by rw [hd]; exact u16_and_low 13 (by decide) c hc
  have x4 : bits .and .i64 ((t : Int) + (p : Int)) 1 = (o : Int) := by
    have h := i64_and1 (t + p) (by omega)
    rw [hoe, ← h]; congr 1
  have hi0 : (Try.prog.info? 76).map (·.size) = some 256 := by kernel_rfl
  obtain ⟨C, hC⟩ : ∃ C, C = (bs.map encB).toArray := ⟨_, rfl⟩
  have hCs : C.size = 256 := by rw [hC]; simp [hl]
  have h1C : C.all (·.oneCell') = true := by rw [hC]; exact all_oneCell_toArray (encB_all bs)
  obtain ⟨Z, hZ⟩ : ∃ Z : Array Value, Z = Array.replicate 256 (.int .u8 0) := ⟨_, rfl⟩
  have hZs : Z.size = 256 := by rw [hZ]; simp
  have h1Z : Z.all (·.oneCell') = true := by rw [hZ]; decide +kernel
  have hZe : (zeroD.map encB).toArray = Z := by rw [hZ]; kernel_rfl
  have hz : ∀ w, (zeroValue 76).run Try.prog w = .ok (.agg Z) w := by rw [hZ]; exact (zero_of_info (P := Try.prog) (t := 76) (v := .agg (Array.replicate 256 (.int .u8 0))) (n := 256) (by kernel_rfl)).1
  have HI := Lib.hid (show (Try.prog.info? 76).map (·.size) = some C.size by rw [hCs]; exact hi0)
  have HIZ := Lib.hid (show (Try.prog.info? 76).map (·.size) = some Z.size by rw [hZs]; exact hi0)
  have H1C := Lib.hid h1C
  have HSZ : Hid (Z.size = C.size) := Lib.hid (by rw [hZs, hCs])
  have H1Z := Lib.hid h1Z
  obtain ⟨W, hW⟩ : ∃ W, W = (w.alloc (.cells C 76)).alloc (.cells Z 76) := ⟨_, rfl⟩
  obtain ⟨xb, hxb⟩ : ∃ xb, xb = w.heap.size := ⟨_, rfl⟩
  obtain ⟨rb, hrb⟩ : ∃ rb, rb = xb + 1 := ⟨_, rfl⟩
  have hb0 : Below w.heap.size w W := by rw [hW]; exact ((Below.refl _ _).alloc (Nat.le_refl _) _).alloc (by simp) _
  have hrx : W.heap[xb]? = some (.cells C 76 (0, 0)) := by
    rw [hW, hxb]
    exact (((Below.refl _ (w.alloc (.cells C 76))).alloc (Nat.le_refl _) (.cells Z 76)).block w.heap.size (by simp)).trans (heap_alloc_new w _)
  have hrr : W.heap[rb]? = some (.cells Z 76 (0, 0)) := by
    have h0 := heap_alloc_new (w.alloc (.cells C 76)) (.cells Z 76)
    rw [show (w.alloc (.cells C 76)).heap.size = rb from by rw [hrb, hxb]; simp, ← hW] at h0
    exact h0
  have HGR := Lib.hid (show w.heap.size ≤ rb by omega)
  have HGX := Lib.hid (show w.heap.size ≤ xb by omega)
  have HNE := Lib.hid (show xb ≠ rb by omega)
  have HF := Lib.hid (fold_any xb bs W ⟨hl, 76, (0, 0), by rw [← hC]; exact hrx⟩)
  rw [← hle, ← hte] at HF
  have HP := Lib.hid (fun W => power_any s hsl W)
  have HLen := Lib.hid (fun W => by have h := Try.bits_Len (s : Int) W (by omega) (by omega); rw [Int.toNat_natCast] at h; exact h)
  rw [hZe, ← hC]
  clear hi0 hC hCs h1C hZ hZs h1Z hle hme hse hte hpe hoe hd hZe hll
  subst h2
  rw [h3] at HP
  rw [← hbe] at HLen
  have hie2 : (s : Int) - 1 - (b : Int) = (i : Int) := by omega
  have h4i : (2048 : Int) ≤ i := by omega
  clear hie hbe
  go_enter Try.func44, Try.ntmps44
  go_wp2_with fail
  rw [← hW]
  simp only [← hxb]
  simp only [← hrb]
  clear hW hxb hrb
  go_wp2_with (first
    | (go_at_call 57; refine HF.out.mono ?_; rintro e w1 ⟨rfl, hb1⟩; have hq1 := hb0.trans (hb1.mono hb0.size); have hrx1 := (hb1.block xb (Array.getElem?_eq_some_iff.1 hrx).1).trans hrx; have hrr1 := (hb1.block rb (Array.getElem?_eq_some_iff.1 hrr).1).trans hrr)
    | (go_at_call 43; refine (HO.out _).mono ?_; rintro e w2 ⟨rfl, hb2⟩; have hq2 := hq1.trans (hb2.mono hq1.size); have hrx2 := (hb2.block xb (Array.getElem?_eq_some_iff.1 hrx1).1).trans hrx1; have hrr2 := (hb2.block rb (Array.getElem?_eq_some_iff.1 hrr1).1).trans hrr1)
    | (go_at_call 61; refine (HP.out _).mono ?_; rintro e w3 ⟨rfl, hw3⟩; subst hw3)
    | (go_at_call 62; refine (HLen.out _).mono ?_; rintro e w4 ⟨rfl, hw4⟩; have hw5 := hw4.symm; subst hw5)
    | (refine wpList_load_row rfl 76 _ rfl xb rfl 76 C (0, 0) _ hrx2 Try.underlying76 rfl HI.out ?_)
    | (refine wpList_store_mid rfl 76 _ _ rfl rb 0 Z rfl rfl (by have h := row_there hrr2; exact h) HIZ.out H1Z.out ?_))
  have hth : w2.there rb 0 Z.toList.length := by have h := row_there hrr2; rw [Array.length_toList]; exact h
  have HLD := Lib.hid (run_loadVar_mid (P := Try.prog) (w2.setCells rb 0 Z.toList) rb 0 76 Z.toList _ (World.rangeAt_setCells_same _ _ _ _ hth) Try.underlying76 rfl (by rw [Array.length_toList]; exact HIZ.out))
  rw [Array.toArray_toList] at HLD
  have hqf := below_setC HGR.out Z.toList 0 hq2
  refine bodyPost_ret (v := .tuple #[.agg Z, .int .i64 0, .int .i64 21]) ?_ rfl ⟨rfl, hqf⟩
  rw [results_cell_tmp2 rfl]
  simp [asAddr, Result.andThen, HLD.out]
set_option maxRecDepth 100000 in
set_option maxHeartbeats 4000000 in
theorem fix_E (bs : List UInt8) (hl : bs.length = 256) (c : Nat) (hc : c < 65536) (l m s t p o : Nat) (hle : l = foldS bs 2048) (hme : m = c % 4096) (hse : s = l ^^^ m) (hte : t = foldT bs 2048 % 2) (hpe : p = pc16 (c % 8192)) (hoe : o = (t + p) % 2) (h2 : o = 1) (h3 : powB s = false) (b i q r : Nat) (hbe : b = Lib.bitLen s) (hie : (i : Int) = (s : Int) - 1 - b) (h4 : i < 2048) (hqe : q = i / 8) (hre : r = i % 8) (w : World) :
    Calls Try.prog 44 #[.agg (bs.map encB).toArray, .int .u16 (c : Int)] w fun e w' => e = .returned (.tuple #[.agg ((flipD bs i).map encB).toArray, .int .i64 1, .int .i64 0]) ∧ Below w.heap.size w w' := by
  have hll := foldS_lt bs 2048 (Nat.le_refl _)
  have htl : t < 2 := by rw [hte]; exact Nat.mod_lt _ (by decide)
  have hml : m < 4096 := by omega
  have hsl : s < 4096 := by rw [hse]; exact Nat.xor_lt_two_pow (n := 12) (by rw [hle]; exact hll) hml
  have hpl : p ≤ 16 := by
    rw [hpe]; unfold pc16
    have a1 := pop8_le ⟨c % 8192 / 256, by omega⟩
    have a2 := pop8_le ⟨c % 8192 % 256, by omega⟩
    simp only at a1 a2
    omega
  obtain ⟨d, hd⟩ : ∃ d, d = c % 8192 := ⟨_, rfl⟩
  have hdl : d < 8192 := by omega
  have HO := Lib.hid (fun W => ones16 d hdl W)
  rw [hd, ← hpe, ← hd] at HO
  have x1 : bits .and .i64 (c : Int) 4095 = (m : Int) := by rw [hme]; exact i64_and_low 12 (by decide) c hc
  have x2 : bits .xor .i64 (l : Int) (m : Int) = (s : Int) := by rw [hse]; exact i64_xor_nat l m (by rw [hle]; exact hll) hml
  have x3 : bits .and .u16 (c : Int) 8191 = (d : Int) := by rw [hd]; exact u16_and_low 13 (by decide) c hc
  have x4 : bits .and .i64 ((t : Int) + (p : Int)) 1 = (o : Int) := by
    have h := i64_and1 (t + p) (by omega)
    rw [hoe, ← h]; congr 1
  have hi0 : (Try.prog.info? 76).map (·.size) = some 256 := by kernel_rfl
  obtain ⟨C, hC⟩ : ∃ C, C = (bs.map encB).toArray := ⟨_, rfl⟩
  have hCs : C.size = 256 := by rw [hC]; simp [hl]
  have h1C : C.all (·.oneCell') = true := by rw [hC]; exact all_oneCell_toArray (encB_all bs)
  obtain ⟨Z, hZ⟩ : ∃ Z : Array Value, Z = Array.replicate 256 (.int .u8 0) := ⟨_, rfl⟩
  have hZs : Z.size = 256 := by rw [hZ]; simp
  have h1Z : Z.all (·.oneCell') = true := by rw [hZ]; decide +kernel
  have hZe : (zeroD.map encB).toArray = Z := by rw [hZ]; kernel_rfl
  have hz : ∀ w, (zeroValue 76).run Try.prog w = .ok (.agg Z) w := by rw [hZ]; exact (zero_of_info (P := Try.prog) (t := 76) (v := .agg (Array.replicate 256 (.int .u8 0))) (n := 256) (by kernel_rfl)).1
  have HI := Lib.hid (show (Try.prog.info? 76).map (·.size) = some C.size by rw [hCs]; exact hi0)
  have HIZ := Lib.hid (show (Try.prog.info? 76).map (·.size) = some Z.size by rw [hZs]; exact hi0)
  have H1C := Lib.hid h1C
  have HSZ : Hid (Z.size = C.size) := Lib.hid (by rw [hZs, hCs])
  have H1Z := Lib.hid h1Z
  obtain ⟨W, hW⟩ : ∃ W, W = (w.alloc (.cells C 76)).alloc (.cells Z 76) := ⟨_, rfl⟩
  obtain ⟨xb, hxb⟩ : ∃ xb, xb = w.heap.size := ⟨_, rfl⟩
  obtain ⟨rb, hrb⟩ : ∃ rb, rb = xb + 1 := ⟨_, rfl⟩
  have hb0 : Below w.heap.size w W := by rw [hW]; exact ((Below.refl _ _).alloc (Nat.le_refl _) _).alloc (by simp) _
  have hrx : W.heap[xb]? = some (.cells C 76 (0, 0)) := by
    rw [hW, hxb]
    exact (((Below.refl _ (w.alloc (.cells C 76))).alloc (Nat.le_refl _) (.cells Z 76)).block w.heap.size (by simp)).trans (heap_alloc_new w _)
  have hrr : W.heap[rb]? = some (.cells Z 76 (0, 0)) := by
    have h0 := heap_alloc_new (w.alloc (.cells C 76)) (.cells Z 76)
    rw [show (w.alloc (.cells C 76)).heap.size = rb from by rw [hrb, hxb]; simp, ← hW] at h0
    exact h0
  have HGR := Lib.hid (show w.heap.size ≤ rb by omega)
  have HGX := Lib.hid (show w.heap.size ≤ xb by omega)
  have HNE := Lib.hid (show xb ≠ rb by omega)
  have HF := Lib.hid (fold_any xb bs W ⟨hl, 76, (0, 0), by rw [← hC]; exact hrx⟩)
  rw [← hle, ← hte] at HF
  have HP := Lib.hid (fun W => power_any s hsl W)
  have HLen := Lib.hid (fun W => by have h := Try.bits_Len (s : Int) W (by omega) (by omega); rw [Int.toNat_natCast] at h; exact h)
  have HC0 : Hid (W.heap[xb]? = some (.cells (bs.map encB).toArray 76 (0, 0))) := Lib.hid (by rw [← hC]; exact hrx)
  have HCE := Lib.hid hC
  have HZS := Lib.hid hZs
  rw [← hC]
  clear hi0 hC hCs h1C hZ hZs h1Z hle hme hse hte hpe hoe hd hZe hll
  subst h2
  rw [h3] at HP
  rw [← hbe] at HLen
  have hie2 : (s : Int) - 1 - (b : Int) = (i : Int) := by omega
  have h4i : (i : Int) < 2048 := by omega
  have x5 : (i : Int) / 8 = (q : Int) := by omega
  have x6 : bits .and .i64 (i : Int) 7 = (r : Int) := by rw [hre]; exact i64_and_low 3 (by decide) i (by omega)
  have hql : (q : Int) < 256 := by omega
  have hrl : r < 8 := by omega
  have hxq := Dat.cell (w := W) ⟨hl, 76, (0, 0), HC0.out⟩ q (by omega)
  obtain ⟨x, hx⟩ : ∃ x, x = (bs.getD q 0).toNat := ⟨_, rfl⟩
  have hx8 : x < 256 := by rw [hx]; exact (bs.getD q 0).toNat_lt
  rw [← hx] at hxq
  clear hie hbe
  go_enter Try.func44, Try.ntmps44
  go_wp2_with fail
  rw [← hW]
  simp only [← hxb]
  simp only [← hrb]
  clear hW hxb hrb
  go_wp2_with (first
    | (go_at_call 57; refine HF.out.mono ?_; rintro e w1 ⟨rfl, hb1⟩; have hq1 := hb0.trans (hb1.mono hb0.size); have hrx1 := (hb1.block xb (Array.getElem?_eq_some_iff.1 hrx).1).trans hrx; have hrr1 := (hb1.block rb (Array.getElem?_eq_some_iff.1 hrr).1).trans hrr)
    | (go_at_call 43; refine (HO.out _).mono ?_; rintro e w2 ⟨rfl, hb2⟩; have hq2 := hq1.trans (hb2.mono hq1.size); have hrx2 := (hb2.block xb (Array.getElem?_eq_some_iff.1 hrx1).1).trans hrx1; have hrr2 := (hb2.block rb (Array.getElem?_eq_some_iff.1 hrr1).1).trans hrr1)
    | (go_at_call 61; refine (HP.out _).mono ?_; rintro e w3 ⟨rfl, hw3⟩; subst hw3)
    | (go_at_call 62; refine (HLen.out _).mono ?_; rintro e w4 ⟨rfl, hw4⟩; have hw5 := hw4.symm; subst hw5)
    | (refine wpList_load_row rfl 76 _ rfl xb rfl 76 C (0, 0) _ hrx2 Try.underlying76 rfl HI.out ?_)
    | (refine wpList_store_mid rfl 76 _ _ rfl rb 0 C rfl rfl (by have h := row_there hrr2; exact (HSZ.out ▸ h)) HI.out H1C.out ?_))
  have hxq2 := cell_later hb2 (cell_later hb1 hxq)
  have hfq2 : w2.frozen? ⟨xb, q, none⟩ = false := by simp [World.frozen?, hrx2]
  have hi0 : (0 : Int) ≤ i := by omega
  have hq0 : (0 : Int) ≤ q := by omega
  have HX2 := Lib.hid hrx2
  have HR2 := Lib.hid hrr2
  have HB2 := Lib.hid hq2
  have HXE := Lib.hid hx
  have HQE := Lib.hid hqe
  have HRE := Lib.hid hre
  clear hz x1 x2 x3 x4 hie2 hrx hrr hrx1 hrr1 hrx2 hrr2 hb1 hb2 hq1 hq2 hb0 hx hqe hre h3 hxq HO HP HLen HF HIZ H1Z htl hml hsl hpl hdl hc HC0
  go_region
  obtain ⟨w4, hw4'⟩ : ∃ w' : World, w' = (w2.setCell ⟨xb, q, none⟩ (.int .u8 (bits .xor .u8 (x : Int) ((2 : Int) ^ r % 256)))).drew := ⟨_, rfl⟩
  obtain ⟨C2, hC2⟩ : ∃ C2, C2 = ((flipD bs i).map encB).toArray := ⟨_, rfl⟩
  have hy : bits .xor .u8 (x : Int) ((2 : Int) ^ r % 256) = ((x ^^^ 2 ^ r : Nat) : Int) := u8_flip x r hx8 hrl
  have hyl : x ^^^ 2 ^ r < 256 := Nat.xor_lt_two_pow (n := 8) hx8 (by have := Nat.pow_lt_pow_right (a := 2) (by decide) hrl; simpa using this)
  have hC2e : C.setIfInBounds q (.int .u8 ((x ^^^ 2 ^ r : Nat) : Int)) = C2 := by
    rw [hC2, HCE.out]
    unfold flipD
    rw [← HQE.out, ← HRE.out, ← HXE.out, List.map_set, List.setIfInBounds_toArray]
    congr 2
    show _ = Value.int .u8 _
    rw [UInt8.toNat_ofNat_of_lt' hyl]
  have hrx4 : w4.heap[xb]? = some (.cells C2 76 (0, 0)) := by
    rw [hw4']
    show (w2.setCell _ _).heap[xb]? = _
    rw [Go.Joins.block_setCell HX2.out, hy, hC2e]
  have hrr4 : w4.heap[rb]? = some (.cells Z 76 (0, 0)) := by
    rw [hw4']
    show (w2.setCell _ _).heap[rb]? = _
    rw [Below.heap_setCell _ _ _ _ HNE.out.symm]; exact HR2.out
  have hq4 : Below w.heap.size w w4 := by rw [hw4']; exact (HB2.out.setCell (p := ⟨xb, q, none⟩) HGX.out _).drew
  have hC2s : C2.size = 256 := by rw [hC2]; simp [flipD, hl]
  have HI2 := Lib.hid (show (Try.prog.info? 76).map (·.size) = some C2.size by rw [hC2s]; kernel_rfl)
  have H1C2 : Hid (C2.all (·.oneCell') = true) := Lib.hid (by rw [hC2]; exact all_oneCell_toArray (encB_all _))
  have HSZ2 : Hid (Z.size = C2.size) := Lib.hid (by rw [hC2s]; exact HZS.out)
  rw [← hw4']
  have HC2 := Lib.hid hC2
  clear hw4' hC2e hy hyl hC2s hC2 hxq2 hfq2 x5 x6
  go_wp2_with (first
    | (refine wpList_load_row rfl 76 _ rfl xb rfl 76 C2 (0, 0) _ hrx4 Try.underlying76 rfl HI2.out ?_)
    | (refine wpList_store_mid rfl 76 _ _ rfl rb 0 C2 rfl rfl (by have h := row_there hrr4; exact (HSZ2.out ▸ h)) HI2.out H1C2.out ?_))
  have hth : w4.there rb 0 C2.toList.length := by have h := row_there hrr4; rw [Array.length_toList]; exact (HSZ2.out ▸ h)
  have HLD := Lib.hid (run_loadVar_mid (P := Try.prog) (w4.setCells rb 0 C2.toList) rb 0 76 C2.toList _ (World.rangeAt_setCells_same _ _ _ _ hth) Try.underlying76 rfl (by rw [Array.length_toList]; exact HI2.out))
  rw [Array.toArray_toList] at HLD
  have hqf := below_setC HGR.out C2.toList 0 hq4
  refine bodyPost_ret (v := .tuple #[.agg C2, .int .i64 1, .int .i64 0]) ?_ rfl ⟨by rw [HC2.out], hqf⟩
  rw [results_cell_tmp2 rfl]
  simp [asAddr, Result.andThen, HLD.out]
set_option maxRecDepth 100000 in
theorem fix_any (bs : List UInt8) (hl : bs.length = 256) (c : Nat) (hc : c < 65536) (w : World) :
    Calls Try.prog 44 #[.agg (bs.map encB).toArray, .int .u16 (c : Int)] w fun e w' => e = .returned (.tuple #[.agg ((fixR bs c).1.map encB).toArray, .int .i64 ((fixR bs c).2.1 : Int), .int .i64 ((fixR bs c).2.2 : Int)]) ∧ Below w.heap.size w w' := by
  have hsl : foldS bs 2048 ^^^ (c % 4096) < 4096 := Nat.xor_lt_two_pow (n := 12) (foldS_lt bs 2048 (Nat.le_refl _)) (by omega)
  have ho : (foldT bs 2048 % 2 + pc16 (c % 8192)) % 2 < 2 := Nat.mod_lt _ (by decide)
  unfold fixR
  by_cases h1 : foldS bs 2048 ^^^ (c % 4096) = 0 ∧ (foldT bs 2048 % 2 + pc16 (c % 8192)) % 2 = 0
  · rw [if_pos h1]
    exact fix_A bs hl c hc _ _ _ _ _ _ rfl rfl rfl rfl rfl rfl h1.1 h1.2 w
  rw [if_neg h1]
  by_cases h2 : (foldT bs 2048 % 2 + pc16 (c % 8192)) % 2 = 0
  · rw [if_pos h2]
    exact fix_B bs hl c hc _ _ _ _ _ _ rfl rfl rfl rfl rfl rfl (fun h => h1 ⟨h, h2⟩) h2 w
  rw [if_neg h2]
  have h3 : (foldT bs 2048 % 2 + pc16 (c % 8192)) % 2 = 1 := by omega
  by_cases h4 : powB (foldS bs 2048 ^^^ (c % 4096)) = true
  · rw [if_pos h4]
    by_cases h5 : foldS bs 2048 ^^^ (c % 4096) = 0
    · exact fix_G bs hl c hc _ _ _ _ _ _ rfl rfl rfl rfl rfl rfl h5 h3 w
    · exact fix_C bs hl c hc _ _ _ _ _ _ rfl rfl rfl rfl rfl rfl h5 h3 h4 w
  rw [if_neg h4]
  have h6 : powB (foldS bs 2048 ^^^ (c % 4096)) = false := by simpa using h4
  have hlen := len_all ⟨_, hsl⟩ h6
  simp only at hlen
  by_cases h7 : 2048 ≤ (foldS bs 2048 ^^^ (c % 4096)) - 1 - Lib.bitLen (foldS bs 2048 ^^^ (c % 4096))
  · rw [if_pos h7]
    exact fix_D bs hl c hc _ _ _ _ _ _ rfl rfl rfl rfl rfl rfl h3 h6 _ _ rfl (by omega) h7 w
  · rw [if_neg h7]
    exact fix_E bs hl c hc _ _ _ _ _ _ rfl rfl rfl rfl rfl rfl h3 h6 _ _ _ _ rfl (by omega) (by omega) rfl rfl w
end Go.Proofs.YtljdfhckllncoaaK
