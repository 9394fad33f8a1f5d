import Derived.Test.YtljdfhckllncoaaKLiveK
import Derived.Test.YtljdfhckllncoaaKInvA
import Derived.Test.YtljdfhckllncoaaKNodeW
import Derived.Test.YtljdfhckllncoaaKArr
import Derived.Test.YtljdfhckllncoaaKRows
import Derived.Deep.DeepCutAuto
namespace Go.Proofs.YtljdfhckllncoaaK
open Go.RowKit
set_option linter.unusedSimpArgs false
set_option linter.unusedVariables false
/-- What each operation of the fourth statement leaves. -/
def lvF (L Z LA LB : List Value) (B0 : Nat) (xs ys : List Int) : Nat → Value → World → Prop
  | 0, v, _ => v = .agg L.toArray
  | 1, v, _ => ∃ b, v = .slice (some ⟨b, 0, none⟩) 0 0
  | 2, v, w => Is .i64 w v xs
  | 3, v, w => Is .i64 w v xs
  | 4, v, _ => v = .agg LA.toArray
  | 5, v, _ => v = .agg L.toArray
  | 6, v, _ => ∃ b, v = .slice (some ⟨b, 0, none⟩) 0 0
  | 7, v, w => Is .i64 w v ys
  | 8, v, w => Is .i64 w v ys
  | 9, v, _ => v = .agg LB.toArray
  | 10, v, w => ∃ b, v = .pointer (some ⟨b, 0, none⟩) ∧ B0 ≤ b ∧ Arr w b Z
  | 11, v, w => ∃ b, v = .pointer (some ⟨b, 0, none⟩) ∧ B0 ≤ b ∧ Arr w b Z
  | _, _, _ => False
theorem lvF_below {L Z LA LB : List Value} {B0 : Nat} {xs ys : List Int} (i : Nat) (v : Value) (w w' : World) (hb : Below w.heap.size w w') (h : lvF L Z LA LB B0 xs ys i v w) : lvF L Z LA LB B0 xs ys i v w' := by
  match i with
  | 0 => exact h
  | 1 => exact h
  | 2 => exact Is.below h hb
  | 3 => exact Is.below h hb
  | 4 => exact h
  | 5 => exact h
  | 6 => exact h
  | 7 => exact Is.below h hb
  | 8 => exact Is.below h hb
  | 9 => exact h
  | 10 => obtain ⟨b, h1, h2, h3⟩ := h; exact ⟨b, h1, h2, h3.below hb⟩
  | 11 => obtain ⟨b, h1, h2, h3⟩ := h; exact ⟨b, h1, h2, h3.below hb⟩
  | n + 12 => exact h
def lvP : Nat → Nat → Value → Value → Prop
  | 10, 11, v, u => v ≠ u
  | 11, 10, v, u => v ≠ u
  | _, _, _, _ => True
theorem lvP_triv {i j : Nat} {v u : Value} (h1 : i ≠ 10) (h2 : i ≠ 11) : lvP i j v u ∧ lvP j i u v := by
  constructor <;> (unfold lvP; split <;> first | trivial | (exfalso; omega))
theorem lvP_ten {j : Nat} {v u : Value} (h : j = 11 → v ≠ u) : lvP 10 j v u ∧ lvP j 10 u v := by
  by_cases e : j = 11
  · subst e; exact ⟨h rfl, (h rfl).symm⟩
  · constructor <;> (unfold lvP; split <;> first | trivial | (exfalso; omega))
theorem lvP_eleven {j : Nat} {v u : Value} (h : j = 10 → v ≠ u) : lvP 11 j v u ∧ lvP j 11 u v := by
  by_cases e : j = 10
  · subst e; exact ⟨h rfl, (h rfl).symm⟩
  · constructor <;> (unfold lvP; split <;> first | trivial | (exfalso; omega))
theorem lv_new {L Z LA LB : List Value} {B0 : Nat} {xs ys : List Int} {j : Nat} {w : World} {u : Value} (hj : j = 10 ∨ j = 11) (h : lvF L Z LA LB B0 xs ys j u w) : (.pointer (some ⟨w.heap.size, 0, none⟩) : Value) ≠ u := by
  have hh : ∃ b, u = .pointer (some ⟨b, 0, none⟩) ∧ B0 ≤ b ∧ Arr w b Z := by
    rcases hj with rfl | rfl <;> exact h
  obtain ⟨b, rfl, _, hA⟩ := hh
  intro e
  injection e with e; injection e with e; injection e with e
  have := hA.2.2
  omega
theorem lvS {w0 w : World} {xb d7 d8 : Nat} {L LA LB : List Value} (h : Rows w0 [(xb, L), (d7, LA), (d8, LB)] w) : w.rangeAt xb 0 L ∧ Rows w0 [(xb, L), (d7, LA), (d8, LB)] w := ⟨(h.get (b := xb) (L := L) (by simp)).1, h⟩
/-- Values that are all known. -/
def tabF (T : List Value) : Nat → Value → World → Prop := fun i v _ => v = T.getD i undef
def noP : Nat → Nat → Value → Value → Prop := fun _ _ _ _ => True
def lvB (w0 : World) (xb : Nat) (L : List Value) (w : World) : Prop := Arr w xb L ∧ Below w0.heap.size w0 w
theorem lvB_below {w0 : World} {xb : Nat} {L : List Value} (w w' : World) (hb : Below w.heap.size w w') (h : lvB w0 xb L w) : lvB w0 xb L w' := ⟨h.1.below hb, h.2.trans (hb.mono h.2.size)⟩
set_option maxRecDepth 100000 in
set_option maxHeartbeats 8000000 in
theorem nodeLive_walk (ls : List UInt8) (hl : ls.length = 32) (A : Option Addr) (n c : Nat) (xs : List Int) (A2 : Option Addr) (n2 c2 : Nat) (ys : List Int) (w : World) (hX : Is .i64 w (.slice A n c) xs) (hY : Is .i64 w (.slice A2 n2 c2) ys) :
    Calls Try.prog 9 #[.agg (ls.map encB).toArray, .slice A n c, .slice A2 n2 c2] w fun e w' => e = .returned (.bool true) ∧ Below w.heap.size w w' := by
  have HN := Lib.hid hX.len
  have HN2 := Lib.hid hY.len
  have hi0 : (Try.prog.info? 47).map (·.size) = some 32 := by kernel_rfl
  obtain ⟨Z, hZ⟩ : ∃ Z : Array Value, Z = Array.replicate 32 (.int .u8 0) := ⟨_, rfl⟩
  have hZs : Z.size = 32 := by rw [hZ]; simp
  have hz : ∀ w, (zeroValue 47).run Try.prog w = .ok (.agg Z) w := by rw [hZ]; exact (zero_of_info (P := Try.prog) (t := 47) (v := .agg (Array.replicate 32 (.int .u8 0))) (n := 32) (by kernel_rfl)).1
  obtain ⟨L, hL⟩ : ∃ L, L = ls.map encB := ⟨_, rfl⟩
  have hLl : L.length = 32 := by rw [hL]; simp [hl]
  have h1L : ∀ v ∈ L, v.oneCell' = true := by rw [hL]; exact encB_all _
  rw [← hL]
  have HLE := Lib.hid hL
  obtain ⟨ax, has⟩ : ∃ ax, ax = xs.foldl onK ls := ⟨_, rfl⟩
  obtain ⟨bs, hbs⟩ : ∃ bs, bs = ys.foldl offK ls := ⟨_, rfl⟩
  have hasl : ax.length = 32 := by rw [has, foldl_len _ onK_len]; exact hl
  have hbsl : bs.length = 32 := by rw [hbs, foldl_len _ offK_len]; exact hl
  obtain ⟨LA, hLA⟩ : ∃ L, L = ax.map encB := ⟨_, rfl⟩
  obtain ⟨LB, hLB⟩ : ∃ L, L = bs.map encB := ⟨_, rfl⟩
  have hLAl : LA.length = 32 := by rw [hLA]; simp [hasl]
  have hLBl : LB.length = 32 := by rw [hLB]; simp [hbsl]
  have h1A : ∀ v ∈ LA, v.oneCell' = true := by rw [hLA]; exact encB_all _
  have h1B : ∀ v ∈ LB, v.oneCell' = true := by rw [hLB]; exact encB_all _
  have HW1 := Lib.hid (fun A n c W h => with_any ls hl A n c xs W h)
  have HW2 := Lib.hid (fun A n c W h => without_any ls hl A n c ys W h)
  rw [← hL, ← has, ← hLA] at HW1
  rw [← hL, ← hbs, ← hLB] at HW2
  have HAS := Lib.hid has
  have HBS := Lib.hid hbs
  have HLA := Lib.hid hLA
  have HLB := Lib.hid hLB
  have HI := Lib.hid (show (Try.prog.info? 47).map (·.size) = some L.length by rw [hLl]; exact hi0)
  have HIA := Lib.hid (show (Try.prog.info? 47).map (·.size) = some LA.length by rw [hLAl]; exact hi0)
  have HIB := Lib.hid (show (Try.prog.info? 47).map (·.size) = some LB.length by rw [hLBl]; exact hi0)
  have HIAA := Lib.hid (show (Try.prog.info? 47).map (·.size) = some LA.toArray.size by rw [List.size_toArray, hLAl]; exact hi0)
  have HIBA := Lib.hid (show (Try.prog.info? 47).map (·.size) = some LB.toArray.size by rw [List.size_toArray, hLBl]; exact hi0)
  have HILA := Lib.hid (show (Try.prog.info? 47).map (·.size) = some L.toArray.size by rw [List.size_toArray, hLl]; exact hi0)
  have H1L : Hid (L.toArray.all (·.oneCell') = true) := Lib.hid (all_oneCell_toArray h1L)
  have H1A : Hid (LA.toArray.all (·.oneCell') = true) := Lib.hid (all_oneCell_toArray h1A)
  have H1B : Hid (LB.toArray.all (·.oneCell') = true) := Lib.hid (all_oneCell_toArray h1B)
  have HZA : Hid (LA.toArray.size = Z.toList.length) := Lib.hid (by simp [hLAl, hZs])
  have HZB : Hid (LB.toArray.size = Z.toList.length) := Lib.hid (by simp [hLBl, hZs])
  have HZL : Hid (L.toArray.size = Z.toList.length) := Lib.hid (by simp [hLl, hZs])
  have HLs := Lib.hid hl
  clear hi0 hL hLl h1L has hbs hasl hbsl hLA hLB hLAl hLBl h1A h1B hZ hZs hl
  by_cases hg : 300 < n ∨ 300 < n2
  · by_cases h1 : 300 < n
    all_goals
      have HG := Lib.hid hg
      clear hX hY
      by_cases h2 : 300 < n2
      all_goals
        first
          | (exfalso; rcases HG.out with h | h <;> omega)
          | (clear hg
             go_enter Try.func9, Try.ntmps9
             go_wp2_with (go_at_call 20; refine (node_speaks _).mono ?_; rintro e w1 ⟨rfl, hb1⟩)
             go_ret
             exact ⟨rfl, ((Below.refl w.heap.size w).alloc (Nat.le_refl _) _).trans (hb1.mono (by simp))⟩)
  have hn : ¬ 300 < n := by omega
  have hn2 : ¬ 300 < n2 := by omega
  clear hg
  obtain ⟨W, hW⟩ : ∃ W, W = w.alloc (.cells L.toArray 47) := ⟨_, rfl⟩
  obtain ⟨xb, hxb⟩ : ∃ xb, xb = w.heap.size := ⟨_, rfl⟩
  have hA0 : Arr W xb L := by rw [hW, hxb]; exact arr_newL w L _
  have hB0 : Below w.heap.size w W := by rw [hW]; exact (Below.refl _ _).alloc (Nat.le_refl _) _
  have hge : w.heap.size ≤ xb := by omega
  go_enter Try.func9, Try.ntmps9
  go_wp2_with fail
  rw [← hW]
  simp only [← hxb]
  clear hW hxb
  go_upto_region 5 with (go_at_call 20; refine (node_speaks _).mono ?_; rintro e w1 ⟨rfl, hb1⟩; have hA1 := hA0.below hb1; have hq1 := hB0.trans (hb1.mono hB0.size); have hlt1 := hA1.2.2)
  go_cut [7, 8] (fun s7 s8 wx => ∃ d7 d8 : Nat, s7 = .pointer (some ⟨d7, 0, none⟩) ∧ s8 = .pointer (some ⟨d8, 0, none⟩) ∧ Rows w [(xb, L), (d7, LA), (d8, LB)] wx)
  case first =>
    have hX1 := hX.below hq1
    have hY1 := hY.below hq1
    have hu := Try.underlying47
    have hus := Try.underlying56
    obtain ⟨ii, hii⟩ : ∃ i, Try.prog.info? 3 = some i := by
      cases h : Try.prog.info? 3 with
      | none => have := info_int; rw [h] at this; cases this
      | some i => exact ⟨i, rfl⟩
    refine wp_region_front 12 [30, 31, 32, 33, 34, 35, 36, 37, 38, 39, 7, 8] 2 #[true, true, true, true, true, true, true, true, true, true, true, true, false, false] (lvB w1 xb L) (lvF L Z.toList LA LB (xb + 1) xs ys) lvP (by kernel_rfl) (by kernel_rfl) (by kernel_rfl) (by kernel_rfl) (by kernel_rfl) lvB_below lvF_below ⟨hA1.drew, (Below.refl _ _).drew⟩ ?_ ?_
    · intro i hi s w2 hs hB hd
      have hlX := HN.out
      have hlY := HN2.out
      have hA2 := hB.1
      have hX2 := hX1.below hB.2
      have hY2 := hY1.below hB.2
      have hlt2 : xb + 1 ≤ w2.heap.size := hA2.2.2
      have s1 : s 1 = .slice A n c := hs 1 (by decide)
      have s2 : s 2 = .slice A2 n2 c2 := hs 2 (by decide)
      have s3 : s 3 = .pointer (some ⟨xb, 0, none⟩) := hs 3 (by decide)
      obtain rfl | rfl | rfl | rfl | rfl | rfl | rfl | rfl | rfl | rfl | rfl | rfl : i = 0 ∨ i = 1 ∨ i = 2 ∨ i = 3 ∨ i = 4 ∨ i = 5 ∨ i = 6 ∨ i = 7 ∨ i = 8 ∨ i = 9 ∨ i = 10 ∨ i = 11 := by omega
      all_goals refine stepG_plain (by rfl) ?_
      · exact stepS_load rfl s3 hA2 hu rfl HI.out ⟨Below.refl _ _, rfl, fun j _ _ u _ => lvP_triv (by decide) (by decide)⟩
      · exact stepS_empty rfl hus hii ⟨(Below.refl _ _).alloc (Nat.le_refl _) _, ⟨_, rfl⟩, fun j _ _ u _ => lvP_triv (by decide) (by decide)⟩
      · exact stepS_move _ rfl ⟨Below.refl _ _, by show Is .i64 w2 (s 1) xs; rw [s1]; exact hX2, fun j _ _ u _ => lvP_triv (by decide) (by decide)⟩
      · obtain ⟨b, h1⟩ : ∃ b, s 31 = .slice (some ⟨b, 0, none⟩) 0 0 := hd 1 (by decide +kernel)
        have h2 : Is .i64 w2 (s 32) xs := hd 2 (by decide +kernel)
        obtain ⟨A', n', c', h3, h4⟩ := h2.slice
        rw [h3] at h2
        refine stepS_append rfl hus info_int rfl (by decide) (by decide) b h1 A' n' c' (xs.map (Value.int .i64)) h3 h2.at (by simp [h4]) (fun u hu => by simp only [List.mem_map] at hu; obtain ⟨x, _, rfl⟩ := hu; rfl) (by omega) ?_
        intro A3 c3 w3 hat hmc hcm hb3
        exact ⟨hb3, ⟨A3, c3, by rw [h4], by omega, by omega, hat⟩, fun j _ _ u _ => lvP_triv (by decide) (by decide)⟩
      · have h1 : s 30 = .agg L.toArray := hd 0 (by decide +kernel)
        have h2 : Is .i64 w2 (s 33) xs := hd 3 (by decide +kernel)
        obtain ⟨A', n', c', h3, h4⟩ := h2.slice
        rw [h3] at h2
        refine stepS_call rfl Try.func24 (by kernel_rfl) (by kernel_rfl) #[.agg L.toArray, .slice A' n' c'] (by simp [evS, h1, h3]) ((HW1.out A' n' c' w2 h2).mono ?_)
        rintro e w3 ⟨rfl, hb3⟩
        exact ⟨_, rfl, hb3, rfl, fun j _ _ u _ => lvP_triv (by decide) (by decide)⟩
      · exact stepS_load rfl s3 hA2 hu rfl HI.out ⟨Below.refl _ _, rfl, fun j _ _ u _ => lvP_triv (by decide) (by decide)⟩
      · exact stepS_empty rfl hus hii ⟨(Below.refl _ _).alloc (Nat.le_refl _) _, ⟨_, rfl⟩, fun j _ _ u _ => lvP_triv (by decide) (by decide)⟩
      · exact stepS_move _ rfl ⟨Below.refl _ _, by show Is .i64 w2 (s 2) ys; rw [s2]; exact hY2, fun j _ _ u _ => lvP_triv (by decide) (by decide)⟩
      · obtain ⟨b, h1⟩ : ∃ b, s 36 = .slice (some ⟨b, 0, none⟩) 0 0 := hd 6 (by decide +kernel)
        have h2 : Is .i64 w2 (s 37) ys := hd 7 (by decide +kernel)
        obtain ⟨A', n', c', h3, h4⟩ := h2.slice
        rw [h3] at h2
        refine stepS_append rfl hus info_int rfl (by decide) (by decide) b h1 A' n' c' (ys.map (Value.int .i64)) h3 h2.at (by simp [h4]) (fun u hu => by simp only [List.mem_map] at hu; obtain ⟨x, _, rfl⟩ := hu; rfl) (by omega) ?_
        intro A3 c3 w3 hat hmc hcm hb3
        exact ⟨hb3, ⟨A3, c3, by rw [h4], by omega, by omega, hat⟩, fun j _ _ u _ => lvP_triv (by decide) (by decide)⟩
      · have h1 : s 35 = .agg L.toArray := hd 5 (by decide +kernel)
        have h2 : Is .i64 w2 (s 38) ys := hd 8 (by decide +kernel)
        obtain ⟨A', n', c', h3, h4⟩ := h2.slice
        rw [h3] at h2
        refine stepS_call rfl Try.func25 (by kernel_rfl) (by kernel_rfl) #[.agg L.toArray, .slice A' n' c'] (by simp [evS, h1, h3]) ((HW2.out A' n' c' w2 h2).mono ?_)
        rintro e w3 ⟨rfl, hb3⟩
        exact ⟨_, rfl, hb3, rfl, fun j _ _ u _ => lvP_triv (by decide) (by decide)⟩
      · exact stepS_alloc rfl (hz _) ⟨(Below.refl _ _).alloc (Nat.le_refl _) _, ⟨_, rfl, hlt2, arr_new w2 Z _⟩, fun j _ _ u hu => lvP_ten (fun e => lv_new (.inr e) hu)⟩
      · exact stepS_alloc rfl (hz _) ⟨(Below.refl _ _).alloc (Nat.le_refl _) _, ⟨_, rfl, hlt2, arr_new w2 Z _⟩, fun j _ _ u hu => lvP_eleven (fun e => lv_new (.inl e) hu)⟩
    · intro s w2 hB hF hP
      have h4 : s 34 = .agg LA.toArray := hF 4 (by decide)
      have h9 : s 39 = .agg LB.toArray := hF 9 (by decide)
      obtain ⟨d7, h7, hd7, hA7⟩ : ∃ b, s 7 = .pointer (some ⟨b, 0, none⟩) ∧ xb + 1 ≤ b ∧ Arr w2 b Z.toList := hF 10 (by decide)
      obtain ⟨d8, h8, hd8, hA8⟩ : ∃ b, s 8 = .pointer (some ⟨b, 0, none⟩) ∧ xb + 1 ≤ b ∧ Arr w2 b Z.toList := hF 11 (by decide)
      have hne : s 7 ≠ s 8 := hP 10 11 (by decide) (by decide) (by decide)
      rw [h7, h8] at hne
      have hne : d7 ≠ d8 := fun e => hne (by rw [e])
      have h8' := hA8.set_other (Ne.symm hne) 0 LA.toArray.toList
      have hx' := hB.1.set_other (show xb ≠ d7 by omega) 0 LA.toArray.toList
      have h7' := hA7.setA_same HZA.out
      simp only [setAll, List.foldl_cons, List.foldl_nil, List.setIfInBounds_toArray, List.set_cons_succ, List.set_cons_zero, h4, h9, h7, h8]
      refine wpAny_one 12 _ (by kernel_rfl) rfl rfl ?_
      refine wp_store_mid 47 _ _ (by rfl) d7 0 LA.toArray (by rfl) (by rfl) (hA7.thereA HZA.out) HIAA.out H1A.out ?_
      refine wpAny_one 13 _ (by kernel_rfl) rfl rfl ?_
      refine wp_store_mid 47 _ _ (by rfl) d8 0 LB.toArray (by rfl) (by rfl) (h8'.thereA HZB.out) HIBA.out H1B.out ?_
      refine wpAny_end (by kernel_rfl) ?_
      simp only [Act.put]
      go_wp2_with fail
      go_meet
      refine ⟨d7, d8, rfl, rfl, ⟨?_, ?_, ?_, ?_⟩⟩
      · intro p hp
        simp only [List.mem_cons, List.not_mem_nil, or_false] at hp
        rcases hp with rfl | rfl | rfl
        · exact hx'.set_other (by omega) _ _
        · have := h7'.set_other hne 0 LB.toArray.toList
          simpa using this
        · have := h8'.setA_same HZB.out
          simpa using this
      · simp only [List.pairwise_cons, List.mem_cons, List.not_mem_nil, or_false]
        refine ⟨?_, ?_, ?_, List.Pairwise.nil⟩
        · rintro p (rfl | rfl) <;> simp <;> omega
        · rintro p rfl; exact hne
        · intro p hp; cases hp
      · intro p hp
        simp only [List.mem_cons, List.not_mem_nil, or_false] at hp
        rcases hp with rfl | rfl | rfl <;> simp <;> omega
      · exact below_setCells (by omega) _ _ (below_setCells (by omega) _ _ (hq1.trans (hB.2.mono hq1.size)))
  case rest =>
    obtain ⟨d7, d8, rfl, rfl, hR⟩ := hcut
    clear hA0 hB0 hb1 hA1 hq1 hlt1 hge
    have hu := Try.underlying47
    go_upto_region 6 with fail
    go_cut [9, 10] (fun s9 s10 wx => ∃ d9 d10 : Nat, s9 = .pointer (some ⟨d9, 0, none⟩) ∧ s10 = .pointer (some ⟨d10, 0, none⟩) ∧ Rows w [(d9, L), (d10, L), (xb, L), (d7, LA), (d8, LB)] wx)
    case first =>
      have hRd := hR.drew
      refine wp_region_held_drew (S := fun w' => w'.rangeAt xb 0 L ∧ Rows w [(xb, L), (d7, LA), (d8, LB)] w') (by kernel_rfl) (lvS hRd) (fun _ => ?_)
      refine' wpAnyH_take (i := 0) (oi := _) (v := _) rfl (by kernel_rfl) (by kernel_rfl) (by kernel_rfl) (fun _ _ _ h => h) (yieldsIf_load_mid (by rfl) _ _ rfl _ _ rfl _ _ (fun w h => h.1) hu (by rfl) HI.out) (lvS hRd) ?_
      try simp only [Act.put, List.setIfInBounds_toArray, List.set_cons_zero, List.set_cons_succ]
      refine' wpAnyH_take (i := 1) (oi := _) (v := _) rfl (by kernel_rfl) (by kernel_rfl) (by kernel_rfl) (fun _ _ _ h => h) (yieldsIf_load_mid (by rfl) _ _ rfl _ _ rfl _ _ (fun w h => h.1) hu (by rfl) HI.out) (lvS hRd) ?_
      try simp only [Act.put, List.setIfInBounds_toArray, List.set_cons_zero, List.set_cons_succ]
      refine wpAnyH_ready (rs := [2, 3]) (by kernel_rfl) (by simp) ?_
      refine AllReadyH.cons (o := ({ dst := some 9, op := Op.alloc 47, type := 0, pos := "law.go:94", after := #[], guard := none } : Oper)) rfl (fun Kk hKk => ?_) (AllReadyH.cons (o := ({ dst := some 10, op := Op.alloc 47, type := 0, pos := "law.go:94", after := #[], guard := none } : Oper)) rfl (fun Kk hKk => ?_) AllReadyH.nil)
      · go_simp
        have hr1 := hRd.new Z 47
        have hr2 := hr1.new Z 47
        rw [show (wc.drew.alloc (.cells Z 47)).heap.size = wc.heap.size + 1 from by simp] at hr2
        refine hKk.out _ _ (lvS hr1.drop) (fun _ => ?_)
        clear hKk Kk
        try simp only [Act.put, List.setIfInBounds_toArray, List.set_cons_zero, List.set_cons_succ]
        refine wpAnyH_ready (rs := [3]) (by kernel_rfl) (by simp) ?_
        refine AllReadyH.cons (o := ({ dst := some 10, op := Op.alloc 47, type := 0, pos := "law.go:94", after := #[], guard := none } : Oper)) rfl (fun Kk hKk => ?_) AllReadyH.nil
        go_simp
        refine hKk.out _ _ (lvS hr2.drop.drop) (fun _ => ?_)
        clear hKk Kk
        try simp only [Act.put, List.setIfInBounds_toArray, List.set_cons_zero, List.set_cons_succ]
        have hs1 := (hr2.swap.storeA HZL.out).swap
        have hs2 := hs1.storeA HZL.out
        refine wpAnyH_ready (rs := [4]) (by kernel_rfl) (by simp) ?_
        refine AllReadyH.cons (o := ({ dst := none, op := Op.store 47 (Operand.tmp 9) (Operand.tmp 40), type := 0, pos := "law.go:94", after := #[{ on := 2, ground := Ground.data }, { on := 0, ground := Ground.data }, { on := 0, ground := Ground.phase }, { on := 1, ground := Ground.textOnly Departure.lateStores }, { on := 2, ground := Ground.phase }, { on := 3, ground := Ground.phase }], guard := none } : Oper)) rfl (fun Kk hKk => ?_) AllReadyH.nil
        refine wp_store_mid 47 _ _ (by rfl) (wc.drew.heap.size) 0 L.toArray (by rfl) (by rfl) ((hr2.get (b := wc.drew.heap.size) (L := Z.toList) (by simp)).thereA HZL.out) HILA.out H1L.out ?_
        refine hKk.out _ _ (lvS hs1.drop.drop) (fun _ => ?_)
        clear hKk Kk
        try simp only [Act.put, List.setIfInBounds_toArray, List.set_cons_zero, List.set_cons_succ]
        refine wpAnyH_ready (rs := [5]) (by kernel_rfl) (by simp) ?_
        refine AllReadyH.cons (o := ({ dst := none, op := Op.store 47 (Operand.tmp 10) (Operand.tmp 41), type := 0, pos := "law.go:94", after := #[{ on := 3, ground := Ground.data }, { on := 1, ground := Ground.data }, { on := 4, ground := Ground.chain }, { on := 0, ground := Ground.phase }, { on := 1, ground := Ground.phase }, { on := 2, ground := Ground.phase }, { on := 3, ground := Ground.phase }, { on := 4, ground := Ground.phase }], guard := none } : Oper)) rfl (fun Kk hKk => ?_) AllReadyH.nil
        refine wp_store_mid 47 _ _ (by rfl) (wc.heap.size + 1) 0 L.toArray (by rfl) (by rfl) ((hs1.get (b := wc.heap.size + 1) (L := Z.toList) (by simp)).thereA HZL.out) HILA.out H1L.out ?_
        refine hKk.out _ _ (lvS hs2.drop.drop) (fun _ => ?_)
        clear hKk Kk
        try simp only [Act.put, List.setIfInBounds_toArray, List.set_cons_zero, List.set_cons_succ]
        refine wpAnyH_done (by kernel_rfl) ?_ _
        go_wp2_with fail
        go_meet
        refine ⟨_, _, rfl, rfl, ?_⟩
        have := hs2.swap
        exact this
      · go_simp
        have hr1 := hRd.new Z 47
        have hr2 := hr1.new Z 47
        rw [show (wc.drew.alloc (.cells Z 47)).heap.size = wc.heap.size + 1 from by simp] at hr2
        refine hKk.out _ _ (lvS hr1.drop) (fun _ => ?_)
        clear hKk Kk
        try simp only [Act.put, List.setIfInBounds_toArray, List.set_cons_zero, List.set_cons_succ]
        refine wpAnyH_ready (rs := [2]) (by kernel_rfl) (by simp) ?_
        refine AllReadyH.cons (o := ({ dst := some 9, op := Op.alloc 47, type := 0, pos := "law.go:94", after := #[], guard := none } : Oper)) rfl (fun Kk hKk => ?_) AllReadyH.nil
        go_simp
        refine hKk.out _ _ (lvS hr2.drop.drop) (fun _ => ?_)
        clear hKk Kk
        try simp only [Act.put, List.setIfInBounds_toArray, List.set_cons_zero, List.set_cons_succ]
        have hs1 := (hr2.storeA HZL.out).swap
        have hs2 := hs1.storeA HZL.out
        refine wpAnyH_ready (rs := [4]) (by kernel_rfl) (by simp) ?_
        refine AllReadyH.cons (o := ({ dst := none, op := Op.store 47 (Operand.tmp 9) (Operand.tmp 40), type := 0, pos := "law.go:94", after := #[{ on := 2, ground := Ground.data }, { on := 0, ground := Ground.data }, { on := 0, ground := Ground.phase }, { on := 1, ground := Ground.textOnly Departure.lateStores }, { on := 2, ground := Ground.phase }, { on := 3, ground := Ground.phase }], guard := none } : Oper)) rfl (fun Kk hKk => ?_) AllReadyH.nil
        refine wp_store_mid 47 _ _ (by rfl) (wc.heap.size + 1) 0 L.toArray (by rfl) (by rfl) ((hr2.get (b := wc.heap.size + 1) (L := Z.toList) (by simp)).thereA HZL.out) HILA.out H1L.out ?_
        refine hKk.out _ _ (lvS hs1.drop.drop) (fun _ => ?_)
        clear hKk Kk
        try simp only [Act.put, List.setIfInBounds_toArray, List.set_cons_zero, List.set_cons_succ]
        refine wpAnyH_ready (rs := [5]) (by kernel_rfl) (by simp) ?_
        refine AllReadyH.cons (o := ({ dst := none, op := Op.store 47 (Operand.tmp 10) (Operand.tmp 41), type := 0, pos := "law.go:94", after := #[{ on := 3, ground := Ground.data }, { on := 1, ground := Ground.data }, { on := 4, ground := Ground.chain }, { on := 0, ground := Ground.phase }, { on := 1, ground := Ground.phase }, { on := 2, ground := Ground.phase }, { on := 3, ground := Ground.phase }, { on := 4, ground := Ground.phase }], guard := none } : Oper)) rfl (fun Kk hKk => ?_) AllReadyH.nil
        refine wp_store_mid 47 _ _ (by rfl) (wc.drew.heap.size) 0 L.toArray (by rfl) (by rfl) ((hs1.get (b := wc.drew.heap.size) (L := Z.toList) (by simp)).thereA HZL.out) HILA.out H1L.out ?_
        refine hKk.out _ _ (lvS hs2.drop.drop) (fun _ => ?_)
        clear hKk Kk
        try simp only [Act.put, List.setIfInBounds_toArray, List.set_cons_zero, List.set_cons_succ]
        refine wpAnyH_done (by kernel_rfl) ?_ _
        go_wp2_with fail
        go_meet
        refine ⟨_, _, rfl, rfl, ?_⟩
        have := hs2.swap
        exact this
    case rest =>
      obtain ⟨d9, d10, rfl, rfl, hR⟩ := hcut
      have HI0 := Lib.hid (show (Try.prog.info? 47).map (·.size) = some 32 by kernel_rfl)
      rw [HLE.out] at hR
      go_wp2_with fail
      go_loopw [12, 44] (fun v12 i wr => ∃ (j : Nat) (ds : List UInt8), j ≤ n ∧ i = .int .i64 j ∧ ds.length = 32 ∧ ds = (xs.take j).foldl onK ls ∧ Rows w [(d9, ds.map encB), (d10, ls.map encB), (xb, ls.map encB), (d7, LA), (d8, LB)] wr) (fun _ i _ => n - (intOf i).toNat)
      case atStart => exact ⟨0, ls, Nat.zero_le _, rfl, HLs.out, rfl, hR⟩
      case round =>
        obtain ⟨j, ds, hj, rfl, hds, hde, hR1⟩ := hrel
        clear hR
        have HDS := Lib.hid hds
        obtain ⟨LD, hLD⟩ : ∃ L, L = ds.map encB := ⟨_, rfl⟩
        rw [← hLD] at hR1
        have hLDl : LD.length = 32 := by rw [hLD]; simp [hds]
        have HID := Lib.hid (show (Try.prog.info? 47).map (·.size) = some LD.length by rw [hLDl]; exact HI0.out)
        have hA9 := hR1.get (b := d9) (L := LD) (by simp)
        by_cases hlt : j < n
        · have hjx : j < xs.length := by rw [← HN.out]; exact hlt
          obtain ⟨a, rfl, hcx⟩ := (hX.below hR1.below).at.map j hjx
          obtain ⟨x, hx⟩ : ∃ x, x = xs[j] := ⟨_, rfl⟩
          rw [← hx] at hcx
          have hnext : (xs.take (j + 1)).foldl onK ls = setK ds x true := by
            rw [List.take_succ_eq_append_getElem hjx, List.foldl_append, ← hde, hx]; rfl
          have HNX := Lib.hid hnext
          have HS := fun W => rset_any ds hds x true W
          have hsl : (setK ds x true).length = 32 := by rw [setK_len]; exact hds
          obtain ⟨LS, hLS⟩ : ∃ L, L = (setK ds x true).map encB := ⟨_, rfl⟩
          rw [← hLD, ← hLS] at HS
          replace HS := Lib.hid HS
          have hLSl : LS.length = 32 := by rw [hLS]; simp [hsl]
          have h1S : ∀ v ∈ LS, v.oneCell' = true := by rw [hLS]; exact encB_all _
          have HIS := Lib.hid (show (Try.prog.info? 47).map (·.size) = some LS.toArray.size by rw [List.size_toArray, hLSl]; exact HI0.out)
          have H1S : Hid (LS.toArray.all (·.oneCell') = true) := Lib.hid (all_oneCell_toArray h1S)
          have HSD : Hid (LS.toArray.size = LD.length) := Lib.hid (by simp [hLSl, hLDl])
          have HLS2 := Lib.hid hLS
          have HSL := Lib.hid hsl
          clear hde hnext hx hds hLD hLDl hsl hLS hLSl h1S
          go_wp2_with (first
            | (refine wpList_load_mid rfl 47 _ rfl d9 0 rfl LD _ hA9.1 Try.underlying47 rfl HID.out ?_)
            | (refine wp_load_mid 47 _ rfl d9 0 rfl LD _ hA9.1 Try.underlying47 rfl HID.out ?_)
            | (go_at_call 26; refine (HS.out _).mono ?_; rintro e w2 ⟨rfl, hb2⟩; have hR2 := hR1.go hb2; have hA92 := hR2.get (b := d9) (L := LD) (by simp))
            | (refine wpList_store_mid rfl 47 _ _ rfl d9 0 LS.toArray rfl rfl (hA92.thereA HSD.out) HIS.out H1S.out ?_))
          go_roundw
          case rel =>
            refine ⟨j + 1, setK ds x true, by omega, by go_num, HSL.out, HNX.out.symm, ?_⟩
            have := hR2.storeA HSD.out
            rw [← HLS2.out]
            exact this
          case measure => simp [intOf]; omega
        · obtain rfl : n = j := by omega
          have hde2 : ds = ax := by rw [hde, List.take_of_length_le (by rw [← HN.out]; exact Nat.le_refl _), HAS.out]
          rw [hLD, hde2, ← HLA.out] at hR1
          clear hA9 hde hde2 hds HDS HID hLDl hLD
          go_wp2_with fail
          replace hR1 := rows_perm hR1 (List.Perm.swap _ _ _)
          go_loopw [14, 54] (fun v14 i wr => ∃ (j : Nat) (ds : List UInt8), j ≤ n2 ∧ i = .int .i64 j ∧ ds.length = 32 ∧ ds = (ys.take j).foldl offK ls ∧ Rows w [(d10, ds.map encB), (d9, LA), (xb, ls.map encB), (d7, LA), (d8, LB)] wr) (fun _ i _ => n2 - (intOf i).toNat)
          case atStart => exact ⟨0, ls, Nat.zero_le _, rfl, HLs.out, rfl, hR1⟩
          case round =>
            obtain ⟨j, ds, hj, rfl, hds, hde, hR2⟩ := hrel
            clear hR1
            replace hR1 := hR2
            clear hR2
            have HDS := Lib.hid hds
            obtain ⟨LD, hLD⟩ : ∃ L, L = ds.map encB := ⟨_, rfl⟩
            rw [← hLD] at hR1
            have hLDl : LD.length = 32 := by rw [hLD]; simp [hds]
            have HID := Lib.hid (show (Try.prog.info? 47).map (·.size) = some LD.length by rw [hLDl]; exact HI0.out)
            have hA9 := hR1.get (b := d10) (L := LD) (by simp)
            by_cases hlt : j < n2
            · have hjx : j < ys.length := by rw [← HN2.out]; exact hlt
              obtain ⟨a, rfl, hcx⟩ := (hY.below hR1.below).at.map j hjx
              obtain ⟨x, hx⟩ : ∃ x, x = ys[j] := ⟨_, rfl⟩
              rw [← hx] at hcx
              have hnext : (ys.take (j + 1)).foldl offK ls = setK ds x false := by
                rw [List.take_succ_eq_append_getElem hjx, List.foldl_append, ← hde, hx]; rfl
              have HNX := Lib.hid hnext
              have HS := fun W => rset_any ds hds x false W
              have hsl : (setK ds x false).length = 32 := by rw [setK_len]; exact hds
              obtain ⟨LS, hLS⟩ : ∃ L, L = (setK ds x false).map encB := ⟨_, rfl⟩
              rw [← hLD, ← hLS] at HS
              replace HS := Lib.hid HS
              have hLSl : LS.length = 32 := by rw [hLS]; simp [hsl]
              have h1S : ∀ v ∈ LS, v.oneCell' = true := by rw [hLS]; exact encB_all _
              have HIS := Lib.hid (show (Try.prog.info? 47).map (·.size) = some LS.toArray.size by rw [List.size_toArray, hLSl]; exact HI0.out)
              have H1S : Hid (LS.toArray.all (·.oneCell') = true) := Lib.hid (all_oneCell_toArray h1S)
              have HSD : Hid (LS.toArray.size = LD.length) := Lib.hid (by simp [hLSl, hLDl])
              have HLS2 := Lib.hid hLS
              have HSL := Lib.hid hsl
              clear hde hnext hx hds hLD hLDl hsl hLS hLSl h1S
              go_wp2_with (first
                | (refine wpList_load_mid rfl 47 _ rfl d10 0 rfl LD _ hA9.1 Try.underlying47 rfl HID.out ?_)
                | (refine wp_load_mid 47 _ rfl d10 0 rfl LD _ hA9.1 Try.underlying47 rfl HID.out ?_)
                | (go_at_call 26; refine (HS.out _).mono ?_; rintro e w2 ⟨rfl, hb2⟩; have hR3 := hR1.go hb2; have hA92 := hR3.get (b := d10) (L := LD) (by simp))
                | (refine wpList_store_mid rfl 47 _ _ rfl d10 0 LS.toArray rfl rfl (hA92.thereA HSD.out) HIS.out H1S.out ?_))
              go_roundw
              case rel =>
                refine ⟨j + 1, setK ds x false, by omega, by go_num, HSL.out, HNX.out.symm, ?_⟩
                have := hR3.storeA HSD.out
                rw [← HLS2.out]
                exact this
              case measure => simp [intOf]; omega
            · obtain rfl : n2 = j := by omega
              have hde2 : ds = bs := by rw [hde, List.take_of_length_le (by rw [← HN2.out]; exact Nat.le_refl _), HBS.out]
              rw [hLD, hde2, ← HLB.out] at hR1
              clear hA9 hde hde2 hds HDS HID hLDl hLD
              go_wp2_with fail
              have hgd : Try.prog.eqGuardType Try.prog.depth 47 = false := by kernel_rfl
              have heA := fun w => arr_eql (P := Try.prog) Try.underlying47 Try.underlying5 (by kernel_rfl) (by kernel_rfl) (by kernel_rfl) ax ax (by rw [HAS.out, foldl_len _ onK_len]; exact HLs.out) (by rw [HAS.out, foldl_len _ onK_len]; exact HLs.out) w
              have heB := fun w => arr_eql (P := Try.prog) Try.underlying47 Try.underlying5 (by kernel_rfl) (by kernel_rfl) (by kernel_rfl) bs bs (by rw [HBS.out, foldl_len _ offK_len]; exact HLs.out) (by rw [HBS.out, foldl_len _ offK_len]; exact HLs.out) w
              have heL := fun w => arr_eql (P := Try.prog) Try.underlying47 Try.underlying5 (by kernel_rfl) (by kernel_rfl) (by kernel_rfl) ls ls HLs.out HLs.out w
              rw [← HLE.out] at hR1
              simp only [decide_true, ← HLA.out] at heA
              simp only [decide_true, ← HLB.out] at heB
              simp only [decide_true, ← HLE.out] at heL
              have HW0 := Lib.hid (fun W => with_any ls HLs.out none 0 0 [] W ⟨none, 0, rfl, by simp, by simp, At.nil W _⟩)
              rw [← HLE.out, show ([] : List Int).foldl onK ls = ls from rfl, ← HLE.out] at HW0
              refine wp_region_front 14 [62, 63, 64, 65, 66, 67, 68, 69, 70, 71, 72, 73, 74, 75] 0 #[true, true, true, true, true, true, true, true, true, true, true, true, true, true] (Rows w [(d10, LB), (d9, LA), (xb, L), (d7, LA), (d8, LB)]) (tabF [.agg LA.toArray, .agg LA.toArray, .bool false, .bool false, .agg LB.toArray, .agg LB.toArray, .bool false, .bool false, .bool false, .agg L.toArray, .agg L.toArray, .agg L.toArray, .bool false, .bool false]) noP (by kernel_rfl) (by kernel_rfl) (by kernel_rfl) (by kernel_rfl) (by kernel_rfl) (fun _ _ hb h => h.go hb) (fun _ _ _ _ _ h => h) hR1.drew ?_ ?_
              · intro i hi s w2 hs hB hd
                have s3 : s 3 = .pointer (some ⟨xb, 0, none⟩) := hs 3 (by decide)
                have s7 : s 7 = .pointer (some ⟨d7, 0, none⟩) := hs 7 (by decide)
                have s8 : s 8 = .pointer (some ⟨d8, 0, none⟩) := hs 8 (by decide)
                have s9 : s 9 = .pointer (some ⟨d9, 0, none⟩) := hs 9 (by decide)
                have s10 : s 10 = .pointer (some ⟨d10, 0, none⟩) := hs 10 (by decide)
                obtain rfl | rfl | rfl | rfl | rfl | rfl | rfl | rfl | rfl | rfl | rfl | rfl | rfl | rfl : i = 0 ∨ i = 1 ∨ i = 2 ∨ i = 3 ∨ i = 4 ∨ i = 5 ∨ i = 6 ∨ i = 7 ∨ i = 8 ∨ i = 9 ∨ i = 10 ∨ i = 11 ∨ i = 12 ∨ i = 13 := by omega
                · exact stepG_plain (by rfl) (stepS_load rfl s7 (hB.get (by simp)) hu rfl HIA.out ⟨Below.refl _ _, rfl, fun j _ _ u _ => ⟨trivial, trivial⟩⟩)
                · exact stepG_plain (by rfl) (stepS_load rfl s9 (hB.get (by simp)) hu rfl HIA.out ⟨Below.refl _ _, rfl, fun j _ _ u _ => ⟨trivial, trivial⟩⟩)
                · have h0 : s 62 = .agg LA.toArray := hd 0 (by decide +kernel)
                  have h1 : s 63 = .agg LA.toArray := hd 1 (by decide +kernel)
                  refine stepG_plain (by rfl) (stepS_run (v := .bool false) ?_ ⟨Below.refl _ _, rfl, fun j _ _ u _ => ⟨trivial, trivial⟩⟩)
                  simp [execOp, evS, h0, h1, go_sem, hgd, heA]
                · have h2 : s 64 = .bool false := hd 2 (by decide +kernel)
                  exact stepG_plain (by rfl) (stepS_move _ rfl ⟨Below.refl _ _, h2, fun j _ _ u _ => ⟨trivial, trivial⟩⟩)
                · have h3 : s 65 = .bool false := hd 3 (by decide +kernel)
                  exact stepG_struck (b := false) (g := 3) (by rfl) h3 (stepS_load rfl s8 (hB.get (by simp)) hu rfl HIB.out ⟨Below.refl _ _, rfl, fun j _ _ u _ => ⟨trivial, trivial⟩⟩)
                · have h3 : s 65 = .bool false := hd 3 (by decide +kernel)
                  exact stepG_struck (b := false) (g := 3) (by rfl) h3 (stepS_load rfl s10 (hB.get (by simp)) hu rfl HIB.out ⟨Below.refl _ _, rfl, fun j _ _ u _ => ⟨trivial, trivial⟩⟩)
                · have h3 : s 65 = .bool false := hd 3 (by decide +kernel)
                  have h4 : s 66 = .agg LB.toArray := hd 4 (by decide +kernel)
                  have h5 : s 67 = .agg LB.toArray := hd 5 (by decide +kernel)
                  refine stepG_struck (b := false) (g := 3) (by rfl) h3 (stepS_run (v := .bool false) ?_ ⟨Below.refl _ _, rfl, fun j _ _ u _ => ⟨trivial, trivial⟩⟩)
                  simp [execOp, evS, h4, h5, go_sem, hgd, heB]
                · have h3 : s 65 = .bool false := hd 3 (by decide +kernel)
                  have h6 : s 68 = .bool false := hd 6 (by decide +kernel)
                  refine stepG_plain (by rfl) (stepS_run (v := .bool false) ?_ ⟨Below.refl _ _, rfl, fun j _ _ u _ => ⟨trivial, trivial⟩⟩)
                  simp [execOp, evS, h3, h6, go_sem]
                · have h7 : s 69 = .bool false := hd 7 (by decide +kernel)
                  exact stepG_plain (by rfl) (stepS_move _ rfl ⟨Below.refl _ _, h7, fun j _ _ u _ => ⟨trivial, trivial⟩⟩)
                · have h8 : s 70 = .bool false := hd 8 (by decide +kernel)
                  exact stepG_struck (b := false) (g := 8) (by rfl) h8 (stepS_load rfl s3 (hB.get (by simp)) hu rfl HI.out ⟨Below.refl _ _, rfl, fun j _ _ u _ => ⟨trivial, trivial⟩⟩)
                · have h8 : s 70 = .bool false := hd 8 (by decide +kernel)
                  have h9 : s 71 = .agg L.toArray := hd 9 (by decide +kernel)
                  refine stepG_struck (b := false) (g := 8) (by rfl) h8 (stepS_call rfl Try.func24 (by kernel_rfl) (by kernel_rfl) #[.agg L.toArray, .slice none 0 0] (by simp [evS, h9]) ((HW0.out w2).mono ?_))
                  rintro e w3 ⟨rfl, hb3⟩
                  exact ⟨_, rfl, hb3, rfl, fun j _ _ u _ => ⟨trivial, trivial⟩⟩
                · have h8 : s 70 = .bool false := hd 8 (by decide +kernel)
                  exact stepG_struck (b := false) (g := 8) (by rfl) h8 (stepS_load rfl s3 (hB.get (by simp)) hu rfl HI.out ⟨Below.refl _ _, rfl, fun j _ _ u _ => ⟨trivial, trivial⟩⟩)
                · have h8 : s 70 = .bool false := hd 8 (by decide +kernel)
                  have h10 : s 72 = .agg L.toArray := hd 10 (by decide +kernel)
                  have h11 : s 73 = .agg L.toArray := hd 11 (by decide +kernel)
                  refine stepG_struck (b := false) (g := 8) (by rfl) h8 (stepS_run (v := .bool false) ?_ ⟨Below.refl _ _, rfl, fun j _ _ u _ => ⟨trivial, trivial⟩⟩)
                  simp [execOp, evS, h10, h11, go_sem, hgd, heL]
                · have h8 : s 70 = .bool false := hd 8 (by decide +kernel)
                  have h12 : s 74 = .bool false := hd 12 (by decide +kernel)
                  refine stepG_plain (by rfl) (stepS_run (v := .bool false) ?_ ⟨Below.refl _ _, rfl, fun j _ _ u _ => ⟨trivial, trivial⟩⟩)
                  simp [execOp, evS, h8, h12, go_sem]
              · intro s w2 hB hF hP
                have h75 : s 75 = .bool false := hF 13 (by decide)
                refine wpAny_end (by kernel_rfl) ?_
                simp only [setAll, List.foldl_cons, List.foldl_nil, List.setIfInBounds_toArray, List.set_cons_succ, List.set_cons_zero, h75]
                clear hF hP heA heB heL HW0 hgd h75 hR1
                have HKY := fun W => keys_any ax (by rw [HAS.out, foldl_len _ onK_len]; exact HLs.out) W
                have HH := fun (k : Int) W => nhas_any ax (by rw [HAS.out, foldl_len _ onK_len]; exact HLs.out) k W
                have HRH := fun (k : Int) W => rhas_any ax (by rw [HAS.out, foldl_len _ onK_len]; exact HLs.out) k W
                rw [← HLA.out] at HKY HH HRH
                replace HKY := Lib.hid HKY
                replace HH := Lib.hid HH
                replace HRH := Lib.hid HRH
                have hA7 := hB.get (b := d7) (L := LA) (by simp)
                obtain ⟨m, hm⟩ : ∃ m, m = (keysTo ax 256).length := ⟨_, rfl⟩
                have hm9 : m ≤ 256 := by rw [hm]; exact keysTo_le ax 256
                have HM := Lib.hid hm
                clear hm
                go_wp2_with (first
                  | (refine wpList_load_mid rfl 47 _ rfl d7 0 rfl LA _ hA7.1 Try.underlying47 rfl HIA.out ?_)
                  | (refine wp_load_mid 47 _ rfl d7 0 rfl LA _ hA7.1 Try.underlying47 rfl HIA.out ?_)
                  | (go_at_call 27; refine (HKY.out _).mono ?_; rintro e w3 ⟨kv, km, rfl, hkm, hko, hkb⟩; have hR3 := hB.go hkb))
                obtain ⟨KA, KC, rfl, hkc, _⟩ := own_form hko
                obtain rfl : km = m := by rw [hkm, HM.out]
                replace hko := own_mono hko hB.below.size
                clear hkm hkb hB hA7
                go_loopw [16, 17] (fun v16 v17 wr => ∃ q : Nat, q ≤ 258 ∧ v17 = .int .i64 ((q : Int) - 1) ∧ v16 = .int .i64 ((keysTo ax (q - 1)).length : Int) ∧ Rows w [(d10, LB), (d9, LA), (xb, L), (d7, LA), (d8, LB)] wr ∧ wr.ownsRow w.heap.size 3 1 (.slice KA km KC) km ((keysTo ax 256).map (Value.int .i64))) (fun _ v17 _ => (257 - intOf v17).toNat)
                case atStart => exact ⟨0, by omega, rfl, rfl, hR3, hko⟩
                case round =>
                  obtain ⟨q, hq, rfl, rfl, hR4, hko4⟩ := hrel
                  clear hR3 hko
                  by_cases hlt : q < 258
                  · obtain ⟨k, hkq⟩ : ∃ k : Int, k = (q : Int) - 1 := ⟨_, rfl⟩
                    obtain ⟨c, hc⟩ : ∃ c, c = (keysTo ax (q - 1)).length := ⟨_, rfl⟩
                    rw [← hkq, ← hc]
                    obtain ⟨hb, hhb⟩ : ∃ b, b = hasK ax k := ⟨_, rfl⟩
                    have hno : hasK ax k = false → (keysTo ax (q + 1 - 1)).length = c := fun h => by
                      rcases Nat.eq_zero_or_pos q with h0 | h0
                      · subst h0; exact hc.symm
                      · obtain ⟨p, rfl⟩ : ∃ p, q = p + 1 := ⟨q - 1, by omega⟩
                        have e : keysTo ax (p + 1) = if hasK ax (p : Int) = true then keysTo ax p ++ [(p : Int)] else keysTo ax p := rfl
                        have e3 : k = (p : Int) := by omega
                        rw [e3] at h
                        rw [Nat.add_sub_cancel, e, h, if_neg (by decide), hc, Nat.add_sub_cancel]
                    have hyes : hasK ax k = true → ((keysTo ax 256).map (Value.int .i64))[c]? = some (.int .i64 k) ∧ c < km ∧ (keysTo ax (q + 1 - 1)).length = c + 1 := fun h => by
                      have hk0 : 0 ≤ k ∧ k < 256 := by
                        by_cases hh : 0 ≤ k ∧ k < 256
                        · exact hh
                        · rw [hasK_out ax k hh] at h; cases h
                      obtain ⟨p, rfl⟩ : ∃ p, q = p + 1 := ⟨q - 1, by omega⟩
                      have e3 : k = (p : Int) := by omega
                      rw [e3] at h ⊢
                      have e : keysTo ax (p + 1) = if hasK ax (p : Int) = true then keysTo ax p ++ [(p : Int)] else keysTo ax p := rfl
                      rw [Nat.add_sub_cancel] at hc
                      have h4 := keysTo_get ax p 256 (by omega) h
                      rw [← hc, ← HM.out] at h4
                      refine ⟨by rw [List.getElem?_map, h4.1]; rfl, h4.2, ?_⟩
                      rw [Nat.add_sub_cancel, e, h, if_pos rfl, List.length_append, ← hc]
                      rfl
                    have HNO := Lib.hid hno
                    have HYES := Lib.hid hyes
                    have HHB := Lib.hid hhb
                    have HKQ := Lib.hid hkq
                    have hk1 : -1 ≤ k := by omega
                    have hk2 : k ≤ 256 := by omega
                    have hc9 : c ≤ 257 := by
                      rw [hc]; have := keysTo_le ax (q - 1); omega
                    clear hkq hc hhb hno hyes
                    go_wp2_with fail
                    refine wp_region_front 7 [82, 83, 84, 85, 86, 87, 88] 0 #[true, true, true, true, true, true, true] (fun W => Rows w [(d10, LB), (d9, LA), (xb, L), (d7, LA), (d8, LB)] W ∧ W.ownsRow w.heap.size 3 1 (.slice KA km KC) km ((keysTo ax 256).map (Value.int .i64))) (tabF [.agg LA.toArray, .int .i64 k, .bool hb, .agg LA.toArray, .int .i64 k, .bool hb, .bool false]) noP (by kernel_rfl) (by kernel_rfl) (by kernel_rfl) (by kernel_rfl) (by kernel_rfl) (fun _ _ hb h => ⟨h.1.go hb, own_below h.2 hb⟩) (fun _ _ _ _ _ h => h) ⟨hR4.drew, hko4.drew⟩ ?_ ?_
                    · intro i hi s w2 hs hB hd
                      have s7 : s 7 = .pointer (some ⟨d7, 0, none⟩) := hs 7 (by decide)
                      have s9 : s 9 = .pointer (some ⟨d9, 0, none⟩) := hs 9 (by decide)
                      have s17 : s 17 = .int .i64 k := hs 17 (by decide)
                      obtain rfl | rfl | rfl | rfl | rfl | rfl | rfl : i = 0 ∨ i = 1 ∨ i = 2 ∨ i = 3 ∨ i = 4 ∨ i = 5 ∨ i = 6 := by omega
                      all_goals refine stepG_plain (by rfl) ?_
                      · exact stepS_load rfl s7 (hB.1.get (by simp)) hu rfl HIA.out ⟨Below.refl _ _, rfl, fun j _ _ u _ => ⟨trivial, trivial⟩⟩
                      · exact stepS_move _ rfl ⟨Below.refl _ _, s17, fun j _ _ u _ => ⟨trivial, trivial⟩⟩
                      · have h0 : s 82 = .agg LA.toArray := hd 0 (by decide +kernel)
                        have h1 : s 83 = .int .i64 k := hd 1 (by decide +kernel)
                        refine stepS_call rfl Try.func28 (by kernel_rfl) (by kernel_rfl) #[.agg LA.toArray, .int .i64 k] (by simp [evS, h0, h1]) ((HH.out k w2).mono ?_)
                        rintro e w3 ⟨rfl, hb3⟩
                        exact ⟨_, rfl, hb3, by rw [HHB.out]; rfl, fun j _ _ u _ => ⟨trivial, trivial⟩⟩
                      · exact stepS_load rfl s9 (hB.1.get (by simp)) hu rfl HIA.out ⟨Below.refl _ _, rfl, fun j _ _ u _ => ⟨trivial, trivial⟩⟩
                      · exact stepS_move _ rfl ⟨Below.refl _ _, s17, fun j _ _ u _ => ⟨trivial, trivial⟩⟩
                      · have h0 : s 85 = .agg LA.toArray := hd 3 (by decide +kernel)
                        have h1 : s 86 = .int .i64 k := hd 4 (by decide +kernel)
                        refine stepS_call rfl Try.func29 (by kernel_rfl) (by kernel_rfl) #[.agg LA.toArray, .int .i64 k] (by simp [evS, h0, h1]) ((HRH.out k w2).mono ?_)
                        rintro e w3 ⟨rfl, hb3⟩
                        exact ⟨_, rfl, hb3, by rw [HHB.out]; rfl, fun j _ _ u _ => ⟨trivial, trivial⟩⟩
                      · have h0 : s 84 = .bool hb := hd 2 (by decide +kernel)
                        have h1 : s 87 = .bool hb := hd 5 (by decide +kernel)
                        refine stepS_run (v := .bool false) ?_ ⟨Below.refl _ _, rfl, fun j _ _ u _ => ⟨trivial, trivial⟩⟩
                        cases hb <;> simp [execOp, evS, h0, h1, go_sem]
                    · intro s w5 hB hF hP
                      have h88 : s 88 = .bool false := hF 6 (by decide)
                      obtain ⟨hR5, hko5⟩ := hB
                      refine wpAny_end (by kernel_rfl) ?_
                      simp only [setAll, List.foldl_cons, List.foldl_nil, List.setIfInBounds_toArray, List.set_cons_succ, List.set_cons_zero, h88]
                      clear hF hP h88 hR4 hko4
                      have hA9 := hR5.get (b := d9) (L := LA) (by simp)
                      have HRk := Lib.hid (HRH.out k)
                      rw [← HHB.out] at HRk
                      cases hb with
                      | false =>
                        go_wp2_with (first
                          | (refine wpList_load_mid rfl 47 _ rfl d9 0 rfl LA _ hA9.1 Try.underlying47 rfl HIA.out ?_)
                          | (refine wp_load_mid 47 _ rfl d9 0 rfl LA _ hA9.1 Try.underlying47 rfl HIA.out ?_)
                          | (go_at_call 29; refine (HRk.out _).mono ?_; rintro e w6 ⟨rfl, hb6⟩; have hR6 := hR5.go hb6; have hko6 := own_below hko5 hb6))
                        go_roundw
                        case rel => exact ⟨q + 1, by omega, by rw [HKQ.out]; go_num, by rw [HNO.out HHB.out.symm], hR6, hko6⟩
                        case measure => simp [intOf]; omega
                      | true =>
                        obtain ⟨hcell, hclt, hcn⟩ := HYES.out HHB.out.symm
                        have HCN := Lib.hid hcn
                        clear hcn
                        obtain ⟨g, KC', hkv, _⟩ := own_pos hko5 (by omega)
                        injection hkv with e1 e2 e3
                        subst e1
                        clear e2 e3
                        go_wp2_with (first
                          | (refine wpList_load_mid rfl 47 _ rfl d9 0 rfl LA _ hA9.1 Try.underlying47 rfl HIA.out ?_)
                          | (refine wp_load_mid 47 _ rfl d9 0 rfl LA _ hA9.1 Try.underlying47 rfl HIA.out ?_)
                          | (go_at_call 29; refine (HRk.out _).mono ?_; rintro e w6 ⟨rfl, hb6⟩; have hR6 := hR5.go hb6; have hko6 := own_below hko5 hb6; have hck := (own_cell hko6 c _ hcell).1))
                        go_roundw
                        case rel => exact ⟨q + 1, by omega, by rw [HKQ.out]; go_num, by rw [HCN.out]; go_num, hR6, hko6⟩
                        case measure => simp [intOf]; omega
                  · obtain rfl : q = 258 := by omega
                    have e1 : (keysTo ax (258 - 1)).length = km := by
                      rw [HM.out]
                      show (keysTo ax 257).length = _
                      have : keysTo ax 257 = if hasK ax ((256 : Nat) : Int) = true then keysTo ax 256 ++ [((256 : Nat) : Int)] else keysTo ax 256 := rfl
                      rw [this, hasK_out ax _ (by omega), if_neg (by decide)]
                    rw [e1]
                    have e2 : ((258 : Nat) : Int) - 1 = 257 := by omega
                    rw [e2]
                    clear e1 e2
                    go_wp2_with fail
                    go_loopw [19, 108] (fun v19 i wr => ∃ j : Nat, j ≤ n ∧ i = .int .i64 j ∧ Rows w [(d10, LB), (d9, LA), (xb, L), (d7, LA), (d8, LB)] wr ∧ wr.ownsRow w.heap.size 3 1 (.slice KA km KC) km ((keysTo ax 256).map (Value.int .i64))) (fun _ i _ => n - (intOf i).toNat)
                    case atStart => exact ⟨0, Nat.zero_le _, rfl, hR4, hko4⟩
                    case round =>
                      obtain ⟨j, hj2, rfl, hR5, hko5⟩ := hrel
                      clear hR4 hko4
                      by_cases hlt2 : j < n
                      · have hjx : j < xs.length := by rw [← HN.out]; exact hlt2
                        obtain ⟨a, rfl, hcx⟩ := (hX.below hR5.below).at.map j hjx
                        obtain ⟨x, hx⟩ : ∃ x, x = xs[j] := ⟨_, rfl⟩
                        rw [← hx] at hcx
                        have hin : hasK ax x = keyOK x := by rw [HAS.out]; exact hasK_in xs ls HLs.out x (by rw [hx]; exact List.getElem_mem _)
                        have HHx := Lib.hid (HH.out x)
                        rw [hin] at HHx
                        have hA7 := hR5.get (b := d7) (L := LA) (by simp)
                        clear hx hin
                        by_cases hk : 0 ≤ x ∧ x < 256
                        · rw [(keyOK_iff x).2 hk] at HHx
                          obtain ⟨k0, k1⟩ := hk
                          go_wp2_with (first
                            | (refine wpList_load_mid rfl 47 _ rfl d7 0 rfl LA _ hA7.1 Try.underlying47 rfl HIA.out ?_)
                            | (refine wp_load_mid 47 _ rfl d7 0 rfl LA _ hA7.1 Try.underlying47 rfl HIA.out ?_)
                            | (go_at_call 28; refine (HHx.out _).mono ?_; rintro e w6 ⟨rfl, hb6⟩; have hR6 := hR5.go hb6; have hko6 := own_below hko5 hb6))
                          go_roundw
                          case rel => exact ⟨j + 1, by omega, by go_num, hR6, hko6⟩
                          case measure => simp [intOf]; omega
                        · rw [keyNo hk] at HHx
                          by_cases k0 : 0 ≤ x
                          · have k1 : 256 ≤ x := by omega
                            clear hk
                            go_wp2_with (first
                              | (refine wpList_load_mid rfl 47 _ rfl d7 0 rfl LA _ hA7.1 Try.underlying47 rfl HIA.out ?_)
                              | (refine wp_load_mid 47 _ rfl d7 0 rfl LA _ hA7.1 Try.underlying47 rfl HIA.out ?_)
                              | (go_at_call 28; refine (HHx.out _).mono ?_; rintro e w6 ⟨rfl, hb6⟩; have hR6 := hR5.go hb6; have hko6 := own_below hko5 hb6))
                            go_roundw
                            case rel => exact ⟨j + 1, by omega, by go_num, hR6, hko6⟩
                            case measure => simp [intOf]; omega
                          · clear hk
                            go_wp2_with (first
                              | (refine wpList_load_mid rfl 47 _ rfl d7 0 rfl LA _ hA7.1 Try.underlying47 rfl HIA.out ?_)
                              | (refine wp_load_mid 47 _ rfl d7 0 rfl LA _ hA7.1 Try.underlying47 rfl HIA.out ?_)
                              | (go_at_call 28; refine (HHx.out _).mono ?_; rintro e w6 ⟨rfl, hb6⟩; have hR6 := hR5.go hb6; have hko6 := own_below hko5 hb6))
                            go_roundw
                            case rel => exact ⟨j + 1, by omega, by go_num, hR6, hko6⟩
                            case measure => simp [intOf]; omega
                      · obtain rfl : n = j := by omega
                        go_wp2_with fail
                        go_ret
                        refine ⟨?_, hR5.below⟩
                        rfl
end Go.Proofs.YtljdfhckllncoaaK
