import Derived.Test.YtcknoadoeonbjaaKPackS
namespace Go.Proofs.YtcknoadoeonbjaaK
open Go.RowKit
set_option linter.unusedSimpArgs false
set_option linter.unusedVariables false
/-- Texts with their sizes ahead of them. -/
def sized (xss : List (List UInt8)) : List UInt8 := (xss.map fun l => numB 2 l.length ++ l).flatten
theorem sized_snoc (l : List (List UInt8)) (x : List UInt8) : sized (l ++ [x]) = sized l ++ (numB 2 x.length ++ x) := by simp [sized]
theorem sized_cons (l : List (List UInt8)) (x : List UInt8) : sized (x :: l) = numB 2 x.length ++ (x ++ sized l) := by simp [sized]
theorem numV_numB (k : Nat) : ∀ n, numV (numB k n) = n % 256 ^ k := by
  induction k with
  | zero => intro n; simp [numB, numV]; omega
  | succ k ih =>
    intro n
    simp only [numB, numV, ih, Nat.pow_succ]
    have h : (UInt8.ofNat (n % 256)).toNat = n % 256 := by rw [UInt8.toNat_ofNat']; omega
    rw [h, Nat.mul_comm (256 ^ k) 256, Nat.mod_mul]
theorem rdTake_app (a b : List UInt8) (s : Int) (h : max s 0 = (a.length : Int)) : rdTake (a ++ b) s = a := by
  unfold rdTake
  rw [if_neg (by rw [h]; simp; omega), h]; simp
theorem rdLeft_app (a b : List UInt8) (s : Int) (h : max s 0 = (a.length : Int)) : rdLeft (a ++ b) s = b := by
  unfold rdLeft
  rw [if_neg (by rw [h]; simp; omega), h]; simp
theorem rdBad_app (a b : List UInt8) (bad : Bool) (s : Int) (h : max s 0 = (a.length : Int)) : rdBad (a ++ b) bad s = bad := by
  unfold rdBad
  rw [if_neg (by rw [h]; simp; omega)]
theorem Bss.len {w : World} {A : Option Addr} {n c : Nat} {xss : List (List UInt8)} (h : Bss w (.slice A n c) xss) : n = xss.length := by
  obtain ⟨A', c', vs, he, _⟩ := h
  injection he with e1 e2 e3
theorem Bss.new3 {w : World} {v v' v'' : Value} {bs bs' bs'' : List UInt8} {b : Nat} {T : TypeId} {fz : Nat × Nat} (hb : b = w.heap.size) (h : Bs w v bs) (h' : Bs w v' bs') (h'' : Bs w v'' bs'') : Bss (w.alloc (.cells #[v, v', v''] T fz)) (.slice (some ⟨b, 0, none⟩) 3 3) [bs, bs', bs''] :=
  Bss.new (vs := [v, v', v'']) hb rfl rfl (by omega) (fun j hj _ => by
    match j, hj with
    | 0, _ => exact h
    | 1, _ => exact h'
    | 2, _ => exact h'')
theorem sized_append (a b : List (List UInt8)) : sized (a ++ b) = sized a ++ sized b := by simp [sized]
theorem sized_drop_le (a : List (List UInt8)) (j : Nat) : (sized (a.drop j)).length ≤ (sized a).length := by
  conv => rhs; rw [← List.take_append_drop j a, sized_append, List.length_append]
  omega
/-- A number that lies ahead is read. -/
theorem rnum_app (b D : Nat) (N : Nat) (k : Nat) (rest : List UInt8) (bad : Bool) (s : Int) (w : World) (hk : wid s = k) (hN : N < 256 ^ k) (h : Rdr w b D (numB k N ++ rest) bad) (hl : (numB k N ++ rest).length ≤ 140737488355328) :
    Calls Try.prog 21 #[.pointer (some ⟨b, 0, none⟩), .int .i64 s] w fun e w' => e = .returned (.int .u64 (N : Int)) ∧ Rdr w' b D rest bad ∧ w.grownBy w' (some b) := by
  refine (rnum_any b D _ bad s w h hl).mono ?_
  have hm : max ((wid s : Nat) : Int) 0 = ((numB k N).length : Int) := by rw [numB_length, hk]; omega
  rw [rdTake_app _ _ _ hm, rdLeft_app _ _ _ hm, rdBad_app _ _ _ _ hm, numV_numB, Nat.mod_eq_of_lt hN]
  exact fun e w' h => h
/-- Bytes that lie ahead are read. -/
theorem bytes_app (b D : Nat) (bs rest : List UInt8) (bad : Bool) (s : Int) (w : World) (hs : max s 0 = (bs.length : Int)) (h : Rdr w b D (bs ++ rest) bad) (hl : (bs ++ rest).length ≤ 140737488355328) :
    Calls Try.prog 25 #[.pointer (some ⟨b, 0, none⟩), .int .i64 s] w fun e w' => ∃ v n, e = .returned v ∧ w'.ownsRow w.heap.size 5 1 v n (bs.map encB) ∧ Rdr w' b D rest bad ∧ w.grownBy w' (some b) := by
  refine (bytes_any b D _ bad s w h hl).mono ?_
  rw [rdTake_app _ _ _ hs, rdLeft_app _ _ _ hs, rdBad_app _ _ _ _ hs]
  exact fun e w' h => h
theorem below_row {B : Nat} {w w1 w2 : World} {b : Nat} (h : Below B w w1) (hg : w1.grownBy w2 (some b)) (hB : B ≤ w1.heap.size) (hb : B ≤ b) : Below B w w2 :=
  h.grown hg hB (fun k hk => by injection hk with hk; omega)
theorem lens3 (a b c : List UInt8) : Lib.lens [a, b, c] = a.length + b.length + c.length := by simp [Lib.lens]; omega
set_option maxHeartbeats 1000000 in
theorem packBack_walk (A : Option Addr) (n c : Nat) (xss : List (List UInt8)) (w : World) (hX : Bss w (.slice A n c) xss) :
    Calls Try.prog 7 #[.slice A n c] w fun e w' => e = .returned (.bool true) ∧ Below w.heap.size w w' := by
  have HN := Lib.hid hX.len
  by_cases h50 : 50 < n
  · clear hX
    go_enter Try.func7, Try.ntmps7
    go_wp2_with (go_at_call 15; refine (pack_speaks _).mono ?_; rintro e w' ⟨rfl, hb⟩)
    go_ret
    exact ⟨rfl, ‹_›⟩
  go_enter Try.func7, Try.ntmps7
  go_wp2_with (go_at_call 15; refine (pack_speaks _).mono ?_; rintro e w' ⟨rfl, hb⟩)
  go_loopw [3, 17] (fun v i wr => ∃ (k : Nat) (A3 : Option Addr) (m c3 : Nat), k ≤ n ∧ i = .int .i64 k ∧ v = .slice A3 m c3 ∧ Bs wr (.slice A3 m c3) (sized (xss.take k)) ∧ m ≤ 1002 * k ∧ (∀ j (hj : j < xss.length), j < k → xss[j].length ≤ 1000) ∧ Below w.heap.size w wr) (fun _ i _ => n - (intOf i).toNat)
  case atStart => exact ⟨0, _, _, _, Nat.zero_le _, rfl, rfl, Bs.new rfl rfl rfl (by decide), by omega, fun j hj h => by omega, hb.alloc hb.size _⟩
  case round =>
    obtain ⟨k, A3, m, c3, hk, rfl, rfl, hbs, hm, hle, hbr⟩ := hrel
    have HLE := Lib.hid hle
    clear hle
    by_cases hlt : k < n
    · have hkx : k < xss.length := by rw [← HN.out]; exact hlt
      obtain ⟨a, v, rfl, hc, hv⟩ := (hX.below hbr).get k hkx
      obtain ⟨A1, c1, rfl, h1, h2, h3⟩ := hv
      obtain ⟨bs, hbx⟩ : ∃ bs, bs = xss[k] := ⟨_, rfl⟩
      rw [← hbx] at hc h1 h2 h3
      have HB := Lib.hid hbx
      clear hbx
      by_cases h6 : 1000 < bs.length
      · go_wp2
        go_ret
        exact ⟨rfl, hbr⟩
      have hNum := Lib.hid (fun W => num_any 2 bs.length W (by omega))
      rw [show wid 2 = 2 from rfl] at hNum
      have hsz := hbr.size
      have hel : Bs wr (.slice A1 bs.length c1) bs := ⟨A1, c1, rfl, h1, h2, h3⟩
      have HM := Lib.hid hbs.len
      clear h3
      go_wp2_with (go_at_call 16; refine (hNum.out _).mono ?_; rintro e w1 ⟨v, rfl, ho, hb1⟩; obtain ⟨A5, c5, rfl, _, _⟩ := own_form ho; have hb2 := hbr.trans (hb1.mono hsz); have hn1 := (own_bs ho).2; clear ho)
      have hj3 := Bss.new3 (w := w1) (T := 24) (fz := (0, 0)) rfl (hbs.below hb1) hn1 (hel.below hb1)
      refine Calls.mono (pjoin_any _ _ _ _ _ hj3 (by decide) (by rw [lens3, numB_length, ← HM.out]; omega)) ?_
      rintro e w2 ⟨v2, rfl, hf, hb3⟩
      obtain ⟨A6, c6, hv6, _⟩ := hf.1
      obtain ⟨q, hq⟩ : ∃ q, q = [sized (xss.take k), numB 2 bs.length, bs].flatten := ⟨_, rfl⟩
      rw [← hq] at hf hv6
      obtain ⟨m6, hm6⟩ : ∃ m, m = q.length := ⟨_, rfl⟩
      rw [← hm6] at hv6
      subst hv6
      have hq2 : m6 ≤ 1002 * (k + 1) := by rw [hm6, hq]; simp [numB_length, ← HM.out]; omega
      have HQ := Lib.hid hq
      clear hq hm6 hj3
      go_wp2
      go_roundw
      case rel =>
        refine ⟨k + 1, A6, m6, c6, by omega, by go_num, rfl, ?_, hq2, ?_, ?_⟩
        · rw [List.take_succ_eq_append_getElem hkx, sized_snoc, ← HB.out]
          have := hf.1
          rw [HQ.out] at this
          simpa using this
        · intro j hj hjk
          by_cases e : j = k
          · subst e; rw [← HB.out]; omega
          · exact HLE.out j hj (by omega)
        · exact Below.trans (hb2.alloc hb2.size _) (hb3.mono (by have := hb2.size; simp; omega))
      case measure => simp [intOf]; omega
    · obtain rfl : k = n := by omega
      have HM := Lib.hid hbs.len
      rw [List.take_of_length_le (by rw [← HN.out]; exact Nat.le_refl _)] at hbs
      go_wp2_with (go_at_call 19; refine (new_any _ _ _ _ _ hbs (by omega)).mono ?_; rintro e w1 ⟨b, D, rfl, hb0, _, _, hr, hb1⟩)
      have hsz := hbr.size
      have hb2 := hbr.trans (hb1.mono hsz)
      have hbb : w.heap.size ≤ b := by omega
      clear hbs hb1 hb0 hbr
      go_loopw [8, 39] (fun v i wr => ∃ j : Nat, j ≤ k ∧ i = .int .i64 j ∧ Rdr wr b D (sized (xss.drop j)) false ∧ Below w.heap.size w wr) (fun _ i _ => k - (intOf i).toNat)
      case atStart => exact ⟨0, Nat.zero_le _, rfl, hr, hb2⟩
      case round =>
        obtain ⟨j, hj, rfl, hrj, hbj⟩ := hrel
        clear hr hb2
        by_cases hlj : j < k
        · have hjx : j < xss.length := by rw [← HN.out]; exact hlj
          obtain ⟨a, v, rfl, hcw, hel⟩ := hX.get j hjx
          obtain ⟨bs, hbx⟩ : ∃ bs, bs = xss[j] := ⟨_, rfl⟩
          rw [← hbx] at hel
          obtain ⟨A1, c1, rfl, h1, h2, h3⟩ := hel
          have hel : Bs w (.slice A1 bs.length c1) bs := ⟨A1, c1, rfl, h1, h2, h3⟩
          have hc := cell_later hbj hcw
          clear h3 hcw
          have hl1 : bs.length ≤ 1000 := by rw [hbx]; exact HLE.out j hjx hlj
          have hdr : sized (xss.drop j) = numB 2 bs.length ++ (bs ++ sized (xss.drop (j + 1))) := by
            rw [List.drop_eq_getElem_cons hjx, sized_cons, ← hbx]
          have hlen : (numB 2 bs.length ++ (bs ++ sized (xss.drop (j + 1)))).length ≤ 140737488355328 := by
            rw [← hdr]
            have h1 := sized_drop_le xss j
            have h2 := HM.out
            rw [List.take_of_length_le (by rw [← HN.out]; exact Nat.le_refl _)] at h2
            omega
          have hlen2 : (bs ++ sized (xss.drop (j + 1))).length ≤ 140737488355328 := by
            rw [List.length_append] at hlen; omega
          rw [hdr] at hrj
          have HB := Lib.hid hbx
          clear hbx hdr
          have HNm := Lib.hid (fun W hR => rnum_app b D bs.length 2 _ false 2 W rfl (by omega) hR hlen)
          have HBy := Lib.hid (fun W s hs hR => bytes_app b D bs _ false s W hs hR hlen2)
          have hwl : IntKind.i64.wrap (bs.length : Int) = (bs.length : Int) := by rw [IntKind.wrap_i64]; omega
          have hb0 : Below w.heap.size w wr.drew := hbj.drew
          have hs0 := run_str (hel.below hb0)
          go_wp2_with fail
          go_region_with (first | (go_at_call 21; refine (HNm.out _ (by exact hrj)).mono ?_; rintro e w2 ⟨rfl, hr2, hg2⟩; have hb3 := below_row hb0 hg2 hb0.size hbb; have hs2 := run_str (hel.below hb3)) | (go_at_call 25; refine (HBy.out _ _ (by first | omega | (rw [hwl]; omega)) (by exact hr2)).mono ?_; rintro e w3 ⟨v, nn, rfl, ho, hr3, hg3⟩; have hb4 := below_row hb3 hg3 hb3.size hbb; have hs3 := run_str (hel.below hb4); obtain ⟨A7, c7, rfl, _, _⟩ := own_form ho; have hs4 := run_str (own_bs ho).2))
          all_goals
            go_wp2
            go_roundw
            case rel => exact ⟨j + 1, by omega, by go_num, hr3, hb4⟩
            case measure => simp [intOf]; omega
        · obtain rfl : j = k := by omega
          have hdn : xss.drop j = [] := List.drop_of_length_le (by rw [← HN.out]; exact Nat.le_refl _)
          rw [hdn] at hrj
          have hL := Lib.hid (left_any b D _ _ wr hrj)
          have hB := Lib.hid (bad_any b D _ _ wr hrj)
          rw [show (sized ([] : List (List UInt8))).length = 0 from rfl] at hL
          clear hrj hdn
          go_wp2_with (first | (go_at_call 22; refine hL.out.mono ?_; rintro e w8 ⟨rfl, rfl⟩) | (go_at_call 23; refine hB.out.mono ?_; rintro e w8 ⟨rfl, rfl⟩))
          go_ret
          exact ⟨rfl, hbj⟩
end Go.Proofs.YtcknoadoeonbjaaK
