import Derived.Test.YteghldapcfkekaaKIrd
import Derived.Test.YteghldapcfkekaaKIsp
import Derived.Test.YteghldapcfkekaaKGre
import Derived.Test.YteghldapcfkekaaKSam
namespace Go.Proofs.YteghldapcfkekaaK
open Go.RowKit
set_option linter.unusedSimpArgs false
set_option linter.unusedVariables false
/-! InodeWrites. -/
theorem wrI_len {K Z : Int} {es : List (List UInt8 × Int)} (h : rightI K Z es = true) : (wrI K Z es).length ≤ 1000 := by
  by_cases hk : K = 1
  · subst hk
    rw [wrI_file h, List.length_append, numB_length, numB_length]; decide
  · obtain ⟨_, _, h8, hall⟩ := right_dir h hk
    rw [wrI_dir h hk, List.length_append, numsB_length]
    have := flatW_le (fun j hj => (hall j hj).1) es.length (Nat.le_refl _)
    rw [List.take_length] at this
    simp only [List.length_cons, List.length_nil]
    omega
theorem iread_yes {K Z : Int} {es : List (List UInt8 × Int)} (h : rightI K Z es = true) (A : Option Addr) (n c : Nat) (w : World) (hX : Bs w (.slice A n c) (wrI K Z es)) :
    Calls Try.prog 16 #[.slice A n c] w fun e w' => ∃ A1 n1 c1, e = .returned (.tuple #[.agg #[.int .i64 K, .int .i64 Z, .slice A1 n1 c1], .int .i64 0]) ∧ Es w' (.slice A1 n1 c1) es ∧ Below w.heap.size w w' := by
  refine (iread_any A n c _ w hX (wrI_len h)).mono ?_
  rintro e w' ⟨h1, h2⟩
  unfold RdOut at h1
  rw [rdI_wrI h] at h1
  obtain ⟨v, rfl, hE⟩ := h1
  obtain ⟨A1, c1, rfl, h3⟩ := hE
  exact ⟨A1, _, c1, rfl, ⟨A1, c1, rfl, h3⟩, h2⟩
theorem iwrite_at {K Z : Int} {es : List (List UInt8 × Int)} {R : Bool} {X : List UInt8} {E : Int} (hR : rightI K Z es = R) (hX : wrI K Z es = X) (hE : errI R = E) (A : Option Addr) (n c : Nat) (w : World) (h : Es w (.slice A n c) es) :
    (Calls Try.prog 12 #[.agg #[.int .i64 K, .int .i64 Z, .slice A n c]] w fun e w' => ∃ A1 n1 c1, e = .returned (.tuple #[.slice A1 n1 c1, .int .i64 E]) ∧ Bs w' (.slice A1 n1 c1) X ∧ Below w.heap.size w w') ∧
    (Calls Try.prog 13 #[.agg #[.int .i64 K, .int .i64 Z, .slice A n c]] w fun e w' => ∃ A1 n1 c1, e = .returned (.tuple #[.slice A1 n1 c1, .int .i64 E]) ∧ Bs w' (.slice A1 n1 c1) X ∧ Below w.heap.size w w') ∧
    (Calls Try.prog 14 #[.agg #[.int .i64 K, .int .i64 Z, .slice A n c]] w fun e w' => e = .returned (.int .i64 E) ∧ Below w.heap.size w w') := by
  subst hR hX hE
  refine ⟨(iwrite_any K Z A n c es w h).mono ?_, (rwrite_any K Z A n c es w h).mono ?_, check_any K Z A n c es w h⟩
  · rintro e w' ⟨v, rfl, ⟨A1, n1, c1, rfl, h1⟩, h2⟩
    exact ⟨A1, n1, c1, rfl, h1, h2⟩
  · rintro e w' ⟨v, rfl, ⟨A1, n1, c1, rfl, h1⟩, h2⟩
    exact ⟨A1, n1, c1, rfl, h1, h2⟩
/-- Behind the copy. -/
def IW (w : World) (ib : Nat) (K Z : Int) (A : Option Addr) (n c : Nat) (A6 : Option Addr) (c6 : Nat) (es : List (List UInt8 × Int)) (W : World) : Prop :=
  Below w.heap.size w W ∧ W.heap[w.heap.size]? = some (.cells #[.int .i64 K, .int .i64 Z, .slice A n c] 28 (0, 0)) ∧ W.heap[ib]? = some (.cells #[.int .i64 K, .int .i64 Z, .slice A6 n c6] 28 (0, 0)) ∧ Es W (.slice A n c) es ∧ Es W (.slice A6 n c6) es
theorem IW.go {w : World} {ib : Nat} {K Z : Int} {A : Option Addr} {n c : Nat} {A6 : Option Addr} {c6 : Nat} {es : List (List UInt8 × Int)} {W W' : World} (h : IW w ib K Z A n c A6 c6 es W) (hb : Below W.heap.size W W') : IW w ib K Z A n c A6 c6 es W' :=
  ⟨h.1.trans (hb.mono h.1.size), (hb.block _ (lt_of h.2.1)).trans h.2.1, (hb.block _ (lt_of h.2.2.1)).trans h.2.2.1, h.2.2.2.1.below hb, h.2.2.2.2.below hb⟩
theorem IW.cells {w : World} {ib : Nat} {K Z : Int} {A : Option Addr} {n c : Nat} {A6 : Option Addr} {c6 : Nat} {es : List (List UInt8 × Int)} {W : World} (h : IW w ib K Z A n c A6 c6 es W) :
    (W.cell? ⟨w.heap.size, 0, none⟩ = some (.int .i64 K) ∧ W.cell? ⟨w.heap.size, 1, none⟩ = some (.int .i64 Z) ∧ W.cell? ⟨w.heap.size, 2, none⟩ = some (.slice A n c)) ∧
    (W.cell? ⟨ib, 0, none⟩ = some (.int .i64 K) ∧ W.cell? ⟨ib, 1, none⟩ = some (.int .i64 Z) ∧ W.cell? ⟨ib, 2, none⟩ = some (.slice A6 n c6)) :=
  ⟨⟨cell_of h.2.1 0, cell_of h.2.1 1, cell_of h.2.1 2⟩, ⟨cell_of h.2.2.1 0, cell_of h.2.2.1 1, cell_of h.2.2.1 2⟩⟩
theorem Bx.row {w W : World} {o : Obj} (h : Bx w o W) : W.heap[w.heap.size]? = some o := by
  have h' : Below (w.alloc o).heap.size (w.alloc o) W := h
  exact (h'.block w.heap.size (by simp)).trans (heap_alloc_new w o)
theorem flatE_len (l : List (List UInt8 × Int)) : (l.flatMap encE).length = l.length * 2 := by
  induction l with
  | nil => rfl
  | cons x l ih => rw [List.flatMap_cons, List.length_append, ih, List.length_cons, Nat.succ_mul]; show 2 + _ = _; omega
theorem flatE_one (l : List (List UInt8 × Int)) : ∀ u ∈ l.flatMap encE, u.oneCell' = true := by
  intro u hu
  obtain ⟨x, _, hx⟩ := List.mem_flatMap.1 hu
  simp only [encE, List.mem_cons, List.not_mem_nil, or_false] at hx
  rcases hx with rfl | rfl <;> rfl
theorem Es.at0 {w : World} {A : Option Addr} {n c : Nat} {es : List (List UInt8 × Int)} (h : Es w (.slice A n c) es) : At w A (es.flatMap encE) := by
  obtain ⟨A', c', he, _, _, h4⟩ := h
  injection he with e1 e2 e3
  subst e1
  exact h4
/-- A row of entries of the call's own is a row of entries. -/
theorem own_es {w : World} {B n : Nat} {v : Value} {es : List (List UInt8 × Int)} (h : w.ownsRow B 46 2 v n (es.flatMap encE)) : n = es.length ∧ Es w v es := by
  have hl := h.1
  rw [flatE_len] at hl
  obtain rfl : n = es.length := by omega
  obtain ⟨A', c', rfl, h4, h5⟩ := own_form h
  exact ⟨rfl, A', c', rfl, h4, h5, own_at h⟩
/-- The copy's making: the append, the store. -/
theorem IW.made {w w2 w5 : World} {K Z : Int} {A A6 : Option Addr} {n c c6 : Nat} {es : List (List UInt8 × Int)} (hE : Es w (.slice A n c) es) (hB2 : Bx w (.cells #[.int .i64 K, .int .i64 Z, .slice A n c] 28) w2)
    (hI5 : Bx w2 (.cells #[.int .i64 K, .int .i64 Z, .slice A n c] 28) w5) (ho : w5.ownsRow (w2.heap.size + 1) 46 2 (.slice A6 n c6) n (es.flatMap encE)) :
    IW w w2.heap.size K Z A n c A6 c6 es (w5.setCell ⟨w2.heap.size, 2, none⟩ (.slice A6 n c6)) := by
  have hb5 := hI5.below
  have hB5 := hB2.go hb5
  have hsz := hB2.size
  have hset := set_low w5 w2.heap.size w2.heap.size 2 (.slice A6 n c6) (Nat.le_refl _)
  have hbw : Below w.heap.size w (w5.setCell ⟨w2.heap.size, 2, none⟩ (.slice A6 n c6)) := hB5.below.setCell (p := ⟨w2.heap.size, 2, none⟩) (by show w.heap.size ≤ w2.heap.size; omega) _
  refine ⟨hbw, (hset.block _ (by omega)).trans hB5.row, Go.Joins.block_setCell hI5.row _, hE.below hbw, ?_⟩
  exact (own_es (ho.kept (grown_set w5 w2.heap.size 2 _) (by
    cases hv : (Value.slice A6 n c6).ownBlock with
    | none => exact .inl rfl
    | some k => exact .inr (by have := (ho.lt k hv).1; simp; omega)))).2
set_option maxRecDepth 100000 in
set_option maxHeartbeats 16000000 in
theorem inodeWrites_walk (K Z : Int) (A : Option Addr) (n c : Nat) (es : List (List UInt8 × Int)) (w : World) (hE : Es w (.slice A n c) es) :
    Calls Try.prog 4 #[.agg #[.int .i64 K, .int .i64 Z, .slice A n c]] w fun e w' => e = .returned (.bool true) ∧ Below w.heap.size w w' := by
  obtain ⟨hn, hn63⟩ := hE.len
  have HN := Lib.hid hn
  have HE := Lib.hid hE
  clear hn hE
  have HS := Lib.hid inode_speaks
  have HG := Lib.hid (fun A n c W h => great_any K Z es A n c W h)
  have HSm := Lib.hid (fun A B n c n' c' W h h' => same_eq K Z es A B n c n' c' W h h')
  go_enter Try.func4, Try.ntmps4
  go_upto_region 3 with (go_at_call 8; refine (HS.out _).mono ?_; rintro e w1 ⟨rfl, hb1⟩; have hB1 := Bx.go (Bx.here w (.cells #[.int .i64 K, .int .i64 Z, .slice A n c] 28)) hb1)
  have x0 := hB1.cell 0 _ rfl
  have x1 := hB1.cell 1 _ rfl
  have x2 := hB1.cell 2 _ rfl
  go_upto_region 6 with (go_at_call 11; refine (HG.out _ _ _ _ (HE.out.below hB1.below)).mono ?_; rintro e w2 ⟨b, rfl, hgb, hb2⟩; have hB2 := hB1.go hb2; have z0 := hB2.cell 0 _ rfl; have z1 := hB2.cell 1 _ rfl; have z2 := hB2.cell 2 _ rfl)
  · go_ret
    exact ⟨rfl, hB2.below⟩
  have hn40 : n ≤ 40 := (hgb (by assumption)).1
  have HI := Lib.hid (Bx.here w2 (.cells #[.int .i64 K, .int .i64 Z, .slice A n c] 28))
  have HB2 := Lib.hid hB2
  have hoE := own_empty (w := w2.alloc (.cells #[.int .i64 K, .int .i64 Z, .slice A n c] 28)) (base := w2.heap.size + 1) (b := w2.heap.size + 1) (e := 46) (size := 2) (by simp) (by simp)
  have HOE := Lib.hid hoE
  have hq2 := (hB2.go (HI.out.alloc (.cells #[] 46)).below).cell 2 _ rfl
  have hatE := (HE.out.below (hB2.go (HI.out.alloc (.cells #[] 46)).below).below).at0
  have HATE := Lib.hid hatE
  clear hatE hoE x0 x1 x2 z0 z1 z2 hgb
  rcases hR : rightI K Z es with _ | _
  · have hX := wrI_no hR
    have HC := Lib.hid (fun A n c W h => iwrite_at hR hX (show errI false = 1 from rfl) A n c W h)
    clear hX hR
    go_upto_region 7 with (at_builtin; go_must (refine wp_append (w2.heap.size + 1) rfl _ _ 26 46 (.agg #[.string ByteArray.empty, .int .i64 0]) 2 24 rfl Try.underlying26 info_entry rfl (by decide) (by decide) (.slice (some ⟨w2.heap.size + 1, 0, none⟩) 0 0) 0 [] A n c (es.flatMap encE) rfl rfl HOE.out HATE.out (by rw [flatE_len, ← HN.out]) (flatE_one es) (by simp) (by omega) ?_); intro v1 w5 ho1 hg1 ha1; obtain ⟨A6, c6, rfl, _, _⟩ := own_form ho1; have hI5 := (HI.out.alloc _).grown HOE.out hg1; have hr5 := hI5.row; have hc5 := cell_of hr5 2; have hc50 := cell_of hr5 0; have hc51 := cell_of hr5 1; have hf5 := frozen_of hr5 2; rw [Nat.zero_add] at ho1 ⊢; rw [List.nil_append] at ho1; have hW6 := IW.made HE.out HB2.out hI5 ho1)
    go_wp2_with (first
      | (go_at_call 12; refine (HC.out _ _ _ _ hW6.2.2.2.2).1.mono ?_; rintro e w7 ⟨A7, n7, c7, rfl, hs7, hb7⟩; have hW7 := hW6.go hb7; obtain ⟨⟨z0, z1, z2⟩, t0, t1, t2⟩ := hW7.cells)
      | (go_at_call 13; refine (HC.out _ _ _ _ hW7.2.2.2.1).2.1.mono ?_; rintro e w8 ⟨A8, n8, c8, rfl, hs8, hb8⟩; have hW8 := hW7.go hb8; obtain ⟨⟨q0, q1, q2⟩, r0, r1, r2⟩ := hW8.cells; have hst7 := run_str (hs7.below hb8); have hst8 := run_str hs8)
      | (go_at_call 14; refine (HC.out _ _ _ _ hW8.2.2.2.2).2.2.mono ?_; rintro e w9 ⟨rfl, hb9⟩; have hW9 := hW8.go hb9; obtain ⟨⟨k0, k1, k2⟩, l0, l1, l2⟩ := hW9.cells)
      | (go_at_call 15; refine (HSm.out _ _ _ _ _ _ _ hW9.2.2.2.2 hW9.2.2.2.1).mono ?_; rintro e w10 ⟨rfl, hb10⟩; have hW10 := hW9.go hb10; obtain ⟨⟨m0, m1, m2⟩, o0, o1, o2⟩ := hW10.cells))
    go_ret
    exact ⟨rfl, hW10.1⟩
  obtain ⟨X, hX⟩ : ∃ X, wrI K Z es = X := ⟨_, rfl⟩
  have HC := Lib.hid (fun A n c W h => iwrite_at hR hX (show errI true = 0 from rfl) A n c W h)
  have hqx : (X == X) = true := beq_self_eq_true X
  have HRd := fun A n c W h => iread_yes hR A n c W h
  rw [hX] at HRd
  replace HRd := Lib.hid HRd
  clear hX hR
  go_upto_region 7 with (at_builtin; go_must (refine wp_append (w2.heap.size + 1) rfl _ _ 26 46 (.agg #[.string ByteArray.empty, .int .i64 0]) 2 24 rfl Try.underlying26 info_entry rfl (by decide) (by decide) (.slice (some ⟨w2.heap.size + 1, 0, none⟩) 0 0) 0 [] A n c (es.flatMap encE) rfl rfl HOE.out HATE.out (by rw [flatE_len, ← HN.out]) (flatE_one es) (by simp) (by omega) ?_); intro v1 w5 ho1 hg1 ha1; obtain ⟨A6, c6, rfl, _, _⟩ := own_form ho1; have hI5 := (HI.out.alloc _).grown HOE.out hg1; have hr5 := hI5.row; have hc5 := cell_of hr5 2; have hc50 := cell_of hr5 0; have hc51 := cell_of hr5 1; have hf5 := frozen_of hr5 2; rw [Nat.zero_add] at ho1 ⊢; rw [List.nil_append] at ho1; have hW6 := IW.made HE.out HB2.out hI5 ho1)
  have tok : True := trivial
  go_wp2_with (first
    | (go_at_call 12; refine (HC.out _ _ _ _ hW6.2.2.2.2).1.mono ?_; rintro e w7 ⟨A7, n7, c7, rfl, hs7, hb7⟩; have hW7 := hW6.go hb7; obtain ⟨⟨z0, z1, z2⟩, t0, t1, t2⟩ := hW7.cells)
    | (go_at_call 13; refine (HC.out _ _ _ _ hW7.2.2.2.1).2.1.mono ?_; rintro e w8 ⟨A8, n8, c8, rfl, hs8, hb8⟩; have hW8 := hW7.go hb8; obtain ⟨⟨q0, q1, q2⟩, r0, r1, r2⟩ := hW8.cells; have hst7 := run_str (hs7.below hb8); have hst8 := run_str hs8)
    | (go_at_call 14; refine (HC.out _ _ _ _ hW8.2.2.2.2).2.2.mono ?_; rintro e w9 ⟨rfl, hb9⟩; have hW9 := hW8.go hb9; obtain ⟨⟨k0, k1, k2⟩, l0, l1, l2⟩ := hW9.cells)
    | (go_at_call 15; have _t := tok; refine (HSm.out _ _ _ _ _ _ _ hW9.2.2.2.2 hW9.2.2.2.1).mono ?_; rintro e w10 ⟨rfl, hb10⟩; have hW10 := hW9.go hb10; obtain ⟨⟨m0, m1, m2⟩, o0, o1, o2⟩ := hW10.cells; clear _t tok)
    | (go_at_call 16; refine (HRd.out _ _ _ _ (((hs7.below hb8).below hb9).below hb10)).mono ?_; rintro e w11 ⟨A11, n11, c11, rfl, hE11, hb11⟩; have hW11 := hW10.go hb11; obtain ⟨⟨i0, i1, i2⟩, j0, j1, j2⟩ := hW11.cells; have hal := (Below.refl w11.heap.size w11).alloc (Nat.le_refl _) (.cells #[.int .i64 K, .int .i64 Z, .slice A11 n11 c11] 28); have hW12 := hW11.go hal; obtain ⟨⟨p0, p1, p2⟩, u0, u1, u2⟩ := hW12.cells; have hE12 := hE11.below hal; have hnw0 := new_cell w11 #[.int .i64 K, .int .i64 Z, .slice A11 n11 c11] 28 (0, 0) 0 _ rfl; have hnw1 := new_cell w11 #[.int .i64 K, .int .i64 Z, .slice A11 n11 c11] 28 (0, 0) 1 _ rfl; have hnw2 := new_cell w11 #[.int .i64 K, .int .i64 Z, .slice A11 n11 c11] 28 (0, 0) 2 _ rfl)
    | (go_at_call 15; refine (HSm.out _ _ _ _ _ _ _ hE12 hW12.2.2.2.1).mono ?_; rintro e w13 ⟨rfl, hb13⟩; have hW13 := hW12.go hb13))
  go_ret
  exact ⟨rfl, hW13.1⟩
end Go.Proofs.YteghldapcfkekaaK
