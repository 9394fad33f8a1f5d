import Derived.Test.YteghldapcfkekaaKIwrP
import Derived.Test.YteghldapcfkekaaKPackBk
namespace Go.Proofs.YteghldapcfkekaaK
open Go.RowKit
set_option linter.unusedSimpArgs false
set_option linter.unusedVariables false
/-! What bytes are as an inode: plain. -/
def takeE (bs : List UInt8) : Option ((List UInt8 × Int) × List UInt8) :=
  match bs with
  | y :: l :: t => if l.toNat ≤ t.length then some ((t.take l.toNat, (y.toNat : Int)), t.drop l.toNat) else none
  | _ => none
def pE : Nat → List UInt8 → Option (List (List UInt8 × Int) × List UInt8)
  | 0, bs => some ([], bs)
  | k + 1, bs => match takeE bs with
    | none => none
    | some (e, r) => match pE k r with
      | none => none
      | some (es, r') => some (e :: es, r')
def finI (K Z : Int) (es : List (List UInt8 × Int)) (bad : Bool) (left : List UInt8) : Option (Int × Int × List (List UInt8 × Int)) :=
  if bad = true then none else if left = [] then (if rightI K Z es = true then some (K, Z, es) else none) else none
def rdDir (bs : List UInt8) : Option (Int × Int × List (List UInt8 × Int)) :=
  match bs with
  | [] => none
  | c :: t => match pE c.toNat t with
    | none => none
    | some (es, r) => finI 2 0 es false r
def rdI (bs : List UInt8) : Option (Int × Int × List (List UInt8 × Int)) :=
  match bs with
  | [] => none
  | k :: t => if k.toNat = 1 then finI 1 (numV (rdTake t 2) : Int) [] (rdBad t false 2) (rdLeft t 2)
    else if k.toNat = 2 then rdDir t else finI (k.toNat : Int) 0 [] false t
/-- One byte off a reader. -/
theorem rd1_nil (bad : Bool) : numV (rdTake [] 1) = 0 ∧ rdLeft [] 1 = [] ∧ rdBad [] bad 1 = true := ⟨rfl, rfl, rfl⟩
theorem rd1_cons (y : UInt8) (t : List UInt8) (bad : Bool) : numV (rdTake (y :: t) 1) = y.toNat ∧ rdLeft (y :: t) 1 = t ∧ rdBad (y :: t) bad 1 = bad := by
  have e1 : ¬ ((y :: t).length : Int) < max 1 0 := by simp; omega
  unfold rdTake rdLeft rdBad
  rw [if_neg e1, if_neg e1, if_neg e1]
  refine ⟨?_, rfl, rfl⟩
  show numV [y] = _
  simp [numV]
theorem rdN_in (t : List UInt8) (l : Nat) (bad : Bool) (h : l ≤ t.length) : rdTake t (l : Int) = t.take l ∧ rdLeft t (l : Int) = t.drop l ∧ rdBad t bad (l : Int) = bad := by
  have e1 : ¬ (t.length : Int) < max (l : Int) 0 := by omega
  have e2 : (max (l : Int) 0).toNat = l := by omega
  unfold rdTake rdLeft rdBad
  rw [if_neg e1, if_neg e1, if_neg e1, e2]
  exact ⟨rfl, rfl, rfl⟩
theorem rdN_out (t : List UInt8) (l : Nat) (bad : Bool) (h : ¬ l ≤ t.length) : rdTake t (l : Int) = [] ∧ rdLeft t (l : Int) = [] ∧ rdBad t bad (l : Int) = true := by
  have e1 : (t.length : Int) < max (l : Int) 0 := by omega
  unfold rdTake rdLeft rdBad
  rw [if_pos e1, if_pos e1, if_pos e1]
  exact ⟨rfl, rfl, rfl⟩
theorem rdBad_true (t : List UInt8) (s : Int) : rdBad t true s = true := by unfold rdBad; split <;> rfl
theorem rdLeft_le (t : List UInt8) (s : Int) : (rdLeft t s).length ≤ t.length := by
  unfold rdLeft; split
  · simp
  · rw [List.length_drop]; omega
theorem num1_lt (t : List UInt8) : numV (rdTake t 1) < 256 := by
  cases t with
  | nil => exact (by decide : (0 : Nat) < 256)
  | cons y t => rw [(rd1_cons y t false).1]; exact y.toNat_lt
theorem num2_lt (t : List UInt8) : numV (rdTake t 2) < 65536 := by
  have h1 := rdTake_le t 2
  exact Nat.lt_of_lt_of_le (numV_lt (rdTake t 2)) (by have := Nat.pow_le_pow_right (n := 256) (by decide) (show (rdTake t 2).length ≤ 2 by omega); simpa using this)
/-- An entry off a reader that isn't bad yet. -/
theorem takeE_rd (bs : List UInt8) : takeE bs = if rdBad (rdLeft (rdLeft bs 1) 1) (rdBad (rdLeft bs 1) (rdBad bs false 1) 1) (numV (rdTake (rdLeft bs 1) 1) : Int) = true then none
    else some ((rdTake (rdLeft (rdLeft bs 1) 1) (numV (rdTake (rdLeft bs 1) 1) : Int), (numV (rdTake bs 1) : Int)), rdLeft (rdLeft (rdLeft bs 1) 1) (numV (rdTake (rdLeft bs 1) 1) : Int)) := by
  match bs with
  | [] =>
    obtain ⟨h1, h2, h3⟩ := rd1_nil false
    rw [h2, h3, rdBad_true, rdBad_true, if_pos rfl]; rfl
  | [y] =>
    obtain ⟨h1, h2, h3⟩ := rd1_cons y [] false
    obtain ⟨h4, h5, h6⟩ := rd1_nil false
    rw [h2, h3, h6, rdBad_true, if_pos rfl]; rfl
  | y :: l :: t =>
    obtain ⟨h1, h2, h3⟩ := rd1_cons y (l :: t) false
    obtain ⟨h4, h5, h6⟩ := rd1_cons l t false
    rw [h2, h3, h1, h4, h5, h6]
    show (if l.toNat ≤ t.length then _ else _) = _
    by_cases h : l.toNat ≤ t.length
    · obtain ⟨q1, q2, q3⟩ := rdN_in t l.toNat false h
      rw [if_pos h, q1, q2, q3, if_neg (by decide)]
    · obtain ⟨q1, q2, q3⟩ := rdN_out t l.toNat false h
      rw [if_neg h, q3, if_pos rfl]
/-- What stands between: so many entries are read, k are to come. -/
def Mid (cnt k : Nat) (t0 bs : List UInt8) (bad : Bool) (es : List (List UInt8 × Int)) : Prop :=
  if bad = true then pE cnt t0 = none else pE cnt t0 = (pE k bs).map fun p => (es ++ p.1, p.2)
theorem Mid.start (cnt : Nat) (t0 : List UInt8) : Mid cnt cnt t0 t0 false [] := by
  unfold Mid
  rw [if_neg (by decide)]
  cases pE cnt t0 <;> simp
theorem Mid.step {cnt k : Nat} {t0 bs : List UInt8} {es : List (List UInt8 × Int)} (h : Mid cnt (k + 1) t0 bs false es) :
    Mid cnt k t0 (rdLeft (rdLeft (rdLeft bs 1) 1) (numV (rdTake (rdLeft bs 1) 1) : Int)) (rdBad (rdLeft (rdLeft bs 1) 1) (rdBad (rdLeft bs 1) (rdBad bs false 1) 1) (numV (rdTake (rdLeft bs 1) 1) : Int))
      (es ++ [(rdTake (rdLeft (rdLeft bs 1) 1) (numV (rdTake (rdLeft bs 1) 1) : Int), (numV (rdTake bs 1) : Int))]) := by
  have ht := takeE_rd bs
  unfold Mid at h ⊢
  rw [if_neg (by decide)] at h
  rw [h]
  generalize rdBad (rdLeft (rdLeft bs 1) 1) (rdBad (rdLeft bs 1) (rdBad bs false 1) 1) (numV (rdTake (rdLeft bs 1) 1) : Int) = b3 at ht ⊢
  generalize rdLeft (rdLeft (rdLeft bs 1) 1) (numV (rdTake (rdLeft bs 1) 1) : Int) = r at ht ⊢
  generalize (rdTake (rdLeft (rdLeft bs 1) 1) (numV (rdTake (rdLeft bs 1) 1) : Int), (numV (rdTake bs 1) : Int)) = e at ht ⊢
  have hp : pE (k + 1) bs = match takeE bs with
    | none => none
    | some (e, r) => match pE k r with
      | none => none
      | some (es, r') => some (e :: es, r') := rfl
  rw [hp, ht]
  cases b3 with
  | true => rfl
  | false =>
    rw [if_neg (by decide), if_neg (by decide)]
    show Option.map _ (match pE k r with | none => none | some (es, r') => some (e :: es, r')) = _
    cases pE k r with
    | none => rfl
    | some p => simp
theorem Mid.done {cnt : Nat} {t0 bs : List UInt8} {es : List (List UInt8 × Int)} (h : Mid cnt 0 t0 bs false es) : pE cnt t0 = some (es, bs) := by
  unfold Mid at h
  rw [if_neg (by decide)] at h
  rw [h]
  simp [pE]
theorem Mid.bad {cnt k : Nat} {t0 bs : List UInt8} {es : List (List UInt8 × Int)} (h : Mid cnt k t0 bs true es) : pE cnt t0 = none := by
  unfold Mid at h
  rw [if_pos rfl] at h
  exact h
/-! Its inverse. -/
theorem numB_numV2 : ∀ (l : List UInt8), numB l.length (numV l) = l
  | [] => rfl
  | x :: l => by
    have h := x.toNat_lt
    have e1 : (x.toNat + 256 * numV l) % 256 = x.toNat := by omega
    have e2 : (x.toNat + 256 * numV l) / 256 = numV l := by omega
    show numB (l.length + 1) (x.toNat + 256 * numV l) = _
    unfold numB
    rw [e1, e2, numB_numV2 l]
    simp
/-- Bytes that are read as a node are written as they were. -/
theorem takeE_some {bs r : List UInt8} {e : List UInt8 × Int} (h : takeE bs = some (e, r)) : bs = encW e ++ r ∧ 0 ≤ e.2 ∧ e.2 < 256 := by
  match bs, h with
  | y :: l :: t, h =>
    unfold takeE at h
    simp only at h
    by_cases hl : l.toNat ≤ t.length
    · rw [if_pos hl] at h
      injection h with h
      injection h with h1 h2
      subst h1 h2
      have hy := y.toNat_lt
      refine ⟨?_, by simp, by simp only; omega⟩
      show y :: l :: t = ([UInt8.ofNat (((y.toNat : Int)).toNat % 256), UInt8.ofNat ((((t.take l.toNat).length : Nat) : Int).toNat % 256)] ++ t.take l.toNat) ++ t.drop l.toNat
      have hll := l.toNat_lt
      have e1 : UInt8.ofNat (((y.toNat : Int)).toNat % 256) = y := by rw [Int.toNat_natCast, Nat.mod_eq_of_lt (by omega)]; simp
      have e2 : UInt8.ofNat ((((t.take l.toNat).length : Nat) : Int).toNat % 256) = l := by rw [Int.toNat_natCast, List.length_take, Nat.min_eq_left hl, Nat.mod_eq_of_lt (by omega)]; simp
      rw [e1, e2, List.append_assoc, List.take_append_drop]
      rfl
    · rw [if_neg hl] at h; cases h
theorem takeE_enc (e : List UInt8 × Int) (h0 : 0 ≤ e.2) (h1 : e.2 < 256) (h2 : e.1.length < 256) (r : List UInt8) : takeE (encW e ++ r) = some (e, r) := by
  show takeE (UInt8.ofNat (e.2.toNat % 256) :: UInt8.ofNat (((e.1.length : Nat) : Int).toNat % 256) :: (e.1 ++ r)) = _
  unfold takeE
  simp only
  have e1 : (UInt8.ofNat (e.2.toNat % 256)).toNat = e.2.toNat := by simp; omega
  have e2 : (UInt8.ofNat (((e.1.length : Nat) : Int).toNat % 256)).toNat = e.1.length := by simp; omega
  rw [e1, e2, if_pos (by simp)]
  have e3 : ((e.2.toNat : Nat) : Int) = e.2 := by omega
  rw [e3]
  simp
theorem pE_some : ∀ (k : Nat) (bs r : List UInt8) (es : List (List UInt8 × Int)), pE k bs = some (es, r) → bs = es.flatMap encW ++ r ∧ es.length = k := by
  intro k
  induction k with
  | zero =>
    intro bs r es h
    have : some (([] : List (List UInt8 × Int)), bs) = some (es, r) := h
    injection this with this
    injection this with h1 h2
    subst h1 h2
    exact ⟨rfl, rfl⟩
  | succ k ih =>
    intro bs r es h
    unfold pE at h
    cases ht : takeE bs with
    | none => rw [ht] at h; cases h
    | some p =>
      obtain ⟨e, r1⟩ := p
      rw [ht] at h
      simp only at h
      cases hp : pE k r1 with
      | none => rw [hp] at h; cases h
      | some q =>
        obtain ⟨es1, r2⟩ := q
        rw [hp] at h
        simp only at h
        injection h with h
        injection h with h1 h2
        subst h1 h2
        obtain ⟨h3, h4⟩ := ih r1 r2 es1 hp
        obtain ⟨h5, _⟩ := takeE_some ht
        rw [h5, h3]
        refine ⟨by simp, by simp [h4]⟩
theorem pE_enc : ∀ (es : List (List UInt8 × Int)) (r : List UInt8), (∀ e ∈ es, 0 ≤ e.2 ∧ e.2 < 256 ∧ e.1.length < 256) → pE es.length (es.flatMap encW ++ r) = some (es, r) := by
  intro es
  induction es with
  | nil => intro r _; rfl
  | cons e es ih =>
    intro r h
    obtain ⟨h0, h1, h2⟩ := h e (by simp)
    rw [List.flatMap_cons, List.append_assoc]
    show pE (es.length + 1) _ = _
    unfold pE
    rw [takeE_enc e h0 h1 h2]
    simp only
    rw [ih r (fun x hx => h x (by simp [hx]))]
theorem right_bounds {K Z : Int} {es : List (List UInt8 × Int)} (h : rightI K Z es = true) (hk : ¬ K = 1) : ∀ e ∈ es, 0 ≤ e.2 ∧ e.2 < 256 ∧ e.1.length < 256 := by
  intro e he
  obtain ⟨_, _, _, h4⟩ := right_dir h hk
  obtain ⟨j, hj, rfl⟩ := List.getElem_of_mem he
  have := h4 j hj
  rw [nmA_get hj, inA_get hj] at this
  omega
theorem right1_es {Z : Int} {es : List (List UInt8 × Int)} (h : rightI 1 Z es = true) : es = [] := by
  unfold rightI at h
  rw [if_pos rfl] at h
  simp only [Bool.and_eq_true, decide_eq_true_eq] at h
  exact List.eq_nil_of_length_eq_zero h.2
/-- What is written is read. -/
theorem rdI_wrI {K Z : Int} {es : List (List UInt8 × Int)} (h : rightI K Z es = true) : rdI (wrI K Z es) = some (K, Z, es) := by
  by_cases hk : K = 1
  · subst hk
    obtain ⟨h0, h1⟩ := right_file h
    obtain rfl := right1_es h
    obtain ⟨N, rfl⟩ := Int.eq_ofNat_of_zero_le h0
    rw [wrI_file h]
    show rdI ((1 : UInt8) :: numB 2 N) = _
    unfold rdI
    simp only
    rw [if_pos (by decide)]
    have q := rdN_in (numB 2 N) 2 false (by rw [numB_length]; exact Nat.le_refl _)
    obtain ⟨q1, q2, q3⟩ := q
    rw [show ((2 : Nat) : Int) = 2 from rfl] at q1 q2 q3
    rw [q1, q2, q3]
    have e1 : (numB 2 N).take 2 = numB 2 N := List.take_of_length_le (by rw [numB_length]; exact Nat.le_refl _)
    have e2 : (numB 2 N).drop 2 = [] := List.drop_of_length_le (by rw [numB_length]; exact Nat.le_refl _)
    rw [e1, e2, numV_numB, Nat.mod_eq_of_lt (by omega)]
    unfold finI
    rw [if_neg (by decide), if_pos rfl, if_pos h]
  · obtain ⟨rfl, rfl, h8, _⟩ := right_dir h hk
    have hb := right_bounds h hk
    rw [wrI_dir h hk]
    show rdI ((2 : UInt8) :: UInt8.ofNat (((es.length : Nat) : Int).toNat % 256) :: (es.flatMap encW)) = _
    unfold rdI
    simp only
    rw [if_neg (by decide), if_pos (by decide)]
    unfold rdDir
    simp only
    have e2 : (UInt8.ofNat (((es.length : Nat) : Int).toNat % 256)).toNat = es.length := by simp; omega
    have := pE_enc es [] hb
    rw [List.append_nil] at this
    rw [e2, this]
    simp only
    unfold finI
    rw [if_neg (by decide), if_pos rfl, if_pos h]
theorem finI_some {K Z K' Z' : Int} {es es' : List (List UInt8 × Int)} {bad : Bool} {left : List UInt8} (h : finI K Z es bad left = some (K', Z', es')) : K' = K ∧ Z' = Z ∧ es' = es ∧ bad = false ∧ left = [] ∧ rightI K Z es = true := by
  unfold finI at h
  by_cases h1 : bad = true
  · rw [if_pos h1] at h; cases h
  · rw [if_neg h1] at h
    by_cases h2 : left = []
    · rw [if_pos h2] at h
      by_cases h3 : rightI K Z es = true
      · rw [if_pos h3] at h
        injection h with h; injection h with e1 h; injection h with e2 e3
        exact ⟨e1.symm, e2.symm, e3.symm, by simpa using h1, h2, h3⟩
      · rw [if_neg h3] at h; cases h
    · rw [if_neg h2] at h; cases h
/-- What is read was so written. -/
theorem rdI_some {bs : List UInt8} {K Z : Int} {es : List (List UInt8 × Int)} (h : rdI bs = some (K, Z, es)) : rightI K Z es = true ∧ bs = wrI K Z es := by
  match bs, h with
  | k :: t, h =>
    unfold rdI at h
    simp only at h
    by_cases h1 : k.toNat = 1
    · rw [if_pos h1] at h
      obtain ⟨rfl, rfl, rfl, hb, hl, hr⟩ := finI_some h
      refine ⟨hr, ?_⟩
      rw [wrI_file hr]
      have hk : k = 1 := UInt8.toNat_inj.1 (by rw [h1]; rfl)
      subst hk
      have h2 : 2 ≤ t.length := by
        by_cases h2 : 2 ≤ t.length
        · exact h2
        · have := (rdN_out t 2 false h2).2.2
          rw [show ((2 : Nat) : Int) = 2 from rfl] at this
          rw [this] at hb; cases hb
      obtain ⟨q1, q2, q3⟩ := rdN_in t 2 false h2
      rw [show ((2 : Nat) : Int) = 2 from rfl] at q1 q2 q3
      rw [q2] at hl
      have ht : t.take 2 = t := by have := List.take_append_drop 2 t; rw [hl, List.append_nil] at this; exact this
      rw [q1, ht]
      have hlen : t.length = 2 := by have := congrArg List.length hl; rw [List.length_drop] at this; simp at this; omega
      have := numB_numV2 t
      rw [hlen] at this
      rw [Int.toNat_natCast, this]
      rfl
    · rw [if_neg h1] at h
      by_cases h2 : k.toNat = 2
      · rw [if_pos h2] at h
        have hk : k = 2 := UInt8.toNat_inj.1 (by rw [h2]; rfl)
        subst hk
        match t, h with
        | c :: t, h =>
          unfold rdDir at h
          simp only at h
          cases hp : pE c.toNat t with
          | none => rw [hp] at h; cases h
          | some p =>
            obtain ⟨es1, r⟩ := p
            rw [hp] at h
            simp only at h
            obtain ⟨rfl, rfl, rfl, hb, hl, hr⟩ := finI_some h
            refine ⟨hr, ?_⟩
            obtain ⟨e1, e2⟩ := pE_some _ _ _ _ hp
            rw [wrI_dir hr (by decide), e1, hl, List.append_nil, e2]
            show (2 : UInt8) :: c :: _ = (2 : UInt8) :: UInt8.ofNat (((c.toNat : Nat) : Int).toNat % 256) :: _
            have hcl := c.toNat_lt
            have e3 : UInt8.ofNat (((c.toNat : Nat) : Int).toNat % 256) = c := by rw [Int.toNat_natCast, Nat.mod_eq_of_lt (by omega)]; simp
            rw [e3]
            rfl
      · rw [if_neg h2] at h
        obtain ⟨rfl, rfl, rfl, hb, hl, hr⟩ := finI_some h
        rw [right_other (by omega) (by omega)] at hr
        cases hr
theorem rdI_none {bs : List UInt8} (h : rdI bs = none) {K Z : Int} {es : List (List UInt8 × Int)} (hr : rightI K Z es = true) : ¬ bs = wrI K Z es := by
  intro e
  rw [e, rdI_wrI hr] at h
  cases h
end Go.Proofs.YteghldapcfkekaaK
