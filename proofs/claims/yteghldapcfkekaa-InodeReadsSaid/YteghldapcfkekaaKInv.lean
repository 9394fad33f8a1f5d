import Derived.Test.YteghldapcfkekaaKRow
import Derived.OrdersHeld
namespace Go.Proofs.YteghldapcfkekaaK
open Go.RowKit
set_option linter.unusedSimpArgs false
set_option linter.unusedVariables false
/-! A region that draws its order, walked by what each operation leaves (no orders counted). -/
def evS (s : Nat → Value) : Operand → Value
  | .tmp t => s t
  | .const v => v
  | .global g => .pointer (some ⟨g, 0, none⟩)
  | .func f => .func (.func f) #[] #[]
theorem eval_evS (a : Act) : a.eval = evS (fun k => a.tmps.getD k undef) := by
  funext x; cases x <;> rfl
/-- What one operation does, by the slots' values alone. -/
def StepS (P : Program) (o : Oper) (s : Nat → Value) (w : World) (K : Value → World → Prop) : Prop :=
  match (execOp (evS s) o).run P w with
  | .ok (.value v) w' => K v w'
  | .ok .skip w' => K undef w'
  | .ok (.enter f args) w' => Calls P f args w' fun e w'' => ∃ u, e = .returned u ∧ K u w''
  | _ => False
section
variable {P : Program} {ops : Array Oper} {Q : Exit → Act → World → Prop}
theorem StepS.wp {o : Oper} {a : Act} {w : World} {K : Value → World → Prop} {N : Act → World → Prop} (h : StepS P o (fun k => a.tmps.getD k undef) w K)
    (hK : ∀ v w', K v w' → N (a.put o.dst v) w') : Oper.wp P o a w N Q := by
  unfold Oper.wp
  rw [eval_evS]
  unfold StepS at h
  generalize (execOp (evS fun k => a.tmps.getD k undef) o).run P w = r at *
  cases r with
  | ok n w' =>
    cases n <;> simp only [Oper.upon] at h ⊢
    case value v => exact hK _ _ h
    case skip => exact hK _ _ h
    case enter f args => exact Calls.mono h (fun e w'' ⟨u, he, hk⟩ => by subst he; exact hK _ _ hk)
    all_goals exact h.elim
  | halt x w' => exact h.elim
theorem StepS.mono {o : Oper} {s : Nat → Value} {w : World} {K K' : Value → World → Prop} (h : StepS P o s w K) (hK : ∀ v w', K v w' → K' v w') : StepS P o s w K' := by
  unfold StepS at *
  generalize (execOp (evS s) o).run P w = r at *
  cases r with
  | ok n w' =>
    cases n <;> simp only at h ⊢
    case value v => exact hK _ _ h
    case skip => exact hK _ _ h
    case enter f args => exact Calls.mono h (fun e w'' ⟨u, he, hk⟩ => ⟨u, he, hK _ _ hk⟩)
    all_goals exact h.elim
  | halt x w' => exact h.elim
/-- The same under a guard: struck, or not. -/
def StepG (P : Program) (ops : Array Oper) (i : Nat) (dst : Nat → Nat) (s : Nat → Value) (w : World) (K : Value → World → Prop) : Prop :=
  match (ops.getD i default).guard with
  | none => StepS P (ops.getD i default) s w K
  | some (g, b) => (s (dst g) = .bool b ∧ StepS P (ops.getD i default) s w K) ∨ ((s (dst g) = .bool (!b) ∨ s (dst g) = undef) ∧ K undef w)
/-- Which operations are bound to come ahead of number i. -/
def depsOf (ops : Array Oper) (i : Nat) : List Nat := ((ops[i]?).map fun o => (o.after.toList.filter (Region.binds .any)).map (·.on)).getD []
def dstOf (ops : Array Oper) (i : Nat) : Nat := ((ops[i]?).bind (·.dst)).getD 0
def dsts (ops : Array Oper) (m : Nat) : List Nat := (List.range m).map (dstOf ops)
def pathB (ops : Array Oper) : Nat → Nat → Nat → Bool
  | 0, _, _ => false
  | n + 1, j, i => (depsOf ops j).any fun d => d == i || pathB ops n d i
def frontOK (ops : Array Oper) (m n : Nat) : Bool :=
  decide (m ≤ ops.size) && ((List.range m).all fun i => (match ops[i]? with | some o => (match o.guard with | none => true | some (g, _) => decide (g < m)) && (match o.dst with | some d => decide (d < n) | none => false) && (depsOf ops i).all (fun d => decide (d < i)) | none => false)) &&
    ((List.range m).all fun i => (List.range m).all fun j => i == j || dstOf ops i != dstOf ops j) &&
    ((List.range (ops.size - m)).all fun j => (List.range m).all fun i => pathB ops 8 (m + j) i)
def frontL (ops : Array Oper) (m : Nat) : Array Bool := ((List.range ops.size).map fun i => decide (i < m)).toArray
def setAll (base : Array Value) (s : Nat → Value) (ds : List Nat) : Array Value := ds.foldl (fun b d => b.setIfInBounds d (s d)) base
theorem setAll_size (s : Nat → Value) : ∀ (ds : List Nat) (base : Array Value), (setAll base s ds).size = base.size := by
  intro ds
  induction ds with
  | nil => intro base; rfl
  | cons d ds ih =>
    intro base
    show (setAll (base.setIfInBounds d (s d)) s ds).size = base.size
    rw [ih]; simp
theorem setAll_get (s : Nat → Value) (k : Nat) : ∀ (ds : List Nat) (base : Array Value), k < base.size → (setAll base s ds)[k]? = some (if k ∈ ds then s k else base.getD k undef) := by
  intro ds
  induction ds with
  | nil => intro base hk; simp [setAll, Array.getD, hk]
  | cons d ds ih =>
    intro base hk
    show (setAll (base.setIfInBounds d (s d)) s ds)[k]? = _
    rw [ih _ (by simpa using hk)]
    by_cases h1 : k ∈ ds
    · simp [h1]
    · by_cases h2 : k = d
      · subst h2
        simp [h1, Array.getD, hk]
      · rw [if_neg h1, if_neg (by simp [h1, h2])]
        congr 1
        simp only [Array.getD_eq_getD_getElem?]
        rw [Array.getElem?_setIfInBounds_ne (Ne.symm h2)]
theorem mem_ready {listed : Array Bool} {i : Nat} (h : i ∈ Region.ready .any ops listed) : i < ops.size ∧ listed.getD i true = false ∧ ∀ d ∈ depsOf ops i, listed.getD d false = true := by
  unfold Region.ready at h
  rw [List.mem_filter] at h
  obtain ⟨h1, h2⟩ := h
  have hi := List.mem_range.1 h1
  rw [Bool.and_eq_true] at h2
  refine ⟨hi, by simpa using h2.1, fun d hd => ?_⟩
  have h3 := h2.2
  rw [Array.getElem?_eq_getElem hi] at h3
  unfold depsOf at hd
  rw [Array.getElem?_eq_getElem hi] at hd
  simp only [Option.map_some, Option.getD_some, List.mem_map, List.mem_filter] at hd
  obtain ⟨e, ⟨he, hb⟩, rfl⟩ := hd
  simp only [Option.map_some, Option.getD_some, Array.all_eq_true_iff_forall_mem] at h3
  have := h3 e (by simpa using he)
  simpa [hb] using this
theorem ready_of {listed : Array Bool} {i : Nat} (hi : i < ops.size) (h2 : listed.getD i true = false) (h3 : ∀ d ∈ depsOf ops i, listed.getD d false = true) : i ∈ Region.ready .any ops listed := by
  unfold Region.ready
  rw [List.mem_filter]
  refine ⟨List.mem_range.2 hi, ?_⟩
  rw [Bool.and_eq_true]
  refine ⟨by simpa using h2, ?_⟩
  rw [Array.getElem?_eq_getElem hi]
  simp only [Option.map_some, Option.getD_some, Array.all_eq_true_iff_forall_mem]
  intro e he
  by_cases hb : Region.binds .any e = true
  · have := h3 e.on (by
      unfold depsOf
      rw [Array.getElem?_eq_getElem hi]
      simp only [Option.map_some, Option.getD_some, List.mem_map, List.mem_filter]
      exact ⟨e, ⟨by simpa using he, hb⟩, rfl⟩)
    simp [hb, this]
  · simp [hb]
theorem path_listed {listed : Array Bool} (hc : ∀ i, listed.getD i false = true → ∀ d ∈ depsOf ops i, listed.getD d false = true) :
    ∀ (n j i : Nat), pathB ops n j i = true → (∀ d ∈ depsOf ops j, listed.getD d false = true) → listed.getD i false = true := by
  intro n
  induction n with
  | zero => intro j i h; cases h
  | succ n ih =>
    intro j i h hd
    unfold pathB at h
    rw [List.any_eq_true] at h
    obtain ⟨d, hdm, h⟩ := h
    rw [Bool.or_eq_true] at h
    rcases h with h | h
    · have : d = i := by simpa using h
      subst this; exact hd d hdm
    · exact ih d i h (hc d (hd d hdm))
/-- What holds on the way: which operations have come up, and what each has left. -/
structure InvS (ops : Array Oper) (m : Nat) (base : Array Value) (ds : List Deferred) (B : World → Prop) (Φ : Nat → Value → World → Prop) (Ψ : Nat → Nat → Value → Value → Prop) (l : Array Bool) (a : Act) (w : World) : Prop where
  size : l.size = ops.size
  closed : ∀ i, l.getD i false = true → ∀ d ∈ depsOf ops i, l.getD d false = true
  back : ∀ j, m ≤ j → l.getD j false = false
  defs : a.defers = ds
  tsize : a.tmps.size = base.size
  rest : ∀ k, k ∉ dsts ops m → a.tmps.getD k undef = base.getD k undef
  base : B w
  facts : ∀ i, i < m → l.getD i false = true → Φ i (a.tmps.getD (dstOf ops i) undef) w
  pairs : ∀ i j, i < m → j < m → i ≠ j → l.getD i false = true → l.getD j false = true → Ψ i j (a.tmps.getD (dstOf ops i) undef) (a.tmps.getD (dstOf ops j) undef)
def cntL (l : Array Bool) : Nat → Nat
  | 0 => 0
  | m + 1 => cntL l m + if l.getD m false = true then 0 else 1
theorem cntL_zero (l : Array Bool) : ∀ m, cntL l m = 0 → ∀ i, i < m → l.getD i false = true := by
  intro m
  induction m with
  | zero => intro _ i hi; omega
  | succ m ih =>
    intro h i hi
    unfold cntL at h
    by_cases hm : l.getD m false = true
    · by_cases e : i = m
      · subst e; exact hm
      · exact ih (by omega) i (by omega)
    · rw [if_neg hm] at h; omega
theorem cntL_some (l : Array Bool) : ∀ m n, cntL l m = n + 1 → ∃ i, i < m ∧ l.getD i false = false ∧ ∀ j, j < i → l.getD j false = true := by
  intro m
  induction m with
  | zero => intro n h; cases h
  | succ m ih =>
    intro n h
    cases hc : cntL l m with
    | zero =>
      refine ⟨m, by omega, ?_, cntL_zero l m hc⟩
      unfold cntL at h
      rw [hc] at h
      by_cases hm : l.getD m false = true
      · rw [if_pos hm] at h; omega
      · simpa using hm
    | succ k =>
      obtain ⟨i, h1, h2, h3⟩ := ih k hc
      exact ⟨i, by omega, h2, h3⟩
theorem getD_set (l : Array Bool) (i j : Nat) (hi : i < l.size) : (l.setIfInBounds i true).getD j false = if j = i then true else l.getD j false := by
  simp only [Array.getD_eq_getD_getElem?]
  by_cases e : j = i
  · subst e; simp [hi]
  · rw [Array.getElem?_setIfInBounds_ne (Ne.symm e), if_neg e]
theorem cntL_out (l : Array Bool) (i : Nat) (hi : i < l.size) : ∀ m, m ≤ i → cntL (l.setIfInBounds i true) m = cntL l m := by
  intro m
  induction m with
  | zero => intro _; rfl
  | succ m ih =>
    intro h
    unfold cntL
    rw [ih (by omega), getD_set l i m hi, if_neg (by omega : ¬ m = i)]
theorem cntL_in (l : Array Bool) (i : Nat) (hi : i < l.size) (h0 : l.getD i false = false) : ∀ m, i < m → cntL (l.setIfInBounds i true) m + 1 = cntL l m := by
  intro m
  induction m with
  | zero => intro h; omega
  | succ m ih =>
    intro h
    unfold cntL
    rw [getD_set l i m hi]
    by_cases e : m = i
    · subst e
      rw [cntL_out l m hi m (Nat.le_refl _), if_pos rfl, if_pos rfl, h0]
      rfl
    · rw [if_neg e]
      have := ih (by omega)
      omega
theorem region_inv {m : Nat} {base : Array Value} {ds : List Deferred} {B : World → Prop} {Φ : Nat → Value → World → Prop} {Ψ : Nat → Nat → Value → Value → Prop}
    (hok : frontOK ops m base.size = true) (hB : ∀ w w', Below w.heap.size w w' → B w → B w') (hΦ : ∀ i v w w', Below w.heap.size w w' → Φ i v w → Φ i v w')
    (hstep : ∀ i, i < m → ∀ s w, (∀ k, k ∉ dsts ops m → s k = base.getD k undef) → B w → (∀ d ∈ depsOf ops i, Φ d (s (dstOf ops d)) w) → StepG P ops i (dstOf ops) s w (fun v w' => Below w.heap.size w w' ∧ Φ i v w' ∧ ∀ j, j < m → j ≠ i → ∀ u, Φ j u w → Ψ i j v u ∧ Ψ j i u v))
    (hend : ∀ s w, B w → (∀ i, i < m → Φ i (s (dstOf ops i)) w) → (∀ i j, i < m → j < m → i ≠ j → Ψ i j (s (dstOf ops i)) (s (dstOf ops j))) → wpAny P .any ops Q (ops.size - m) (frontL ops m) ⟨setAll base s (dsts ops m), ds⟩ w) :
    ∀ n l a w, InvS ops m base ds B Φ Ψ l a w → cntL l m = n → wpAny P .any ops Q (n + (ops.size - m)) l a w := by
  unfold frontOK at hok
  simp only [Bool.and_eq_true, decide_eq_true_eq, List.all_eq_true, List.mem_range] at hok
  obtain ⟨⟨⟨hms, hops⟩, hdis⟩, hpath⟩ := hok
  have hget : ∀ i, i < m → ∃ o d, ops[i]? = some o ∧ (∀ g b, o.guard = some (g, b) → g < m) ∧ o.dst = some d ∧ d < base.size ∧ ∀ e ∈ depsOf ops i, e < i := fun i hi => by
    have h := hops i hi
    cases ho : ops[i]? with
    | none => rw [ho] at h; cases h
    | some o =>
      rw [ho] at h
      simp only [Bool.and_eq_true, List.all_eq_true, decide_eq_true_eq] at h
      obtain ⟨⟨h1, h2⟩, h3⟩ := h
      cases hd : o.dst with
      | none => rw [hd] at h2; cases h2
      | some d =>
        rw [hd] at h2
        exact ⟨o, d, rfl, (fun g b hg => by rw [hg] at h1; simpa using h1), hd, by simpa using h2, h3⟩
  intro n
  induction n with
  | zero =>
    intro l a w hI hc
    rw [Nat.zero_add]
    have hall := cntL_zero l m hc
    have hl : l = frontL ops m := by
      apply Array.ext
      · rw [hI.size]; simp [frontL]
      · intro i h1 h2
        have e1 : l[i] = l.getD i false := by simp [Array.getD, h1]
        have e2 : (frontL ops m)[i] = decide (i < m) := by simp [frontL]
        rw [e1, e2]
        by_cases h : i < m
        · rw [hall i h]; simp [h]
        · rw [hI.back i (by omega)]; simp [h]
    have ha : a = ⟨setAll base (fun k => a.tmps.getD k undef) (dsts ops m), ds⟩ := by
      obtain ⟨tm, df⟩ := a
      have h1 := hI.defs
      have h2 := hI.tsize
      have h3 := hI.rest
      simp only at h1 h2 h3 ⊢
      subst h1
      congr 1
      apply Array.ext
      · rw [setAll_size, h2]
      · intro k hk1 hk2
        have e := setAll_get (fun k => tm.getD k undef) k (dsts ops m) base (by omega)
        rw [Array.getElem?_eq_getElem hk2] at e
        have e := Option.some.inj e
        rw [e]
        by_cases h : k ∈ dsts ops m
        · rw [if_pos h]; simp [Array.getD, hk1]
        · rw [if_neg h, ← h3 k h]; simp [Array.getD, hk1]
    rw [hl, ha]
    exact hend _ w hI.base (fun i hi => hI.facts i hi (hall i hi)) (fun i j hi hj hne => hI.pairs i j hi hj hne (hall i hi) (hall j hj))
  | succ n ih =>
    intro l a w hI hc
    rw [show n + 1 + (ops.size - m) = (n + (ops.size - m)) + 1 from by omega]
    obtain ⟨i0, hi0, hn0, hlo⟩ := cntL_some l m n hc
    have hr0 : i0 ∈ Region.ready .any ops l := by
      obtain ⟨o, d, _, _, _, _, hde⟩ := hget i0 hi0
      refine ready_of (by omega) ?_ (fun e he => hlo e (hde e he))
      have : i0 < l.size := by rw [hI.size]; omega
      simpa [Array.getD, this] using hn0
    refine ⟨(fun h => by rw [h] at hr0; cases hr0), fun i hi => ?_⟩
    obtain ⟨his, hun, hdl⟩ := mem_ready hi
    have hil : i < l.size := by rw [hI.size]; exact his
    have hunf : l.getD i false = false := by simpa [Array.getD, hil] using hun
    have him : i < m := by
      by_cases h : i < m
      · exact h
      · have := path_listed hI.closed 8 i i0 (by have := hpath (i - m) (by omega) i0 hi0; rwa [show m + (i - m) = i from by omega] at this) hdl
        rw [hn0] at this; cases this
    obtain ⟨o, d, ho, hgd, hdst, hdlt, hde⟩ := hget i him
    unfold wpOp
    simp only [ho]
    have hst := hstep i him (fun k => a.tmps.getD k undef) w hI.rest hI.base (fun e he => hI.facts e (by have := hde e he; omega) (hdl e he))
    have hoo : ops.getD i default = o := by simp [Array.getD_eq_getD_getElem?, ho]
    unfold StepG at hst
    rw [hoo] at hst
    have hdi : dstOf ops i = d := by unfold dstOf; rw [ho]; simp [hdst]
    have hput : ∀ (v : Value) k, (a.put o.dst v).tmps.getD k undef = if k = d then v else a.tmps.getD k undef := fun v k => by
      unfold Act.put
      rw [hdst]
      simp only [Array.getD_eq_getD_getElem?]
      by_cases e : k = d
      · subst e
        have : k < a.tmps.size := by rw [hI.tsize]; exact hdlt
        simp [this]
      · rw [Array.getElem?_setIfInBounds_ne (Ne.symm e), if_neg e]
    have fin : ∀ v w', Below w.heap.size w w' → Φ i v w' → (∀ j, j < m → j ≠ i → ∀ u, Φ j u w → Ψ i j v u ∧ Ψ j i u v) → wpAny P .any ops Q (n + (ops.size - m)) (l.setIfInBounds i true) (a.put o.dst v) w' := by
      intro v w' hbel hphi hpsi
      refine ih _ _ _ ⟨by simpa using hI.size, fun j hj e he => ?_, fun j hj => ?_, ?_, ?_, fun k hk => ?_, hB _ _ hbel hI.base, fun j hj hl => ?_, fun j k hj hk hne hlj hlk => ?_⟩ ?_
      · rw [getD_set l i _ hil] at hj ⊢
        by_cases h1 : e = i
        · rw [if_pos h1]
        · rw [if_neg h1]
          by_cases h2 : j = i
          · subst h2; exact hdl e he
          · rw [if_neg h2] at hj; exact hI.closed j hj e he
      · rw [getD_set l i _ hil, if_neg (by omega)]; exact hI.back j hj
      · unfold Act.put; rw [hdst]; exact hI.defs
      · unfold Act.put; rw [hdst]; simpa using hI.tsize
      · rw [hput, if_neg (fun h => hk (by unfold dsts; rw [List.mem_map]; exact ⟨i, List.mem_range.2 him, by rw [hdi, h]⟩))]
        exact hI.rest k hk
      · rw [getD_set l i _ hil] at hl
        rw [hput]
        by_cases e : j = i
        · subst e; rw [if_pos hdi]; exact hphi
        · rw [if_neg e] at hl
          have h2 := hdis i him j hj
          rw [Bool.or_eq_true] at h2
          have h3 : dstOf ops j ≠ d := by
            rcases h2 with h2 | h2
            · exact absurd (by simpa using h2) (Ne.symm e)
            · rw [hdi] at h2; exact Ne.symm (by simpa using h2)
          rw [if_neg h3]
          exact hΦ _ _ _ _ hbel (hI.facts j hj hl)
      · have hds : ∀ j, j < m → j ≠ i → dstOf ops j ≠ d := fun j hj e => by
          have h2 := hdis i him j hj
          rw [Bool.or_eq_true] at h2
          rcases h2 with h2 | h2
          · exact absurd (by simpa using h2) (Ne.symm e)
          · rw [hdi] at h2; exact Ne.symm (by simpa using h2)
        rw [getD_set l i _ hil] at hlj hlk
        rw [hput, hput]
        by_cases e : j = i
        · subst e
          have hk2 : k ≠ j := Ne.symm hne
          rw [if_neg hk2] at hlk
          rw [if_pos hdi, if_neg (hds k hk hk2)]
          exact (hpsi k hk hk2 _ (hI.facts k hk hlk)).1
        · rw [if_neg e] at hlj
          rw [if_neg (hds j hj e)]
          by_cases e2 : k = i
          · subst e2
            rw [if_pos hdi]
            exact (hpsi j hj e _ (hI.facts j hj hlj)).2
          · rw [if_neg e2] at hlk
            rw [if_neg (hds k hk e2)]
            exact hI.pairs j k hj hk hne hlj hlk
      · have := cntL_in l i hil hunf m him
        omega
    cases hgc : o.guard with
    | none =>
      have hw : Region.wanted o (yielded ops a.tmps) = true := by unfold Region.wanted; rw [hgc]
      rw [if_pos hw]
      left
      rw [hgc] at hst
      exact hst.wp fun v w' ⟨hbel, hphi, hpsi⟩ => fin v w' hbel hphi hpsi
    | some gb =>
      obtain ⟨g, b⟩ := gb
      have hgm := hgd g b hgc
      obtain ⟨og, dg, hog, _, hdg, hdgl, _⟩ := hget g hgm
      have hyu : a.tmps.getD (dstOf ops g) undef = undef → yielded ops a.tmps g = none := fun hc => by
        have e1 : dstOf ops g = dg := by unfold dstOf; rw [hog]; simp [hdg]
        rw [e1] at hc
        have h2 : a.tmps[dg]? = some undef := by
          have hlt : dg < a.tmps.size := by rw [hI.tsize]; exact hdgl
          rw [Array.getElem?_eq_getElem hlt]
          simpa [Array.getD, hlt] using hc
        unfold yielded
        simp [hog, hdg, h2, undef]
      have hyd : ∀ c, a.tmps.getD (dstOf ops g) undef = .bool c → yielded ops a.tmps g = some c := fun c hc => by
        have e1 : dstOf ops g = dg := by unfold dstOf; rw [hog]; simp [hdg]
        rw [e1] at hc
        have h2 : a.tmps[dg]? = some (.bool c) := by
          have hlt : dg < a.tmps.size := by rw [hI.tsize]; exact hdgl
          rw [Array.getElem?_eq_getElem hlt]
          simpa [Array.getD, hlt] using hc
        unfold yielded
        simp [hog, hdg, h2]
      rw [hgc] at hst
      rcases hst with ⟨hc, hst⟩ | ⟨hc | hc, hbel, hphi, hpsi⟩
      · have hw : Region.wanted o (yielded ops a.tmps) = true := by unfold Region.wanted; rw [hgc]; simp [hyd b hc]
        rw [if_pos hw]
        left
        exact hst.wp fun v w' ⟨hbel, hphi, hpsi⟩ => fin v w' hbel hphi hpsi
      · have hw : ¬ Region.wanted o (yielded ops a.tmps) = true := by unfold Region.wanted; rw [hgc]; simp [hyd (!b) hc]
        rw [if_neg hw]
        exact fin undef w hbel hphi hpsi
      · have hw : ¬ Region.wanted o (yielded ops a.tmps) = true := by unfold Region.wanted; rw [hgc]; simp [hyu hc]
        rw [if_neg hw]
        exact fin undef w hbel hphi hpsi
/-- THE LAW: a region that draws its order; the first m operations each leave what Φ says, whatever the order, and make memory or only read; behind them the rest goes on. -/
theorem wp_region_front (m : Nat) (D : List Nat) (N : Nat) (l0 : Array Bool) (B : World → Prop) (Φ : Nat → Value → World → Prop) (Ψ : Nat → Nat → Value → Value → Prop) {id : Nat} {base : Array Value} {ds : List Deferred} {w : World} (hm : P.follows .mixedOrders = true)
    (hok : frontOK ops m base.size = true) (hD : dsts ops m = D) (hN : ops.size - m = N) (hl0 : frontL ops m = l0) (hB : ∀ w w', Below w.heap.size w w' → B w → B w') (hΦ : ∀ i v w w', Below w.heap.size w w' → Φ i v w → Φ i v w') (h0 : B w.drew)
    (hstep : ∀ i, i < m → ∀ s w, (∀ k, k ∉ D → s k = base.getD k undef) → B w → (∀ d ∈ depsOf ops i, Φ d (s (dstOf ops d)) w) → StepG P ops i (dstOf ops) s w (fun v w' => Below w.heap.size w w' ∧ Φ i v w' ∧ ∀ j, j < m → j ≠ i → ∀ u, Φ j u w → Ψ i j v u ∧ Ψ j i u v))
    (hend : ∀ s w, B w → (∀ i, i < m → Φ i (s (dstOf ops i)) w) → (∀ i j, i < m → j < m → i ≠ j → Ψ i j (s (dstOf ops i)) (s (dstOf ops j))) → wpAny P .any ops Q N l0 ⟨setAll base s D, ds⟩ w) :
    (Code.region id ops true).wp P Q ⟨base, ds⟩ w := by
  subst hD hN hl0
  refine wp_region_any hm ?_
  have hms : m ≤ ops.size := by
    have := hok
    unfold frontOK at this
    simp only [Bool.and_eq_true, decide_eq_true_eq] at this
    exact this.1.1.1
  have hrep : ∀ i, (Array.replicate ops.size false).getD i false = false := fun i => by
    simp only [Array.getD_eq_getD_getElem?, Array.getElem?_replicate]
    split <;> rfl
  have hcnt : ∀ m, cntL (Array.replicate ops.size false) m = m := by
    intro m
    induction m with
    | zero => rfl
    | succ m ih => unfold cntL; rw [ih, hrep]; rfl
  have h := region_inv hok hB hΦ hstep hend m (Array.replicate ops.size false) ⟨base, ds⟩ w.drew ⟨by simp, (fun i hi => by rw [hrep] at hi; cases hi), fun j _ => hrep j, rfl, rfl, fun k _ => rfl, h0, (fun i _ hi => by rw [hrep] at hi; cases hi), (fun i j _ _ _ hi => by rw [hrep] at hi; cases hi)⟩ (hcnt m)
  rw [show m + (ops.size - m) = ops.size from by omega] at h
  exact h
/-- What is left of a region, where but one operation may come up. -/
theorem wpAny_one {n : Nat} {listed : Array Bool} {a : Act} {w : World} (i : Nat) (o : Oper) (hr : Region.ready .any ops listed = [i]) (ho : ops[i]? = some o) (hg : o.guard = none)
    (h : o.wp P a w (fun a' w' => wpAny P .any ops Q n (listed.setIfInBounds i true) a' w') Q) : wpAny P .any ops Q (n + 1) listed a w := by
  refine ⟨fun h0 => by rw [hr] at h0; (cases h0), fun j hj => ?_⟩
  rw [hr] at hj
  obtain rfl : j = i := by simpa using hj
  unfold wpOp
  simp only [ho]
  have hw : Region.wanted o (yielded ops a.tmps) = true := by unfold Region.wanted; rw [hg]
  rw [if_pos hw]
  exact .inl h
theorem wpAny_end {listed : Array Bool} {a : Act} {w : World} (hr : Region.ready .any ops listed = []) (h : Q .normal a w) : wpAny P .any ops Q 0 listed a w := ⟨hr, h⟩
end
end Go.Proofs.YteghldapcfkekaaK
