import Derived.Test.YtofjabejkcicjaaKCore
import Derived.Maps.Own
import Derived.Maps.OwnOps
import Derived.Maps.OwnSet
import Derived.Maps.RangeWalk
namespace Go.Proofs.YtofjabejkcicjaaK
open Go.RowKit Go.Maps
set_option linter.unusedSimpArgs false
set_option linter.unusedVariables false
section
variable {H : Type} {P : Program} {k e : TypeId}
theorem plainElem_bool_inv (he : P.underlying e = some .bool) {v : Value} {z : DataW H × List MemPlace} (h : plainElem P e v = some z) : ∃ s : Bool, v = .bool s ∧ z = (.lit (.bool s), []) := by
  unfold plainElem at h
  rw [he] at h
  cases v <;> simp at h
  exact ⟨_, rfl, h.symm⟩
theorem lookup_bool {w : World} {b n : Nat} {D : DataW H} {t : TypeId} (h : w.ownsMap P k (plainElem P e) b n D) (K : Keyed P k) (ht : P.underlying t = some (.map k e)) (he : P.underlying e = some .bool) (hz : (zeroValue e).run P w = .ok (.bool false) w)
    {key : Value} {kl : Lit} (hkey : keyOf P k key = some kl) : ∃ c, (Instr.lookup t (.map (some b)) key false).run P w = .ok (.bool c) w ∧ D.atKey kl (.lit (.bool false)) = .lit (.bool c) := by
  obtain ⟨v, ps, hrun, hv⟩ := h.lookup K ht hz (plainElem_bool he false) hkey
  obtain ⟨c, rfl, hc⟩ := plainElem_bool_inv he hv
  simp only [Prod.mk.injEq] at hc
  exact ⟨c, hrun, hc.1⟩
theorem wpList_lookup_own_bool (w : World) {ops : Array Oper} {rest : List Oper} {o : Oper} {a : Act} {Q : Exit → Act → World → Prop}
    (hg : o.guard = none) (m x : Operand) (t : TypeId) (hop : o.op = Op.lookup t m x false)
    (k e : TypeId) (K : Keyed P k) (ht : P.underlying t = some (.map k e)) (he : P.underlying e = some .bool) (hz : (zeroValue e).run P w = .ok (.bool false) w) (b n : Nat) (D : DataW H)
    (hm : a.eval m = .map (some b)) (hown : w.ownsMap P k (plainElem P e) b n D) (key : Value) (kl : Lit) (hx : a.eval x = key) (hkey : keyOf P k key = some kl)
    (hK : ∀ c : Bool, D.atKey kl (.lit (.bool false)) = .lit (.bool c) → wpList P ops Q rest (a.put o.dst (.bool c)) w) :
    wpList P ops Q (o :: rest) a w := by
  refine wpList_plain hg fun K' hK' => ?_
  obtain ⟨c, hrun, hat⟩ := lookup_bool hown K ht he hz hkey
  unfold Oper.wp
  simp [execOp, hop, hm, hx, hrun, Result.andThen]
  exact hK' _ _ (hK c hat)
/-- What is at a key is the bool v. -/
def IsB (D : DataW H) (kl : Lit) (v : Value) : Prop := ∃ c : Bool, v = .bool c ∧ ∀ zd, D.atKey kl zd = .lit (.bool c)
theorem wpList_next_ranges_ib (w : World) {ops : Array Oper} {rest : List Oper} {o : Oper} {a : Act} {Q : Exit → Act → World → Prop}
    (hg : o.guard = none) (it : Operand) (hop : o.op = Op.next it false) (k e : TypeId) (qk : IntKind) (K : Keyed P k) (hk : P.underlying k = some (.int qk)) (he : P.underlying e = some .bool)
    (b r n : Nat) (D : DataW H) (left : Lit → Bool) (cnt : Nat) (hit : a.eval it = .pointer (some ⟨r, 0, none⟩)) (h : w.ranges P k (plainElem P e) b r n D left cnt)
    (hDone : cnt = 0 → (∀ kl, left kl = false) → wpList P ops Q rest (a.put o.dst (.tuple #[.bool false])) w)
    (hMore : ∀ (x : Int) (v : Value) (w' : World) (cnt' : Nat), (Lit.int qk x).wf = true → left (.int qk x) = true → IsB D (.int qk x) v → w'.ranges P k (plainElem P e) b r n D (fun z => left z && !z.sameKey (.int qk x)) cnt' → cnt' < cnt →
      w.grownBy w' (some r) → w'.heap.size = w.heap.size → (Instr.entry (.pointer (some ⟨r, 0, none⟩))).run P w' = .ok (.tuple #[.int qk x, v]) w' → wpList P ops Q rest (a.put o.dst (.tuple #[.bool true, .int qk x, v])) w') :
    wpList P ops Q (o :: rest) a w :=
  wpList_next_ranges w hg it hop k K (plainElem P e) (Value.int qk) Value.bool (fun key kl hkey => by obtain ⟨x, rfl, _⟩ := Maps.keyOf_int_inv hk hkey; exact ⟨x, rfl⟩) (fun v y hv => by obtain ⟨c, rfl, _⟩ := plainElem_bool_inv he hv; exact ⟨c, rfl⟩)
    b r n D left cnt hit h hDone (fun x c kl y w' cnt' hkey hlk hv hat hrg hlt hgr hsz hen => by
      obtain ⟨x', ex, rfl, hwx⟩ := Maps.keyOf_int_inv hk hkey
      cases ex
      obtain ⟨c', ec, rfl⟩ := plainElem_bool_inv he hv
      cases ec
      exact hMore x (.bool c) w' cnt' hwx hlk ⟨c, rfl, hat⟩ hrg hlt hgr hsz hen)
end
/-- The parity of a row of bools. -/
def parF (g : Nat → Bool) : Nat → Bool
  | 0 => false
  | n + 1 => parF g n != g n
theorem parF_put_out (g : Nat → Bool) (j : Nat) (b : Bool) : ∀ n, n ≤ j → parF (fun i => if i = j then b else g i) n = parF g n := by
  intro n
  induction n with
  | zero => intro _; rfl
  | succ n ih =>
    intro h
    show (parF (fun i => if i = j then b else g i) n != (if n = j then b else g n)) = (parF g n != g n)
    rw [ih (by omega), if_neg (by omega)]
theorem parF_put (g : Nat → Bool) (j : Nat) (b : Bool) : ∀ n, j < n → parF (fun i => if i = j then b else g i) n = ((parF g n != g j) != b) := by
  intro n
  induction n with
  | zero => intro h; omega
  | succ n ih =>
    intro h
    show (parF (fun i => if i = j then b else g i) n != (if n = j then b else g n)) = (((parF g n != g n) != g j) != b)
    by_cases e : n = j
    · subst e
      rw [parF_put_out g n b n (Nat.le_refl _), if_pos rfl]
      cases parF g n <;> cases g n <;> cases b <;> rfl
    · rw [ih (by omega), if_neg e]
      cases parF g n <;> cases g n <;> cases g j <;> cases b <;> rfl
theorem parF_none (g : Nat → Bool) : ∀ n, (∀ i, i < n → g i = false) → parF g n = false := by
  intro n
  induction n with
  | zero => intro _; rfl
  | succ n ih =>
    intro h
    show (parF g n != g n) = false
    rw [ih (fun i hi => h i (by omega)), h n (by omega)]; rfl
theorem parF_same (g f : Nat → Bool) : ∀ n, (∀ i, i < n → g i = f i) → parF g n = parF f n := by
  intro n
  induction n with
  | zero => intro _; rfl
  | succ n ih =>
    intro h
    show (parF g n != g n) = (parF f n != f n)
    rw [ih (fun i hi => h i (by omega)), h n (by omega)]
/-- A map reads as a row of bools: what it has not is false. -/
def OMap (D : DataW Unit) (f : Nat → Bool) : Prop :=
  IsMap D ∧ (∀ z, Maps.has D z = true → ∃ j : Nat, j < 2061 ∧ z = Lit.int .i64 (j : Int)) ∧ (∀ j : Nat, Maps.has D (.int .i64 (j : Int)) = false → f j = false) ∧ (∀ (j : Nat) zd, Maps.has D (.int .i64 (j : Int)) = true → D.atKey (.int .i64 (j : Int)) zd = .lit (.bool (f j)))
theorem omap_zero : OMap (.map []) (fun _ => false) := ⟨⟨[], rfl⟩, fun z h => by simp [Maps.has] at h, fun j h => rfl, fun j zd h => by simp [Maps.has] at h⟩
theorem OMap.step {D : DataW Unit} {f : Nat → Bool} (h : OMap D f) (j : Nat) (hj : j < 2061) (b : Bool) : OMap (D.put (.int .i64 (j : Int)) (.lit (.bool b))) (fun i => if i = j then b else f i) := by
  obtain ⟨h1, h2, h3, h4⟩ := h
  have hk : WideAt.IsKeyLit (.int .i64 (j : Int)) := trivial
  have hne : ∀ i : Nat, i ≠ j → (Lit.int .i64 (i : Int)) ≠ .int .i64 (j : Int) := fun i e e2 => by injection e2 with _ e3; omega
  refine ⟨h1.put _ _, fun z hz => ?_, fun i hi => ?_, fun i zd hi => ?_⟩
  · by_cases e : z = Lit.int .i64 (j : Int)
    · exact ⟨j, hj, e⟩
    · rw [has_put_other e] at hz
      exact h2 z hz
  · by_cases e : i = j
    · subst e; rw [has_put_same h1 hk] at hi; cases hi
    · rw [has_put_other (hne i e)] at hi
      show (if i = j then b else f i) = false
      rw [if_neg e]; exact h3 i hi
  · show _ = DataW.lit (.bool (if i = j then b else f i))
    by_cases e : i = j
    · subst e; rw [atKey_put_same h1 hk, if_pos rfl]
    · rw [has_put_other (hne i e)] at hi
      rw [atKey_put_other (hne i e), if_neg e]
      exact h4 i zd hi
theorem OMap.look {D : DataW Unit} {f : Nat → Bool} (h : OMap D f) (j : Nat) {c : Bool} (hc : D.atKey (.int .i64 (j : Int)) (.lit (.bool false)) = .lit (.bool c)) : c = f j := by
  cases hh : Maps.has D (.int .i64 (j : Int)) with
  | true =>
    rw [h.2.2.2 j _ hh] at hc
    injection hc with hc; injection hc with hc; exact hc.symm
  | false =>
    rw [h.2.2.1 j hh]
    rw [atKey_of_not_has hh] at hc
    injection hc with hc; injection hc with hc; exact hc.symm
end Go.Proofs.YtofjabejkcicjaaK
