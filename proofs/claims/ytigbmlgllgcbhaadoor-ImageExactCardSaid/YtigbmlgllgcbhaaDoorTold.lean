/- A region that draws its order of evaluation, walked ONCE, in the text's order: of each operation it is told what its value is (or what is known of it), in every world that meets S, from the values of the operations that it waits for alone. Then every order ends alike. No order is branched over. Condition: no select, no operation without a temporary of its own. -/
import Derived.Deep.RegionHeld3
namespace Go.Proofs.YtigbmlgllgcbhaaDoor
set_option linter.unusedVariables false
/-- What is told of one operation's value: it is v, or V holds of it. -/
inductive Spec where
  | fix (v : Value)
  | free (V : Value → World → Prop)
def Spec.val : Spec → Value → Value
  | .fix v, _ => v
  | .free _, u => u
def Spec.holds : Spec → Value → World → Prop
  | .fix v, u, _ => u = v
  | .free V, u, w => V u w
def Spec.fact : Spec → Value → World → Prop
  | .fix _, _, _ => True
  | .free V, u, w => V u w
section
variable {P : Program} {ops : Array Oper} {S : World → Prop} {G : World → World → Prop} {Q : Exit → Act → World → Prop}
def dstOf (ops : Array Oper) (k : Nat) : Option Tmp := (ops[k]?).bind (·.dst)
/-- Operation o waits for number j itself. -/
def waits (o : Oper) (j : Nat) : Bool := o.after.any fun e => Region.binds .any e && e.on == j
/-- The acts: those of the numbers below n that the mask lets in have laid their values. -/
def putsM (ops : Array Oper) (sp : Nat → Spec) (us : Nat → Value) (f : Nat → Bool) (a : Act) : Nat → Act
  | 0 => a
  | k + 1 => if f k then (putsM ops sp us f a k).put (dstOf ops k) ((sp k).val (us k)) else putsM ops sp us f a k
theorem putsM_congr {sp sp' : Nat → Spec} {us us' : Nat → Value} {f f' : Nat → Bool} {a : Act} : ∀ n, (∀ k, k < n → f k = f' k ∧ (f k = true → (sp k).val (us k) = (sp' k).val (us' k))) →
    putsM ops sp us f a n = putsM ops sp' us' f' a n
  | 0, _ => rfl
  | n + 1, h => by
    have ih := putsM_congr (a := a) n (fun k hk => h k (by omega))
    obtain ⟨h1, h2⟩ := h n (by omega)
    simp only [putsM, ih, ← h1]
    by_cases hf : f n = true
    · simp only [hf, if_true, h2 hf]
    · rw [if_neg hf, if_neg hf]
theorem put_size (a : Act) (d : Option Tmp) (v : Value) : (a.put d v).tmps.size = a.tmps.size := by cases d <;> simp [Act.put]
theorem putsM_size {sp : Nat → Spec} {us : Nat → Value} {f : Nat → Bool} {a : Act} : ∀ n, (putsM ops sp us f a n).tmps.size = a.tmps.size
  | 0 => rfl
  | n + 1 => by
    unfold putsM
    split
    · rw [put_size]; exact putsM_size n
    · exact putsM_size n
/-- One more lays its value, at whatever time. -/
theorem putsM_put {sp : Nat → Spec} {us us' : Nat → Value} {f f' : Nat → Bool} {a : Act} {j : Nat} (hd : ∀ i k, i ≠ k → ∀ d, dstOf ops i = some d → dstOf ops k ≠ some d)
    (hf : f j = false) (hf' : ∀ k, f' k = (f k || k == j)) (hu : ∀ k, k ≠ j → us' k = us k) : ∀ n, j < n →
    putsM ops sp us' f' a n = (putsM ops sp us f a n).put (dstOf ops j) ((sp j).val (us' j))
  | 0, h => by omega
  | n + 1, h => by
    by_cases hj : j = n
    · subst hj
      have e : putsM ops sp us' f' a j = putsM ops sp us f a j := putsM_congr j fun k hk => by
        have hk' : k ≠ j := by omega
        refine ⟨by rw [hf' k]; simp [hk'], fun _ => by rw [hu k hk']⟩
      have h1 : f' j = true := by rw [hf']; simp
      simp only [putsM, h1, hf, if_true, e]
      rfl
    · have ih := putsM_put hd hf hf' hu n (by omega) (sp := sp) (a := a)
      have h1 : f' n = f n := by rw [hf']; have : n ≠ j := by omega
                                 simp [this]
      simp only [putsM, h1, ih]
      by_cases hn : f n = true
      · simp only [hn, if_true]
        rw [hu n (by omega)]
        exact Act.put_comm _ _ _ (hd j n hj)
      · rw [if_neg hn, if_neg hn]
/-- Two acts that o cannot tell apart. -/
def sameFor (ops : Array Oper) (o : Oper) (b c : Act) : Prop := b.tmps.size = c.tmps.size ∧ ∀ d ∈ o.looksAt ops, b.tmps[d]? = c.tmps[d]?
theorem sameFor.exec {o : Oper} {b c : Act} (h : sameFor ops o b c) (hs : ∀ cs x, o.op ≠ .select cs x) : execOp b.eval o = execOp c.eval o := by
  refine execOp_congr o hs fun x hx => ?_
  cases x with
  | tmp t =>
    have := h.2 t (List.mem_append_left _ (List.mem_filterMap.2 ⟨.tmp t, by simpa using hx, rfl⟩))
    simp only [Act.eval, Array.getD_eq_getD_getElem?, this]
  | _ => rfl
theorem sameFor.wanted {o : Oper} {b c : Act} (h : sameFor ops o b c) : Region.wanted o (yielded ops b.tmps) = Region.wanted o (yielded ops c.tmps) := by
  unfold Region.wanted
  cases hg : o.guard with
  | none => rfl
  | some gw =>
    obtain ⟨g, want⟩ := gw
    have hy : yielded ops b.tmps g = yielded ops c.tmps g := by
      unfold yielded
      cases ht : (ops[g]?).bind (·.dst) with
      | none => rfl
      | some t =>
        have := h.2 t (List.mem_append_right _ (by simp [hg, ht]))
        simp only [Option.bind_some, this]
    simp only [hy]
theorem putsM_sameFor {sp : Nat → Spec} {us : Nat → Value} {f g : Nat → Bool} {a : Act} {o : Oper} : ∀ n, (∀ k, k < n → f k ≠ g k → ∀ d, dstOf ops k = some d → d ∉ o.looksAt ops) →
    sameFor ops o (putsM ops sp us f a n) (putsM ops sp us g a n)
  | 0, _ => ⟨rfl, fun _ _ => rfl⟩
  | n + 1, h => by
    have ih := putsM_sameFor (sp := sp) (us := us) (a := a) n (fun k hk => h k (by omega))
    refine ⟨by rw [putsM_size, putsM_size], fun d hd => ?_⟩
    have e := ih.2 d hd
    have hsz := ih.1
    have hn := h n (by omega)
    unfold putsM
    cases hdst : dstOf ops n with
    | none => simp only [Act.put]; split <;> split <;> exact e
    | some t =>
      rw [hdst] at hn
      have hp : ∀ (b : Act) v, t ≠ d → (b.put (some t) v).tmps[d]? = b.tmps[d]? := fun b v ht => by simp [Act.put, Array.getElem?_setIfInBounds_ne ht]
      by_cases hfg : f n = g n
      · rw [hfg]
        split
        · by_cases ht : t = d
          · subst ht
            simp only [Act.put, Array.getElem?_setIfInBounds_self, hsz]
          · rw [hp _ _ ht, hp _ _ ht]; exact e
        · exact e
      · have ht : t ≠ d := fun e => hn hfg t rfl (e ▸ hd)
        split <;> split <;> (try rw [hp _ _ ht]) <;> (try rw [hp _ _ ht]) <;> exact e
/-- The step of one operation, from act b and world w: it ends, keeps S, and V holds of its value. -/
def Step (P : Program) (ops : Array Oper) (S : World → Prop) (G : World → World → Prop) (o : Oper) (b : Act) (w : World) (V : Value → World → Prop) : Prop :=
  ∀ K : Act → World → Prop, (∀ u w', S w' → G w w' → V u w' → K (b.put o.dst u) w') →
    if Region.wanted o (yielded ops b.tmps) = true then Oper.wp P o b w K (fun _ _ _ => False) else K (b.put o.dst undef) w
/-- It is the same step from an act that o cannot tell apart from b. -/
theorem Step.wpOp {i : Nat} {o : Oper} {b c : Act} {w : World} {V : Value → World → Prop} {d : Tmp} (hi : ops[i]? = some o) (h : Step P ops S G o b w V) (hd : o.dst = some d) (hb : d < b.tmps.size)
    (hs : ∀ cs x, o.op ≠ .select cs x) (hsame : sameFor ops o c b) {K : Act → World → Prop} (hK : ∀ u w', S w' → G w w' → V u w' → K (c.put o.dst u) w') : wpOp P ops Q i K c w := by
  have h1 := h (fun a' w' => a'.defers = b.defers ∧ S w' ∧ G w w' ∧ V (a'.tmps.getD d undef) w') (fun u w' a1 a2 a3 => ⟨by rw [hd]; rfl, a1, a2, by rw [hd]; simpa [Act.put, hb] using a3⟩)
  have get : ∀ u, ((b.put o.dst u).tmps.getD d undef) = u := fun u => by rw [hd]; simp [Act.put, hb]
  unfold Go.wpOp
  simp only [hi]
  rw [hsame.wanted]
  split
  · rename_i hw
    rw [if_pos hw] at h1
    refine .inl ?_
    unfold Oper.wp at *
    rw [hsame.exec hs]
    generalize (execOp b.eval o).run P w = r at *
    cases r with
    | ok n w' =>
      cases n <;> simp only [Oper.upon, get] at h1 ⊢
      case value u => exact hK _ _ h1.2.1 h1.2.2.1 h1.2.2.2
      case skip => exact hK _ _ h1.2.1 h1.2.2.1 h1.2.2.2
      case defer df =>
        have := congrArg List.length h1.1
        rw [hd] at this
        simp [Act.put] at this
      case enter f args =>
        refine Calls.mono h1 fun e w'' he => ?_
        cases e with
        | returned u => exact hK _ _ he.2.1 he.2.2.1 he.2.2.2
        | panicked c => exact he.elim
        | outgrown => obtain ⟨_, _, hf⟩ := he; exact hf.elim
      case row row args => exact Rows.mono h1 fun u w'' he => hK _ _ he.2.1 he.2.2.1 he.2.2.2
    | halt x w' => cases x <;> simp only [Oper.upon] at h1
  · rename_i hw
    rw [if_neg hw, get] at h1
    exact hK _ _ h1.2.1 h1.2.2.1 h1.2.2.2
/-- The walk, in the text's order. -/
def Walk (P : Program) (ops : Array Oper) (S : World → Prop) (G : World → World → Prop) (Q : Exit → Act → World → Prop) : List Oper → Nat → List (Nat × (Value → World → Prop)) → ((Nat → Value) → Act) → Prop
  | [], _, F, A => ∀ us w, S w → (∀ p ∈ F, p.2 (us p.1) w) → Q .normal (A us) w
  | o :: rest, i, F, A =>
    (∃ v, (∀ us w, S w → (∀ p ∈ F, waits o p.1 = true → p.2 (us p.1) w) → Step P ops S G o (A us) w (fun u _ => u = v)) ∧ Walk P ops S G Q rest (i + 1) F (fun us => (A us).put o.dst v)) ∨
    (∃ V : Value → World → Prop, (∀ u w w', G w w' → V u w → V u w') ∧ (∀ us w, S w → (∀ p ∈ F, waits o p.1 = true → p.2 (us p.1) w) → Step P ops S G o (A us) w V) ∧
      Walk P ops S G Q rest (i + 1) ((i, V) :: F) (fun us => (A us).put o.dst (us i)))
/-- What is asked of the region, as one Bool: each operation has a temporary of its own, below n, waits only for earlier ones, and looks only at temporaries of those that it waits for or of none; no select. -/
def fits (ops : Array Oper) (n : Nat) : Bool :=
  Region.noSelect ops &&
  (List.range ops.size).all fun i => match ops[i]? with
    | none => true
    | some o => (match o.dst with | none => false | some d => decide (d < n)) &&
      o.after.all (fun e => !Region.binds .any e || decide (e.on < i)) &&
      (List.range ops.size).all fun k => match dstOf ops k with
        | none => true
        | some d => (k == i || o.dst != some d) && (!(o.looksAt ops).contains d || waits o k)
theorem fits_spec {n : Nat} (h : fits ops n = true) {i : Nat} {o : Oper} (hi : ops[i]? = some o) :
    (∃ d, o.dst = some d ∧ d < n) ∧ (∀ e ∈ o.after, Region.binds .any e = true → e.on < i) ∧
    ∀ k d, k < ops.size → dstOf ops k = some d → (k ≠ i → o.dst ≠ some d) ∧ (d ∈ o.looksAt ops → waits o k = true) := by
  unfold fits at h
  rw [Bool.and_eq_true] at h
  have hlt : i < ops.size := (Array.getElem?_eq_some_iff.1 hi).1
  have h2 := List.all_eq_true.1 h.2 i (List.mem_range.2 hlt)
  simp only [hi, Bool.and_eq_true] at h2
  obtain ⟨⟨h3, h4⟩, h5⟩ := h2
  refine ⟨?_, fun e he hb => ?_, fun k d hk hd => ?_⟩
  · cases hd : o.dst with
    | none => simp [hd] at h3
    | some d => simp only [hd] at h3; exact ⟨d, rfl, of_decide_eq_true h3⟩
  · have := Array.all_eq_true_iff_forall_mem.1 h4 e he
    simpa [hb] using this
  · have := List.all_eq_true.1 h5 k (List.mem_range.2 hk)
    simp only [hd, Bool.and_eq_true, Bool.or_eq_true] at this
    refine ⟨fun hne => ?_, fun hl => ?_⟩
    · have h6 := this.1
      simp [hne] at h6
      exact h6
    · have h6 := this.2
      simpa [hl] using h6
/-- The walk told once for all: a spec for each operation. -/
structure Told (P : Program) (ops : Array Oper) (S : World → Prop) (G : World → World → Prop) (Q : Exit → Act → World → Prop) (a : Act) (sp : Nat → Spec) : Prop where
  mono : ∀ j u w w', G w w' → (sp j).fact u w → (sp j).fact u w'
  step : ∀ i o, ops[i]? = some o → ∀ us w, S w → (∀ j, j < i → waits o j = true → (sp j).fact (us j) w) → Step P ops S G o (putsM ops sp us (fun k => decide (k < i)) a ops.size) w (sp i).holds
  fin : ∀ us w, S w → (∀ j, j < ops.size → (sp j).fact (us j) w) → Q .normal (putsM ops sp us (fun _ => true) a ops.size) w
theorem told_of_walk {a : Act} (hd : ∀ i k, i ≠ k → ∀ d, dstOf ops i = some d → dstOf ops k ≠ some d) : ∀ (rest : List Oper) (i : Nat) (F : List (Nat × (Value → World → Prop))) (A : (Nat → Value) → Act) (sp0 : Nat → Spec),
    rest = ops.toList.drop i → i ≤ ops.size → (∀ p ∈ F, p.1 < i ∧ sp0 p.1 = .free p.2) → (∀ us, A us = putsM ops sp0 us (fun k => decide (k < i)) a ops.size) →
    (∀ j, j < i → ∀ u w w', G w w' → (sp0 j).fact u w → (sp0 j).fact u w') →
    Walk P ops S G Q rest i F A →
    ∃ sp : Nat → Spec, (∀ j, j < i → sp j = sp0 j) ∧ (∀ j, j < ops.size → ∀ u w w', G w w' → (sp j).fact u w → (sp j).fact u w') ∧
      (∀ k o, i ≤ k → ops[k]? = some o → ∀ us w, S w → (∀ j, j < k → waits o j = true → (sp j).fact (us j) w) → Step P ops S G o (putsM ops sp us (fun m => decide (m < k)) a ops.size) w (sp k).holds) ∧
      (∀ us w, S w → (∀ j, j < ops.size → (sp j).fact (us j) w) → Q .normal (putsM ops sp us (fun _ => true) a ops.size) w)
  | [], i, F, A, sp0, hr, hi, hF, hA, hm, h => by
    have hsz : i = ops.size := by
      have := congrArg List.length hr
      simp at this
      omega
    subst hsz
    refine ⟨sp0, fun _ _ => rfl, hm, fun k o hk ho => ?_, fun us w hS hf => ?_⟩
    · have := (Array.getElem?_eq_some_iff.1 ho).1
      omega
    · have := h us w hS (fun p hp => by
        have h1 := hF p hp
        have h2 := hf p.1 h1.1
        rw [h1.2] at h2
        exact h2)
      rw [hA us] at this
      have e : putsM ops sp0 us (fun k => decide (k < ops.size)) a ops.size = putsM ops sp0 us (fun _ => true) a ops.size := putsM_congr _ fun k hk => ⟨by simp [hk], fun _ => rfl⟩
      rwa [e] at this
  | o :: rest, i, F, A, sp0, hr, hi, hF, hA, hm, h => by
    have hlt : i < ops.size := by
      have := congrArg List.length hr
      simp at this
      omega
    have ho : ops[i]? = some o := by
      have := congrArg List.head? hr
      simp at this
      rw [this]
    have hrest : rest = ops.toList.drop (i + 1) := by
      have := congrArg List.tail hr
      simpa using this
    -- whichever spec s is told of number i
    have go : ∀ (s : Spec) (F' : List (Nat × (Value → World → Prop))) (A' : (Nat → Value) → Act), (∀ u w w', G w w' → s.fact u w → s.fact u w') →
        (∀ us w, S w → (∀ p ∈ F, waits o p.1 = true → p.2 (us p.1) w) → Step P ops S G o (A us) w s.holds) → (∀ us, A' us = (A us).put o.dst (s.val (us i))) →
        (∀ p ∈ F', p ∈ F ∨ (p.1 = i ∧ s = .free p.2)) → Walk P ops S G Q rest (i + 1) F' A' →
        ∃ sp : Nat → Spec, (∀ j, j < i → sp j = sp0 j) ∧ (∀ j, j < ops.size → ∀ u w w', G w w' → (sp j).fact u w → (sp j).fact u w') ∧
          (∀ k o, i ≤ k → ops[k]? = some o → ∀ us w, S w → (∀ j, j < k → waits o j = true → (sp j).fact (us j) w) → Step P ops S G o (putsM ops sp us (fun m => decide (m < k)) a ops.size) w (sp k).holds) ∧
          (∀ us w, S w → (∀ j, j < ops.size → (sp j).fact (us j) w) → Q .normal (putsM ops sp us (fun _ => true) a ops.size) w) := by
      intro s F' A' hms hst hA' hF' hw
      have e1 : ∀ (us : Nat → Value) k, k < i → (if k = i then s else sp0 k) = sp0 k := fun us k hk => by rw [if_neg (by omega)]
      obtain ⟨sp, q1, q2, q3, q4⟩ := told_of_walk hd rest (i + 1) F' A' (fun j => if j = i then s else sp0 j) hrest hlt
        (fun p hp => by
          rcases hF' p hp with h1 | ⟨h1, h2⟩
          · have := hF p h1
            refine ⟨by omega, ?_⟩
            have hne : p.1 ≠ i := by omega
            simp only [hne, if_false]
            exact this.2
          · refine ⟨by omega, ?_⟩
            simp only [h1, if_true]
            exact h2)
        (fun us => by
          rw [hA' us, hA us]
          have e2 : putsM ops sp0 us (fun k => decide (k < i)) a ops.size = putsM ops (fun j => if j = i then s else sp0 j) us (fun k => decide (k < i)) a ops.size :=
            putsM_congr _ fun k hk => ⟨rfl, fun hki => by rw [e1 us k (of_decide_eq_true hki)]⟩
          have e3 : dstOf ops i = o.dst := by simp [dstOf, ho]
          have e5 := putsM_put (ops := ops) (sp := fun j => if j = i then s else sp0 j) (us := us) (us' := us) (f := fun k => decide (k < i)) (f' := fun k => decide (k < i + 1)) (a := a) (j := i) hd (by simp) (fun k => by
            rcases Nat.lt_trichotomy k i with h1 | h1 | h1
            · simp [h1, Nat.lt_succ_of_lt h1]
            · simp [h1]
            · simp [show ¬ k < i by omega, show ¬ k < i + 1 by omega, show ¬ k = i by omega]) (fun _ _ => rfl) ops.size hlt
          rw [e3] at e5
          simp only [if_true] at e5
          rw [e2]
          exact e5.symm)
        (fun j hj u w w' hg hf => by
          by_cases h1 : j = i
          · subst h1
            simp only [if_true] at hf ⊢
            exact hms u w w' hg hf
          · simp only [h1, if_false] at hf ⊢
            exact hm j (by omega) u w w' hg hf)
        hw
      refine ⟨sp, fun j hj => by rw [q1 j (by omega), if_neg (by omega)], q2, fun k o' hk ho' us w hS hf => ?_, q4⟩
      rcases Nat.lt_or_ge i k with hik | hik
      · exact q3 k o' hik ho' us w hS hf
      · obtain rfl : k = i := by omega
        obtain rfl : o' = o := by rw [ho] at ho'; exact (Option.some.inj ho').symm
        have h1 := hst us w hS (fun p hp hw => by
          have h2 := hF p hp
          have h3 := hf p.1 h2.1 hw
          rw [q1 p.1 (by omega), if_neg (by omega), h2.2] at h3
          exact h3)
        rw [hA us] at h1
        have e2 : putsM ops sp0 us (fun m => decide (m < k)) a ops.size = putsM ops sp us (fun m => decide (m < k)) a ops.size :=
          putsM_congr _ fun m hm => ⟨rfl, fun hki => by
            have := of_decide_eq_true hki
            rw [q1 m (by omega), if_neg (by omega)]⟩
        rw [e2] at h1
        have e4 : sp k = s := by rw [q1 k (by omega), if_pos rfl]
        rw [e4]
        exact h1
    rcases h with ⟨v, h1, h2⟩ | ⟨V, hV, h1, h2⟩
    · exact go (.fix v) F _ (fun _ _ _ _ _ => trivial) h1 (fun _ => rfl) (fun p hp => .inl hp) h2
    · exact go (.free V) ((i, V) :: F) _ hV h1 (fun _ => rfl) (fun p hp => by
        rcases List.mem_cons.1 hp with rfl | hp
        · exact .inr ⟨rfl, rfl⟩
        · exact .inl hp) h2
theorem told {a : Act} (hd : ∀ i k, i ≠ k → ∀ d, dstOf ops i = some d → dstOf ops k ≠ some d) (h : Walk P ops S G Q ops.toList 0 [] (fun _ => a)) : ∃ sp : Nat → Spec,
    (∀ j, j < ops.size → ∀ u w w', G w w' → (sp j).fact u w → (sp j).fact u w') ∧
      (∀ k o, ops[k]? = some o → ∀ us w, S w → (∀ j, j < k → waits o j = true → (sp j).fact (us j) w) → Step P ops S G o (putsM ops sp us (fun m => decide (m < k)) a ops.size) w (sp k).holds) ∧
      (∀ us w, S w → (∀ j, j < ops.size → (sp j).fact (us j) w) → Q .normal (putsM ops sp us (fun _ => true) a ops.size) w) := by
  have none : ∀ us n, putsM ops (fun _ => .fix undef) us (fun k => decide (k < 0)) a n = a := fun us n => by
    induction n with
    | zero => rfl
    | succ n ih => unfold putsM; simpa using ih
  obtain ⟨sp, _, q2, q3, q4⟩ := told_of_walk hd ops.toList 0 [] (fun _ => a) (fun _ => .fix undef) (by simp) (by omega) (by simp) (fun us => (none us _).symm) (by omega) h
  exact ⟨sp, q2, fun k o => q3 k o (by omega), q4⟩
/-- How many are not listed yet. -/
def unlisted (listed : Array Bool) (n : Nat) : Nat := ((List.range n).filter fun k => !listed.getD k true).length
theorem unlisted_set {listed : Array Bool} {j : Nat} (hj : listed.getD j true = false) : ∀ n, unlisted (listed.setIfInBounds j true) n ≤ unlisted listed n ∧ (j < n → unlisted (listed.setIfInBounds j true) n < unlisted listed n)
  | 0 => ⟨Nat.le_refl _, by omega⟩
  | n + 1 => by
    obtain ⟨h1, h2⟩ := unlisted_set hj n
    have hlt : j < listed.size := by
      rcases Nat.lt_or_ge j listed.size with h | h
      · exact h
      · simp [h] at hj
    have same : n ≠ j → (listed.setIfInBounds j true).getD n true = listed.getD n true := fun h => by
      simp only [Array.getD_eq_getD_getElem?, Array.getElem?_setIfInBounds_ne (Ne.symm h)]
    unfold unlisted at *
    rw [List.range_succ, List.filter_append, List.filter_append, List.length_append, List.length_append]
    by_cases h : n = j
    · subst h
      have h3 : (listed.setIfInBounds n true).getD n true = true := by simp [Array.getD_eq_getD_getElem?, hlt]
      simp only [List.filter_cons, List.filter_nil, h3, hj, Bool.not_true, Bool.not_false, Bool.false_eq_true, if_false, if_true, List.length_nil, List.length_cons]
      omega
    · simp only [List.filter_cons, List.filter_nil, same h]
      constructor
      · omega
      · intro h4
        have := h2 (by omega)
        omega
theorem wpAny_told {a : Act} {n : Nat} (hfit : fits ops n = true) (hn : a.tmps.size = n) {sp : Nat → Spec} (hm : ∀ j, j < ops.size → ∀ u w w', G w w' → (sp j).fact u w → (sp j).fact u w')
    (hst : ∀ k o, ops[k]? = some o → ∀ us w, S w → (∀ j, j < k → waits o j = true → (sp j).fact (us j) w) → Step P ops S G o (putsM ops sp us (fun m => decide (m < k)) a ops.size) w (sp k).holds)
    (hfin : ∀ us w, S w → (∀ j, j < ops.size → (sp j).fact (us j) w) → Q .normal (putsM ops sp us (fun _ => true) a ops.size) w)
    (hd : ∀ i k, i ≠ k → ∀ d, dstOf ops i = some d → dstOf ops k ≠ some d) :
    ∀ (fuel : Nat) (listed : Array Bool) (us : Nat → Value) (w : World), listed.size = ops.size → unlisted listed ops.size ≤ fuel → S w → (∀ j, j < ops.size → listed.getD j false = true → (sp j).fact (us j) w) →
      wpAny P .any ops Q fuel listed (putsM ops sp us (fun k => listed.getD k false) a ops.size) w := by
  -- nothing may come up: all are listed
  have all : ∀ (listed : Array Bool), listed.size = ops.size → Region.ready .any ops listed = [] → ∀ k, k < ops.size → listed.getD k false = true := by
    intro listed hsz hr k
    induction k using Nat.strongRecOn with
    | ind k ih =>
      intro hk
      obtain ⟨o, ho⟩ : ∃ o, ops[k]? = some o := ⟨ops[k], by simp [hk]⟩
      obtain ⟨_, hb, _⟩ := fits_spec hfit ho
      by_cases hc : listed.getD k false = true
      · exact hc
      · have : k ∈ Region.ready .any ops listed := mem_ready.2 ⟨by
          have h1 : k < listed.size := by omega
          simp [h1] at hc ⊢
          exact hc, o, ho, fun e he hbi => ih e.on (hb e he hbi) (by have := hb e he hbi; omega)⟩
        rw [hr] at this
        cases this
  have done : ∀ (listed : Array Bool) us w, listed.size = ops.size → S w → (∀ j, j < ops.size → listed.getD j false = true → (sp j).fact (us j) w) → Region.ready .any ops listed = [] →
      Q .normal (putsM ops sp us (fun k => listed.getD k false) a ops.size) w := by
    intro listed us w hsz hS hf hr
    have h1 := all listed hsz hr
    have e : putsM ops sp us (fun k => listed.getD k false) a ops.size = putsM ops sp us (fun _ => true) a ops.size := putsM_congr _ fun k hk => ⟨h1 k hk, fun _ => rfl⟩
    rw [e]
    exact hfin us w hS fun j hj => hf j hj (h1 j hj)
  intro fuel
  induction fuel with
  | zero =>
    intro listed us w hsz hu hS hf
    have hr : Region.ready .any ops listed = [] := by
      cases h : Region.ready .any ops listed with
      | nil => rfl
      | cons j js =>
        have hj : j ∈ Region.ready .any ops listed := by rw [h]; simp
        obtain ⟨h0, o, ho, _⟩ := mem_ready.1 hj
        have := (unlisted_set h0 ops.size).2 (Array.getElem?_eq_some_iff.1 ho).1
        omega
    exact ⟨hr, done listed us w hsz hS hf hr⟩
  | succ fuel ih =>
    intro listed us w hsz hu hS hf
    refine ⟨fun hr => done listed us w hsz hS hf hr, fun j hj => ?_⟩
    obtain ⟨h0, o, ho, hall⟩ := mem_ready.1 hj
    have hjn : j < ops.size := (Array.getElem?_eq_some_iff.1 ho).1
    obtain ⟨⟨d, hdst, hdn⟩, hb, hlk⟩ := fits_spec hfit ho
    have h0' : listed.getD j false = false := by
      have h1 : j < listed.size := by omega
      simp [h1] at h0 ⊢
      exact h0
    have wl : ∀ k, waits o k = true → k < j ∧ listed.getD k false = true := fun k hk => by
      unfold waits at hk
      rw [Array.any_eq_true] at hk
      obtain ⟨i, hi, h1⟩ := hk
      simp only [Bool.and_eq_true, beq_iff_eq] at h1
      have hmem : o.after[i] ∈ o.after := Array.getElem_mem hi
      rw [← h1.2]
      exact ⟨hb _ hmem h1.1, hall _ hmem h1.1⟩
    refine (hst j o ho us w hS fun k hk hw => hf k (by omega) (wl k hw).2).wpOp ho hdst (by rw [putsM_size, hn]; exact hdn) (Region.noSelect_spec (by unfold fits at hfit; rw [Bool.and_eq_true] at hfit; exact hfit.1) j o · · ho) ?_ ?_
    · refine putsM_sameFor _ fun k hk hne d' hd' hl => hne ?_
      have := wl k ((hlk k d' hk hd').2 hl)
      rw [this.2]
      simp [this.1]
    · intro u w' hS' hG hV
      have hv : (sp j).val u = u := by
        cases h : sp j with
        | fix v => rw [h] at hV; exact hV.symm
        | free V => rfl
      have hfa : (sp j).fact u w' := by
        cases h : sp j with
        | fix v => trivial
        | free V => rw [h] at hV; exact hV
      have e := putsM_put (ops := ops) (sp := sp) (us := us) (us' := fun k => if k = j then u else us k) (f := fun k => listed.getD k false) (f' := fun k => (listed.setIfInBounds j true).getD k false) (a := a) (j := j) hd h0'
        (fun k => by
          by_cases h : k = j
          · subst h
            have h1 : k < listed.size := by omega
            simp [Array.getD_eq_getD_getElem?, h1]
          · have h2 : ¬ j = k := fun e => h e.symm
            simp [Array.getD_eq_getD_getElem?, Array.getElem?_setIfInBounds_ne h2, h])
        (fun k hk => by simp [hk]) ops.size hjn
      simp only [if_true, hv] at e
      have e3 : dstOf ops j = o.dst := by simp [dstOf, ho]
      rw [e3] at e
      rw [← e]
      refine ih (listed.setIfInBounds j true) _ w' (by simpa using hsz) (by have := (unlisted_set h0 ops.size).2 hjn; omega) hS' fun k hk hl => ?_
      by_cases h : k = j
      · subst h; simp only [if_true]; exact hfa
      · simp only [h, if_false]
        refine hm k hk _ w w' hG (hf k hk ?_)
        have h2 : ¬ j = k := fun e => h e.symm
        simpa [Array.getD_eq_getD_getElem?, Array.getElem?_setIfInBounds_ne h2] using hl
/-- **The beginning.** -/
theorem wp_region_told {l : List Oper} {id n : Nat} {a : Act} {w : World} (S : World → Prop) (G : World → World → Prop) (hm : P.follows .mixedOrders = true) (hfit : fits l.toArray n = true) (hn : a.tmps.size = n) (hS : S w.drew)
    (h : Walk P l.toArray S G Q l 0 [] (fun _ => a)) : (Code.region id l.toArray true).wp P Q a w := by
  have hd : ∀ i k, i ≠ k → ∀ d, dstOf l.toArray i = some d → dstOf l.toArray k ≠ some d := by
    intro i k hik d hi hk
    unfold dstOf at hi
    cases ho : l.toArray[i]? with
    | none => simp [ho] at hi
    | some o =>
      rw [ho] at hi
      have hk' : k < l.toArray.size := by
        rcases Nat.lt_or_ge k l.toArray.size with h | h
        · exact h
        · unfold dstOf at hk; rw [Array.getElem?_eq_none h] at hk; cases hk
      exact ((fits_spec hfit ho).2.2 k d hk' hk).1 (Ne.symm hik) (by simpa using hi)
  obtain ⟨sp, q2, q3, q4⟩ := told (ops := l.toArray) hd h
  refine wp_region_any hm ?_
  have e : ∀ us n', putsM l.toArray sp us (fun k => (Array.replicate l.toArray.size false).getD k false) a n' = a := fun us n' => by
    induction n' with
    | zero => rfl
    | succ n' ih =>
      unfold putsM
      have h1 : (Array.replicate l.toArray.size false).getD n' false = false := by
        rw [Array.getD_eq_getD_getElem?, Array.getElem?_replicate]
        split <;> rfl
      rw [if_neg (by rw [h1]; simp)]
      exact ih
  have h2 := wpAny_told (Q := Q) hfit hn q2 q3 q4 hd l.toArray.size (Array.replicate l.toArray.size false) (fun _ => undef) w.drew (by simp) (by
    unfold unlisted
    refine Nat.le_trans (List.length_filter_le _ _) ?_
    simp) hS (fun j _ hl => by
      exfalso
      rw [Array.getD_eq_getD_getElem?, Array.getElem?_replicate] at hl
      split at hl <;> simp at hl)
  rw [e] at h2
  exact h2
/-! ### The moves -/
variable {l : List Oper} {o : Oper} {rest : List Oper} {i : Nat} {F : List (Nat × (Value → World → Prop))} {A : (Nat → Value) → Act}
/-- An operation that yields one value in every world that meets S and does nothing else. -/
theorem walk_pure (hG : ∀ w, G w w) {v : Value} (hw : ∀ us, Region.wanted o (yielded ops (A us).tmps) = true) (hy : ∀ us w, S w → (∀ p ∈ F, waits o p.1 = true → p.2 (us p.1) w) → (execOp (A us).eval o).run P w = .ok (.value v) w)
    (h : Walk P ops S G Q rest (i + 1) F (fun us => (A us).put o.dst v)) : Walk P ops S G Q (o :: rest) i F A :=
  .inl ⟨v, fun us w hS hF K hK => by
    rw [if_pos (hw us)]
    unfold Oper.wp
    rw [hy us w hS hF]
    exact hK _ _ hS (hG w) rfl, h⟩
/-- An operation that its guard does not let run. -/
theorem walk_skip (hG : ∀ w, G w w) (hw : ∀ us, Region.wanted o (yielded ops (A us).tmps) = false) (h : Walk P ops S G Q rest (i + 1) F (fun us => (A us).put o.dst undef)) : Walk P ops S G Q (o :: rest) i F A :=
  .inl ⟨undef, fun us w hS hF K hK => by
    rw [if_neg (by rw [hw us]; simp)]
    exact hK _ _ hS (hG w) rfl, h⟩
/-- An operation whose value is one, by whatever way ('Oper.wp' is to be walked). -/
theorem walk_fix {v : Value} (hs : ∀ us w, S w → (∀ p ∈ F, waits o p.1 = true → p.2 (us p.1) w) → ∀ K : Act → World → Prop, (∀ w', S w' → G w w' → K ((A us).put o.dst v) w') →
      if Region.wanted o (yielded ops (A us).tmps) = true then Oper.wp P o (A us) w K (fun _ _ _ => False) else K ((A us).put o.dst undef) w)
    (h : Walk P ops S G Q rest (i + 1) F (fun us => (A us).put o.dst v)) : Walk P ops S G Q (o :: rest) i F A :=
  .inl ⟨v, fun us w hS hF K hK => hs us w hS hF K fun w' h1 h2 => hK v w' h1 h2 rfl, h⟩
/-- An operation of whose value V is told. -/
theorem walk_free (V : Value → World → Prop) (hV : ∀ u w w', G w w' → V u w → V u w') (hs : ∀ us w, S w → (∀ p ∈ F, waits o p.1 = true → p.2 (us p.1) w) → ∀ K : Act → World → Prop, (∀ u w', S w' → G w w' → V u w' → K ((A us).put o.dst u) w') →
      if Region.wanted o (yielded ops (A us).tmps) = true then Oper.wp P o (A us) w K (fun _ _ _ => False) else K ((A us).put o.dst undef) w)
    (h : Walk P ops S G Q rest (i + 1) ((i, V) :: F) (fun us => (A us).put o.dst (us i))) : Walk P ops S G Q (o :: rest) i F A :=
  .inr ⟨V, hV, hs, h⟩
theorem walk_done (h : ∀ us w, S w → (∀ p ∈ F, p.2 (us p.1) w) → Q .normal (A us) w) : Walk P ops S G Q [] i F A := h
end
end Go.Proofs.YtigbmlgllgcbhaaDoor
