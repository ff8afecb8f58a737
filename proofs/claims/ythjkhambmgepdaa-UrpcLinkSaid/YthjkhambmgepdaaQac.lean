/- Texts Tail, without what this claim does not use. -/
import Derived.Test.YthjkhambmgepdaaQab
namespace Go.Proofs.Ythjkhambmgepdaa
section
set_option linter.unusedVariables false
section
variable {P : Program} {ops : Array Oper} {S : World → Prop} {G : World → World → Prop} {R : Act → World → Prop} {Q : Exit → Act → World → Prop} {m : Nat}
def WalkR (P : Program) (ops : Array Oper) (S : World → Prop) (G : World → World → Prop) (R : Act → World → Prop) : List Oper → Nat → List (Nat × (Value → World → Prop)) → ((Nat → Value) → Act) → Prop
  | [], _, F, A => ∀ us w, S w → (∀ p ∈ F, p.2 (us p.1) w) → R (A us) w
  | o :: rest, i, F, A =>
    (∃ v, (∀ us w, S w → (∀ p ∈ F, waits o p.1 = true → p.2 (us p.1) w) → Step P ops S G o (A us) w (fun u _ => u = v)) ∧ WalkR P ops S G R rest (i + 1) F (fun us => (A us).put o.dst v)) ∨
    (∃ V : Value → World → Prop, (∀ u w w', G w w' → V u w → V u w') ∧ (∀ us w, S w → (∀ p ∈ F, waits o p.1 = true → p.2 (us p.1) w) → Step P ops S G o (A us) w V) ∧
      WalkR P ops S G R rest (i + 1) ((i, V) :: F) (fun us => (A us).put o.dst (us i)))
def reachB (ops : Array Oper) : Nat → Nat → Nat → Bool
  | 0, _, _ => false
  | f + 1, i, k => match ops[i]? with
    | none => false
    | some o => waits o k || (List.range i).any fun mid => waits o mid && reachB ops f mid k
def fitsR (ops : Array Oper) (n m : Nat) : Bool :=
  Region.noSelect ops && decide (m ≤ ops.size) &&
  (List.range ops.size).all fun i => match ops[i]? with
    | none => true
    | some o => o.after.all (fun e => !Region.binds .any e || decide (e.on < i)) &&
      (decide (m ≤ i) || (match o.dst with | none => false | some d => decide (d < n))) &&
      (decide (i < m) || (List.range i).all fun k => reachB ops 6 i k) &&
      (List.range ops.size).all fun k => match dstOf ops k with
        | none => true
        | some d => (k == i || o.dst != some d) && (decide (m ≤ i) || !(o.looksAt ops).contains d || waits o k)
structure FitsR (ops : Array Oper) (n m i : Nat) (o : Oper) : Prop where
  on : ∀ e ∈ o.after, Region.binds .any e = true → e.on < i
  dst : i < m → ∃ d, o.dst = some d ∧ d < n
  tail : m ≤ i → ∀ k, k < i → reachB ops 6 i k = true
  apart : ∀ k d, k < ops.size → dstOf ops k = some d → k ≠ i → o.dst ≠ some d
  looks : i < m → ∀ k d, k < ops.size → dstOf ops k = some d → d ∈ o.looksAt ops → waits o k = true
theorem fitsR_spec {n : Nat} (h : fitsR ops n m = true) {i : Nat} {o : Oper} (hi : ops[i]? = some o) : FitsR ops n m i o := by
  unfold fitsR at h
  rw [Bool.and_eq_true] at h
  have hlt : i < ops.size := (Array.getElem?_eq_some_iff.1 hi).1
  have h2 := List.all_eq_true.1 h.2 i (List.mem_range.2 hlt)
  simp only [hi, Bool.and_eq_true] at h2
  obtain ⟨⟨⟨h4, h3⟩, h6⟩, h5⟩ := h2
  refine ⟨fun e he hb => ?_, fun him => ?_, fun hmi k hk => ?_, fun k d hk hd hne => ?_, fun him k d hk hd hl => ?_⟩
  · have := Array.all_eq_true_iff_forall_mem.1 h4 e he
    simpa [hb] using this
  · have hn : decide (m ≤ i) = false := decide_eq_false (by omega)
    rw [hn, Bool.false_or] at h3
    cases hd : o.dst with
    | none => simp [hd] at h3
    | some d => simp only [hd] at h3; exact ⟨d, rfl, of_decide_eq_true h3⟩
  · have hn : decide (i < m) = false := decide_eq_false (by omega)
    rw [hn, Bool.false_or] at h6
    exact List.all_eq_true.1 h6 k (List.mem_range.2 hk)
  · have := List.all_eq_true.1 h5 k (List.mem_range.2 hk)
    simp only [hd, Bool.and_eq_true, Bool.or_eq_true] at this
    have h7 := this.1
    simp [hne] at h7
    exact h7
  · have := List.all_eq_true.1 h5 k (List.mem_range.2 hk)
    simp only [hd, Bool.and_eq_true, Bool.or_eq_true] at this
    have h7 := this.2
    have hn : ¬ m ≤ i := by omega
    simpa [hl, hn] using h7
theorem told_of_walkR {a : Act} (hmn : m ≤ ops.size) (hd : ∀ i k, i ≠ k → ∀ d, dstOf ops i = some d → dstOf ops k ≠ some d) : ∀ (rest : List Oper) (i : Nat) (F : List (Nat × (Value → World → Prop))) (A : (Nat → Value) → Act) (sp0 : Nat → Spec),
    rest = (ops.toList.take m).drop i → i ≤ m → (∀ p ∈ F, p.1 < i ∧ sp0 p.1 = .free p.2) → (∀ us, A us = putsM ops sp0 us (fun k => decide (k < i)) a m) →
    (∀ j, j < i → ∀ u w w', G w w' → (sp0 j).fact u w → (sp0 j).fact u w') →
    WalkR P ops S G R rest i F A →
    ∃ sp : Nat → Spec, (∀ j, j < i → sp j = sp0 j) ∧ (∀ j, j < m → ∀ u w w', G w w' → (sp j).fact u w → (sp j).fact u w') ∧
      (∀ k o, i ≤ k → k < m → ops[k]? = some o → ∀ us w, S w → (∀ j, j < k → waits o j = true → (sp j).fact (us j) w) → Step P ops S G o (putsM ops sp us (fun m => decide (m < k)) a m) w (sp k).holds) ∧
      (∀ us w, S w → (∀ j, j < m → (sp j).fact (us j) w) → R (putsM ops sp us (fun _ => true) a m) w)
  | [], i, F, A, sp0, hr, hi, hF, hA, hm, h => by
    have hsz : i = m := by
      have := congrArg List.length hr
      simp at this
      omega
    subst hsz
    refine ⟨sp0, fun _ _ => rfl, hm, fun k o hk hkm ho => ?_, fun us w hS hf => ?_⟩
    · omega
    · have := h us w hS (fun p hp => by
        have h1 := hF p hp
        have h2 := hf p.1 h1.1
        rw [h1.2] at h2
        exact h2)
      rw [hA us] at this
      have e : putsM ops sp0 us (fun k => decide (k < i)) a i = putsM ops sp0 us (fun _ => true) a i := putsM_congr _ fun k hk => ⟨by simp [hk], fun _ => rfl⟩
      rwa [e] at this
  | o :: rest, i, F, A, sp0, hr, hi, hF, hA, hm, h => by
    have hlt : i < m := by
      have := congrArg List.length hr
      simp at this
      omega
    have ho : ops[i]? = some o := by
      have := congrArg List.head? hr
      rw [List.head?_drop, List.getElem?_take, if_pos hlt] at this
      simpa using this.symm
    have hrest : rest = (ops.toList.take m).drop (i + 1) := by
      have := congrArg List.tail hr
      rw [List.tail_cons, List.tail_drop] at this
      exact this
    -- whichever spec s is told of number i
    have go : ∀ (s : Spec) (F' : List (Nat × (Value → World → Prop))) (A' : (Nat → Value) → Act), (∀ u w w', G w w' → s.fact u w → s.fact u w') →
        (∀ us w, S w → (∀ p ∈ F, waits o p.1 = true → p.2 (us p.1) w) → Step P ops S G o (A us) w s.holds) → (∀ us, A' us = (A us).put o.dst (s.val (us i))) →
        (∀ p ∈ F', p ∈ F ∨ (p.1 = i ∧ s = .free p.2)) → WalkR P ops S G R rest (i + 1) F' A' →
        ∃ sp : Nat → Spec, (∀ j, j < i → sp j = sp0 j) ∧ (∀ j, j < m → ∀ u w w', G w w' → (sp j).fact u w → (sp j).fact u w') ∧
          (∀ k o, i ≤ k → k < m → ops[k]? = some o → ∀ us w, S w → (∀ j, j < k → waits o j = true → (sp j).fact (us j) w) → Step P ops S G o (putsM ops sp us (fun m => decide (m < k)) a m) w (sp k).holds) ∧
          (∀ us w, S w → (∀ j, j < m → (sp j).fact (us j) w) → R (putsM ops sp us (fun _ => true) a m) w) := by
      intro s F' A' hms hst hA' hF' hw
      have e1 : ∀ (us : Nat → Value) k, k < i → (if k = i then s else sp0 k) = sp0 k := fun us k hk => by rw [if_neg (by omega)]
      obtain ⟨sp, q1, q2, q3, q4⟩ := told_of_walkR hmn hd rest (i + 1) F' A' (fun j => if j = i then s else sp0 j) hrest hlt
        (fun p hp => by
          rcases hF' p hp with h1 | ⟨h1, h2⟩
          · have := hF p h1
            refine ⟨by omega, ?_⟩
            have hne : p.1 ≠ i := by omega
            simp only [hne, if_false]
            exact this.2
          · refine ⟨by omega, ?_⟩
            simp only [h1, if_true]
            exact h2)
        (fun us => by
          rw [hA' us, hA us]
          have e2 : putsM ops sp0 us (fun k => decide (k < i)) a m = putsM ops (fun j => if j = i then s else sp0 j) us (fun k => decide (k < i)) a m :=
            putsM_congr _ fun k hk => ⟨rfl, fun hki => by rw [e1 us k (of_decide_eq_true hki)]⟩
          have e3 : dstOf ops i = o.dst := by simp [dstOf, ho]
          have e5 := putsM_put (ops := ops) (sp := fun j => if j = i then s else sp0 j) (us := us) (us' := us) (f := fun k => decide (k < i)) (f' := fun k => decide (k < i + 1)) (a := a) (j := i) hd (by simp) (fun k => by
            rcases Nat.lt_trichotomy k i with h1 | h1 | h1
            · simp [h1, Nat.lt_succ_of_lt h1]
            · simp [h1]
            · simp [show ¬ k < i by omega, show ¬ k < i + 1 by omega, show ¬ k = i by omega]) (fun _ _ => rfl) m hlt
          rw [e3] at e5
          simp only [if_true] at e5
          rw [e2]
          exact e5.symm)
        (fun j hj u w w' hg hf => by
          by_cases h1 : j = i
          · subst h1
            simp only [if_true] at hf ⊢
            exact hms u w w' hg hf
          · simp only [h1, if_false] at hf ⊢
            exact hm j (by omega) u w w' hg hf)
        hw
      refine ⟨sp, fun j hj => by rw [q1 j (by omega), if_neg (by omega)], q2, fun k o' hk hkm ho' us w hS hf => ?_, q4⟩
      rcases Nat.lt_or_ge i k with hik | hik
      · exact q3 k o' hik hkm ho' us w hS hf
      · obtain rfl : k = i := by omega
        obtain rfl : o' = o := by rw [ho] at ho'; exact (Option.some.inj ho').symm
        have h1 := hst us w hS (fun p hp hw => by
          have h2 := hF p hp
          have h3 := hf p.1 h2.1 hw
          rw [q1 p.1 (by omega), if_neg (by omega), h2.2] at h3
          exact h3)
        rw [hA us] at h1
        have e2 : putsM ops sp0 us (fun m => decide (m < k)) a m = putsM ops sp us (fun m => decide (m < k)) a m :=
          putsM_congr _ fun m hm => ⟨rfl, fun hki => by
            have := of_decide_eq_true hki
            rw [q1 m (by omega), if_neg (by omega)]⟩
        rw [e2] at h1
        have e4 : sp k = s := by rw [q1 k (by omega), if_pos rfl]
        rw [e4]
        exact h1
    rcases h with ⟨v, h1, h2⟩ | ⟨V, hV, h1, h2⟩
    · exact go (.fix v) F _ (fun _ _ _ _ _ => trivial) h1 (fun _ => rfl) (fun p hp => .inl hp) h2
    · exact go (.free V) ((i, V) :: F) _ hV h1 (fun _ => rfl) (fun p hp => by
        rcases List.mem_cons.1 hp with rfl | hp
        · exact .inr ⟨rfl, rfl⟩
        · exact .inl hp) h2
theorem toldR {a : Act} (hmn : m ≤ ops.size) (hd : ∀ i k, i ≠ k → ∀ d, dstOf ops i = some d → dstOf ops k ≠ some d) (h : WalkR P ops S G R (ops.toList.take m) 0 [] (fun _ => a)) : ∃ sp : Nat → Spec,
    (∀ j, j < m → ∀ u w w', G w w' → (sp j).fact u w → (sp j).fact u w') ∧
      (∀ k o, k < m → ops[k]? = some o → ∀ us w, S w → (∀ j, j < k → waits o j = true → (sp j).fact (us j) w) → Step P ops S G o (putsM ops sp us (fun i => decide (i < k)) a m) w (sp k).holds) ∧
      (∀ us w, S w → (∀ j, j < m → (sp j).fact (us j) w) → R (putsM ops sp us (fun _ => true) a m) w) := by
  have none : ∀ us n, putsM ops (fun _ => .fix undef) us (fun k => decide (k < 0)) a n = a := fun us n => by
    induction n with
    | zero => rfl
    | succ n ih => unfold putsM; simpa using ih
  obtain ⟨sp, _, q2, q3, q4⟩ := told_of_walkR hmn hd (ops.toList.take m) 0 [] (fun _ => a) (fun _ => .fix undef) (by simp) (by omega) (by simp) (fun us => (none us _).symm) (by omega) h
  exact ⟨sp, q2, fun k o hk => q3 k o (by omega) hk, q4⟩
theorem all_listed {n : Nat} (hfit : fitsR ops n m = true) (listed : Array Bool) (hsz : listed.size = ops.size) (hr : Region.ready .any ops listed = []) : ∀ k, k < ops.size → listed.getD k false = true := by
  intro k
  induction k using Nat.strongRecOn with
  | ind k ih =>
    intro hk
    obtain ⟨o, ho⟩ : ∃ o, ops[k]? = some o := ⟨ops[k], by simp [hk]⟩
    have hb := (fitsR_spec hfit ho).on
    by_cases hc : listed.getD k false = true
    · exact hc
    · have : k ∈ Region.ready .any ops listed := mem_ready.2 ⟨by
        have h1 : k < listed.size := by omega
        simp [h1] at hc ⊢
        exact hc, o, ho, fun e he hbi => ih e.on (hb e he hbi) (by have := hb e he hbi; omega)⟩
      rw [hr] at this
      cases this
theorem waits_listed {o : Oper} {listed : Array Bool} (hall : ∀ e ∈ o.after, Region.binds .any e = true → listed.getD e.on false = true) {k : Nat} (hk : waits o k = true) : listed.getD k false = true := by
  unfold waits at hk
  rw [Array.any_eq_true] at hk
  obtain ⟨i, hi, h1⟩ := hk
  simp only [Bool.and_eq_true, beq_iff_eq] at h1
  rw [← h1.2]
  exact hall _ (Array.getElem_mem hi) h1.1
def Closed (ops : Array Oper) (listed : Array Bool) : Prop := ∀ i o, ops[i]? = some o → listed.getD i false = true → ∀ k, waits o k = true → listed.getD k false = true
theorem reach_listed {listed : Array Bool} (hc : Closed ops listed) : ∀ (f i k : Nat), listed.getD i false = true → reachB ops f i k = true → listed.getD k false = true
  | 0, _, _, _, h => by cases h
  | f + 1, i, k, hi, h => by
    unfold reachB at h
    cases ho : ops[i]? with
    | none => simp [ho] at h
    | some o =>
      simp only [ho, Bool.or_eq_true, List.any_eq_true, Bool.and_eq_true] at h
      rcases h with h | ⟨mid, _, h1, h2⟩
      · exact hc i o ho hi k h
      · exact reach_listed hc f mid k (hc i o ho hi mid h1) h2
theorem reach_ready {listed : Array Bool} (hc : Closed ops listed) {i : Nat} {o : Oper} (ho : ops[i]? = some o) (hall : ∀ e ∈ o.after, Region.binds .any e = true → listed.getD e.on false = true) : ∀ (f k : Nat), reachB ops f i k = true → listed.getD k false = true
  | 0, _, h => by cases h
  | f + 1, k, h => by
    unfold reachB at h
    simp only [ho, Bool.or_eq_true, List.any_eq_true, Bool.and_eq_true] at h
    rcases h with h | ⟨mid, _, h1, h2⟩
    · exact waits_listed hall h
    · exact reach_listed hc f mid k (waits_listed hall h1) h2
theorem wpAny_tail {n : Nat} (hfit : fitsR ops n m = true) : ∀ (d j fuel : Nat) (listed : Array Bool) (a : Act) (w : World), j + d = ops.size → m ≤ j → listed.size = ops.size → (∀ k, k < ops.size → listed.getD k false = decide (k < j)) → unlisted listed ops.size ≤ fuel →
    wpOps P ops Q (List.range' j d) a w → wpAny P .any ops Q fuel listed a w
  | 0, j, fuel, listed, a, w, hjd, hmj, hsz, hl, hu, h => by
    have hr : Region.ready .any ops listed = [] := by
      cases hc : Region.ready .any ops listed with
      | nil => rfl
      | cons i is =>
        have hi : i ∈ Region.ready .any ops listed := by rw [hc]; simp
        obtain ⟨h0, o, ho, _⟩ := mem_ready.1 hi
        have hin := (Array.getElem?_eq_some_iff.1 ho).1
        have h1 := hl i hin
        have h2 : i < listed.size := by omega
        simp [h2] at h0 h1
        rw [h0] at h1
        simp at h1
        omega
    have h' : Q .normal a w := by simpa [wpOps] using h
    cases fuel with
    | zero => exact ⟨hr, h'⟩
    | succ f => exact ⟨fun _ => h', by rw [hr]; simp⟩
  | d + 1, j, fuel, listed, a, w, hjd, hmj, hsz, hl, hu, h => by
    have hjn : j < ops.size := by omega
    obtain ⟨oj, hoj⟩ : ∃ o, ops[j]? = some o := ⟨ops[j], by simp [hjn]⟩
    have h0 : listed.getD j true = false := by
      have h1 := hl j hjn
      have h2 : j < listed.size := by omega
      simp [h2] at h1 ⊢
      exact h1
    have hjr : j ∈ Region.ready .any ops listed := mem_ready.2 ⟨h0, oj, hoj, fun e he hb => by
      have h1 := (fitsR_spec hfit hoj).on e he hb
      rw [hl e.on (by omega)]
      exact decide_eq_true h1⟩
    cases fuel with
    | zero => have := (unlisted_set h0 ops.size).2 hjn; omega
    | succ f =>
      refine ⟨fun hr => (by rw [hr] at hjr; cases hjr), fun i hi => ?_⟩
      obtain ⟨g0, o, ho, hall⟩ := mem_ready.1 hi
      have hin := (Array.getElem?_eq_some_iff.1 ho).1
      have hij : i = j := by
        have h1 := hl i hin
        have h2 : i < listed.size := by omega
        have h3 : j ≤ i := by
          simp [h2] at g0 h1
          rw [g0] at h1
          simpa using h1
        rcases Nat.lt_or_ge j i with h4 | h4
        · have hcl : Closed ops listed := fun i' o' ho' hi' k' hk' => by
            have hin' := (Array.getElem?_eq_some_iff.1 ho').1
            rw [hl i' hin'] at hi'
            have hi' := of_decide_eq_true hi'
            have hlt : k' < i' := by
              unfold waits at hk'
              rw [Array.any_eq_true] at hk'
              obtain ⟨q, hq, h1⟩ := hk'
              simp only [Bool.and_eq_true, beq_iff_eq] at h1
              rw [← h1.2]
              exact (fitsR_spec hfit ho').on _ (Array.getElem_mem hq) h1.1
            rw [hl k' (by omega)]
            exact decide_eq_true (by omega)
          have h5 := reach_ready hcl ho hall 6 j ((fitsR_spec hfit ho).tail (by omega) j h4)
          rw [hl j hjn] at h5
          simp at h5
        · omega
      subst hij
      rw [List.range'_succ, wpOps_cons] at h
      refine wpOp_mono (fun a' w' h' => ?_) h
      refine wpAny_tail hfit d (i + 1) f (listed.setIfInBounds i true) a' w' (by omega) (by omega) (by simpa using hsz) (fun k hk => ?_) (by have := (unlisted_set h0 ops.size).2 hjn; omega) h'
      by_cases hki : k = i
      · subst hki
        have h2 : k < listed.size := by omega
        simp [h2]
      · have h3 : ¬ i = k := fun e => hki e.symm
        have h4 := hl k hk
        rw [Array.getD_eq_getD_getElem?] at h4 ⊢
        rw [Array.getElem?_setIfInBounds_ne h3, h4]
        by_cases h5 : k < i
        · simp [h5, Nat.lt_succ_of_lt h5]
        · simp [h5, show ¬ k < i + 1 by omega]
theorem wpAny_toldR {a : Act} {n : Nat} (hfit : fitsR ops n m = true) (hmn : m ≤ ops.size) (hn : a.tmps.size = n) {sp : Nat → Spec} (hm : ∀ j, j < m → ∀ u w w', G w w' → (sp j).fact u w → (sp j).fact u w')
    (hst : ∀ k o, k < m → ops[k]? = some o → ∀ us w, S w → (∀ j, j < k → waits o j = true → (sp j).fact (us j) w) → Step P ops S G o (putsM ops sp us (fun i => decide (i < k)) a m) w (sp k).holds)
    (hfin : ∀ us w, S w → (∀ j, j < m → (sp j).fact (us j) w) → wpOps P ops Q (List.range' m (ops.size - m)) (putsM ops sp us (fun _ => true) a m) w)
    (hd : ∀ i k, i ≠ k → ∀ d, dstOf ops i = some d → dstOf ops k ≠ some d) :
    ∀ (fuel : Nat) (listed : Array Bool) (us : Nat → Value) (w : World), listed.size = ops.size → unlisted listed ops.size ≤ fuel → (∀ k, m ≤ k → k < ops.size → listed.getD k false = false) → Closed ops listed → S w → (∀ j, j < m → listed.getD j false = true → (sp j).fact (us j) w) →
      wpAny P .any ops Q fuel listed (putsM ops sp us (fun k => listed.getD k false) a m) w := by
  -- all of the first m are listed: the tail
  have tail : ∀ (fuel : Nat) (listed : Array Bool) (us : Nat → Value) (w : World), listed.size = ops.size → unlisted listed ops.size ≤ fuel → (∀ k, m ≤ k → k < ops.size → listed.getD k false = false) → S w → (∀ j, j < m → listed.getD j false = true → (sp j).fact (us j) w) →
      (∀ k, k < m → listed.getD k false = true) → wpAny P .any ops Q fuel listed (putsM ops sp us (fun k => listed.getD k false) a m) w := by
    intro fuel listed us w hsz hu hmk hS hf hall
    have e : putsM ops sp us (fun k => listed.getD k false) a m = putsM ops sp us (fun _ => true) a m := putsM_congr _ fun k hk => ⟨hall k hk, fun _ => rfl⟩
    rw [e]
    refine wpAny_tail hfit (ops.size - m) m fuel listed _ w (by omega) (Nat.le_refl _) hsz (fun k hk => ?_) hu (hfin us w hS fun j hj => hf j hj (hall j hj))
    rcases Nat.lt_or_ge k m with h | h
    · rw [hall k h]; simp [h]
    · rw [hmk k h hk]; simp [show ¬ k < m by omega]
  intro fuel
  induction fuel with
  | zero =>
    intro listed us w hsz hu hmk hcl hS hf
    refine tail 0 listed us w hsz hu hmk hS hf fun k hk => ?_
    have hr : Region.ready .any ops listed = [] := by
      cases h : Region.ready .any ops listed with
      | nil => rfl
      | cons j js =>
        have hj : j ∈ Region.ready .any ops listed := by rw [h]; simp
        obtain ⟨h0, o, ho, _⟩ := mem_ready.1 hj
        have := (unlisted_set h0 ops.size).2 (Array.getElem?_eq_some_iff.1 ho).1
        omega
    exact all_listed hfit listed hsz hr k (by omega)
  | succ fuel ih =>
    intro listed us w hsz hu hmk hcl hS hf
    by_cases hall0 : ∀ k, k < m → listed.getD k false = true
    · exact tail _ listed us w hsz hu hmk hS hf hall0
    · refine ⟨fun hr => absurd (fun k hk => all_listed hfit listed hsz hr k (by omega)) hall0, fun j hj => ?_⟩
      obtain ⟨h0, o, ho, hall⟩ := mem_ready.1 hj
      have hjn : j < ops.size := (Array.getElem?_eq_some_iff.1 ho).1
      have hF := fitsR_spec hfit ho
      have hjm : j < m := by
        rcases Nat.lt_or_ge j m with h | h
        · exact h
        · exact absurd (fun k hk => reach_ready hcl ho hall 6 k (hF.tail h k (by omega))) hall0
      obtain ⟨d, hdst, hdn⟩ := hF.dst hjm
      have h0' : listed.getD j false = false := by
        have h1 : j < listed.size := by omega
        simp [h1] at h0 ⊢
        exact h0
      have wl : ∀ k, waits o k = true → k < j ∧ listed.getD k false = true := fun k hk => by
        refine ⟨?_, waits_listed hall hk⟩
        unfold waits at hk
        rw [Array.any_eq_true] at hk
        obtain ⟨i, hi, h1⟩ := hk
        simp only [Bool.and_eq_true, beq_iff_eq] at h1
        rw [← h1.2]
        exact hF.on _ (Array.getElem_mem hi) h1.1
      refine (hst j o hjm ho us w hS fun k hk hw => hf k (by omega) (wl k hw).2).wpOp ho hdst (by rw [putsM_size, hn]; exact hdn) (Region.noSelect_spec (by unfold fitsR at hfit; rw [Bool.and_eq_true, Bool.and_eq_true] at hfit; exact hfit.1.1) j o · · ho) ?_ ?_
      · refine putsM_sameFor _ fun k hk hne d' hd' hl => hne ?_
        have := wl k (hF.looks hjm k d' (by omega) hd' hl)
        rw [this.2]
        simp [this.1]
      · intro u w' hS' hG hV
        have hv : (sp j).val u = u := by
          cases h : sp j with
          | fix v => rw [h] at hV; exact hV.symm
          | free V => rfl
        have hfa : (sp j).fact u w' := by
          cases h : sp j with
          | fix v => trivial
          | free V => rw [h] at hV; exact hV
        have e := putsM_put (ops := ops) (sp := sp) (us := us) (us' := fun k => if k = j then u else us k) (f := fun k => listed.getD k false) (f' := fun k => (listed.setIfInBounds j true).getD k false) (a := a) (j := j) hd h0'
          (fun k => by
            by_cases h : k = j
            · subst h
              have h1 : k < listed.size := by omega
              simp [Array.getD_eq_getD_getElem?, h1]
            · have h2 : ¬ j = k := fun e => h e.symm
              simp [Array.getD_eq_getD_getElem?, Array.getElem?_setIfInBounds_ne h2, h])
          (fun k hk => by simp [hk]) m hjm
        simp only [if_true, hv] at e
        have e3 : dstOf ops j = o.dst := by simp [dstOf, ho]
        rw [e3] at e
        rw [← e]
        refine ih (listed.setIfInBounds j true) _ w' (by simpa using hsz) (by have := (unlisted_set h0 ops.size).2 hjn; omega) (fun k hk hkn => ?_) (fun i' o' ho' hi' k' hk' => ?_) hS' fun k hk hl => ?_
        · have h2 : ¬ j = k := by omega
          have := hmk k hk hkn
          rw [Array.getD_eq_getD_getElem?] at this ⊢
          rw [Array.getElem?_setIfInBounds_ne h2]
          exact this
        · have grow : ∀ q, listed.getD q false = true → (listed.setIfInBounds j true).getD q false = true := fun q hq => by
            by_cases hqj : q = j
            · subst hqj
              rw [h0'] at hq
              cases hq
            · have h2 : ¬ j = q := fun e => hqj e.symm
              simpa [Array.getD_eq_getD_getElem?, Array.getElem?_setIfInBounds_ne h2] using hq
          by_cases hij : i' = j
          · subst hij
            obtain rfl : o' = o := by rw [ho] at ho'; exact (Option.some.inj ho').symm
            exact grow k' (wl k' hk').2
          · refine grow k' (hcl i' o' ho' ?_ k' hk')
            have h2 : ¬ j = i' := fun e => hij e.symm
            simpa [Array.getD_eq_getD_getElem?, Array.getElem?_setIfInBounds_ne h2] using hi'
        · by_cases h : k = j
          · subst h; simp only [if_true]; exact hfa
          · simp only [h, if_false]
            refine hm k hk _ w w' hG (hf k hk ?_)
            have h2 : ¬ j = k := fun e => h e.symm
            simpa [Array.getD_eq_getD_getElem?, Array.getElem?_setIfInBounds_ne h2] using hl
theorem wp_region_tail {l tl : List Oper} {id n : Nat} {a : Act} {w : World} (S : World → Prop) (G : World → World → Prop) (hm : P.follows .mixedOrders = true) (hfit : fitsR (l ++ tl).toArray n l.length = true) (hn : a.tmps.size = n) (hS : S w.drew)
    (h : WalkR P (l ++ tl).toArray S G (fun a w => wpList P (l ++ tl).toArray Q tl a w) l 0 [] (fun _ => a)) : (Code.region id (l ++ tl).toArray true).wp P Q a w := by
  have hd : ∀ i k, i ≠ k → ∀ d, dstOf (l ++ tl).toArray i = some d → dstOf (l ++ tl).toArray k ≠ some d := by
    intro i k hik d hi hk
    unfold dstOf at hi
    cases ho : (l ++ tl).toArray[i]? with
    | none => simp [ho] at hi
    | some o =>
      rw [ho] at hi
      have hk' : k < (l ++ tl).toArray.size := by
        rcases Nat.lt_or_ge k (l ++ tl).toArray.size with h | h
        · exact h
        · unfold dstOf at hk; rw [Array.getElem?_eq_none h] at hk; cases hk
      exact (fitsR_spec hfit ho).apart k d hk' hk (Ne.symm hik) (by simpa using hi)
  have hmn : l.length ≤ (l ++ tl).toArray.size := by simp
  have htake : ((l ++ tl).toArray.toList.take l.length) = l := by simp
  obtain ⟨sp, q2, q3, q4⟩ := toldR (ops := (l ++ tl).toArray) (m := l.length) hmn hd (by rw [htake]; exact h)
  refine wp_region_any hm ?_
  have e : ∀ us n', putsM (l ++ tl).toArray sp us (fun k => (Array.replicate (l ++ tl).toArray.size false).getD k false) a n' = a := fun us n' => by
    induction n' with
    | zero => rfl
    | succ n' ih =>
      unfold putsM
      have h1 : (Array.replicate (l ++ tl).toArray.size false).getD n' false = false := by
        rw [Array.getD_eq_getD_getElem?, Array.getElem?_replicate]
        split <;> rfl
      rw [if_neg (by rw [h1]; simp)]
      exact ih
  have eq := wpOps_eq_wpList (P := P) (ops := (l ++ tl).toArray) (Q := Q) tl l.length (fun j => by simp [List.getElem?_append_right])
  have h2 := wpAny_toldR (Q := Q) hfit hmn hn q2 q3 (fun us w hS hf => by
    have h3 := q4 us w hS hf
    have e4 : (l ++ tl).toArray.size - l.length = tl.length := by simp
    rw [e4, eq]
    exact h3) hd (l ++ tl).toArray.size (Array.replicate (l ++ tl).toArray.size false) (fun _ => undef) w.drew (by simp) (by
    unfold unlisted
    refine Nat.le_trans (List.length_filter_le _ _) ?_
    simp) (fun k _ _ => by
      rw [Array.getD_eq_getD_getElem?, Array.getElem?_replicate]
      split <;> rfl) (fun i' o' _ hi' k' _ => by
      exfalso
      rw [Array.getD_eq_getD_getElem?, Array.getElem?_replicate] at hi'
      split at hi' <;> simp at hi') hS (fun j _ hl => by
      exfalso
      rw [Array.getD_eq_getD_getElem?, Array.getElem?_replicate] at hl
      split at hl <;> simp at hl)
  rw [e] at h2
  exact h2
theorem wp_region_tailN {ops : List Oper} {id n : Nat} {a : Act} {w : World} (m : Nat) (S : World → Prop) (G : World → World → Prop) (hm : P.follows .mixedOrders = true) (hfit : fitsR ops.toArray n m = true) (hml : m ≤ ops.length) (hn : a.tmps.size = n) (hS : S w.drew)
    (h : WalkR P ops.toArray S G (fun a w => wpList P ops.toArray Q (ops.drop m) a w) (ops.take m) 0 [] (fun _ => a)) : (Code.region id ops.toArray true).wp P Q a w := by
  have e : ops.take m ++ ops.drop m = ops := List.take_append_drop m ops
  have h1 := wp_region_tail (P := P) (Q := Q) (l := ops.take m) (tl := ops.drop m) (id := id) (n := n) (a := a) (w := w) S G hm (by rw [e, List.length_take, Nat.min_eq_left hml]; exact hfit) hn hS (by rw [e]; exact h)
  rwa [e] at h1
variable {l : List Oper} {o : Oper} {rest : List Oper} {i : Nat} {F : List (Nat × (Value → World → Prop))} {A : (Nat → Value) → Act}
theorem tail_pure (hG : ∀ w, G w w) {v : Value} (hw : ∀ us, Region.wanted o (yielded ops (A us).tmps) = true) (hy : ∀ us w, S w → (∀ p ∈ F, waits o p.1 = true → p.2 (us p.1) w) → (execOp (A us).eval o).run P w = .ok (.value v) w)
    (h : WalkR P ops S G R rest (i + 1) F (fun us => (A us).put o.dst v)) : WalkR P ops S G R (o :: rest) i F A :=
  .inl ⟨v, fun us w hS hF K hK => by
    rw [if_pos (hw us)]
    unfold Oper.wp
    rw [hy us w hS hF]
    exact hK _ _ hS (hG w) rfl, h⟩
theorem tail_free (V : Value → World → Prop) (hV : ∀ u w w', G w w' → V u w → V u w') (hs : ∀ us w, S w → (∀ p ∈ F, waits o p.1 = true → p.2 (us p.1) w) → ∀ K : Act → World → Prop, (∀ u w', S w' → G w w' → V u w' → K ((A us).put o.dst u) w') →
      if Region.wanted o (yielded ops (A us).tmps) = true then Oper.wp P o (A us) w K (fun _ _ _ => False) else K ((A us).put o.dst undef) w)
    (h : WalkR P ops S G R rest (i + 1) ((i, V) :: F) (fun us => (A us).put o.dst (us i))) : WalkR P ops S G R (o :: rest) i F A :=
  .inr ⟨V, hV, hs, h⟩
theorem tail_done (h : ∀ us w, S w → (∀ p ∈ F, p.2 (us p.1) w) → R (A us) w) : WalkR P ops S G R [] i F A := h
end
end
end Go.Proofs.Ythjkhambmgepdaa
