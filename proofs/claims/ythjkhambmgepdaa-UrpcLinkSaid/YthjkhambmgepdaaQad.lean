/- Texts Late, without what this claim does not use. -/
import Derived.Test.YthjkhambmgepdaaQac
namespace Go.Proofs.Ythjkhambmgepdaa
section
set_option linter.unusedVariables false
section
variable {P : Program} {ops : Array Oper} {st : List Nat} {S : Nat → (Nat → Value) → World → Prop} {G : World → World → Prop} {Q : Exit → Act → World → Prop}
def opOf (ops : Array Oper) (i : Nat) : Oper := (ops[i]?).getD default
def mayAt (ops : Array Oper) (st : List Nat) (c j : Nat) : Bool := (st.take c).all fun s => !waits (opOf ops s) j
def WalkL (P : Program) (ops : Array Oper) (st : List Nat) (S : Nat → (Nat → Value) → World → Prop) (G : World → World → Prop) (Q : Exit → Act → World → Prop) : List Oper → Nat → Nat → List (Nat × (Value → World → Prop)) → ((Nat → Value) → Act) → Prop
  | [], _, c, F, A => ∀ us w, S c us w → (∀ p ∈ F, p.2 (us p.1) w) → Q .normal (A us) w
  | o :: rest, i, c, F, A =>
    (o.dst = none ∧ (∀ us w, S c us w → (∀ p ∈ F, waits o p.1 = true → p.2 (us p.1) w) → Step P ops (S (c + 1) us) G o (A us) w (fun _ _ => True)) ∧ WalkL P ops st S G Q rest (i + 1) (c + 1) F A) ∨
    (i ∈ st ∧ o.dst ≠ none ∧ ∃ V : Value → World → Prop, (∀ u w w', G w w' → V u w → V u w') ∧ (∀ us w, S c us w → (∀ p ∈ F, waits o p.1 = true → p.2 (us p.1) w) → Step P ops (fun _ => True) G o (A us) w (fun u w' => V u w' ∧ S (c + 1) (fun k => if k = i then u else us k) w')) ∧
      WalkL P ops st S G Q rest (i + 1) (c + 1) ((i, V) :: F) (fun us => (A us).put o.dst (us i))) ∨
    (i ∉ st ∧ o.dst ≠ none ∧ ∃ v, (∀ c' us w, mayAt ops st c' i = true → S c' us w → (∀ p ∈ F, waits o p.1 = true → p.2 (us p.1) w) → Step P ops (S c' us) G o (A us) w (fun u _ => u = v)) ∧ WalkL P ops st S G Q rest (i + 1) c F (fun us => (A us).put o.dst v)) ∨
    (i ∉ st ∧ o.dst ≠ none ∧ ∃ V : Value → World → Prop, (∀ u w w', G w w' → V u w → V u w') ∧ (∀ c' us w, mayAt ops st c' i = true → S c' us w → (∀ p ∈ F, waits o p.1 = true → p.2 (us p.1) w) → Step P ops (S c' us) G o (A us) w V) ∧
      WalkL P ops st S G Q rest (i + 1) c ((i, V) :: F) (fun us => (A us).put o.dst (us i)))
def fitsL (ops : Array Oper) (st : List Nat) (n : Nat) : Bool :=
  Region.noSelect ops &&
  st.all (fun s => decide (s < ops.size)) && ((List.range st.length).all fun c => (List.range c).all fun d => decide (st.getD d 0 < st.getD c 0) && (!(d + 1 == c) || waits (opOf ops (st.getD c 0)) (st.getD d 0))) &&
  (List.range ops.size).all fun i => match ops[i]? with
    | none => true
    | some o => (match o.dst with | none => st.contains i | some d => decide (d < n)) &&
      o.after.all (fun e => !Region.binds .any e || decide (e.on < i)) &&
      (List.range ops.size).all fun k => match dstOf ops k with
        | none => true
        | some d => (k == i || o.dst != some d) && (!(o.looksAt ops).contains d || waits o k || waits (opOf ops k) i)
structure FitsL (ops : Array Oper) (st : List Nat) (n i : Nat) (o : Oper) : Prop where
  dst : (o.dst = none ∧ i ∈ st) ∨ ∃ d, o.dst = some d ∧ d < n
  on : ∀ e ∈ o.after, Region.binds .any e = true → e.on < i
  apart : ∀ k d, k < ops.size → dstOf ops k = some d → k ≠ i → o.dst ≠ some d
  looks : ∀ k d, k < ops.size → dstOf ops k = some d → d ∈ o.looksAt ops → waits o k = true ∨ waits (opOf ops k) i = true
theorem fitsL_spec {n : Nat} (h : fitsL ops st n = true) {i : Nat} {o : Oper} (hi : ops[i]? = some o) : FitsL ops st n i o := by
  unfold fitsL at h
  rw [Bool.and_eq_true] at h
  have hlt : i < ops.size := (Array.getElem?_eq_some_iff.1 hi).1
  have h2 := List.all_eq_true.1 h.2 i (List.mem_range.2 hlt)
  simp only [hi, Bool.and_eq_true] at h2
  obtain ⟨⟨h3, h4⟩, h5⟩ := h2
  refine ⟨?_, fun e he hb => ?_, fun k d hk hd hne => ?_, fun k d hk hd hl => ?_⟩
  · cases hd : o.dst with
    | none => simp only [hd] at h3; exact .inl ⟨rfl, by simpa using h3⟩
    | some d => simp only [hd] at h3; exact .inr ⟨d, rfl, of_decide_eq_true h3⟩
  · have := Array.all_eq_true_iff_forall_mem.1 h4 e he
    simpa [hb] using this
  · have := List.all_eq_true.1 h5 k (List.mem_range.2 hk)
    simp only [hd, Bool.and_eq_true, Bool.or_eq_true] at this
    have h7 := this.1
    simp [hne] at h7
    exact h7
  · have := List.all_eq_true.1 h5 k (List.mem_range.2 hk)
    simp only [hd, Bool.and_eq_true, Bool.or_eq_true] at this
    have h7 := this.2
    rcases h7 with (h8 | h8) | h8
    · simp [hl] at h8
    · exact .inl h8
    · exact .inr h8
theorem fitsL_chain {n : Nat} (h : fitsL ops st n = true) {c d : Nat} (hc : c < st.length) (hd : d < c) : st.getD d 0 < st.getD c 0 ∧ (d + 1 = c → waits (opOf ops (st.getD c 0)) (st.getD d 0) = true) := by
  unfold fitsL at h
  rw [Bool.and_eq_true, Bool.and_eq_true, Bool.and_eq_true] at h
  have h1 := List.all_eq_true.1 h.1.2 c (List.mem_range.2 hc)
  have h2 := List.all_eq_true.1 h1 d (List.mem_range.2 hd)
  rw [Bool.and_eq_true] at h2
  exact ⟨of_decide_eq_true h2.1, fun e => by simpa [e] using h2.2⟩
theorem fitsL_lt {n : Nat} (h : fitsL ops st n = true) {c : Nat} (hc : c < st.length) : st.getD c 0 < ops.size := by
  unfold fitsL at h
  rw [Bool.and_eq_true, Bool.and_eq_true, Bool.and_eq_true] at h
  have h1 := List.all_eq_true.1 h.1.1.2 (st.getD c 0) (by simp [List.getD_eq_getElem?_getD, hc])
  exact of_decide_eq_true h1
theorem Step.wpOp0 {S0 : World → Prop} {i : Nat} {o : Oper} {b c : Act} {w : World} {V : Value → World → Prop} (hi : ops[i]? = some o) (h : Step P ops S0 G o b w V) (hd : o.dst = none)
    (hs : ∀ cs x, o.op ≠ .select cs x) (hsame : sameFor ops o c b) {K : Act → World → Prop} (hK : ∀ w', S0 w' → G w w' → K c w') : Go.wpOp P ops Q i K c w := by
  have h1 := h (fun a' w' => a'.defers = b.defers ∧ S0 w' ∧ G w w') (fun u w' a1 a2 a3 => ⟨by rw [hd]; rfl, a1, a2⟩)
  have pn : ∀ (a : Act) u, a.put o.dst u = a := fun a u => by rw [hd]; rfl
  unfold Go.wpOp
  simp only [hi]
  rw [hsame.wanted]
  split
  · rename_i hw
    rw [if_pos hw] at h1
    refine .inl ?_
    unfold Oper.wp at *
    rw [hsame.exec hs]
    generalize (execOp b.eval o).run P w = r at *
    cases r with
    | ok n w' =>
      cases n <;> simp only [Oper.upon, pn] at h1 ⊢
      case value u => exact hK _ h1.2.1 h1.2.2
      case skip => exact hK _ h1.2.1 h1.2.2
      case defer df =>
        have := congrArg List.length h1.1
        simp at this
      case enter f args =>
        refine Calls.mono h1 fun e w'' he => ?_
        cases e with
        | returned u => exact hK _ he.2.1 he.2.2
        | panicked c => exact he.elim
        | outgrown => obtain ⟨_, _, hf⟩ := he; exact hf.elim
      case row row args => exact Rows.mono h1 fun u w'' he => hK _ he.2.1 he.2.2
    | halt x w' => cases x <;> simp only [Oper.upon] at h1
  · rename_i hw
    rw [if_neg hw] at h1
    rw [pn]
    exact hK _ h1.2.1 h1.2.2
structure ToldL (P : Program) (ops : Array Oper) (st : List Nat) (S : Nat → (Nat → Value) → World → Prop) (G : World → World → Prop) (Q : Exit → Act → World → Prop) (a : Act) (sp : Nat → Spec) (lo : Nat) : Prop where
  mono : ∀ j, j < ops.size → ∀ u w w', G w w' → (sp j).fact u w → (sp j).fact u w'
  step : ∀ k o, lo ≤ k → ops[k]? = some o → k ∉ st → ∀ c us w, mayAt ops st c k = true → S c us w → (∀ j, j < k → waits o j = true → (sp j).fact (us j) w) → Step P ops (S c us) G o (putsM ops sp us (fun i => decide (i < k)) a ops.size) w (sp k).holds
  chain : ∀ k o c, lo ≤ k → ops[k]? = some o → o.dst ≠ none → c < st.length → k = st.getD c 0 → ∀ us w, S c us w → (∀ j, j < k → waits o j = true → (sp j).fact (us j) w) →
    Step P ops (fun _ => True) G o (putsM ops sp us (fun i => decide (i < k)) a ops.size) w (fun u w' => (sp k).holds u w' ∧ S (c + 1) (fun j => if j = k then u else us j) w')
  store : ∀ k o c, lo ≤ k → ops[k]? = some o → o.dst = none → c < st.length → k = st.getD c 0 → ∀ us w, S c us w → (∀ j, j < k → waits o j = true → (sp j).fact (us j) w) → Step P ops (S (c + 1) us) G o (putsM ops sp us (fun i => decide (i < k)) a ops.size) w (fun _ _ => True)
  nofact : ∀ k V, dstOf ops k = none → lo ≤ k → k < ops.size → sp k ≠ .free V
  fin : ∀ us w, S st.length us w → (∀ j, j < ops.size → (sp j).fact (us j) w) → Q .normal (putsM ops sp us (fun _ => true) a ops.size) w
structure Ahead (st : List Nat) (c i : Nat) : Prop where
  le : c ≤ st.length
  lt : ∀ d, d < c → st.getD d 0 < i
  ge : ∀ d, c ≤ d → d < st.length → i ≤ st.getD d 0
theorem mem_getD {i : Nat} (h : i ∈ st) : ∃ d, d < st.length ∧ st.getD d 0 = i := by
  obtain ⟨d, hd, e⟩ := List.getElem_of_mem h
  exact ⟨d, hd, by simp [List.getD_eq_getElem?_getD, hd, e]⟩
theorem getD_mem {d : Nat} (h : d < st.length) : st.getD d 0 ∈ st := by simp [List.getD_eq_getElem?_getD, h]
theorem Ahead.here {n c i : Nat} (hfit : fitsL ops st n = true) (h : Ahead st c i) (hi : i ∈ st) : c < st.length ∧ st.getD c 0 = i ∧ Ahead st (c + 1) (i + 1) := by
  obtain ⟨d, hd, e⟩ := mem_getD hi
  have h1 : c ≤ d := by
    rcases Nat.lt_or_ge d c with h2 | h2
    · have := h.lt d h2; omega
    · exact h2
  have h2 : d = c := by
    rcases Nat.lt_or_ge c d with h3 | h3
    · have := (fitsL_chain hfit hd h3).1
      have := h.ge c (Nat.le_refl _) (by omega)
      omega
    · omega
  subst h2
  refine ⟨hd, e, ⟨by omega, fun k hk => ?_, fun k hk hkl => ?_⟩⟩
  · rcases Nat.lt_or_ge k d with h3 | h3
    · have := h.lt k h3; omega
    · obtain rfl : k = d := by omega
      omega
  · have := (fitsL_chain hfit hkl (show d < k by omega)).1
    omega
theorem Ahead.not {c i : Nat} (h : Ahead st c i) (hi : i ∉ st) : Ahead st c (i + 1) :=
  ⟨h.le, fun d hd => by have := h.lt d hd; omega, fun d hd hdl => by
    have h1 := h.ge d hd hdl
    have h2 : st.getD d 0 ≠ i := fun e => hi (e ▸ getD_mem hdl)
    omega⟩
theorem told_of_walkL {a : Act} {n : Nat} (hfit : fitsL ops st n = true) (hd : ∀ i k, i ≠ k → ∀ d, dstOf ops i = some d → dstOf ops k ≠ some d) : ∀ (rest : List Oper) (i c : Nat) (F : List (Nat × (Value → World → Prop))) (A : (Nat → Value) → Act) (sp0 : Nat → Spec),
    rest = ops.toList.drop i → i ≤ ops.size → Ahead st c i → (∀ p ∈ F, p.1 < i ∧ sp0 p.1 = .free p.2) → (∀ us, A us = putsM ops sp0 us (fun k => decide (k < i)) a ops.size) →
    (∀ j, j < i → ∀ u w w', G w w' → (sp0 j).fact u w → (sp0 j).fact u w') →
    WalkL P ops st S G Q rest i c F A → ∃ sp : Nat → Spec, (∀ j, j < i → sp j = sp0 j) ∧ ToldL P ops st S G Q a sp i
  | [], i, c, F, A, sp0, hr, hi, hc, hF, hA, hm, h => by
    have hsz : i = ops.size := by
      have := congrArg List.length hr
      simp at this
      omega
    subst hsz
    have hcl : c = st.length := by
      rcases Nat.lt_or_ge c st.length with h1 | h1
      · have := hc.ge c (Nat.le_refl _) h1
        have := fitsL_lt hfit h1
        omega
      · have := hc.le; omega
    subst hcl
    refine ⟨sp0, fun _ _ => rfl, ⟨hm, fun k o hk ho => ?_, fun k o c hk ho => ?_, fun k o c hk ho => ?_, fun k V hk hlo hlt => ?_, fun us w hS hf => ?_⟩⟩
    · have := (Array.getElem?_eq_some_iff.1 ho).1
      omega
    · have := (Array.getElem?_eq_some_iff.1 ho).1
      omega
    · have := (Array.getElem?_eq_some_iff.1 ho).1
      omega
    · omega
    · have := h us w hS (fun p hp => by
        have h1 := hF p hp
        have h2 := hf p.1 h1.1
        rw [h1.2] at h2
        exact h2)
      rw [hA us] at this
      have e : putsM ops sp0 us (fun k => decide (k < ops.size)) a ops.size = putsM ops sp0 us (fun _ => true) a ops.size := putsM_congr _ fun k hk => ⟨by simp [hk], fun _ => rfl⟩
      rwa [e] at this
  | o :: rest, i, c, F, A, sp0, hr, hi, hc, hF, hA, hm, h => by
    have hlt : i < ops.size := by
      have := congrArg List.length hr
      simp at this
      omega
    have ho : ops[i]? = some o := by
      have := congrArg List.head? hr
      simp at this
      rw [this]
    have hrest : rest = ops.toList.drop (i + 1) := by
      have := congrArg List.tail hr
      simpa using this
    have hFi := fitsL_spec hfit ho
    have go : ∀ (s : Spec) (c1 : Nat) (F' : List (Nat × (Value → World → Prop))) (A' : (Nat → Value) → Act), Ahead st c1 (i + 1) → (∀ u w w', G w w' → s.fact u w → s.fact u w') →
        (i ∉ st → ∀ c' us w, mayAt ops st c' i = true → S c' us w → (∀ p ∈ F, waits o p.1 = true → p.2 (us p.1) w) → Step P ops (S c' us) G o (A us) w s.holds) →
        (o.dst = none → ∀ V, s ≠ .free V) → (o.dst = none → ∀ us w, S c us w → (∀ p ∈ F, waits o p.1 = true → p.2 (us p.1) w) → Step P ops (S (c + 1) us) G o (A us) w (fun _ _ => True)) →
        (i ∈ st → o.dst ≠ none → ∀ us w, S c us w → (∀ p ∈ F, waits o p.1 = true → p.2 (us p.1) w) → Step P ops (fun _ => True) G o (A us) w (fun u w' => s.holds u w' ∧ S (c + 1) (fun k => if k = i then u else us k) w')) →
        (∀ us, A' us = (A us).put o.dst (s.val (us i))) → (∀ p ∈ F', p ∈ F ∨ (p.1 = i ∧ s = .free p.2)) → WalkL P ops st S G Q rest (i + 1) c1 F' A' →
        ∃ sp : Nat → Spec, (∀ j, j < i → sp j = sp0 j) ∧ ToldL P ops st S G Q a sp i := by
      intro s c1 F' A' hc1 hms hst hnf hsto hch hA' hF' hw
      have e1 : ∀ k, k < i → (if k = i then s else sp0 k) = sp0 k := fun k hk => by rw [if_neg (by omega)]
      have hext : ∀ (sp : Nat → Spec), (∀ j, j < i + 1 → sp j = if j = i then s else sp0 j) → ∀ us, A us = putsM ops sp us (fun m => decide (m < i)) a ops.size := fun sp q1 us => by
        rw [hA us]
        exact putsM_congr _ fun m hm => ⟨rfl, fun hki => by
          have := of_decide_eq_true hki
          rw [q1 m (by omega), if_neg (by omega)]⟩
      have hfacts : ∀ (sp : Nat → Spec), (∀ j, j < i + 1 → sp j = if j = i then s else sp0 j) → ∀ (us : Nat → Value) (w : World), (∀ j, j < i → waits o j = true → (sp j).fact (us j) w) → ∀ p ∈ F, waits o p.1 = true → p.2 (us p.1) w := fun sp q1 us w hf p hp hw => by
        have h2 := hF p hp
        have h3 := hf p.1 h2.1 hw
        rw [q1 p.1 (by omega), if_neg (by omega), h2.2] at h3
        exact h3
      obtain ⟨sp, q1, T⟩ := told_of_walkL hfit hd rest (i + 1) c1 F' A' (fun j => if j = i then s else sp0 j) hrest hlt hc1
        (fun p hp => by
          rcases hF' p hp with h1 | ⟨h1, h2⟩
          · have := hF p h1
            refine ⟨by omega, ?_⟩
            have hne : p.1 ≠ i := by omega
            simp only [hne, if_false]
            exact this.2
          · refine ⟨by omega, ?_⟩
            simp only [h1, if_true]
            exact h2)
        (fun us => by
          have e3 : dstOf ops i = o.dst := by simp [dstOf, ho]
          have e5 := putsM_put (ops := ops) (sp := fun j => if j = i then s else sp0 j) (us := us) (us' := us) (f := fun k => decide (k < i)) (f' := fun k => decide (k < i + 1)) (a := a) (j := i) hd (by simp) (fun k => by
            rcases Nat.lt_trichotomy k i with h1 | h1 | h1
            · simp [h1, Nat.lt_succ_of_lt h1]
            · simp [h1]
            · simp [show ¬ k < i by omega, show ¬ k < i + 1 by omega, show ¬ k = i by omega]) (fun _ _ => rfl) ops.size hlt
          rw [e3] at e5
          simp only [if_true] at e5
          rw [hA' us, hext (fun j => if j = i then s else sp0 j) (fun _ _ => rfl) us]
          exact e5.symm)
        (fun j hj u w w' hg hf => by
          by_cases h1 : j = i
          · subst h1
            simp only [if_true] at hf ⊢
            exact hms u w w' hg hf
          · simp only [h1, if_false] at hf ⊢
            exact hm j (by omega) u w w' hg hf)
        hw
      refine ⟨sp, fun j hj => by rw [q1 j (by omega), if_neg (by omega)], ⟨T.mono, fun k o' hk ho' hks c' us w hmay hS hf => ?_, fun k o' c' hk ho' hdn hcl hkc us w hS hf => ?_, fun k o' c' hk ho' hdn hcl hkc us w hS hf => ?_, fun k V hk hlo hlt => ?_, T.fin⟩⟩
      · rcases Nat.lt_or_ge i k with hik | hik
        · exact T.step k o' hik ho' hks c' us w hmay hS hf
        · obtain rfl : k = i := by omega
          obtain rfl : o' = o := by rw [ho] at ho'; exact (Option.some.inj ho').symm
          have h1 := hst hks c' us w hmay hS (hfacts sp q1 us w hf)
          rw [hext sp q1 us] at h1
          have e4 : sp k = s := by rw [q1 k (by omega), if_pos rfl]
          rw [e4]
          exact h1
      · rcases Nat.lt_or_ge i k with hik | hik
        · exact T.chain k o' c' hik ho' hdn hcl hkc us w hS hf
        · obtain rfl : k = i := by omega
          obtain rfl : o' = o := by rw [ho] at ho'; exact (Option.some.inj ho').symm
          have him : k ∈ st := by rw [hkc]; exact getD_mem hcl
          have h0 := hc.here hfit him
          have hcc : c' = c := by
            rcases Nat.lt_trichotomy c' c with h3 | h3 | h3
            · have := (fitsL_chain hfit h0.1 h3).1; omega
            · exact h3
            · have := (fitsL_chain hfit hcl h3).1; omega
          subst hcc
          have h1 := hch him hdn us w hS (hfacts sp q1 us w hf)
          rw [hext sp q1 us] at h1
          have e4 : sp k = s := by rw [q1 k (by omega), if_pos rfl]
          rw [e4]
          exact h1
      · rcases Nat.lt_or_ge i k with hik | hik
        · exact T.store k o' c' hik ho' hdn hcl hkc us w hS hf
        · obtain rfl : k = i := by omega
          obtain rfl : o' = o := by rw [ho] at ho'; exact (Option.some.inj ho').symm
          have him : k ∈ st := by rw [hkc]; exact getD_mem hcl
          have h0 := hc.here hfit him
          have hcc : c' = c := by
            rcases Nat.lt_trichotomy c' c with h3 | h3 | h3
            · have := (fitsL_chain hfit h0.1 h3).1; omega
            · exact h3
            · have := (fitsL_chain hfit hcl h3).1; omega
          subst hcc
          have h1 := hsto hdn us w hS (hfacts sp q1 us w hf)
          rw [hext sp q1 us] at h1
          exact h1
      · rcases Nat.lt_or_ge i k with hik | hik
        · exact T.nofact k V hk hik hlt
        · obtain rfl : k = i := by omega
          rw [q1 k (by omega), if_pos rfl]
          exact hnf (by simpa [dstOf, ho] using hk) V
    rcases h with ⟨hn, h1, h2⟩ | ⟨him, hne, V, hV, h1, h2⟩ | ⟨him, hne, v, h1, h2⟩ | ⟨him, hne, V, hV, h1, h2⟩
    · have him : i ∈ st := by
        rcases hFi.dst with h3 | ⟨d, h3, _⟩
        · exact h3.2
        · rw [hn] at h3; cases h3
      exact go (.fix undef) (c + 1) F _ (hc.here hfit him).2.2 (fun _ _ _ _ _ => trivial) (fun h => absurd him h) (fun _ V e => by cases e) (fun _ => h1) (fun _ h => absurd hn h) (fun us => by rw [hn]; rfl) (fun p hp => .inl hp) h2
    · exact go (.free V) (c + 1) ((i, V) :: F) _ (hc.here hfit him).2.2 hV (fun h => absurd him h) (fun h => absurd h hne) (fun h => absurd h hne) (fun _ _ => h1) (fun _ => rfl) (fun p hp => by
          rcases List.mem_cons.1 hp with rfl | hp
          · exact .inr ⟨rfl, rfl⟩
          · exact .inl hp) h2
    · exact go (.fix v) c F _ (hc.not him) (fun _ _ _ _ _ => trivial) (fun _ => h1) (fun h => absurd h hne) (fun h => absurd h hne) (fun h => absurd h him) (fun _ => rfl) (fun p hp => .inl hp) h2
    · exact go (.free V) c ((i, V) :: F) _ (hc.not him) hV (fun _ => h1) (fun h => absurd h hne) (fun h => absurd h hne) (fun h => absurd h him) (fun _ => rfl) (fun p hp => by
          rcases List.mem_cons.1 hp with rfl | hp
          · exact .inr ⟨rfl, rfl⟩
          · exact .inl hp) h2
theorem all_listedL {n : Nat} (hfit : fitsL ops st n = true) (listed : Array Bool) (hsz : listed.size = ops.size) (hr : Region.ready .any ops listed = []) : ∀ k, k < ops.size → listed.getD k false = true := by
  intro k
  induction k using Nat.strongRecOn with
  | ind k ih =>
    intro hk
    obtain ⟨o, ho⟩ : ∃ o, ops[k]? = some o := ⟨ops[k], by simp [hk]⟩
    have hb := (fitsL_spec hfit ho).on
    by_cases hc : listed.getD k false = true
    · exact hc
    · have : k ∈ Region.ready .any ops listed := mem_ready.2 ⟨by
        have h1 : k < listed.size := by omega
        simp [h1] at hc ⊢
        exact hc, o, ho, fun e he hbi => ih e.on (hb e he hbi) (by have := hb e he hbi; omega)⟩
      rw [hr] at this
      cases this
theorem opOf_eq {i : Nat} {o : Oper} (h : ops[i]? = some o) : opOf ops i = o := by simp [opOf, h]
structure Mid (ops : Array Oper) (st : List Nat) (S : Nat → (Nat → Value) → World → Prop) (sp : Nat → Spec) (listed : Array Bool) (us : Nat → Value) (w : World) (c : Nat) : Prop where
  sz : listed.size = ops.size
  le : c ≤ st.length
  yes : ∀ d, d < c → listed.getD (st.getD d 0) false = true
  no : ∀ d, c ≤ d → d < st.length → listed.getD (st.getD d 0) false = false
  closed : ∀ i, i < ops.size → listed.getD i false = true → ∀ k, waits (opOf ops i) k = true → listed.getD k false = true
  inv : S c us w
  facts : ∀ j, j < ops.size → listed.getD j false = true → (sp j).fact (us j) w
theorem wpAny_late {a : Act} {n : Nat} (hfit : fitsL ops st n = true) (hn : a.tmps.size = n) {sp : Nat → Spec} (T : ToldL P ops st S G Q a sp 0) (hloc : ∀ c us us' w, (∀ k, mayAt ops st c k = false ∨ k ∈ st.take c → us k = us' k) → S c us w → S c us' w)
    (hd : ∀ i k, i ≠ k → ∀ d, dstOf ops i = some d → dstOf ops k ≠ some d) :
    ∀ (fuel : Nat) (listed : Array Bool) (us : Nat → Value) (w : World) (c : Nat), Mid ops st S sp listed us w c → unlisted listed ops.size ≤ fuel →
      wpAny P .any ops Q fuel listed (putsM ops sp us (fun k => listed.getD k false) a ops.size) w := by
  have done : ∀ (listed : Array Bool) us w c, Mid ops st S sp listed us w c → Region.ready .any ops listed = [] → Q .normal (putsM ops sp us (fun k => listed.getD k false) a ops.size) w := by
    intro listed us w c M hr
    have h1 := all_listedL hfit listed M.sz hr
    have e : putsM ops sp us (fun k => listed.getD k false) a ops.size = putsM ops sp us (fun _ => true) a ops.size := putsM_congr _ fun k hk => ⟨h1 k hk, fun _ => rfl⟩
    have hc : c = st.length := by
      rcases Nat.lt_or_ge c st.length with h | h
      · have h2 := M.no c (Nat.le_refl _) h
        rw [h1 _ (fitsL_lt hfit h)] at h2
        cases h2
      · have := M.le; omega
    subst hc
    rw [e]
    exact T.fin us w M.inv fun j hj => M.facts j hj (h1 j hj)
  intro fuel
  induction fuel with
  | zero =>
    intro listed us w c M hu
    have hr : Region.ready .any ops listed = [] := by
      cases h : Region.ready .any ops listed with
      | nil => rfl
      | cons j js =>
        have hj : j ∈ Region.ready .any ops listed := by rw [h]; simp
        obtain ⟨h0, o, ho, _⟩ := mem_ready.1 hj
        have := (unlisted_set h0 ops.size).2 (Array.getElem?_eq_some_iff.1 ho).1
        omega
    exact ⟨hr, done listed us w c M hr⟩
  | succ fuel ih =>
    intro listed us w c M hu
    refine ⟨fun hr => done listed us w c M hr, fun j hj => ?_⟩
    obtain ⟨h0, o, ho, hall⟩ := mem_ready.1 hj
    have hjn : j < ops.size := (Array.getElem?_eq_some_iff.1 ho).1
    have hF := fitsL_spec hfit ho
    have hsz := M.sz
    have h0' : listed.getD j false = false := by
      have h1 : j < listed.size := by omega
      simp [h1] at h0 ⊢
      exact h0
    have wl : ∀ k, waits o k = true → k < j ∧ listed.getD k false = true := fun k hk => by
      refine ⟨?_, waits_listed hall hk⟩
      unfold waits at hk
      rw [Array.any_eq_true] at hk
      obtain ⟨i, hi, h1⟩ := hk
      simp only [Bool.and_eq_true, beq_iff_eq] at h1
      rw [← h1.2]
      exact hF.on _ (Array.getElem_mem hi) h1.1
    have hsame : sameFor ops o (putsM ops sp us (fun k => listed.getD k false) a ops.size) (putsM ops sp us (fun i => decide (i < j)) a ops.size) := putsM_sameFor _ fun k hk hne d' hd' hl => hne (by
      rcases hF.looks k d' hk hd' hl with h9 | h9
      · have := wl k h9
        rw [this.2]
        simp [this.1]
      · have hkj : j < k := by
          obtain ⟨ok, hok⟩ : ∃ ok, ops[k]? = some ok := ⟨ops[k], Array.getElem?_eq_getElem hk⟩
          have hFk := fitsL_spec hfit hok
          have e9 : opOf ops k = ok := by simp [opOf, hok]
          rw [e9] at h9
          unfold waits at h9
          rw [Array.any_eq_true] at h9
          obtain ⟨i, hi, h1⟩ := h9
          simp only [Bool.and_eq_true, beq_iff_eq] at h1
          rw [← h1.2]
          exact hFk.on _ (Array.getElem_mem hi) h1.1
        have hlk : listed.getD k false = false := by
          cases hq : listed.getD k false with
          | false => rfl
          | true => rw [M.closed k hk hq j h9] at h0'; cases h0'
        rw [hlk]
        simp; omega)
    have hfs : ∀ k, k < j → waits o k = true → (sp k).fact (us k) w := fun k hk hw => M.facts k (by omega) (wl k hw).2
    have hns : ∀ cs b, o.op ≠ .select cs b := fun cs b => Region.noSelect_spec (by unfold fitsL at hfit; rw [Bool.and_eq_true, Bool.and_eq_true, Bool.and_eq_true] at hfit; exact hfit.1.1.1) j o cs b ho
    have e3 : dstOf ops j = o.dst := by simp [dstOf, ho]
    have lset : ∀ k, k ≠ j → (listed.setIfInBounds j true).getD k false = listed.getD k false := fun k hk => by
      have h2 : ¬ j = k := fun e => hk e.symm
      rw [Array.getD_eq_getD_getElem?, Array.getD_eq_getD_getElem?, Array.getElem?_setIfInBounds_ne h2]
    have lself : (listed.setIfInBounds j true).getD j false = true := by
      have h1 : j < listed.size := by omega
      simp [Array.getD_eq_getD_getElem?, h1]
    have hmask : ∀ k, (listed.setIfInBounds j true).getD k false = (listed.getD k false || k == j) := fun k => by
      by_cases h : k = j
      · subst h; rw [lself]; simp
      · rw [lset k h]; simp [h]
    have hclosed : ∀ i, i < ops.size → (listed.setIfInBounds j true).getD i false = true → ∀ k, waits (opOf ops i) k = true → (listed.setIfInBounds j true).getD k false = true := fun i hi hl k hw => by
      have h2 : listed.getD k false = true := by
        by_cases h : i = j
        · subst h
          rw [opOf_eq ho] at hw
          exact (wl k hw).2
        · rw [lset i h] at hl
          exact M.closed i hi hl k hw
      rw [hmask, h2]; rfl
    have hul := (unlisted_set h0 ops.size).2 hjn
    have hcur : j ∈ st → c < st.length ∧ st.getD c 0 = j := fun hjs => by
      obtain ⟨c1, hc1, e1⟩ := mem_getD hjs
      have hcc : c1 = c := by
        rcases Nat.lt_trichotomy c1 c with h | h | h
        · have := M.yes c1 h
          rw [e1, h0'] at this
          cases this
        · exact h
        · have hw := (fitsL_chain hfit hc1 (show c1 - 1 < c1 by omega)).2 (by omega)
          rw [e1, opOf_eq ho] at hw
          have h2 := M.no (c1 - 1) (by omega) (by omega)
          rw [(wl _ hw).2] at h2
          cases h2
      subst hcc
      exact ⟨hc1, e1⟩
    have hyes : j ∈ st → ∀ d, d < c + 1 → (listed.setIfInBounds j true).getD (st.getD d 0) false = true := fun hjs d hd1 => by
      rcases Nat.lt_or_ge d c with h | h
      · rw [hmask, M.yes d h]; rfl
      · obtain rfl : d = c := by omega
        rw [(hcur hjs).2]; exact lself
    have hno : j ∈ st → ∀ d, c + 1 ≤ d → d < st.length → (listed.setIfInBounds j true).getD (st.getD d 0) false = false := fun hjs d hd1 hd2 => by
      have h2 : st.getD d 0 ≠ j := by
        have h3 := (fitsL_chain hfit hd2 (show c < d by omega)).1
        have h4 := (hcur hjs).2
        omega
      rw [lset _ h2]
      exact M.no d (by omega) hd2
    rcases hF.dst with ⟨hdn, hjs⟩ | ⟨d, hdst, hdlt⟩
    · -- a store
      obtain ⟨hc1, e1⟩ := hcur hjs
      refine (T.store j o c (by omega) ho hdn hc1 e1.symm us w M.inv hfs).wpOp0 ho hdn hns hsame (fun w' hS' hG => ?_)
      have e := putsM_put (ops := ops) (sp := sp) (us := us) (us' := us) (f := fun k => listed.getD k false) (f' := fun k => (listed.setIfInBounds j true).getD k false) (a := a) (j := j) hd h0' hmask (fun _ _ => rfl) ops.size hjn
      rw [e3, hdn] at e
      have e' : putsM ops sp us (fun k => (listed.setIfInBounds j true).getD k false) a ops.size = putsM ops sp us (fun k => listed.getD k false) a ops.size := e
      rw [← e']
      refine ih (listed.setIfInBounds j true) us w' (c + 1) ⟨by simpa using hsz, by omega, hyes hjs, hno hjs, hclosed, hS', fun k hk hl => ?_⟩ (by omega)
      · by_cases h : k = j
        · subst h
          -- a store has no fact of its own
          exact (T.mono k hk (us k) w w' hG) (by
            rcases hsp : sp k with v | V
            · trivial
            · exact absurd hsp (T.nofact k V (by rw [e3, hdn]) (by omega) hk))
        · rw [lset k h] at hl
          exact T.mono k hk _ w w' hG (M.facts k hk hl)
    · by_cases hjs : j ∈ st
      · -- a link of the chain that has a temporary
        obtain ⟨hc1, e1⟩ := hcur hjs
        refine (T.chain j o c (by omega) ho (by rw [hdst]; simp) hc1 e1.symm us w M.inv hfs).wpOp ho hdst (by rw [putsM_size, hn]; exact hdlt) hns hsame ?_
        intro u w' _ hG ⟨hV, hS'⟩
        have hv : (sp j).val u = u := by
          cases h : sp j with
          | fix v => rw [h] at hV; exact hV.symm
          | free V => rfl
        have hfa : (sp j).fact u w' := by
          cases h : sp j with
          | fix v => trivial
          | free V => rw [h] at hV; exact hV
        have e := putsM_put (ops := ops) (sp := sp) (us := us) (us' := fun k => if k = j then u else us k) (f := fun k => listed.getD k false) (f' := fun k => (listed.setIfInBounds j true).getD k false) (a := a) (j := j) hd h0' hmask (fun k hk => by simp [hk]) ops.size hjn
        simp only [if_true, hv] at e
        rw [e3] at e
        rw [← e]
        refine ih (listed.setIfInBounds j true) _ w' (c + 1) ⟨by simpa using hsz, by omega, hyes hjs, hno hjs, hclosed, hS', fun k hk hl => ?_⟩ (by omega)
        by_cases h : k = j
        · subst h; simp only [if_true]; exact hfa
        · simp only [h, if_false]
          rw [lset k h] at hl
          exact T.mono k hk _ w w' hG (M.facts k hk hl)
      have hmay : mayAt ops st c j = true := by
        unfold mayAt
        rw [List.all_eq_true]
        intro x hx
        obtain ⟨d1, hd1, e1⟩ := List.getElem_of_mem hx
        rw [List.length_take] at hd1
        rw [List.getElem_take] at e1
        have e2 : st.getD d1 0 = x := by rw [List.getD_eq_getElem?_getD, List.getElem?_eq_getElem (by omega)]; exact e1
        have hl := M.yes d1 (by omega)
        rw [e2] at hl
        have hxn : x < ops.size := by rw [← e2]; exact fitsL_lt hfit (by omega)
        cases hw : waits (opOf ops x) j with
        | false => rfl
        | true =>
          have := M.closed x hxn hl j hw
          rw [h0'] at this
          cases this
      refine (T.step j o (by omega) ho hjs c us w hmay M.inv hfs).wpOp ho hdst (by rw [putsM_size, hn]; exact hdlt) hns hsame ?_
      intro u w' hS' hG hV
      have hv : (sp j).val u = u := by
        cases h : sp j with
        | fix v => rw [h] at hV; exact hV.symm
        | free V => rfl
      have hfa : (sp j).fact u w' := by
        cases h : sp j with
        | fix v => trivial
        | free V => rw [h] at hV; exact hV
      have e := putsM_put (ops := ops) (sp := sp) (us := us) (us' := fun k => if k = j then u else us k) (f := fun k => listed.getD k false) (f' := fun k => (listed.setIfInBounds j true).getD k false) (a := a) (j := j) hd h0' hmask (fun k hk => by simp [hk]) ops.size hjn
      simp only [if_true, hv] at e
      rw [e3] at e
      rw [← e]
      have hne : ∀ d, d < st.length → st.getD d 0 ≠ j := fun d hd1 e4 => hjs (e4 ▸ getD_mem hd1)
      refine ih (listed.setIfInBounds j true) _ w' c ⟨by simpa using hsz, M.le, fun d hd1 => ?_, fun d hd1 hd2 => ?_, hclosed, ?_, fun k hk hl => ?_⟩ (by omega)
      · rw [hmask, M.yes d hd1]; rfl
      · rw [lset _ (hne d hd2)]; exact M.no d hd1 hd2
      · refine hloc c us _ w' (fun k hk => ?_) hS'
        have h5 : k ≠ j := fun e5 => by
          subst e5
          rcases hk with hk | hk
          · rw [hmay] at hk; cases hk
          · exact hjs (List.mem_of_mem_take hk)
        simp [h5]
      · by_cases h : k = j
        · subst h; simp only [if_true]; exact hfa
        · simp only [h, if_false]
          rw [lset k h] at hl
          exact T.mono k hk _ w w' hG (M.facts k hk hl)
theorem wp_region_late {l : List Oper} {id n : Nat} {a : Act} {w : World} (st : List Nat) (S : Nat → (Nat → Value) → World → Prop) (G : World → World → Prop) (hm : P.follows .mixedOrders = true) (hfit : fitsL l.toArray st n = true) (hn : a.tmps.size = n)
    (hloc : ∀ c us us' w, (∀ k, mayAt l.toArray st c k = false ∨ k ∈ st.take c → us k = us' k) → S c us w → S c us' w) (hS : S 0 (fun _ => undef) w.drew)
    (h : WalkL P l.toArray st S G Q l 0 0 [] (fun _ => a)) : (Code.region id l.toArray true).wp P Q a w := by
  have hd : ∀ i k, i ≠ k → ∀ d, dstOf l.toArray i = some d → dstOf l.toArray k ≠ some d := by
    intro i k hik d hi hk
    unfold dstOf at hi
    cases ho : l.toArray[i]? with
    | none => simp [ho] at hi
    | some o =>
      rw [ho] at hi
      have hk' : k < l.toArray.size := by
        rcases Nat.lt_or_ge k l.toArray.size with h | h
        · exact h
        · unfold dstOf at hk; rw [Array.getElem?_eq_none h] at hk; cases hk
      exact (fitsL_spec hfit ho).apart k d hk' hk (Ne.symm hik) (by simpa using hi)
  have none : ∀ us n', putsM l.toArray (fun _ => .fix undef) us (fun k => decide (k < 0)) a n' = a := fun us n' => by
    induction n' with
    | zero => rfl
    | succ n' ih => unfold putsM; simpa using ih
  obtain ⟨sp, _, T⟩ := told_of_walkL (ops := l.toArray) hfit hd l.toArray.toList 0 0 [] (fun _ => a) (fun _ => .fix undef) (by simp) (by omega) ⟨by omega, by omega, by omega⟩ (by simp) (fun us => (none us _).symm) (by omega) h
  refine wp_region_any hm ?_
  have hrep : ∀ k, (Array.replicate l.toArray.size false).getD k false = false := fun k => by
    rw [Array.getD_eq_getD_getElem?, Array.getElem?_replicate]
    split <;> rfl
  have e : ∀ us n', putsM l.toArray sp us (fun k => (Array.replicate l.toArray.size false).getD k false) a n' = a := fun us n' => by
    induction n' with
    | zero => rfl
    | succ n' ih =>
      unfold putsM
      rw [if_neg (by rw [hrep]; simp)]
      exact ih
  have h2 := wpAny_late (Q := Q) hfit hn T hloc hd l.toArray.size (Array.replicate l.toArray.size false) (fun _ => undef) w.drew 0 ⟨by simp, by omega, fun d hd => by omega, fun d _ _ => hrep _, fun i _ hl => (by rw [hrep] at hl; cases hl), hS, fun j _ hl => (by rw [hrep] at hl; cases hl)⟩ (by
    unfold unlisted
    refine Nat.le_trans (List.length_filter_le _ _) ?_
    simp)
  rw [e] at h2
  exact h2
theorem mayAt_no {c d k : Nat} (hk : waits (opOf ops (st.getD d 0)) k = true) (hd : d < c) (hl : d < st.length) : mayAt ops st c k = false := by
  unfold mayAt
  rw [List.all_eq_false]
  refine ⟨st.getD d 0, ?_, by rw [hk]; simp⟩
  rw [List.getD_eq_getElem?_getD, List.getElem?_eq_getElem hl]
  simp only [Option.getD_some]
  rw [List.mem_take_iff_getElem]
  exact ⟨d, by omega, rfl⟩
variable {o : Oper} {rest : List Oper} {i c : Nat} {F : List (Nat × (Value → World → Prop))} {A : (Nat → Value) → Act}
theorem late_pure (hne : o.dst ≠ none) (hG : ∀ w, G w w) {v : Value} (hw : ∀ us, Region.wanted o (yielded ops (A us).tmps) = true) (hy : ∀ c' us w, mayAt ops st c' i = true → S c' us w → (∀ p ∈ F, waits o p.1 = true → p.2 (us p.1) w) → (execOp (A us).eval o).run P w = .ok (.value v) w)
    (h : WalkL P ops st S G Q rest (i + 1) c F (fun us => (A us).put o.dst v)) (hi : i ∉ st := by decide) : WalkL P ops st S G Q (o :: rest) i c F A :=
  .inr (.inr (.inl ⟨hi, hne, v, fun c' us w hc hS hF K hK => by
    rw [if_pos (hw us)]
    unfold Oper.wp
    rw [hy c' us w hc hS hF]
    exact hK _ _ hS (hG w) rfl, h⟩))
theorem late_fix (hne : o.dst ≠ none) {v : Value} (hs : ∀ c' us w, mayAt ops st c' i = true → S c' us w → (∀ p ∈ F, waits o p.1 = true → p.2 (us p.1) w) → ∀ K : Act → World → Prop, (∀ w', S c' us w' → G w w' → K ((A us).put o.dst v) w') →
      if Region.wanted o (yielded ops (A us).tmps) = true then Oper.wp P o (A us) w K (fun _ _ _ => False) else K ((A us).put o.dst undef) w)
    (h : WalkL P ops st S G Q rest (i + 1) c F (fun us => (A us).put o.dst v)) (hi : i ∉ st := by decide) : WalkL P ops st S G Q (o :: rest) i c F A :=
  .inr (.inr (.inl ⟨hi, hne, v, fun c' us w hc hS hF K hK => hs c' us w hc hS hF K fun w' h1 h2 => hK v w' h1 h2 rfl, h⟩))
theorem late_free (hne : o.dst ≠ none) (V : Value → World → Prop) (hV : ∀ u w w', G w w' → V u w → V u w') (hs : ∀ c' us w, mayAt ops st c' i = true → S c' us w → (∀ p ∈ F, waits o p.1 = true → p.2 (us p.1) w) → ∀ K : Act → World → Prop, (∀ u w', S c' us w' → G w w' → V u w' → K ((A us).put o.dst u) w') →
      if Region.wanted o (yielded ops (A us).tmps) = true then Oper.wp P o (A us) w K (fun _ _ _ => False) else K ((A us).put o.dst undef) w)
    (h : WalkL P ops st S G Q rest (i + 1) c ((i, V) :: F) (fun us => (A us).put o.dst (us i))) (hi : i ∉ st := by decide) : WalkL P ops st S G Q (o :: rest) i c F A :=
  .inr (.inr (.inr ⟨hi, hne, V, hV, hs, h⟩))
theorem late_chain (hne : o.dst ≠ none) (hs : ∀ us w, S c us w → (∀ p ∈ F, waits o p.1 = true → p.2 (us p.1) w) → ∀ K : Act → World → Prop, (∀ u w', S (c + 1) (fun k => if k = i then u else us k) w' → G w w' → K ((A us).put o.dst u) w') →
      if Region.wanted o (yielded ops (A us).tmps) = true then Oper.wp P o (A us) w K (fun _ _ _ => False) else K ((A us).put o.dst undef) w)
    (h : WalkL P ops st S G Q rest (i + 1) (c + 1) ((i, fun _ _ => True) :: F) (fun us => (A us).put o.dst (us i))) (hi : i ∈ st := by decide) : WalkL P ops st S G Q (o :: rest) i c F A :=
  .inr (.inl ⟨hi, hne, fun _ _ => True, fun _ _ _ _ _ => trivial, fun us w hS hF K hK => hs us w hS hF K fun u w' h1 h2 => hK u w' trivial h2 ⟨trivial, h1⟩, h⟩)
theorem late_store (hn : o.dst = none) (hs : ∀ us w, S c us w → (∀ p ∈ F, waits o p.1 = true → p.2 (us p.1) w) → ∀ K : Act → World → Prop, (∀ w', S (c + 1) us w' → G w w' → K (A us) w') →
      if Region.wanted o (yielded ops (A us).tmps) = true then Oper.wp P o (A us) w K (fun _ _ _ => False) else K (A us) w)
    (h : WalkL P ops st S G Q rest (i + 1) (c + 1) F A) : WalkL P ops st S G Q (o :: rest) i c F A :=
  .inl ⟨hn, fun us w hS hF K hK => by
    have e : ∀ u, (A us).put o.dst u = A us := fun u => by rw [hn]; rfl
    have h1 := hs us w hS hF K (fun w' h1 h2 => by have h3 := hK undef w' h1 h2 trivial; rwa [e] at h3)
    rw [e]
    exact h1, h⟩
theorem late_done (h : ∀ us w, S c us w → (∀ p ∈ F, p.2 (us p.1) w) → Q .normal (A us) w) : WalkL P ops st S G Q [] i c F A := h
end
end
end Go.Proofs.Ythjkhambmgepdaa
