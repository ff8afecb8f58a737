/- Links: fragment. -/
import Derived.Test.YthjkhambmgepdaaLf
import Derived.Test.YthjkhambmgepdaaAfix
namespace Go.Proofs.Ythjkhambmgepdaa
open Go.RowKit
set_option linter.unusedVariables false
/-- The first message; how many bytes of it are sent behind the next line; that line's payload. -/
def frM (e : LE) : List UInt8 := e.q.headD []
def frS (e : LE) : Nat := if e.off < 0 then min (frM e).length 52 else min (frM e).length (e.off.toNat + 56)
def frP (e : LE) : List UInt8 := if e.off < 0 then fixB (frM e).length 4 ++ (frM e).take 52 else ((frM e).drop e.off.toNat).take 56
def FrgP (e : LE) (W : World) (en : Ending) (W' : World) : Prop := ∃ A c, en = .returned (.tuple #[.slice A (frP e).length c, .int .i64 (frS e)]) ∧ IsB W' A (frP e).length (frP e) ∧ Below W.heap.size W W'
def PB (base m : Nat) (bs : List UInt8) (u : Value) (w : World) : Prop := ∃ A c, u = .slice A m c ∧ OwnB w base 5 A m c bs
theorem PB.below {base m : Nat} {bs : List UInt8} {u : Value} {w w' : World} (h : PB base m bs u w) (hb : Below w.heap.size w w') : PB base m bs u w' := by
  obtain ⟨A, c, e, ho⟩ := h
  exact ⟨A, c, e, ho.below hb⟩
/-- fragment's region: number 3 encodes the length, 7 appends, 9 hands it on. -/
def FrgS (w0 : World) (m1 : Nat) (b1 : List UInt8) (m2 : Nat) (b2 : List UInt8) (c : Nat) (us : Nat → Value) (w' : World) : Prop :=
  Below w0.heap.size w0 w' ∧ (c = 1 → PB w0.heap.size m1 b1 (us 3) w') ∧ (c = 2 → PB w0.heap.size m2 b2 (us 7) w') ∧ (3 ≤ c → PB w0.heap.size m2 b2 (us 9) w')
theorem FrgS.loc {w0 : World} {m1 m2 : Nat} {b1 b2 : List UInt8} {ops : Array Oper} : ∀ c us us' w, (∀ k, mayAt ops [3, 7, 9] c k = false ∨ k ∈ [3, 7, 9].take c → us k = us' k) → FrgS w0 m1 b1 m2 b2 c us w → FrgS w0 m1 b1 m2 b2 c us' w := by
  intro c us us' w hk ⟨a, b, d, e⟩
  refine ⟨a, fun hc => ?_, fun hc => ?_, fun hc => ?_⟩
  · rw [← hk 3 (.inr (by subst hc; simp))]
    exact b hc
  · rw [← hk 7 (.inr (by subst hc; simp))]
    exact d hc
  · rw [← hk 9 (.inr (by obtain ⟨k, rfl⟩ : ∃ k, c = k + 3 := ⟨c - 3, by omega⟩; simp))]
    exact e hc
theorem NewB.own {W w : World} {bs : List UInt8} {en : Ending} (h : NewB W 5 bs en w) (hl : bs.length ≤ 1000000) : ∃ A n c, en = .returned (.slice A n c) ∧ n = bs.length ∧ OwnB w W.heap.size 5 A n c bs ∧ Below W.heap.size W w := by
  obtain ⟨g, m, hge, hm, rfl, hr, hb⟩ := h
  have hm' := hm.out
  subst hm'
  exact ⟨some ⟨g, 0, none⟩, bs.length, bs.length, rfl, rfl, ⟨by simp, .inr ⟨g, bs.length, (bs.map bv).toArray, rfl, hge, hr, Nat.le_refl _, by simp only [maxLen]; omega, by simp, List.take_of_length_le (by simp)⟩⟩, hb⟩
theorem headD_eq : ∀ {q : List (List UInt8)} (h : 0 < q.length), q.headD [] = q[0]
  | _ :: _, _ => rfl
theorem frM_eq {e : LE} (h : 0 < e.q.length) : frM e = e.q[0] := headD_eq h
set_option maxRecDepth 100000 in
set_option maxHeartbeats 4000000 in
theorem frag_1 (g : Nat) (e : LE) (A : Option Addr) (c : Nat) (R : Value) (W : World) (hr : Row W g 155 (BV e (.slice A e.q.length c) R)) (hq : IsM W A e.q.length e.q) (h0 : 0 < e.q.length) (hm : (frM e).length ≤ 1048576) (ho : e.off = -1) (h1 : (frM e).length ≤ 52) : Calls Try.prog 105 #[.pointer (some ⟨g, 0, none⟩)] W (FrgP e W) := by
  have hS := Lib.hid (show frS e = min (frM e).length 52 by unfold frS; rw [if_pos (by omega)])
  have hP := Lib.hid (show frP e = fixB (frM e).length 4 ++ (frM e).take 52 by unfold frP; rw [if_pos (by omega)])
  have hof : decide (e.off < 0) = true := by simp; omega
  have hwr : IntKind.u32.wrap ((frM e).length : Int) = ((frM e).length : Int) := by rw [IntKind.wrap_u32]; omega
  have hmin : decide ((52 : Int) < (frM e).length) = false := by simp; omega
  have hmn : ¬ (52 : Int) < (frM e).length := by omega
  clear ho
  have hlt := hr.lt
  obtain ⟨b, o, hA, hrow⟩ := hq.2 h0
  subst hA
  obtain ⟨A0, C0, x, hC0, -, hIs⟩ := hrow 0 h0
  have hM := frM_eq h0
  rw [← hM] at x hC0 hIs
  have x : W.cell? ⟨b, o, none⟩ = some (.slice A0 (frM e).length C0) := x
  have c3 : W.cell? ⟨g, 3, none⟩ = some (.slice (some ⟨b, o, none⟩) e.q.length c) := hr.cell 3
  have c4 : W.cell? ⟨g, 4, none⟩ = some (.int .i64 e.off) := hr.cell 4
  have hi0 : (0 : Int) < e.q.length := by omega
  have HM := Lib.hid hM
  clear hrow hM
  generalize hm' : frM e = m at *
  have HM' := Lib.hid hm'
  clear hm'
  have hCn : m.length ≤ C0 := by omega
  have hCi : ((m.length : Int) : Int) ≤ (C0 : Int) := by omega
  have hA1 := app32 none 0 0 [] m.length
  have hIs2 : IsB W A0 (min m.length 52) (m.take 52) := by
    have h := hIs.pre (min m.length 52) (by omega)
    rwa [show m.take (min m.length 52) = m.take 52 by rw [List.take_eq_take_iff]; omega] at h
  have hln : min m.length 52 = m.length := by omega
  rw [hln] at hIs2 hS
  have HLN := Lib.hid hln
  clear hln
  go_enter Try.func105, Try.ntmps105
  go_upto_region 4 with (fail)
  have hIs2 : IsB W.drew A0 m.length (m.take 52) := hIs2
  refine wp_region_late (n := 44) [3, 7, 9] (FrgS W.drew 4 (fixB m.length 4) (4 + m.length) (fixB m.length 4 ++ m.take 52)) (fun _ _ => True) (by kernel_rfl) (by kernel_rfl) (by rfl) FrgS.loc ⟨Below.refl _ _, fun h => by omega, fun h => by omega, fun h => by omega⟩ ?_
  have hb0 : Below W.heap.size W W.drew := (Below.refl _ _).drew
  generalize W.drew = w0 at *
  refine late_pure (by simp) (fun _ => trivial) (v := ?_) (fun _ => rfl) ?_ ?_; rotate_left; (focus (intro c9 us w9 hm9 hS9 hF; clear hF hm9; go_simp; (try with_reducible rfl); done)); simp only [Act.put, List.setIfInBounds_toArray, List.set_cons_zero, List.set_cons_succ, Nat.reduceAdd]
  refine late_pure (by simp) (fun _ => trivial) (v := ?_) (fun _ => rfl) ?_ ?_; rotate_left; (focus (intro c9 us w9 hm9 hS9 hF; clear hF hm9; go_simp; (try with_reducible rfl); done)); simp only [Act.put, List.setIfInBounds_toArray, List.set_cons_zero, List.set_cons_succ, Nat.reduceAdd]
  refine late_pure (by simp) (fun _ => trivial) (v := .int .u32 (m.length : Int)) (fun _ => rfl) ?_ ?_; (focus (intro c9 us w9 hm9 hS9 hF; clear hF hm9; go_simp; (try with_reducible rfl); done)); simp only [Act.put, List.setIfInBounds_toArray, List.set_cons_zero, List.set_cons_succ, Nat.reduceAdd]
  refine late_chain (by simp) ?_ ?_; (focus (intro us w9 hS9 hF K hK; clear hF; go_simp; refine (hA1 w9 (IsB.nil _ _) (by omega) (by omega)).mono ?_; rintro en w' hN; obtain ⟨A1, n1, c1, rfl, hn1, ho1, hb⟩ := hN.own (by simp [fixB_len]); rw [List.nil_append] at ho1 hn1; rw [fixB_len] at hn1; subst hn1; exact hK _ w' ⟨below_on hS9.1 hb, fun _ => ⟨A1, c1, by simp, ho1.lower hS9.1.size⟩, fun h => by omega, fun h => by omega⟩ trivial)); simp only [Act.put, List.setIfInBounds_toArray, List.set_cons_zero, List.set_cons_succ, Nat.reduceAdd]
  refine late_pure (by simp) (fun _ => trivial) (v := ?_) (fun _ => rfl) ?_ ?_; rotate_left; (focus (intro c9 us w9 hm9 hS9 hF; clear hF hm9; go_simp; (try with_reducible rfl); done)); simp only [Act.put, List.setIfInBounds_toArray, List.set_cons_zero, List.set_cons_succ, Nat.reduceAdd]
  refine late_pure (by simp) (fun _ => trivial) (v := ?_) (fun _ => rfl) ?_ ?_; rotate_left; (focus (intro c9 us w9 hm9 hS9 hF; clear hF hm9; go_simp; (try with_reducible rfl); done)); simp only [Act.put, List.setIfInBounds_toArray, List.set_cons_zero, List.set_cons_succ, Nat.reduceAdd]
  refine late_pure (by simp) (fun _ => trivial) (v := .slice A0 m.length C0) (fun _ => rfl) ?_ ?_; (focus (intro c9 us w9 hm9 hS9 hF; clear hF hm9; go_simp; (try with_reducible rfl); done)); simp only [Act.put, List.setIfInBounds_toArray, List.set_cons_zero, List.set_cons_succ, Nat.reduceAdd]
  refine late_chain (by simp) ?_ ?_; (focus (intro us w9 hS9 hF K hK; clear hF; obtain ⟨A1, c1, hu, ho1⟩ := hS9.2.1 rfl; simp only [hu] at hK ⊢; rw [if_pos (by rfl)]; refine step_append_b (P := Try.prog) (c' := C0) Try.underlying44 info_b ho1 (hIs2.below hS9.1) (by omega) hS9.1.size rfl rfl (fun A' c'' w' h1 h2 h3 h4 => hK _ w' ⟨hS9.1.trans h2, fun h => by omega, fun _ => ⟨A', c'', by simp, h1⟩, fun h => by omega⟩ trivial))); simp only [Act.put, List.setIfInBounds_toArray, List.set_cons_zero, List.set_cons_succ, Nat.reduceAdd]
  refine late_pure (by simp) (fun _ => trivial) (v := .int .i64 (m.length : Int)) (fun _ => rfl) ?_ ?_; (focus (intro c9 us w9 hm9 hS9 hF; clear hF hm9; go_simp; (try with_reducible rfl); done)); simp only [Act.put, List.setIfInBounds_toArray, List.set_cons_zero, List.set_cons_succ, Nat.reduceAdd]
  refine late_chain (by simp) ?_ ?_; (focus (intro us w9 hS9 hF K hK; clear hF; obtain ⟨A1, c1, hu, ho1⟩ := hS9.2.2.1 rfl; simp only [hu] at hK ⊢; go_simp; exact hK _ w9 ⟨hS9.1, fun h => by omega, fun h => by omega, fun _ => ⟨A1, c1, by simp, ho1⟩⟩ trivial)); simp only [Act.put, List.setIfInBounds_toArray, List.set_cons_zero, List.set_cons_succ, Nat.reduceAdd]
  refine late_pure (by simp) (fun _ => trivial) (v := .int .i64 (m.length : Int)) (fun _ => rfl) ?_ ?_; (focus (intro c9 us w9 hm9 hS9 hF; clear hF hm9; go_simp; (try with_reducible rfl); done)); simp only [Act.put, List.setIfInBounds_toArray, List.set_cons_zero, List.set_cons_succ, Nat.reduceAdd]
  refine late_done fun us w8 hS8 hF => ?_
  obtain ⟨A9, c9, hu9, ho9⟩ := hS8.2.2.2 (by omega)
  have hB8 := hb0.trans (hS8.1.mono hb0.size)
  clear hF hS8
  simp only [hu9]
  go_wp2
  refine bodyPost_ret (v := .tuple #[.slice A9 (4 + m.length) c9, .int .i64 (m.length : Int)]) (by simp [results, Try.results105, go_sem]) rfl ?_
  have hl : (frP e).length = 4 + m.length := by rw [hP.out, List.length_append, fixB_len, List.length_take]; have := HLN.out; omega
  refine ⟨A9, c9, ?_, ?_, hB8⟩
  · rw [hl, hS.out]; try rfl
  · rw [hl, hP.out]; exact ho9.isB
set_option maxRecDepth 100000 in
set_option maxHeartbeats 4000000 in
theorem frag_2 (g : Nat) (e : LE) (A : Option Addr) (c : Nat) (R : Value) (W : World) (hr : Row W g 155 (BV e (.slice A e.q.length c) R)) (hq : IsM W A e.q.length e.q) (h0 : 0 < e.q.length) (hm : (frM e).length ≤ 1048576) (ho : e.off = -1) (h1 : 52 < (frM e).length) : Calls Try.prog 105 #[.pointer (some ⟨g, 0, none⟩)] W (FrgP e W) := by
  have hS := Lib.hid (show frS e = min (frM e).length 52 by unfold frS; rw [if_pos (by omega)])
  have hP := Lib.hid (show frP e = fixB (frM e).length 4 ++ (frM e).take 52 by unfold frP; rw [if_pos (by omega)])
  have hof : decide (e.off < 0) = true := by simp; omega
  have hwr : IntKind.u32.wrap ((frM e).length : Int) = ((frM e).length : Int) := by rw [IntKind.wrap_u32]; omega
  have hmin : decide ((52 : Int) < (frM e).length) = true := by simp; omega
  have hmn : (52 : Int) < (frM e).length := by omega
  clear ho
  have hlt := hr.lt
  obtain ⟨b, o, hA, hrow⟩ := hq.2 h0
  subst hA
  obtain ⟨A0, C0, x, hC0, -, hIs⟩ := hrow 0 h0
  have hM := frM_eq h0
  rw [← hM] at x hC0 hIs
  have x : W.cell? ⟨b, o, none⟩ = some (.slice A0 (frM e).length C0) := x
  have c3 : W.cell? ⟨g, 3, none⟩ = some (.slice (some ⟨b, o, none⟩) e.q.length c) := hr.cell 3
  have c4 : W.cell? ⟨g, 4, none⟩ = some (.int .i64 e.off) := hr.cell 4
  have hi0 : (0 : Int) < e.q.length := by omega
  have HM := Lib.hid hM
  clear hrow hM
  generalize hm' : frM e = m at *
  have HM' := Lib.hid hm'
  clear hm'
  have hCn : 52 ≤ C0 := by omega
  have hCi : (52 : Int) ≤ (C0 : Int) := by omega
  have hA1 := app32 none 0 0 [] m.length
  have hIs2 : IsB W A0 (min m.length 52) (m.take 52) := by
    have h := hIs.pre (min m.length 52) (by omega)
    rwa [show m.take (min m.length 52) = m.take 52 by rw [List.take_eq_take_iff]; omega] at h
  have hln : min m.length 52 = 52 := by omega
  rw [hln] at hIs2 hS
  have HLN := Lib.hid hln
  clear hln
  go_enter Try.func105, Try.ntmps105
  go_upto_region 4 with (fail)
  have hIs2 : IsB W.drew A0 52 (m.take 52) := hIs2
  refine wp_region_late (n := 44) [3, 7, 9] (FrgS W.drew 4 (fixB m.length 4) (4 + 52) (fixB m.length 4 ++ m.take 52)) (fun _ _ => True) (by kernel_rfl) (by kernel_rfl) (by rfl) FrgS.loc ⟨Below.refl _ _, fun h => by omega, fun h => by omega, fun h => by omega⟩ ?_
  have hb0 : Below W.heap.size W W.drew := (Below.refl _ _).drew
  generalize W.drew = w0 at *
  refine late_pure (by simp) (fun _ => trivial) (v := ?_) (fun _ => rfl) ?_ ?_; rotate_left; (focus (intro c9 us w9 hm9 hS9 hF; clear hF hm9; go_simp; (try with_reducible rfl); done)); simp only [Act.put, List.setIfInBounds_toArray, List.set_cons_zero, List.set_cons_succ, Nat.reduceAdd]
  refine late_pure (by simp) (fun _ => trivial) (v := ?_) (fun _ => rfl) ?_ ?_; rotate_left; (focus (intro c9 us w9 hm9 hS9 hF; clear hF hm9; go_simp; (try with_reducible rfl); done)); simp only [Act.put, List.setIfInBounds_toArray, List.set_cons_zero, List.set_cons_succ, Nat.reduceAdd]
  refine late_pure (by simp) (fun _ => trivial) (v := .int .u32 (m.length : Int)) (fun _ => rfl) ?_ ?_; (focus (intro c9 us w9 hm9 hS9 hF; clear hF hm9; go_simp; (try with_reducible rfl); done)); simp only [Act.put, List.setIfInBounds_toArray, List.set_cons_zero, List.set_cons_succ, Nat.reduceAdd]
  refine late_chain (by simp) ?_ ?_; (focus (intro us w9 hS9 hF K hK; clear hF; go_simp; refine (hA1 w9 (IsB.nil _ _) (by omega) (by omega)).mono ?_; rintro en w' hN; obtain ⟨A1, n1, c1, rfl, hn1, ho1, hb⟩ := hN.own (by simp [fixB_len]); rw [List.nil_append] at ho1 hn1; rw [fixB_len] at hn1; subst hn1; exact hK _ w' ⟨below_on hS9.1 hb, fun _ => ⟨A1, c1, by simp, ho1.lower hS9.1.size⟩, fun h => by omega, fun h => by omega⟩ trivial)); simp only [Act.put, List.setIfInBounds_toArray, List.set_cons_zero, List.set_cons_succ, Nat.reduceAdd]
  refine late_pure (by simp) (fun _ => trivial) (v := ?_) (fun _ => rfl) ?_ ?_; rotate_left; (focus (intro c9 us w9 hm9 hS9 hF; clear hF hm9; go_simp; (try with_reducible rfl); done)); simp only [Act.put, List.setIfInBounds_toArray, List.set_cons_zero, List.set_cons_succ, Nat.reduceAdd]
  refine late_pure (by simp) (fun _ => trivial) (v := ?_) (fun _ => rfl) ?_ ?_; rotate_left; (focus (intro c9 us w9 hm9 hS9 hF; clear hF hm9; go_simp; (try with_reducible rfl); done)); simp only [Act.put, List.setIfInBounds_toArray, List.set_cons_zero, List.set_cons_succ, Nat.reduceAdd]
  refine late_pure (by simp) (fun _ => trivial) (v := .slice A0 52 C0) (fun _ => rfl) ?_ ?_; (focus (intro c9 us w9 hm9 hS9 hF; clear hF hm9; go_simp; (try with_reducible rfl); done)); simp only [Act.put, List.setIfInBounds_toArray, List.set_cons_zero, List.set_cons_succ, Nat.reduceAdd]
  refine late_chain (by simp) ?_ ?_; (focus (intro us w9 hS9 hF K hK; clear hF; obtain ⟨A1, c1, hu, ho1⟩ := hS9.2.1 rfl; simp only [hu] at hK ⊢; rw [if_pos (by rfl)]; refine step_append_b (P := Try.prog) (c' := C0) Try.underlying44 info_b ho1 (hIs2.below hS9.1) (by omega) hS9.1.size rfl rfl (fun A' c'' w' h1 h2 h3 h4 => hK _ w' ⟨hS9.1.trans h2, fun h => by omega, fun _ => ⟨A', c'', by simp, h1⟩, fun h => by omega⟩ trivial))); simp only [Act.put, List.setIfInBounds_toArray, List.set_cons_zero, List.set_cons_succ, Nat.reduceAdd]
  refine late_pure (by simp) (fun _ => trivial) (v := .int .i64 52) (fun _ => rfl) ?_ ?_; (focus (intro c9 us w9 hm9 hS9 hF; clear hF hm9; go_simp; (try with_reducible rfl); done)); simp only [Act.put, List.setIfInBounds_toArray, List.set_cons_zero, List.set_cons_succ, Nat.reduceAdd]
  refine late_chain (by simp) ?_ ?_; (focus (intro us w9 hS9 hF K hK; clear hF; obtain ⟨A1, c1, hu, ho1⟩ := hS9.2.2.1 rfl; simp only [hu] at hK ⊢; go_simp; exact hK _ w9 ⟨hS9.1, fun h => by omega, fun h => by omega, fun _ => ⟨A1, c1, by simp, ho1⟩⟩ trivial)); simp only [Act.put, List.setIfInBounds_toArray, List.set_cons_zero, List.set_cons_succ, Nat.reduceAdd]
  refine late_pure (by simp) (fun _ => trivial) (v := .int .i64 52) (fun _ => rfl) ?_ ?_; (focus (intro c9 us w9 hm9 hS9 hF; clear hF hm9; go_simp; (try with_reducible rfl); done)); simp only [Act.put, List.setIfInBounds_toArray, List.set_cons_zero, List.set_cons_succ, Nat.reduceAdd]
  refine late_done fun us w8 hS8 hF => ?_
  obtain ⟨A9, c9, hu9, ho9⟩ := hS8.2.2.2 (by omega)
  have hB8 := hb0.trans (hS8.1.mono hb0.size)
  clear hF hS8
  simp only [hu9]
  go_wp2
  refine bodyPost_ret (v := .tuple #[.slice A9 (4 + 52) c9, .int .i64 52]) (by simp [results, Try.results105, go_sem]) rfl ?_
  have hl : (frP e).length = 4 + 52 := by rw [hP.out, List.length_append, fixB_len, List.length_take]; have := HLN.out; omega
  refine ⟨A9, c9, ?_, ?_, hB8⟩
  · rw [hl, hS.out]; try rfl
  · rw [hl, hP.out]; exact ho9.isB
set_option maxRecDepth 100000 in
set_option maxHeartbeats 4000000 in
theorem frag_3 (g : Nat) (e : LE) (A : Option Addr) (c : Nat) (R : Value) (W : World) (hr : Row W g 155 (BV e (.slice A e.q.length c) R)) (hq : IsM W A e.q.length e.q) (h0 : 0 < e.q.length) (hm : (frM e).length ≤ 1048576) (j : Nat) (hj : e.off = (j : Int)) (hjl : j < (frM e).length) (h1 : (frM e).length ≤ j + 56) : Calls Try.prog 105 #[.pointer (some ⟨g, 0, none⟩)] W (FrgP e W) := by
  have hS := Lib.hid (show frS e = min (frM e).length (j + 56) by unfold frS; rw [if_neg (by omega), hj]; rfl)
  have hP := Lib.hid (show frP e = ((frM e).drop j).take 56 by unfold frP; rw [if_neg (by omega), hj]; rfl)
  have hlt := hr.lt
  obtain ⟨b, o, hA, hrow⟩ := hq.2 h0
  subst hA
  obtain ⟨A0, C0, x, hC0, -, hIs⟩ := hrow 0 h0
  have hM := frM_eq h0
  rw [← hM] at x hC0 hIs
  have x : W.cell? ⟨b, o, none⟩ = some (.slice A0 (frM e).length C0) := x
  have c3 : W.cell? ⟨g, 3, none⟩ = some (.slice (some ⟨b, o, none⟩) e.q.length c) := hr.cell 3
  have c4 : W.cell? ⟨g, 4, none⟩ = some (.int .i64 e.off) := hr.cell 4
  have hi0 : (0 : Int) < e.q.length := by omega
  have HM := Lib.hid hM
  clear hrow hM
  generalize hm' : frM e = m at *
  have HM' := Lib.hid hm'
  clear hm'
  rw [hj] at c4
  have HJ := Lib.hid hj
  clear hj hr
  obtain ⟨b', o', e', -⟩ := hIs.2 (by omega)
  subst e'
  have hof : decide ((j : Int) < 0) = false := by simp
  have hmin : decide ((j : Int) + 56 < m.length) = false := by simp; omega
  have hj1 : (j : Int) ≤ (m.length : Int) := by omega
  have hj2 : (m.length : Int) ≤ (C0 : Int) := by omega
  have hj3 : j ≤ m.length := by omega
  have hj4 : m.length ≤ C0 := by omega
  have hj5 : (j : Int) + 56 < 9223372036854775808 := by omega
  have hjC : j < C0 := by omega
  go_enter Try.func105, Try.ntmps105
  go_wp2
  refine bodyPost_ret (results_tmp2 rfl _ _ _) rfl ?_
  have hB := (hIs.sufB j (by omega)).pre (m.length - j) (by omega)
  have hPl : (frP e).length = m.length - j := by rw [hP.out, List.length_take, List.length_drop]; omega
  have hSl : frS e = m.length := by rw [hS.out]; omega
  refine ⟨some ⟨b', o' + j, none⟩, C0 - j, ?_, ?_, Below.refl _ _⟩
  · rw [hPl, hSl]
    rfl
  · rw [hPl, hP.out]
    rwa [show (m.drop j).take (m.length - j) = (m.drop j).take 56 by rw [List.take_eq_take_iff, List.length_drop]; omega] at hB
set_option maxRecDepth 100000 in
set_option maxHeartbeats 4000000 in
theorem frag_4 (g : Nat) (e : LE) (A : Option Addr) (c : Nat) (R : Value) (W : World) (hr : Row W g 155 (BV e (.slice A e.q.length c) R)) (hq : IsM W A e.q.length e.q) (h0 : 0 < e.q.length) (hm : (frM e).length ≤ 1048576) (j : Nat) (hj : e.off = (j : Int)) (hjl : j < (frM e).length) (h1 : j + 56 < (frM e).length) : Calls Try.prog 105 #[.pointer (some ⟨g, 0, none⟩)] W (FrgP e W) := by
  have hS := Lib.hid (show frS e = min (frM e).length (j + 56) by unfold frS; rw [if_neg (by omega), hj]; rfl)
  have hP := Lib.hid (show frP e = ((frM e).drop j).take 56 by unfold frP; rw [if_neg (by omega), hj]; rfl)
  have hlt := hr.lt
  obtain ⟨b, o, hA, hrow⟩ := hq.2 h0
  subst hA
  obtain ⟨A0, C0, x, hC0, -, hIs⟩ := hrow 0 h0
  have hM := frM_eq h0
  rw [← hM] at x hC0 hIs
  have x : W.cell? ⟨b, o, none⟩ = some (.slice A0 (frM e).length C0) := x
  have c3 : W.cell? ⟨g, 3, none⟩ = some (.slice (some ⟨b, o, none⟩) e.q.length c) := hr.cell 3
  have c4 : W.cell? ⟨g, 4, none⟩ = some (.int .i64 e.off) := hr.cell 4
  have hi0 : (0 : Int) < e.q.length := by omega
  have HM := Lib.hid hM
  clear hrow hM
  generalize hm' : frM e = m at *
  have HM' := Lib.hid hm'
  clear hm'
  rw [hj] at c4
  have HJ := Lib.hid hj
  clear hj hr
  obtain ⟨b', o', e', -⟩ := hIs.2 (by omega)
  subst e'
  have hof : decide ((j : Int) < 0) = false := by simp
  have hmin : decide ((j : Int) + 56 < m.length) = true := by simp; omega
  have hj1 : (j : Int) ≤ ((j : Int) + 56) := by omega
  have hj2 : ((j : Int) + 56) ≤ (C0 : Int) := by omega
  have hj3 : j ≤ j + 56 := by omega
  have hj4 : j + 56 ≤ C0 := by omega
  have hj5 : (j : Int) + 56 < 9223372036854775808 := by omega
  have hjC : j < C0 := by omega
  go_enter Try.func105, Try.ntmps105
  go_wp2
  refine bodyPost_ret (results_tmp2 rfl _ _ _) rfl ?_
  have hB := (hIs.sufB j (by omega)).pre (j + 56 - j) (by omega)
  have hPl : (frP e).length = j + 56 - j := by rw [hP.out, List.length_take, List.length_drop]; omega
  have hSl : frS e = j + 56 := by rw [hS.out]; omega
  refine ⟨some ⟨b', o' + j, none⟩, C0 - j, ?_, ?_, Below.refl _ _⟩
  · rw [hPl, hSl]
    simp
  · rw [hPl, hP.out]
    rwa [show (m.drop j).take (j + 56 - j) = (m.drop j).take 56 by rw [List.take_eq_take_iff, List.length_drop]; omega] at hB
theorem frag_any (g : Nat) (e : LE) (A : Option Addr) (c : Nat) (R : Value) (W : World) (hr : Row W g 155 (BV e (.slice A e.q.length c) R)) (hq : IsM W A e.q.length e.q) (h0 : 0 < e.q.length) (hm : (frM e).length ≤ 1048576) (hoff : e.off = -1 ∨ (52 ≤ e.off ∧ e.off < (frM e).length)) : Calls Try.prog 105 #[.pointer (some ⟨g, 0, none⟩)] W (FrgP e W) := by
  rcases hoff with h | ⟨h1, h2⟩
  · by_cases hl : (frM e).length ≤ 52
    · exact frag_1 g e A c R W hr hq h0 hm h hl
    · exact frag_2 g e A c R W hr hq h0 hm h (by omega)
  · obtain ⟨j, hj⟩ : ∃ j : Nat, e.off = j := ⟨e.off.toNat, by omega⟩
    by_cases hl : (frM e).length ≤ j + 56
    · exact frag_3 g e A c R W hr hq h0 hm j hj (by omega) hl
    · exact frag_4 g e A c R W hr hq h0 hm j hj (by omega) (by omega)
end Go.Proofs.Ythjkhambmgepdaa
