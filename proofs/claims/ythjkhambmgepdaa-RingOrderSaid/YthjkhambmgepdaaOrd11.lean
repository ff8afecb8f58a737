/- RingOrder: the walk of the law. -/
import Derived.Test.YthjkhambmgepdaaOrd10
namespace Go.Proofs.Ythjkhambmgepdaa
open Go.RowKit
set_option linter.unusedVariables false
/-- What is known of a slice of steps that came in. -/
def IsSteps (w : World) (A : Option Addr) (n : Nat) : Prop := ∀ i, i < n → ∃ (b o : Nat) (k : Int) (x : UInt8), A = some ⟨b, o, none⟩ ∧ w.cell? ⟨b, o + i * 2, none⟩ = some (.int .i64 k) ∧ w.cell? ⟨b, o + i * 2 + 1, none⟩ = some (.int .u8 (x.toNat : Int))
/-- A new Pair. -/
def PairS (w0 : World) (N : Nat) (c : Nat) (us : Nat → Value) (w' : World) : Prop :=
  (c = 0 → w' = w0) ∧ (1 ≤ c → us 4 = .slice (some ⟨w0.heap.size, 0, none⟩) N N) ∧ (1 ≤ c → c < 3 → MemL w' w0.heap.size 40 (List.replicate N ZL.toList) ∧ Below w0.heap.size w0 w') ∧
  (2 ≤ c → us 5 = .agg (PC N 0 0 0 0 w0.heap.size (.slice none 0 0) (.slice none 0 0) (.slice none 0 0) (.slice none 0 0))) ∧
  (3 ≤ c → ∃ gp, us 6 = .pointer (some ⟨gp, 0, none⟩) ∧ (4 ≤ c → us 7 = .pointer (some ⟨gp, 0, none⟩)) ∧ w0.heap.size < gp ∧ Row w' gp 54 (PC N 0 0 0 0 w0.heap.size (.slice none 0 0) (.slice none 0 0) (.slice none 0 0) (.slice none 0 0)) ∧ MemL w' w0.heap.size 40 (List.replicate N ZL.toList) ∧ Below w0.heap.size w0 w')
theorem PairS.loc {w0 : World} {N : Nat} {ops : Array Oper} : ∀ c us us' w, (∀ k, mayAt ops [4, 5, 6, 7] c k = false ∨ k ∈ [4, 5, 6, 7].take c → us k = us' k) → PairS w0 N c us w → PairS w0 N c us' w := by
  intro c us us' w hk ⟨h0, h1, h2, h3, h4⟩
  refine ⟨h0, fun hc => ?_, h2, fun hc => ?_, fun hc => ?_⟩
  · rw [← hk 4 (.inr (by obtain ⟨k, rfl⟩ : ∃ k, c = k + 1 := ⟨c - 1, by omega⟩; simp))]
    exact h1 hc
  · rw [← hk 5 (.inr (by obtain ⟨k, rfl⟩ : ∃ k, c = k + 2 := ⟨c - 2, by omega⟩; simp))]
    exact h3 hc
  · obtain ⟨gp, q1, q2, q3⟩ := h4 hc
    refine ⟨gp, ?_, fun h => ?_, q3⟩
    · rw [← hk 6 (.inr (by obtain ⟨k, rfl⟩ : ∃ k, c = k + 3 := ⟨c - 3, by omega⟩; simp))]
      exact q1
    · rw [← hk 7 (.inr (by obtain ⟨k, rfl⟩ : ∃ k, c = k + 4 := ⟨c - 4, by omega⟩; simp))]
      exact q2 h
theorem PairS.early {w0 : World} {N c : Nat} {us : Nat → Value} {w' : World} (h : PairS w0 N c us w') (hc : c < 2) : Below w0.heap.size w0 w' := by
  rcases (show c = 0 ∨ c = 1 by omega) with h0 | h1
  · rw [h.1 h0]; exact Below.refl _ _
  · exact (h.2.2.1 (by omega) (by omega)).2
section
variable {P : Program} {K : Act → World → Prop} {Q : Exit → Act → World → Prop} {a : Act} {w : World} {dst : Option Tmp} {typ : TypeId} {pos : String} {after : Array Edge}
theorem step_make_lines {t e : TypeId} {zv : Value} {bytes : Nat} {l c : Operand} {kl kc : IntKind} {L C : Int} (n : Nat) (z : Array Value) (hz : z.size = 61) (ht : P.underlying t = some (.slice e))
    (hinfo : (P.info? e).map (fun i => (i.zero, i.size, i.bytes)) = some (some zv, 61, bytes)) (hz1 : zv.cells = z) (hb : bytes * n ≤ 281474976710656) (h63 : n ≤ 9223372036854775807)
    (hl : a.eval l = .int kl L) (hc : a.eval c = .int kc C) (hL : L = (n : Int)) (hC : C = (n : Int))
    (h : ∀ w', MemL w' w.heap.size e (List.replicate n z.toList) → Below w.heap.size w w' → K (a.put dst (.slice (some ⟨w.heap.size, 0, none⟩) n n)) w') :
    Oper.wp P { dst := dst, op := .makeSlice t l c, type := typ, pos := pos, after := after, guard := none } a w K Q := by
  subst hL
  subst hC
  obtain ⟨i, hi, hzz⟩ := Option.map_eq_some_iff.1 hinfo
  simp only [Prod.mk.injEq] at hzz
  obtain ⟨hz0, hz2, hz3⟩ := hzz
  have hb' : (i.bytes : Int) * (n : Int) ≤ 281474976710656 := by
    have h : ((i.bytes * n : Nat) : Int) ≤ 281474976710656 := by rw [hz3]; omega
    rwa [Int.natCast_mul] at h
  have hrun := run_make (P := P) w t e i zv ht hi hz0 kl kc n n (by omega) (Int.le_refl _) hb' (by omega)
  simp only [Int.toNat_natCast, hz2, hz1] at hrun
  rw [made_flat z hz n] at hrun
  unfold Oper.wp
  simp [execOp, hl, hc, hrun, Result.andThen]
  refine h _ ⟨Row.born _ _ _, fun l hl => ?_⟩ ((Below.refl _ _).alloc (Nat.le_refl _) _)
  rw [(List.mem_replicate.1 hl).2]
  simpa using hz
end
theorem Inv.new {gp gm N : Nat} {w : World} (hv : vl N = true) (n0 : 2 ≤ N) (n1 : N ≤ 64) (hr : Row w gp 54 (PC N 0 0 0 0 gm (.slice none 0 0) (.slice none 0 0) (.slice none 0 0) (.slice none 0 0))) (hM : MemL w gm 40 (List.replicate N ZL.toList)) (hg : gm < gp) :
    Inv gp gm ⟨N, 0, 0, 0, 0, [], List.replicate N ZL.toList, none, none, none, none, 0, 0, 0, 0⟩ w :=
  have far : ∀ y, Far (Value.slice none 0 0).ownBlock y := fun y k hk => by cases hk
  ⟨⟨hv, n0, n1, by simp, rfl, Nat.le_refl _, Nat.le_refl _, Nat.le_refl _, Nat.zero_le _, Nat.zero_le _, fun j h1 h2 => absurd h1 (Nat.not_lt_zero j), fun k h1 h2 => by simp only; rw [List.getElem?_replicate, if_pos h2]⟩,
    hr, hM, OwnR.nil _ _ _ _, OwnR.nil _ _ _ _, OwnR.nil _ _ _ _, OwnR.nil _ _ _ _, far _, far _, far _, far _, far _, far _, hg⟩
set_option maxRecDepth 20000 in
set_option maxHeartbeats 8000000 in
theorem walk_order (W : World) (l : Int) (A : Option Addr) (n c : Nat) (hl : (Lit.int .i64 l).wf = true) (hs : IsSteps W A n) : Calls Try.prog 5 #[.int .i64 l, .slice A n c] W (True1 W) := by
  have p0 : 0 ≤ l % 6 := by omega
  have p1 : l % 6 ≤ 5 := by omega
  clear hl
  go_enter Try.func5, Try.ntmps5
  go_wp2_with fail
  refine (place _ _ (by omega) (by omega) _).mono ?_
  rintro e w' ⟨rfl, rfl⟩
  generalize l % 6 = p at *
  go_upto_region 2 with (fail)
  obtain ⟨N, hn, hvl, n0, n1⟩ := lines_of p p0 p1
  rw [hn]
  obtain ⟨N, rfl⟩ : ∃ M : Nat, N = (M : Int) := ⟨N.toNat, by omega⟩
  clear hn p0 p1
  have n0 : 2 ≤ N := by omega
  have n1 : N ≤ 64 := by omega
  have es1 : nsN N = N := if_pos hvl
  have es2 : nsE N = 0 := if_pos hvl
  go_upto_region 3 with (go_at_call 27; refine (new_sender _ _).mono ?_; rintro e w1 ⟨rfl, hB1⟩; rw [es1, es2])
  have r1 := Row.born w1 27 #[.int .i64 (N : Int), .int .u64 0, .int .u64 0]
  have hB2 := hB1.alloc hB1.size (.cells #[.int .i64 (N : Int), .int .u64 0, .int .u64 0] 27)
  have hg1 := hB1.size
  generalize hw2 : w1.alloc (.cells #[.int .i64 (N : Int), .int .u64 0, .int .u64 0] 27) = w2 at *
  generalize w1.heap.size = g1 at *
  clear hB1
  go_upto_region 4 with (go_at_call 28; refine (new_receiver _ hvl _).mono ?_; rintro e w3 ⟨rfl, hB3⟩)
  have r1 := r1.below hB3 r1.lt
  have hB3 := hB2.trans (hB3.mono hB2.size)
  have hl1 := r1.lt
  have r2 := Row.born w3 35 #[.int .i64 (N : Int), .int .u64 0]
  have r1 := r1.alloc (.cells #[.int .i64 (N : Int), .int .u64 0] 35)
  have hB4 := hB3.alloc hB3.size (.cells #[.int .i64 (N : Int), .int .u64 0] 35)
  have hg2 := hB3.size
  generalize hw4 : w3.alloc (.cells #[.int .i64 (N : Int), .int .u64 0] 35) = w4 at *
  generalize w3.heap.size = g2 at *
  clear hB3
  refine wp_region_late (n := 63) [4, 5, 6, 7] (PairS w4.drew N) (fun _ _ => True) (by kernel_rfl) (by kernel_rfl) (by rfl) PairS.loc ⟨fun _ => rfl, fun h => by omega, fun h => by omega, fun h => by omega, fun h => by omega⟩ ?_
  have r1 : Row w4.drew g1 27 #[.int .i64 (N : Int), .int .u64 0, .int .u64 0] := r1
  have r2 : Row w4.drew g2 35 #[.int .i64 (N : Int), .int .u64 0] := r2
  have hB4 : Below W.heap.size W w4.drew := hB4.drew
  generalize w4.drew = w5 at *
  clear hw2 hw4
  obtain ⟨⟨c0, c1, c2⟩, f1⟩ := three_cells r1
  obtain ⟨⟨d0, d1⟩, f2⟩ := two_cells r2
  have hl1 := r1.lt
  have hl2 := r2.lt
  refine late_pure (by simp) (fun _ => trivial) (v := ?_) (fun _ => rfl) ?_ ?_; rotate_left; (focus (intro c9 us w9 hm9 hS9 hF; clear hF; go_simp; (try with_reducible rfl); done)); simp only [Act.put, List.setIfInBounds_toArray, List.set_cons_zero, List.set_cons_succ, Nat.reduceAdd]
  refine late_pure (by simp) (fun _ => trivial) (v := ?_) (fun _ => rfl) ?_ ?_; rotate_left; (focus (intro c9 us w9 hm9 hS9 hF; have hc9 : c9 < 2 := (by rcases Nat.lt_or_ge c9 2 with h9 | h9; exact h9; exact absurd hm9 (by rw [mayAt_no (d := 1) (by kernel_rfl) (by omega) (by decide)]; decide)); have a0 := ((hS9.early hc9).cell (p := ⟨g1, 0, none⟩) hl1).trans c0; have a1 := ((hS9.early hc9).cell (p := ⟨g1, 1, none⟩) hl1).trans c1; have a2 := ((hS9.early hc9).cell (p := ⟨g1, 2, none⟩) hl1).trans c2; clear hF; go_simp; (try with_reducible rfl); done)); simp only [Act.put, List.setIfInBounds_toArray, List.set_cons_zero, List.set_cons_succ, Nat.reduceAdd]
  refine late_pure (by simp) (fun _ => trivial) (v := ?_) (fun _ => rfl) ?_ ?_; rotate_left; (focus (intro c9 us w9 hm9 hS9 hF; have hc9 : c9 < 2 := (by rcases Nat.lt_or_ge c9 2 with h9 | h9; exact h9; exact absurd hm9 (by rw [mayAt_no (d := 1) (by kernel_rfl) (by omega) (by decide)]; decide)); have a0 := ((hS9.early hc9).cell (p := ⟨g2, 0, none⟩) hl2).trans d0; have a1 := ((hS9.early hc9).cell (p := ⟨g2, 1, none⟩) hl2).trans d1; clear hF; go_simp; (try with_reducible rfl); done)); simp only [Act.put, List.setIfInBounds_toArray, List.set_cons_zero, List.set_cons_succ, Nat.reduceAdd]
  refine late_pure (by simp) (fun _ => trivial) (v := ?_) (fun _ => rfl) ?_ ?_; rotate_left; (focus (intro c9 us w9 hm9 hS9 hF; clear hF; go_simp; (try with_reducible rfl); done)); simp only [Act.put, List.setIfInBounds_toArray, List.set_cons_zero, List.set_cons_succ, Nat.reduceAdd]
  refine late_chain (by simp) ?_ ?_
  · intro us w9 hS9 hF K hK
    obtain rfl := hS9.1 rfl
    rw [if_pos (by rfl)]
    exact step_make_lines N ZL zl_len Try.underlying36 info_line rfl (by omega) (by omega) rfl rfl rfl rfl (fun w' m hb => hK _ _ ⟨fun h => by omega, fun _ => if_pos rfl, fun _ _ => ⟨m, hb⟩, fun h => by omega, fun h => by omega⟩ trivial)
  simp only [Act.put, List.setIfInBounds_toArray, List.set_cons_zero, List.set_cons_succ, Nat.reduceAdd]
  refine late_chain (by simp) ?_ ?_
  · intro us w9 hS9 hF K hK
    have hu := hS9.2.1 (by omega)
    simp only [hu] at hK ⊢
    go_simp
    exact hK _ _ ⟨fun h => by omega, fun _ => by simpa using hu, fun _ _ => hS9.2.2.1 (by omega) (by omega), fun _ => if_pos rfl, fun h => by omega⟩ trivial
  simp only [Act.put, List.setIfInBounds_toArray, List.set_cons_zero, List.set_cons_succ, Nat.reduceAdd]
  refine late_chain (by simp) ?_ ?_
  · intro us w9 hS9 hF K hK
    have hu4 := hS9.2.1 (by omega)
    have hu := hS9.2.2.2.1 (by omega)
    have hm := hS9.2.2.1 (by omega) (by omega)
    simp only [hu4, hu] at hK ⊢
    go_simp
    exact hK _ _ ⟨fun h => by omega, fun _ => by simpa using hu4, fun _ h => by omega, fun _ => by simpa using hu, fun _ => ⟨w9.heap.size, if_pos rfl, fun h => by omega, hm.1.lt, Row.born _ _ _, hm.1.alloc _, hm.2.alloc hm.2.size _⟩⟩ trivial
  simp only [Act.put, List.setIfInBounds_toArray, List.set_cons_zero, List.set_cons_succ, Nat.reduceAdd]
  refine late_chain (by simp) ?_ ?_
  · intro us w9 hS9 hF K hK
    have hu4 := hS9.2.1 (by omega)
    have hu5 := hS9.2.2.2.1 (by omega)
    obtain ⟨gp, hu, _, q3, q4, q5, q6⟩ := hS9.2.2.2.2 (by omega)
    simp only [hu4, hu5, hu] at hK ⊢
    go_simp
    exact hK _ _ ⟨fun h => by omega, fun _ => by simpa using hu4, fun _ h => by omega, fun _ => by simpa using hu5, fun _ => ⟨gp, by simpa using hu, fun _ => if_pos rfl, q3, q4, q5, q6⟩⟩ trivial
  simp only [Act.put, List.setIfInBounds_toArray, List.set_cons_zero, List.set_cons_succ, Nat.reduceAdd]
  refine late_done fun us w6 hS6 hF => ?_
  obtain ⟨gp, hu6, hu7, hgg, hrp, hMp, hBp⟩ := hS6.2.2.2.2 (by omega)
  have hu7 := hu7 (by omega)
  have hu4 := hS6.2.1 (by omega)
  have hu5 := hS6.2.2.2.1 (by omega)
  simp only [hu4, hu5, hu6, hu7]
  have hI := Inv.new hvl n0 n1 hrp hMp hgg
  have hB6 := hB4.trans (hBp.mono hB4.size)
  have hgW := hB4.size
  generalize w5.heap.size = gm at *
  clear hu4 hu5 hu6 hu7 hF hS6 c0 c1 c2 f1 d0 d1 f2 r1 r2 hB4 hBp hrp hMp
  go_wp2
  go_loopw [11, 12] (fun okv i wr => okv = .bool true ∧ ∃ (k : Nat) (s : St), k ≤ n ∧ k ≤ 600 ∧ i = .int .i64 k ∧ Inv gp gm s wr ∧ s.m ≤ k ∧ Below W.heap.size W wr) (fun _ i _ => n - (intOf i).toNat)
  case atStart => exact ⟨rfl, 0, _, by omega, by omega, rfl, hI, Nat.le_refl _, hB6⟩
  case round =>
    clear hI hB6
    obtain ⟨rfl, k, s, hkn, hk6, rfl, hI, hsm, hB⟩ := hrel
    rcases Nat.lt_or_ge k n with hk | hk
    · have hd1 : decide (k < n) = true := by simp; omega
      rcases Nat.lt_or_ge k 600 with hk2 | hk2
      · have hd2 : decide ((k : Int) < 600) = true := by simp; omega
        obtain ⟨b, o, kd, x, rfl, e0, e1⟩ := hs k hk
        have a0 := (hB.cell (p := ⟨b, o + k * 2, none⟩) (block_lt_of_cell e0)).trans e0
        have a1 := (hB.cell (p := ⟨b, o + k * 2 + 1, none⟩) (block_lt_of_cell e1)).trans e1
        go_wp2_with fail
        refine (walk_do gp gm s kd x _ hI (by omega)).mono ?_
        rintro e w7 ⟨rfl, hB7, s', hJ, hs'⟩
        have hB7 := hB.trans (hB7.mono hgW)
        clear hI hB a0 a1 e0 e1 hd1 hd2
        go_wp2
        exact ⟨⟨rfl, k + 1, s', by omega, by omega, by go_num, hJ, by omega, hB7⟩, by simp [intOf]; omega⟩
      · have hd2 : decide ((k : Int) < 600) = false := by simp; omega
        go_wp2_with (go_at_call 23; refine (awake19 _).mono ?_; rintro e w5 ⟨rfl, hb5⟩)
        go_ret
        exact ⟨rfl, hB.trans (hb5.mono hB.size)⟩
    · have hd1 : decide (k < n) = false := by simp; omega
      go_wp2_with (go_at_call 23; refine (awake19 _).mono ?_; rintro e w5 ⟨rfl, hb5⟩)
      go_ret
      exact ⟨rfl, hB.trans (hb5.mono hB.size)⟩
end Go.Proofs.Ythjkhambmgepdaa
