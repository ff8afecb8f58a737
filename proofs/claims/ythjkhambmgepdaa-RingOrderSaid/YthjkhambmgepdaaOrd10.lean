/- RingOrder: the walk of do. -/
import Derived.Test.YthjkhambmgepdaaOrd9
namespace Go.Proofs.Ythjkhambmgepdaa
open Go.RowKit
set_option linter.unusedVariables false
def StoreS (gm : Nat) (ls : List (List Value)) (w0 : World) (c : Nat) (us : Nat → Value) (w' : World) : Prop := (c = 0 → w' = w0) ∧ (1 ≤ c → Upd w0 w' gm ∧ MemL w' gm 40 ls)
def AckS (w : World) (s : St) (c : Nat) (us : Nat → Value) (w' : World) : Prop := Below w.heap.size w w' ∧ (1 ≤ c → PtrAt w.heap.size 27 #[.int .i64 s.N, .int .u64 s.m, .int .u64 s.g] (us 13) w')
theorem ack_inv (s : St) (hc : Cnt s) (w : World) : Calls Try.prog 21 #[.agg #[.int .i64 s.N, .int .u64 s.m, .int .u64 s.a], .int .u16 (IntKind.u16.wrap s.g)] w
    (fun e w' => e = .returned (.tuple #[.agg #[.int .i64 s.N, .int .u64 s.m, .int .u64 s.g], .int .i64 0]) ∧ Below w.heap.size w w') := by
  have h1 := hc.ag
  have h2 := hc.gt
  have h3 := hc.tm
  have h4 := hc.ma
  have h5 := hc.m6
  have n0 := hc.n0
  have n1 := hc.n1
  have hb := u16_bd (s.g : Int)
  have hA := ack_all (n := s.N) (m := s.m) (g := s.g) (a := s.a) (vs_mk ⟨hc.vl, by omega, by omega, by omega, by omega, by omega⟩) h1 (by omega) (by omega)
  refine (acknowledge s.N s.m s.a (IntKind.u16.wrap s.g) (by omega) (by omega) (by omega) hb.1 hb.2 w).mono ?_
  rintro e w' ⟨rfl, hb⟩
  rw [hA.en, hA.es, hA.ea, hA.ee]
  exact ⟨by rw [show (s.a : Int) + ((s.g : Int) - s.a) = s.g by omega], hb⟩
section
variable {P : Program} {K : Act → World → Prop} {Q : Exit → Act → World → Prop} {a : Act} {w : World} {typ : TypeId} {pos : String} {after : Array Edge}
theorem step_mem_store {ty : TypeId} {x y : Operand} {g i off : Nat} {t : TypeId} {ls : List (List Value)} {L : Array Value} (hm : MemL w g t ls) (hi : i < ls.length) (ho : off = 61 * i) (hs : L.size = 61)
    (hn : (P.info? ty).map (·.size) = some 61) (h1 : L.all (·.oneCell') = true) (hx : a.eval x = .pointer (some ⟨g, off, none⟩)) (hy : a.eval y = .agg L)
    (h : ∀ w', Upd w w' g → MemL w' g t (ls.set i L.toList) → K a w') :
    Oper.wp P { dst := none, op := .store ty x y, type := typ, pos := pos, after := after, guard := none } a w K Q := by
  subst ho
  refine wp_store_mid (op := { dst := none, op := .store ty x y, type := typ, pos := pos, after := after, guard := none }) ty x y rfl g (61 * i) L hx hy (by rw [hs]; exact hm.there i hi) (by rw [hs]; exact hn) h1 ?_
  exact h _ (Upd.setCells g _ w _) (hm.setLine i hi L.toList (by simpa using hs))
end
theorem send_one (n s a : Int) : (#[.int .i64 n, .int .u64 s, .int .u64 a] : Array Value).all (·.oneCell') = true := by simp [Value.oneCell']
set_option maxRecDepth 20000 in
set_option maxHeartbeats 8000000 in
theorem walk_do (gp gm : Nat) (s : St) (k : Int) (x : UInt8) (w : World) (h : Inv gp gm s w) (hm : s.m < 600) : Calls Try.prog 29 #[.pointer (some ⟨gp, 0, none⟩), .agg #[.int .i64 k, .int .u8 (x.toNat : Int)]] w (fun e w' => e = .returned (.bool true) ∧ Below gm w w' ∧ ∃ s', Inv gp gm s' w' ∧ s'.m ≤ s.m + 1) := by
  have hgp := h.pair.lt
  have hgpm := h.gmp
  have q0 : 0 ≤ k % 4 := by omega
  have q1 : k % 4 < 4 := by omega
  go_enter Try.func29, Try.ntmps29
  go_upto_region 1 with (fail)
  have r1 := Row.born w 57 #[.int .i64 k, .int .u8 (x.toNat : Int)]
  have hB : Below gm w (w.alloc (.cells #[.int .i64 k, .int .u8 (x.toNat : Int)] 57)) := (Below.refl gm w).alloc (by omega) _
  have hI := h.below (Below.alloc (Below.refl _ w) (Nat.le_refl _) (.cells #[.int .i64 k, .int .u8 (x.toNat : Int)] 57))
  generalize w.heap.size = g1 at *
  generalize w.alloc (.cells #[.int .i64 k, .int .u8 (x.toNat : Int)] 57) = w1 at *
  obtain ⟨⟨d0, d1⟩, f1⟩ := two_cells r1
  clear h
  go_wp2_with fail
  refine (place k 4 (by omega) (by omega) _).mono ?_
  rintro e w9 ⟨rfl, rfl⟩
  rcases (by omega : k % 4 = 0 ∨ k % 4 = 1 ∨ k % 4 = 2 ∨ k % 4 = 3) with hk | hk | hk | hk
  · rw [hk]
    clear hk q0 q1
    go_wp2_with fail
    refine (walk_send gp gm s x _ hI hm).mono ?_
    rintro e w2 ⟨rfl, hB2, s', hJ, hs⟩
    go_wp2
    go_ret
    exact ⟨rfl, hB.trans hB2, s', hJ, hs⟩
  · rw [hk]
    clear hk q0 q1 d0 d1 f1 r1
    go_upto_region 5 with (fail)
    refine wp_region_told (n := 104) (fun w' => w' = w1.drew) (fun _ _ => True) (by kernel_rfl) (by kernel_rfl) (by rfl) rfl ?_
    have hI : Inv gp gm s w1.drew := hI.below (Below.refl _ _).drew
    have hB : Below gm w w1.drew := hB.drew
    generalize w1.drew = w2 at *
    obtain ⟨c0, c1, c2, c3, c4, c5, c6, c7, c8, c9, c10, c11, fz⟩ := hI.cells
    repeat (first | (refine walk_pure (v := ?_) (fun _ => trivial) (fun _ => rfl) ?_ ?_; rotate_left; (focus (intro us w9 hS9 hF; subst hS9; go_simp; (try with_reducible rfl); done)); simp only [Act.put, List.setIfInBounds_toArray, List.set_cons_zero, List.set_cons_succ, Nat.reduceAdd]) | (refine walk_skip (fun _ => trivial) (fun _ => rfl) ?_; simp only [Act.put, List.setIfInBounds_toArray, List.set_cons_zero, List.set_cons_succ, Nat.reduceAdd]))
    refine walk_done fun us w9 hS9 hF => ?_
    subst hS9
    clear hF
    rcases Nat.lt_or_ge s.t s.m with ht | ht
    · have hd : decide ((s.t : Int) < (s.m : Int)) = true := by simp; omega
      go_upto_region 6 with (fail)
      clear c0 c1 c2 c3 c4 c5 c6 c7 c8 c9 c10 c11 fz hd
      have hcn := hI.cnt
      have n0 := hcn.n0
      have hln := hcn.len
      have hbm := hcn.hm
      have h6 := hcn.m6
      have hr : s.t % s.N < s.N := Nat.mod_lt _ (by omega)
      refine wp_region_late (n := 104) [25] (StoreS gm (s.ls.set (s.t % s.N) (ordL s.N s.t (s.bs.getD s.t 0)).toList) w9.drew) (fun _ _ => True) (by kernel_rfl) (by kernel_rfl) (by rfl) (fun c us us' w _ hS => hS) ⟨fun _ => rfl, fun h => by omega⟩ ?_
      have hI : Inv gp gm s w9.drew := hI.below (Below.refl _ _).drew
      have hB : Below gm w w9.drew := hB.drew
      generalize w9.drew = w3 at *
      obtain ⟨c0, c1, c2, c3, c4, c5, c6, c7, c8, c9', c10, c11, fz⟩ := hI.cells
      obtain ⟨bi, hAI, hbi, hbi2⟩ := hI.slots.addr (by omega)
      obtain ⟨bl, hAL, hbl, hbl2⟩ := hI.lines.addr (by omega)
      rw [hAI] at c8
      rw [hAL] at c7
      have ki : w3.cell? ⟨bi, s.t, none⟩ = some (.int .i64 ((s.t % s.N : Nat) : Int)) := by
        have hh := hI.slots
        rw [hAI] at hh
        rw [hh.cellAt s.t (by omega)]
        exact slotsOf_at _ _ _ ht
      have kl : w3.rangeAt bl (s.t * 61) (ordL s.N s.t (s.bs.getD s.t 0)).toList := by
        have hh := hI.lines
        rw [hAL] at hh
        rw [Nat.mul_comm]
        exact hh.lineAt s.t ht hbm
      have hM := hI.mem
      generalize hL : ordL s.N s.t (s.bs.getD s.t 0) = L at *
      have hLs : L.size = 61 := by rw [← hL]; exact ordL_size _ _ _
      have hL1 : L.all (·.oneCell') = true := by rw [← hL]; exact LV_one _ _ _ _ _ _
      generalize hq : s.t % s.N = q at *
      repeat (refine late_pure (by simp) (fun _ => trivial) (v := ?_) (fun _ => rfl) ?_ ?_; rotate_left; (focus (intro c9 us w9 hm9 hS9 hF; have hc9 : c9 = 0 := (by rcases Nat.lt_or_ge c9 1 with h9 | h9; omega; exact absurd hm9 (by rw [mayAt_no (d := 0) (by kernel_rfl) (by omega) (by decide)]; decide)); have e9 := hS9.1 hc9; subst e9; clear hF hS9; go_simp; (try with_reducible rfl); done)); simp only [Act.put, List.setIfInBounds_toArray, List.set_cons_zero, List.set_cons_succ, Nat.reduceAdd])
      refine late_pure (by simp) (fun _ => trivial) (v := .agg L) (fun _ => rfl) ?_ ?_; (focus (intro c9 us w9 hm9 hS9 hF; have hc9 : c9 = 0 := (by rcases Nat.lt_or_ge c9 1 with h9 | h9; omega; exact absurd hm9 (by rw [mayAt_no (d := 0) (by kernel_rfl) (by omega) (by decide)]; decide)); have e9 := hS9.1 hc9; subst e9; exact exec_load_mid (b := bl) (o := s.t * 61) (cs := L.toList) kl Try.underlying40 rfl (by rw [Array.length_toList, hLs]; exact info40) rfl)); simp only [Act.put, List.setIfInBounds_toArray, List.set_cons_zero, List.set_cons_succ, Nat.reduceAdd]
      repeat (refine late_pure (by simp) (fun _ => trivial) (v := ?_) (fun _ => rfl) ?_ ?_; rotate_left; (focus (intro c9 us w9 hm9 hS9 hF; have hc9 : c9 = 0 := (by rcases Nat.lt_or_ge c9 1 with h9 | h9; omega; exact absurd hm9 (by rw [mayAt_no (d := 0) (by kernel_rfl) (by omega) (by decide)]; decide)); have e9 := hS9.1 hc9; subst e9; clear hF hS9; go_simp; (try with_reducible rfl); done)); simp only [Act.put, List.setIfInBounds_toArray, List.set_cons_zero, List.set_cons_succ, Nat.reduceAdd])
      refine late_store rfl ?_ ?_
      · intro us w9 hS9 hF K hK
        have e9 := hS9.1 rfl
        subst e9
        rw [if_pos (by rfl)]
        exact step_mem_store hM (by rw [hln]; exact hr) (Nat.mul_comm _ _) hLs info40 hL1 rfl rfl (fun w' u m => hK w' ⟨fun h => by omega, fun _ => ⟨u, m⟩⟩ trivial)
      simp only [Nat.reduceAdd]
      refine late_done fun us w4 hS4 hF => ?_
      obtain ⟨u4, hM4⟩ := hS4.2 (by omega)
      clear hF hS4 c0 c1 c2 c3 c4 c5 c6 c7 c8 c9' c10 c11 fz ki kl hM hLs hL1 hAI hbi hbi2 hAL hbl hbl2
      have r4 := hI.pair.upd u4 (by omega)
      have k9 := r4.cell 9
      have kf := r4.frozen 9
      simp only [PC] at k9
      go_upto_region 8 with (fail)
      have u5 := Upd.setCell w4 gp 9 (.int .i64 ((s.t : Int) + 1))
      have r5 := r4.set 9 (.int .i64 ((s.t : Int) + 1))
      generalize w4.setCell ⟨gp, 9, none⟩ (.int .i64 ((s.t : Int) + 1)) = w5 at *
      subst hL hq
      have hJ := hI.store ht u4 hM4 u5 (by simpa [PC] using r5)
      have hB5 := Upd.below (Upd.below hB u4 (by omega)) u5 (by omega)
      clear u4 hM4 u5 r4 r5 k9 kf
      go_wp2
      go_ret
      exact ⟨rfl, hB5, _, hJ, Nat.le_succ _⟩
    · have hd : decide ((s.t : Int) < (s.m : Int)) = false := by simp; omega
      go_wp2
      go_ret
      exact ⟨rfl, hB, s, hI, Nat.le_succ _⟩
  · rw [hk]
    clear hk q0 q1 d0 d1 f1 r1
    go_wp2_with fail
    refine (walk_poll gp gm s _ hI).mono ?_
    rintro e w2 ⟨rfl, hB2, s', hJ, hs⟩
    go_wp2
    go_ret
    exact ⟨rfl, hB.trans hB2, s', hJ, hs⟩
  · rw [hk]
    clear hk q0 q1 d0 d1 f1 r1
    have hcn := hI.cnt
    have n0 := hcn.n0
    have n1 := hcn.n1
    have h6 := hcn.m6
    have hgt := hcn.gt
    have htm := hcn.tm
    have hag := hcn.ag
    have hma := hcn.ma
    have hg1 := hI.pair.lt
    have hC := hI.cells
    go_upto_region 11 with (fail)
    refine wp_region_late (n := 104) [14] (AckS w1 s) (Shape w1.heap.size) (by kernel_rfl) (by kernel_rfl) (by rfl) ?_ ⟨below_drewN (Below.refl _ _) 1, fun h => by omega⟩ ?_
    · intro c us us' w' hk hS
      refine ⟨hS.1, fun hc => ?_⟩
      rw [← hk 13 (.inl (mayAt_no (d := 0) (by kernel_rfl) (by omega) (by decide)))]
      exact hS.2 hc
    repeat (refine late_pure (by simp) (Shape.refl _) (v := ?_) (fun _ => rfl) ?_ ?_; rotate_left; (focus (intro c9 us w9 hm9 hS9 hF; have g1 := (hS9.1.cell (p := ⟨gp, 1, none⟩) hg1).trans hC.c1; have g2 := (hS9.1.cell (p := ⟨gp, 2, none⟩) hg1).trans hC.c2; have g3 := (hS9.1.cell (p := ⟨gp, 3, none⟩) hg1).trans hC.c3; have g4 := (hS9.1.cell (p := ⟨gp, 4, none⟩) hg1).trans hC.c4; have g5 := (hS9.1.cell (p := ⟨gp, 5, none⟩) hg1).trans hC.c5; clear hF; go_simp; (try with_reducible rfl); done)); simp only [Act.put, List.setIfInBounds_toArray, List.set_cons_zero, List.set_cons_succ, Nat.reduceAdd])
    refine late_fix (by simp) (v := ?_) ?_ ?_; rotate_left; (focus (intro c9 us w9 hm9 hS9 hF K hK; go_simp; refine (ack_count s.N s.g hcn.vl (by omega) w9).mono ?_; rintro e w' ⟨rfl, hb⟩; exact hK w' ⟨below_next hS9.1 hb, fun hc => (hS9.2 hc).below hb⟩ (Shape.below hb))); simp only [Act.put, List.setIfInBounds_toArray, List.set_cons_zero, List.set_cons_succ, Nat.reduceAdd]
    refine late_fix (by simp) (v := .tuple #[.agg #[.int .i64 s.N, .int .u64 s.m, .int .u64 s.g], .int .i64 0]) ?_ ?_; (focus (intro c9 us w9 hm9 hS9 hF K hK; go_simp; refine (ack_inv s hcn w9).mono ?_; rintro e w' ⟨rfl, hb⟩; exact hK w' ⟨below_next hS9.1 hb, fun hc => (hS9.2 hc).below hb⟩ (Shape.below hb))); simp only [Act.put, List.setIfInBounds_toArray, List.set_cons_zero, List.set_cons_succ, Nat.reduceAdd]
    repeat (refine late_pure (by simp) (Shape.refl _) (v := ?_) (fun _ => rfl) ?_ ?_; rotate_left; (focus (intro c9 us w9 hm9 hS9 hF; have g1 := (hS9.1.cell (p := ⟨gp, 1, none⟩) hg1).trans hC.c1; have g2 := (hS9.1.cell (p := ⟨gp, 2, none⟩) hg1).trans hC.c2; have g3 := (hS9.1.cell (p := ⟨gp, 3, none⟩) hg1).trans hC.c3; have g4 := (hS9.1.cell (p := ⟨gp, 4, none⟩) hg1).trans hC.c4; have g5 := (hS9.1.cell (p := ⟨gp, 5, none⟩) hg1).trans hC.c5; clear hF; go_simp; (try with_reducible rfl); done)); simp only [Act.put, List.setIfInBounds_toArray, List.set_cons_zero, List.set_cons_succ, Nat.reduceAdd])
    refine late_free (by simp) (PtrTo w1.heap.size 27 3) PtrTo.mono ?_ ?_; (focus (intro c9 us w9 hm9 hS9 hF K hK; go_simp; exact hK _ _ ⟨hS9.1.alloc hS9.1.size _, fun hc => (hS9.2 hc).alloc _⟩ (Shape.alloc _ _ _) ⟨w9.heap.size, _, rfl, hS9.1.size, Row.born w9 27 _, rfl⟩)); simp only [Act.put, List.setIfInBounds_toArray, List.set_cons_zero, List.set_cons_succ, Nat.reduceAdd]
    refine late_store rfl ?_ ?_
    · intro us w9 hS9 hF K hK
      obtain ⟨b3, cs, hu, hb3, hr, hn⟩ := hF (13, PtrTo w1.heap.size 27 3) (by simp) (by kernel_rfl)
      simp only [hu] at hK ⊢
      rw [if_pos (by rfl)]
      exact step_store (L := #[.int .i64 s.N, .int .u64 s.m, .int .u64 s.g]) hr hn info27 (send_one _ _ _) rfl rfl (fun w' u' r' => hK w' ⟨Upd.below hS9.1 u' hb3, fun _ => ⟨b3, hu, hb3, r'⟩⟩ (Shape.upd u' hr r' hn))
    simp only [Nat.reduceAdd]
    repeat (refine late_pure (by simp) (Shape.refl _) (v := ?_) (fun _ => rfl) ?_ ?_; rotate_left; (focus (intro c9 us w9 hm9 hS9 hF; have g1 := (hS9.1.cell (p := ⟨gp, 1, none⟩) hg1).trans hC.c1; have g2 := (hS9.1.cell (p := ⟨gp, 2, none⟩) hg1).trans hC.c2; have g3 := (hS9.1.cell (p := ⟨gp, 3, none⟩) hg1).trans hC.c3; have g4 := (hS9.1.cell (p := ⟨gp, 4, none⟩) hg1).trans hC.c4; have g5 := (hS9.1.cell (p := ⟨gp, 5, none⟩) hg1).trans hC.c5; clear hF; go_simp; (try with_reducible rfl); done)); simp only [Act.put, List.setIfInBounds_toArray, List.set_cons_zero, List.set_cons_succ, Nat.reduceAdd])
    refine late_done fun us w2 hS2 hF => ?_
    obtain ⟨b3, hu3, hb3, r3⟩ := hS2.2 (by omega)
    have hB2 := hS2.1
    clear hF hS2 hC
    simp only [hu3]
    have hI := hI.below hB2
    have hBw := hB.trans (hB2.mono (by omega))
    have hC := hI.cells
    obtain ⟨c0, c1, c2, c3, c4, c5, c6, c7, c8, c9, c10, c11, fz⟩ := hC
    obtain ⟨⟨e0, e1, e2⟩, ef⟩ := three_cells r3
    go_upto_region 13 with (fail)
    have u := ((Upd.setCell w2 gp 1 (.int .i64 s.N)).trans (Upd.setCell _ gp 2 (.int .u64 s.m))).trans (Upd.setCell _ gp 3 (.int .u64 s.g))
    have r := ((hI.pair.set 1 (.int .i64 s.N)).set 2 (.int .u64 s.m)).set 3 (.int .u64 s.g)
    generalize ((w2.setCell ⟨gp, 1, none⟩ (.int .i64 s.N)).setCell ⟨gp, 2, none⟩ (.int .u64 s.m)).setCell ⟨gp, 3, none⟩ (.int .u64 s.g) = w3 at *
    have hJ := hI.acked u (by simpa [PC] using r)
    have r3 := r3.upd u (by omega)
    have hB3 := Upd.below hBw u (by omega)
    clear u r e0 e1 e2 ef c0 c1 c2 c3 c4 c5 c6 c7 c8 c9 c10 c11 fz hI hBw hB2
    have hF : Hid (fr s.N s.m s.g = (s.N : Int) - ((s.m : Int) - s.g)) := Lib.hid (by unfold fr; rw [if_pos (vs_mk ⟨hcn.vl, by omega, by omega, by omega, by omega, by omega⟩)])
    refine wp_region_told (n := 104) (fun w' => Below w3.heap.size w3 w') (fun _ _ => True) (by kernel_rfl) (by kernel_rfl) (by rfl) (Below.refl _ _).drew ?_
    obtain ⟨c0, c1, c2, c3, c4, c5, c6, c7, c8, c9, c10, c11, fz⟩ := hJ.cells
    obtain ⟨⟨e0, e1, e2⟩, ef⟩ := three_cells r3
    have hl1 := r3.lt
    have hl2 := hJ.pair.lt
    have hw1 : IntKind.i64.wrap ((s.m : Int) - s.g) = (s.m : Int) - s.g := IntWalk.i64_in _ (by omega)
    have hw2 : IntKind.i64.wrap ((s.N : Int) - ((s.m : Int) - s.g)) = (s.N : Int) - ((s.m : Int) - s.g) := IntWalk.i64_in _ (by omega)
    repeat (refine walk_pure (v := ?_) (fun _ => trivial) (fun _ => rfl) ?_ ?_; rotate_left; (focus (intro us w9 hS9 hF9; have a0 := (hS9.cell (p := ⟨gp, 0, none⟩) hl2).trans c0; have a10 := (hS9.cell (p := ⟨gp, 10, none⟩) hl2).trans c10; have a11 := (hS9.cell (p := ⟨gp, 11, none⟩) hl2).trans c11; have b0 := (hS9.cell (p := ⟨b3, 0, none⟩) hl1).trans e0; have b1 := (hS9.cell (p := ⟨b3, 1, none⟩) hl1).trans e1; have b2 := (hS9.cell (p := ⟨b3, 2, none⟩) hl1).trans e2; clear hF9; go_simp; (try with_reducible rfl); done)); simp only [Act.put, List.setIfInBounds_toArray, List.set_cons_zero, List.set_cons_succ, Nat.reduceAdd])
    refine walk_fix (v := .int .i64 ((s.N : Int) - ((s.m : Int) - s.g))) ?_ ?_; (focus (intro us w9 hS9 hF9 K hK; go_simp; refine (free _ _ _ (by omega) (by omega) (by omega) w9).mono ?_; rintro e w' ⟨rfl, hb⟩; rw [hF.out]; exact hK w' (below_next hS9 hb) trivial)); simp only [Act.put, List.setIfInBounds_toArray, List.set_cons_zero, List.set_cons_succ, Nat.reduceAdd]
    repeat (refine walk_pure (v := ?_) (fun _ => trivial) (fun _ => rfl) ?_ ?_; rotate_left; (focus (intro us w9 hS9 hF9; have a0 := (hS9.cell (p := ⟨gp, 0, none⟩) hl2).trans c0; have a10 := (hS9.cell (p := ⟨gp, 10, none⟩) hl2).trans c10; have a11 := (hS9.cell (p := ⟨gp, 11, none⟩) hl2).trans c11; have b0 := (hS9.cell (p := ⟨b3, 0, none⟩) hl1).trans e0; have b1 := (hS9.cell (p := ⟨b3, 1, none⟩) hl1).trans e1; have b2 := (hS9.cell (p := ⟨b3, 2, none⟩) hl1).trans e2; clear hF9; go_simp; (try with_reducible rfl); done)); simp only [Act.put, List.setIfInBounds_toArray, List.set_cons_zero, List.set_cons_succ, Nat.reduceAdd])
    refine walk_done fun us w9 hS9 hF9 => ?_
    clear hF9 c0 c1 c2 c3 c4 c5 c6 c7 c8 c9 c10 c11 fz e0 e1 e2 ef hw1 hw2 hF
    go_wp2
    go_ret
    exact ⟨rfl, hB3.trans (hS9.mono (by omega)), _, hJ.below hS9, Nat.le_succ _⟩
end Go.Proofs.Ythjkhambmgepdaa
