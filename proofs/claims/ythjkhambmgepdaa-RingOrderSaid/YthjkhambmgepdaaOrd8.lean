/- RingOrder: the walk of send. -/
import Derived.Test.YthjkhambmgepdaaOrd7
import Derived.IntWalk
namespace Go.Proofs.Ythjkhambmgepdaa
open Go.RowKit
set_option linter.unusedVariables false
set_option maxRecDepth 20000 in
set_option maxHeartbeats 8000000 in
theorem send_young (gp gm : Nat) (s : St) (x : UInt8) (w : World) (h : Inv gp gm s w) (hm : s.m < 600) (hlt : s.m < s.a + s.N) (hN : s.m < s.N) : Calls Try.prog 92 #[.pointer (some ⟨gp, 0, none⟩), .int .u8 (x.toNat : Int)] w (fun e w' => e = .returned (.bool true) ∧ Below gm w w' ∧ ∃ s', Inv gp gm s' w' ∧ s'.m ≤ s.m + 1) := by
  have hc := h.cnt
  have n0 := hc.n0
  have n1 := hc.n1
  have ham : s.a ≤ s.m := by have := hc.ag; have := hc.gt; have := hc.tm; omega
  have hma := hc.ma
  have hgp := h.pair.lt
  have hgpm := h.gmp
  have HV : Hid (vs s.N s.m s.a = true) := Lib.hid (vs_mk ⟨hc.vl, by omega, by omega, by omega, by omega, by omega⟩)
  obtain ⟨c0, c1, c2, c3, c4, c5, c6, c7, c8, c9, c10, c11, fz⟩ := h.cells
  have hfr : Hid (fr s.N s.m s.a = (s.N : Int) - ((s.m : Int) - s.a)) := Lib.hid (by unfold fr; rw [if_pos HV.out])
  have hf : Hid ((fr s.N s.m s.a == 0) = false) := Lib.hid (by rw [hfr.out]; simp; omega)
  have HB : Hid (IsB (w.alloc (.cells #[.int .u8 (x.toNat : Int)] 5)) (some ⟨w.heap.size, 0, none⟩) 1 [x]) := Lib.hid (IsB.of_row (bs := [x]) (Row.born w 5 _))
  go_enter Try.func92, Try.ntmps92
  go_wp2_with fail
  refine (send_ok s.N s.m s.a 0 (some ⟨w.heap.size, 0, none⟩) 1 1 false [x] (by omega) (by omega) HV.out (by omega) hf.out (by omega) _ HB.out).mono ?_
  rintro e w1 ⟨rfl, hb⟩
  obtain ⟨_, hz1, hB1⟩ := one_new hb
  clear hb HB
  have c0 := (hB1.cell (p := ⟨gp, 0, none⟩) hgp).trans c0
  go_upto_region 2 with ((with_reducible refine wp_row_store (L := LV 1 (ep s.N s.m) false ((1 : Nat) : Int) 0 ([x] ++ z56.drop 1)) (Row.bornAt (g := w1.heap.size + 1) (by simp) _ _) ?_ (line_info _ _ _ _ _ (len_pay rfl (by omega))) (LV_one _ _ _ _ _ _) ?_ ?_ ?_); rfl; rfl; rfl; intro w3 u3 r4; have r3 : Row w3 w1.heap.size 27 #[.int .i64 s.N, .int .u64 ((s.m : Int) + 1), .int .u64 s.a] := ((Row.born w1 27 _).alloc _).upd u3 (by omega))
  have hB3 := Upd.below ((hB1.alloc hB1.size _).alloc (by have := hB1.size; simp; omega) _) u3 (by have := hB1.size; omega)
  have hri : (s.m : Int) % (s.N : Int) = ((s.m % s.N : Nat) : Int) := by simp
  rw [hri]
  have hrN : s.m % s.N < s.N := Nat.mod_lt _ (by omega)
  generalize hr : s.m % s.N = r at *
  have hgt : w.heap.size ≤ w1.heap.size := hB1.size
  generalize w1.heap.size = g1 at *
  clear c0 c1 c2 c3 c4 c5 c6 c7 c8 c9 c10 c11 fz u3 hri hB1 hz1 hf
  obtain ⟨c0, c1, c2, c3, c4, c5, c6, c7, c8, c9, c10, c11, fz⟩ := (h.below hB3).cells
  go_wp2_with fail
  refine (free _ _ _ (by omega) (by omega) (by omega) _).mono ?_
  rintro e w4 ⟨rfl, hb⟩
  rw [hfr.out]
  have hl4 := r4.lt
  have r3 := r3.below hb r3.lt
  have r4 := r4.below hb r4.lt
  have hB4 := hB3.trans (hb.mono hB3.size)
  clear c0 c1 c2 c3 c4 c5 c6 c7 c8 c9 c10 c11 fz hB3 hb hfr
  obtain ⟨c0, c1, c2, c3, c4, c5, c6, c7, c8, c9, c10, c11, fz⟩ := (h.below hB4).cells
  go_upto_region 6 with (fail)
  refine wp_region_told (n := 114) (fun w' => w' = w4.drew) (fun _ _ => True) (by kernel_rfl) (by kernel_rfl) (by rfl) rfl ?_
  have hB4 : Below w.heap.size w w4.drew := hB4.drew
  have r3 : Row w4.drew g1 27 #[.int .i64 s.N, .int .u64 ((s.m : Int) + 1), .int .u64 s.a] := r3
  have r4 : Row w4.drew (g1 + 1) 40 (LV 1 (ep s.N s.m) false ((1 : Nat) : Int) 0 ([x] ++ z56.drop 1)) := r4
  clear c0 c1 c2 c3 c4 c5 c6 c7 c8 c9 c10 c11 fz
  generalize w4.drew = w5 at *
  obtain ⟨c0, c1, c2, c3, c4, c5, c6, c7, c8, c9, c10, c11, fz⟩ := (h.below hB4).cells
  have hag := hc.ag
  have hd3 : decide ((s.g : Int) < (s.m : Int) - s.N + 1) = false := by simp; omega
  have hw1 : IntKind.i64.wrap ((s.m : Int) - s.N) = (s.m : Int) - s.N := IntWalk.i64_in _ (by omega)
  have hw2 : IntKind.i64.wrap ((s.m : Int) - s.N + 1) = (s.m : Int) - s.N + 1 := IntWalk.i64_in _ (by omega)
  have hd : decide (s.N ≤ s.m) = false := by simp; omega
  repeat (first | (refine walk_pure (v := ?_) (fun _ => trivial) (fun _ => rfl) ?_ ?_; rotate_left; (focus (intro us w9 hS9 hF; subst hS9; go_simp; (try with_reducible rfl); done)); simp only [Act.put, List.setIfInBounds_toArray, List.set_cons_zero, List.set_cons_succ, Nat.reduceAdd]) | (refine walk_skip (fun _ => trivial) (fun _ => rfl) ?_; simp only [Act.put, List.setIfInBounds_toArray, List.set_cons_zero, List.set_cons_succ, Nat.reduceAdd]))
  refine walk_done fun us w9 hS9 hF => ?_
  subst hS9
  clear hF hN hd
  obtain ⟨⟨e0, e1, e2⟩, ef⟩ := three_cells r3
  go_upto_region 9 with (fail)
  have P := (h.below hB4).p4
  have u := ((Upd.setCell w9 gp 1 (.int .i64 s.N)).trans (Upd.setCell _ gp 2 (.int .u64 ((s.m : Int) + 1)))).trans (Upd.setCell _ gp 3 (.int .u64 s.a))
  have r := ((P.pair.set 1 (.int .i64 s.N)).set 2 (.int .u64 ((s.m : Int) + 1))).set 3 (.int .u64 s.a)
  generalize ((w9.setCell ⟨gp, 1, none⟩ (.int .i64 s.N)).setCell ⟨gp, 2, none⟩ (.int .u64 ((s.m : Int) + 1))).setCell ⟨gp, 3, none⟩ (.int .u64 s.a) = w6 at *
  have P := P.set (m' := s.m + 1) (a' := s.a) (g' := s.g) (t' := s.t) u (by simpa [PC] using r)
  have r4 := r4.upd u (by omega)
  have hB := Upd.below (hB4.mono (by omega : gm ≤ w.heap.size)) u (by omega)
  clear u r r3 e0 e1 e2 ef c0 c1 c2 c3 c4 c5 c6 c7 c8 c9 c10 c11 fz hd3 hw1 hw2 hB4
  have k := P.pair.cell 10
  have kf := P.pair.frozen
  simp only [PC] at k
  have hg6 := P.pair.lt
  have hgl := r4.lt
  go_upto_region 10 with ((at_builtin; (refine wp_append_one (P := Try.prog) (news := [.int .u8 (x.toNat : Int)]) Try.underlying44 info_u8 rfl (by omega) (P.sent.alloc _) (Row.born _ _ _) rfl (by simp [Value.oneCell']) (by omega) (by omega) (by simp; omega) rfl rfl ?_); intro A1 k1 w7 h2 h3 h5; have q := (P.pair.alloc (.cells #[.int .u8 (x.toNat : Int)] 5)).kept h3 (P.sent.far (by omega)); have q10 := q.cell 10; have qf := q.frozen 10; simp only [PC] at q10))
  have u := Upd.setCell w7 gp 10 (.slice A1 (s.m + 1) k1)
  have r := q.set 10 (.slice A1 (s.m + 1) k1)
  generalize w7.setCell ⟨gp, 10, none⟩ (.slice A1 (s.m + 1) k1) = w8 at *
  have hB := below_grow hB hgpm hg6 P.sent h3 u
  have r4 := ((r4.alloc _).kept h3 (fun z hz hz2 => by have hz3 := (h.sent.ge z hz).2; injection hz2 with hz2; omega)).upd u (by omega)
  have P := P.growB h2 h3 (by simpa using h5) u (by simpa [PC] using r)
  clear u r q q10 qf h2 h3 h5 k kf hg6 hgl
  have k := P.pair.cell 8
  have kf := P.pair.frozen
  simp only [PC] at k
  have hg6 := P.pair.lt
  have hgl := r4.lt
  go_upto_region 11 with ((at_builtin; (refine wp_append_one (P := Try.prog) (news := [.int .i64 ((r : Nat) : Int)]) Try.underlying52 info_i64 rfl (by omega) (P.slots.alloc _) (Row.born _ _ _) rfl (by simp [Value.oneCell']) (by omega) (by omega) (by simp; omega) rfl rfl ?_); intro A2 k2 w10 h2 h3 h5; have q := (P.pair.alloc (.cells #[.int .i64 ((r : Nat) : Int)] 3)).kept h3 (P.slots.far (by omega)); have q8 := q.cell 8; have qf := q.frozen 8; simp only [PC] at q8))
  have u := Upd.setCell w10 gp 8 (.slice A2 (s.m + 1) k2)
  have r := q.set 8 (.slice A2 (s.m + 1) k2)
  generalize w10.setCell ⟨gp, 8, none⟩ (.slice A2 (s.m + 1) k2) = w11 at *
  have hB := below_grow hB hgpm hg6 P.slots h3 u
  have r4 := ((r4.alloc _).kept h3 (fun z hz hz2 => by have hz3 := (h.slots.ge z hz).2; injection hz2 with hz2; omega)).upd u (by omega)
  have P := P.growI h2 h3 (by simpa using h5) u (by simpa [PC] using r)
  clear u r q q8 qf h2 h3 h5 k kf hg6 hgl
  refine wp_region_late (n := 114) [6, 7, 10] (AppS gp (gp + 1) 40 61 s.AL s.m s.cL (flat (linesOf s.N s.bs)) (ordL s.N s.m x) (fun v => PC s.N (s.m + 1) s.a s.g s.t gm v (.slice A2 (s.m + 1) k2) (.slice A1 (s.m + 1) k1) (.slice s.AT s.g s.cT)) w11.drew 6 7) (fun _ _ => True) (by kernel_rfl) (by kernel_rfl) (by rfl) AppS.loc AppS.zero ?_
  have P := P.below (Below.refl _ _).drew
  have r4 : Row w11.drew (g1 + 1) 40 (ordL s.N s.m x) := r4
  have hB : Below gm w w11.drew := hB.drew
  generalize w11.drew = w12 at *
  have hg6 := P.pair.lt
  have hlen : (ordL s.N s.m x).size = 61 := ordL_size _ _ _
  repeat (refine late_pure (by simp) (fun _ => trivial) (v := ?_) (fun _ => rfl) ?_ ?_; rotate_left; (focus (intro c9 us w9 hm9 hS9 hF; clear hF; go_simp; (try with_reducible rfl); done)); simp only [Act.put, List.setIfInBounds_toArray, List.set_cons_zero, List.set_cons_succ, Nat.reduceAdd])
  refine late_pure (by simp) (fun _ => trivial) (v := ?_) (fun _ => rfl) ?_ ?_; rotate_left; (focus (intro c9 us w9 hm9 hS9 hF; have hc9 : c9 < 2 := (by rcases Nat.lt_or_ge c9 2 with h9 | h9; exact h9; exact absurd hm9 (by rw [mayAt_no (d := 1) (by kernel_rfl) (by omega) (by decide)]; decide)); have g7 := (hS9.early hc9 P.pair).cell 7; simp only [PC] at g7; clear hF; go_simp; (try with_reducible rfl); done)); simp only [Act.put, List.setIfInBounds_toArray, List.set_cons_zero, List.set_cons_succ, Nat.reduceAdd]
  refine late_pure (by simp) (fun _ => trivial) (v := .agg (ordL s.N s.m x)) (fun _ => rfl) ?_ ?_; (focus (intro c9 us w9 hm9 hS9 hF; have hc9 : c9 < 1 := (by rcases Nat.lt_or_ge c9 1 with h9 | h9; exact h9; exact absurd hm9 (by rw [mayAt_no (d := 0) (by kernel_rfl) (by omega) (by decide)]; decide)); exact exec_load_row (hS9.early (by omega) r4) Try.underlying40 rfl (by rw [hlen]; exact info40) rfl)); simp only [Act.put, List.setIfInBounds_toArray, List.set_cons_zero, List.set_cons_succ, Nat.reduceAdd]
  repeat (refine late_pure (by simp) (fun _ => trivial) (v := ?_) (fun _ => rfl) ?_ ?_; rotate_left; (focus (intro c9 us w9 hm9 hS9 hF; clear hF; go_simp; (try with_reducible rfl); done)); simp only [Act.put, List.setIfInBounds_toArray, List.set_cons_zero, List.set_cons_succ, Nat.reduceAdd])
  refine late_chain (by simp) ?_ ?_
  · intro us w9 hS9 hF K hK
    obtain rfl := hS9.1 rfl
    rw [if_pos (by rfl)]
    exact step_build_one Try.underlying36 info_line hlen (by omega) (by omega) rfl (hK _ _ (AppS.one us) trivial)
  simp only [Act.put, List.setIfInBounds_toArray, List.set_cons_zero, List.set_cons_succ, Nat.reduceAdd]
  refine late_chain (by simp) ?_ ?_
  · intro us w9 hS9 hF K hK
    obtain ⟨hu, rfl⟩ := hS9.2.1 rfl
    simp only [hu] at hK ⊢
    rw [if_pos (by rfl)]
    exact step_append (news := (ordL s.N s.m x).toList) Try.underlying36 info_line zl_size (by omega) (P.lines.alloc _) (by rw [Array.toArray_toList]; exact Row.born _ _ _) (by simpa using hlen) (fun u hu => Array.all_eq_true_iff_forall_mem.1 (LV_one _ _ _ _ _ _) u (show u ∈ ordL s.N s.m x by simpa using hu)) (by omega) (by omega) (by simp; omega) rfl rfl (fun A' c'' w' h2 h3 h5 => hK _ _ (AppS.two h2 h3 h5) trivial)
  simp only [Act.put, List.setIfInBounds_toArray, List.set_cons_zero, List.set_cons_succ, Nat.reduceAdd]
  repeat (refine late_pure (by simp) (fun _ => trivial) (v := ?_) (fun _ => rfl) ?_ ?_; rotate_left; (focus (intro c9 us w9 hm9 hS9 hF; clear hF; go_simp; (try with_reducible rfl); done)); simp only [Act.put, List.setIfInBounds_toArray, List.set_cons_zero, List.set_cons_succ, Nat.reduceAdd])
  refine late_store rfl ?_ ?_
  · intro us w9 hS9 hF K hK
    obtain ⟨A', c', w2, hu, h2, h3, h5, h6, _⟩ := hS9.2.2 (by omega)
    obtain rfl := h6 rfl
    simp only [hu] at hK ⊢
    have r2 := (P.pair.alloc (.cells (ordL s.N s.m x) 40)).kept h3 (P.lines.far (by omega))
    have k11 := r2.cell 7
    have k12 := r2.frozen 7
    simp only [PC] at k11
    go_simp
    exact hK _ ⟨fun h => by omega, fun h => by omega, fun _ => ⟨A', c', w9, hu, h2, h3, h5, fun h => by omega, fun _ => ⟨Upd.setCell _ _ _ _, by simpa [PC] using r2.set 7 (.slice A' (s.m + 1) c')⟩⟩⟩ trivial
  simp only [Nat.reduceAdd]
  refine late_done fun us w5 hS5 hF => ?_
  obtain ⟨A', c', w2, hu, h2, h3, h5, _, h7⟩ := hS5.2.2 (by omega)
  obtain ⟨u5, r6⟩ := h7 (by omega)
  clear hF hS5 h7
  have hB := below_grow hB hgpm hg6 P.lines h3 u5
  have P := P.growL h2 h3 h5 u5 r6
  subst hr
  have hJ := P.inv_sent hc hm hlt
  clear h2 h3 h5 u5 r6 r4 hu P
  go_wp2
  go_ret
  exact ⟨rfl, hB, _, hJ, Nat.le_refl _⟩
end Go.Proofs.Ythjkhambmgepdaa
