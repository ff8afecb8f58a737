/- The law LinkLong. -/
import Derived.Test.YthjkhambmgepdaaLm
import Derived.Test.YthjkhambmgepdaaW1
namespace Go.Proofs.Ythjkhambmgepdaa
open Go.RowKit
set_option linter.unusedVariables false
def lgQ (j : Nat) : List (List UInt8) := (List.range j).map fun k => [UInt8.ofNat k]
def lgE (n : Int) (j : Nat) : LE := { newL n with q := lgQ j }
theorem lgQ_len (j : Nat) : (lgQ j).length = j := by simp [lgQ]
theorem lgQ_succ (j : Nat) : lgQ (j + 1) = lgQ j ++ [[UInt8.ofNat j]] := by simp [lgQ, List.range_succ]
theorem lgQ_one {j : Nat} : ∀ m ∈ lgQ j, m.length = 1 := by
  intro m hm
  simp only [lgQ, List.mem_map] at hm
  obtain ⟨k, _, rfl⟩ := hm
  rfl
theorem ty_lg (n : Int) {j : Nat} (hj : j ≤ 64) : (lgE n j).ty := ⟨by simp [lgE, newL], by simp [lgE, newL], by simp [lgE, newL], by simp [lgE, newL], by simp [lgE, newL], by simp [lgE, newL], by simp [lgE, newL], by simp [lgE, newL], by simp [lgE, newL], by simp [lgE, newL], by simp [lgE, newL], by simp [lgE, newL], by simp only [lgE, lgQ_len]; omega, by
  intro m hm
  have := lgQ_one m hm
  omega, by simp [lgE, newL]⟩
theorem lg_v {n : Int} {j : Nat} (hv : vl n = true) (hj : j ≤ 64) : vE (lgE n j) = true := by
  have hr := vl_range hv
  have h1 : vs n 0 0 = true := vs_mk ⟨hv, hr.1, hr.2, by omega, by omega, by omega⟩
  have h2 : vr n 0 = true := by simp [vr, hv]
  have h3 : qOk (lgQ j) = true := by
    unfold qOk
    rw [List.all_eq_true]
    intro m hm
    have := lgQ_one m hm
    simp [this]
  simp [vE, soundB, compB, lgE, newL, h1, h2, h3, lgQ_len, offOk, partOk, hj]
theorem lg_e {n : Int} {j : Nat} (hv : vl n = true) (hj : j < 64) (m : List UInt8) (hm : m.length ≤ 1048576) : enqE (lgE n j) m = 0 := by
  unfold enqE
  rw [if_pos (lg_v hv (by omega)), if_neg (by omega), if_neg (by simp only [lgE, lgQ_len]; omega)]
theorem lg_l {n : Int} {j : Nat} (hv : vl n = true) (hj : j < 64) : enqL (lgE n j) [UInt8.ofNat j] = lgE n (j + 1) := by
  unfold enqL
  rw [if_pos (lg_e hv hj _ (by simp))]
  simp only [lgE, lgQ_succ]
theorem lg_f {n : Int} (hv : vl n = true) : enqE (lgE n 64) [] = 65 := by
  unfold enqE
  rw [if_pos (lg_v hv (by omega)), if_neg (by simp), if_pos (by simp only [lgE, lgQ_len])]
theorem lg_p {n : Int} (hv : vl n = true) : pendE (lgE n 64) = 64 := by
  unfold pendE
  rw [if_pos (lg_v hv (by omega))]
  simp only [lgE, lgQ_len]
  rfl
theorem lg_0 (n : Int) : lgE n 0 = newL n := rfl
theorem lg_big {n : Int} {k : Nat} (hv : vl n = true) (hk : 1048576 < k) : enqE (newL n) (zer k) = 67 := by
  unfold enqE
  rw [if_pos (show vE (newL n) = true from lg_v (j := 0) hv (by omega)), if_pos (by simp [zer]; omega)]
theorem lg_small {n : Int} {k : Nat} (hv : vl n = true) (hk : k ≤ 1048576) : enqE (newL n) (zer k) = 0 := lg_e (j := 0) hv (by omega) _ (by simp [zer]; omega)
theorem zer_len (k : Nat) : k = (zer k).length := by simp [zer]
/-- A single byte, in new memory. -/
theorem one_isB (w : World) (x : UInt8) : IsB (w.alloc (.cells #[bv x] 5)) (some ⟨w.heap.size, 0, none⟩) 1 [x] := IsB.of_row (bs := [x]) (Row.born w 5 _)
theorem Ch5.mono {Q0 : World → Prop} {i1 i2 i3 i4 i5 : Nat} {Q1 Q2 Q3 Q4 Q5 : Value → World → Prop} {c : Nat} {us : Nat → Value} {w w' : World} (h : Ch5 Q0 i1 Q1 i2 Q2 i3 Q3 i4 Q4 i5 Q5 c us w) (hb : Below w.heap.size w w')
    (h0 : ∀ w w', Below w.heap.size w w' → Q0 w → Q0 w') (h1 : ∀ u w w', Below w.heap.size w w' → Q1 u w → Q1 u w') (h2 : ∀ u w w', Below w.heap.size w w' → Q2 u w → Q2 u w') (h3 : ∀ u w w', Below w.heap.size w w' → Q3 u w → Q3 u w')
    (h4 : ∀ u w w', Below w.heap.size w w' → Q4 u w → Q4 u w') (h5 : ∀ u w w', Below w.heap.size w w' → Q5 u w → Q5 u w') : Ch5 Q0 i1 Q1 i2 Q2 i3 Q3 i4 Q4 i5 Q5 c us w' :=
  ⟨fun hc => h0 _ _ hb (h.1 hc), fun hc => h1 _ _ _ hb (h.2.1 hc), fun hc => h2 _ _ _ hb (h.2.2.1 hc), fun hc => h3 _ _ _ hb (h.2.2.2.1 hc), fun hc => h4 _ _ _ hb (h.2.2.2.2.1 hc), fun hc => h5 _ _ _ hb (h.2.2.2.2.2 hc)⟩
theorem CpB.mono' {m : Nat} {bs : List UInt8} {u : Value} {w w' : World} (h : CpB m bs u w) (hb : Below w.heap.size w w') : CpB m bs u w' := CpB.mono u w w' hb h
theorem EvI.new {w : World} {g : Nat} {n : Int} (h : Row w g 69 (LEV (newL n) none 0 none 0)) : EvI w g (newL n) none 0 none 0 := ⟨h, 0, 0, .inr (Nat.zero_le _), Nat.zero_le _, fun w' _ => held_new n w'⟩
theorem EvI.other {w w' : World} {g x : Nat} {n : Int} (h : EvI w g (newL n) none 0 none 0) (u : Upd w w' x) (hx : g ≠ x) {t : TypeId} {cs : Array Value} (_ : Row w x t cs) : EvI w' g (newL n) none 0 none 0 := EvI.new (h.1.upd u hx)
theorem Ch5.size {B : Nat} {w0 : World} {Q0 : World → Prop} {i1 i2 i3 i4 i5 : Nat} {Q1 Q2 Q3 Q4 Q5 : Value → World → Prop} {c : Nat} {us : Nat → Value} {w : World} (h : Ch5 Q0 i1 Q1 i2 Q2 i3 Q3 i4 Q4 i5 Q5 c us w) (h0 : ∀ w, Q0 w → B ≤ w.heap.size) (h1 : ∀ u w, Q1 u w → B ≤ w.heap.size) (h2 : ∀ u w, Q2 u w → B ≤ w.heap.size) (h3 : ∀ u w, Q3 u w → B ≤ w.heap.size) (h4 : ∀ u w, Q4 u w → B ≤ w.heap.size) (h5 : ∀ u w, Q5 u w → B ≤ w.heap.size) : B ≤ w.heap.size := by
  rcases (show c = 0 ∨ c = 1 ∨ c = 2 ∨ c = 3 ∨ c = 4 ∨ 5 ≤ c by omega) with hc | hc | hc | hc | hc | hc
  · exact h0 _ (h.1 hc)
  · exact h1 _ _ (h.2.1 hc)
  · exact h2 _ _ (h.2.2.1 hc)
  · exact h3 _ _ (h.2.2.2.1 hc)
  · exact h4 _ _ (h.2.2.2.2.1 hc)
  · exact h5 _ _ (h.2.2.2.2.2 hc)
set_option maxRecDepth 100000 in
set_option maxHeartbeats 8000000 in
theorem long_from (t0 t1 : Int) (W : World) : Calls Try.prog 8 #[.int .i64 t0, .int .i64 t1] W (True1 W) := by
  have p0 : 0 ≤ t0 % 6 := Int.emod_nonneg _ (by omega)
  have p1 : t0 % 6 ≤ 5 := by have := Int.emod_lt_of_pos t0 (show (0 : Int) < 6 by omega); omega
  have k0 : 0 ≤ t1 % 5 := Int.emod_nonneg _ (by omega)
  have k1 : t1 % 5 ≤ 4 := by have := Int.emod_lt_of_pos t1 (show (0 : Int) < 5 by omega); omega
  go_enter Try.func8, Try.ntmps8
  go_wp2_with fail
  refine (place _ _ (by omega) (by omega) _).mono ?_
  rintro e w' ⟨rfl, rfl⟩
  generalize t0 % 6 = p at *
  go_wp2_with fail
  obtain ⟨n, hn, hvl, n0, n1⟩ := lines_of p p0 p1
  rw [hn]
  have HV := Lib.hid hvl
  clear hn hvl
  refine (new_is HV.out _).mono ?_
  rintro en w1 ⟨rfl, hb⟩
  go_upto_region 4 with (((with_reducible refine wp_row_store (L := LEV (newL n) none 0 none 0) (Row.bornAt (g := w1.heap.size) rfl 69 _) ?_ (lev_info _ _ _ _ _) (lev_one _ _ _ _ _) ?_ ?_ ?_); rfl; rfl; rfl; intro wa ua ra))
  have hBW := Upd.below (hb.trans (((Below.refl w1.heap.size w1).alloc (Nat.le_refl _) _).mono hb.size)) ua hb.size
  have hgW := hb.size
  have hg1 := ra.lt
  generalize w1.heap.size = g5 at *
  clear hb ua
  obtain ⟨k, hk⟩ : ∃ k : Nat, 1048574 + t1 % 5 = (k : Int) := ⟨(1048574 + t1 % 5).toNat, by omega⟩
  have hk1 : k ≤ 1048578 := by omega
  have HK := Lib.hid hk
  clear hk
  go_upto_region 5 with (go_at_call 20; refine (place _ _ (by omega) (by omega) _).mono ?_; rintro en w' ⟨rfl, h9⟩; rw [← h9]; clear h9)
  rw [HK.out]
  obtain ⟨E, hE⟩ : ∃ E, enqE (newL n) (zer k) = E := ⟨_, rfl⟩
  obtain ⟨e9, hL⟩ : ∃ e9, enqL (newL n) (zer k) = e9 := ⟨_, rfl⟩
  have HE := Lib.hid hE
  have HL := Lib.hid hL
  clear hE hL
  have hg1 : g5 < wa.drew.heap.size := hg1
  have hev : EvI wa.drew g5 (newL n) none 0 none 0 := EvI.new ra
  have hBW : Below W.heap.size W wa.drew := hBW.drew
  refine wp_region_late (n := 76) [2, 3, 4, 5, 8] (Ch5 (fun w => Below wa.drew.heap.size wa.drew w ∧ EvI w g5 (newL n) none 0 none 0) 2 (fun u w => Below wa.drew.heap.size wa.drew w ∧ EvI w g5 (newL n) none 0 none 0 ∧ CpB k (zer k) u w) 3 (fun u w => Below wa.drew.heap.size wa.drew w ∧ EvI w g5 (newL n) none 0 none 0 ∧ ∃ A c B d, u = .tuple #[.agg (LEV e9 A c B d), .int .i64 E]) 4 (fun u w => Below wa.drew.heap.size wa.drew w ∧ EvI w g5 (newL n) none 0 none 0 ∧ ∃ A c B d, u = .tuple #[.agg (LEV e9 A c B d), .int .i64 E]) 5 (fun u w => Below wa.drew.heap.size wa.drew w ∧ EvI w g5 (newL n) none 0 none 0 ∧ ∃ A c B d, u = .agg (LEV e9 A c B d)) 7 (fun _ w => Below wa.drew.heap.size wa.drew w ∧ EvI w g5 (newL n) none 0 none 0)) (Shp wa.drew.heap.size) (by kernel_rfl) (by kernel_rfl) (by rfl) (Ch5.loc (by decide) (by decide) (by decide) (by decide) (fun c hc => mayAt_no (d := 4) (by kernel_rfl) (by omega) (by decide))) (Ch5.zero ⟨Below.refl _ _, hev⟩) ?_
  refine late_pure (by simp) (Shp.refl _) (v := .agg (LEV (newL n) none 0 none 0)) (fun _ => rfl) ?_ ?_; (focus (intro c9 us w9 hm9 hS9 hF; have hc9 : c9 < 2 := (by rcases Nat.lt_or_ge c9 2 with h9 | h9; exact h9; exact absurd hm9 (by rw [mayAt_no (d := 1) (by kernel_rfl) (by omega) (by decide)]; decide)); have hrow : Row w9 g5 69 (LEV (newL n) none 0 none 0) := (by rcases (show c9 = 0 ∨ c9 = 1 by omega) with h | h; exact (hS9.1 h).2.1; exact (hS9.2.1 h).2.1.1); exact exec_load_g hrow.range Try.underlying69 rfl (lev_info _ _ _ _ _) rfl)); simp only [Act.put, List.setIfInBounds_toArray, List.set_cons_zero, List.set_cons_succ, Nat.reduceAdd]
  refine late_pure (by simp) (Shp.refl _) (v := ?_) (fun _ => rfl) ?_ ?_; rotate_left; (focus (intro c9 us w9 hm9 hS9 hF; clear hF hm9; go_simp; (try with_reducible rfl); done)); simp only [Act.put, List.setIfInBounds_toArray, List.set_cons_zero, List.set_cons_succ, Nat.reduceAdd]
  refine late_chain_is (fun _ => True) (by simp) ?_ ?_; (focus (intro us w9 hS9 hF K hK; clear hF; have h0 := hS9.1 rfl; rw [if_pos (by rfl)]; exact step_make (P := Try.prog) k Try.underlying44 info_b (by omega) (by omega) rfl rfl rfl rfl (fun w' h1 h2 => hK _ w' trivial (Ch5.one ⟨below_on h0.1 h2, h0.2.below h2, ⟨some ⟨w9.heap.size, 0, none⟩, k, by simp, Nat.le_refl _, h1⟩⟩) (Shp.below h2)))); simp only [Act.put, List.setIfInBounds_toArray, List.set_cons_zero, List.set_cons_succ, Nat.reduceAdd]
  refine late_chain_is (fun _ => True) (by simp) ?_ ?_; (focus (intro us w9 hS9 hF K hK; clear hF; obtain ⟨hb0, hev9, A9, c9, hu, hc9, hI⟩ := hS9.2.1 rfl; simp only [hu] at hK ⊢; go_simp; refine (enq_is HE.out HL.out (zer_len k) (ty_new n) hev9.held hI).mono ?_; rintro en w' ⟨A, c, B, d, rfl, hH, hb⟩; exact hK _ w' trivial (Ch5.two ⟨below_on hb0 hb, hev9.below hb, A, c, B, d, by simp⟩) (Shp.below hb))); simp only [Act.put, List.setIfInBounds_toArray, List.set_cons_zero, List.set_cons_succ, Nat.reduceAdd]
  refine late_chain_is (fun u => ∃ X, u = .tuple #[X, .int .i64 E]) (by simp) ?_ ?_; (focus (intro us w9 hS9 hF K hK; clear hF; obtain ⟨hb0, hr, A, c, B, d, hu⟩ := hS9.2.2.1 rfl; simp only [hu] at hK ⊢; go_simp; exact hK _ w9 ⟨_, rfl⟩ (Ch5.three ⟨hb0, hr, A, c, B, d, by simp⟩) (Shp.refl _ _))); simp only [Act.put, List.setIfInBounds_toArray, List.set_cons_zero, List.set_cons_succ, Nat.reduceAdd]
  refine late_chain_is (fun _ => True) (by simp) ?_ ?_; (focus (intro us w9 hS9 hF K hK; clear hF; obtain ⟨hb0, hr, A, c, B, d, hu⟩ := hS9.2.2.2.1 rfl; simp only [hu] at hK ⊢; go_simp; exact hK _ w9 trivial (Ch5.four ⟨hb0, hr, A, c, B, d, by simp⟩) (Shp.refl _ _))); simp only [Act.put, List.setIfInBounds_toArray, List.set_cons_zero, List.set_cons_succ, Nat.reduceAdd]
  refine late_pure (by simp) (Shp.refl _) (v := .int .i64 E) (fun _ => rfl) ?_ ?_; (focus (intro c9 us w9 hm9 hS9 hF; obtain ⟨X, hu⟩ := hF (4, fun u _ => ∃ X, u = .tuple #[X, .int .i64 E]) (by simp) (by kernel_rfl); dsimp only at hu; simp only [hu]; go_simp)); simp only [Act.put, List.setIfInBounds_toArray, List.set_cons_zero, List.set_cons_succ, Nat.reduceAdd]
  refine late_free (by simp) (PtrN wa.drew.heap.size 69 10) PtrN.mono ?_ ?_; (focus (intro c9 us w9 hm9 hS9 hF K hK; go_simp; exact hK _ _ (hS9.mono ((Below.refl _ _).alloc (Nat.le_refl _) _) (fun _ _ hb h => ⟨below_on h.1 hb, h.2.below hb⟩) (fun _ _ _ hb h => ⟨below_on h.1 hb, h.2.1.below hb, h.2.2.mono' hb⟩) (fun _ _ _ hb h => ⟨below_on h.1 hb, h.2.1.below hb, h.2.2⟩) (fun _ _ _ hb h => ⟨below_on h.1 hb, h.2.1.below hb, h.2.2⟩) (fun _ _ _ hb h => ⟨below_on h.1 hb, h.2.1.below hb, h.2.2⟩) (fun _ _ _ hb h => ⟨below_on h.1 hb, h.2.below hb⟩)) (Shp.alloc _ _ _) ⟨w9.heap.size, ZE, rfl, hS9.size (w0 := wa) (fun _ h => h.1.size) (fun _ _ h => h.1.size) (fun _ _ h => h.1.size) (fun _ _ h => h.1.size) (fun _ _ h => h.1.size) (fun _ _ h => h.1.size), Row.born w9 69 ZE, rfl⟩)); simp only [Act.put, List.setIfInBounds_toArray, List.set_cons_zero, List.set_cons_succ, Nat.reduceAdd]
  refine late_store rfl ?_ ?_; (focus (intro us w9 hS9 hF K hK; obtain ⟨b3, cs, hu7, hb3, hr, hn⟩ := hF (7, PtrN wa.drew.heap.size 69 10) (by simp) (by kernel_rfl); obtain ⟨hb0, hev9, A, c, B, d, hu⟩ := hS9.2.2.2.2.1 rfl; simp only [hu, hu7] at hK ⊢; rw [if_pos (by rfl)]; exact step_put (L := LEV e9 A c B d) hr hn (lev_info _ _ _ _ _) (lev_one _ _ _ _ _) rfl rfl (fun w' u' r' => hK w' (Ch5.five ⟨Upd.below hb0 u' hb3, hev9.other u' (by omega) hr⟩) (Shp.upd u' hr r' hn)))); simp only [Nat.reduceAdd]
  refine late_pure (by simp) (Shp.refl _) (v := ?_) (fun _ => rfl) ?_ ?_; rotate_left; (focus (intro c9 us w9 hm9 hS9 hF; clear hF hm9; go_simp; (try with_reducible rfl); done)); simp only [Act.put, List.setIfInBounds_toArray, List.set_cons_zero, List.set_cons_succ, Nat.reduceAdd]
  refine late_done fun us2 w2 hS2 hF => ?_
  obtain ⟨hB2, hev2⟩ := hS2.2.2.2.2.2 (by omega)
  clear hF hS2
  have hBW := hBW.trans (hB2.mono hBW.size)
  clear hev hB2
  go_upto_region 6 with (fail)
  go_cut [46] (fun u wx => u = .bool false ∧ Below W.heap.size W wx ∧ EvI wx g5 (newL n) none 0 none 0)
  case first =>
    by_cases hk : 1048576 < k
    · obtain rfl : E = 67 := HE.out.symm.trans (lg_big HV.out hk)
      have dk : decide (1048576 < k) = true := decide_eq_true hk
      go_wp2
      go_meet
      exact ⟨rfl, hBW, hev2⟩
    · obtain rfl : E = 0 := HE.out.symm.trans (lg_small HV.out (by omega))
      have dk : decide (1048576 < k) = false := decide_eq_false hk
      have dk2 : decide (k ≤ 1048576) = true := decide_eq_true (by omega)
      go_wp2
      go_meet
      exact ⟨rfl, hBW, hev2⟩
  case rest =>
  clear hBW hev2
  obtain ⟨rfl, hBW, hev2⟩ := hcut
  have hev2 : EvI wc g5 (lgE n 0) none 0 none 0 := hev2
  go_upto_region 9 with (fail)
  go_loopw [10, 6] (fun i er wr => ∃ j : Nat, ∃ A c B d, j ≤ 64 ∧ i = .int .i64 j ∧ er = .int .i64 0 ∧ EvI wr g5 (lgE n j) A c B d ∧ Below W.heap.size W wr) (fun i _ _ => 64 - (intOf i).toNat)
  case atStart => exact ⟨0, none, 0, none, 0, by omega, rfl, rfl, hev2, hBW⟩
  case round =>
    clear hBW hev2
    obtain ⟨j, A, c, B, d, hj, rfl, rfl, hev, hB⟩ := hrel
    have rv := hev.1
    have hh := hev.held
    have hgl := rv.lt
    rcases Nat.lt_or_ge j 64 with hjl | hjl
    · have hd1 : decide (j < 64) = true := by simpa using hjl
      have hb1 : IntKind.u8.wrap (j : Int) = (j : Int) := by rw [IntKind.wrap_u8]; omega
      have hbv : Value.int .u8 (j : Int) = bv (UInt8.ofNat j) := bv_nat j (by omega)
      have HBV := Lib.hid hbv
      clear hbv
      have hbw := (Below.refl wr.heap.size wr).alloc (Nat.le_refl _) (.cells #[.int .u8 (j : Int)] 5)
      have hI1 : IsB (wr.alloc (.cells #[.int .u8 (j : Int)] 5)) (some ⟨wr.heap.size, 0, none⟩) 1 [UInt8.ofNat j] := by
        rw [HBV.out]
        exact one_isB wr _
      have hh1 := hh.below hbw
      go_upto_region 12 with (first | ((with_reducible refine wp_load_g ?_ rv.range Try.underlying69 rfl (lev_info _ _ _ _ _) ?_ ?_); rfl; rfl) | (go_at_call 42; refine (enq_is (lg_e HV.out hjl _ (by simp)) (lg_l HV.out hjl) (by simp) (ty_lg n (by omega)) hh1 hI1).mono ?_; rintro en w3 ⟨A3, c3, B3, d3, rfl, hH3, hb3⟩; have r3 := (rv.below hbw rv.lt).below hb3 (by have := hbw.size; omega)) | ((with_reducible refine wp_row_store (L := LEV (lgE n (j + 1)) A3 c3 B3 d3) r3 ?_ (lev_info _ _ _ _ _) (lev_one _ _ _ _ _) ?_ ?_ ?_); rfl; rfl; rfl; intro w4 u4 r4))
      have hsz := hbw.size
      have hB4 := Upd.below (hB.trans ((hbw.trans (hb3.mono hbw.size)).mono hB.size)) u4 hgW
      have hev4 : EvI w4 g5 (lgE n (j + 1)) A3 c3 B3 d3 := ⟨r4, _, _, .inl (by omega), hH3.upd u4 (.inl (by omega))⟩
      clear hI1 hh1 hbw hb3 hH3 r3 u4 hev rv hh hB hb1
      go_wp2
      exact ⟨⟨j + 1, A3, c3, B3, d3, by omega, by go_num, rfl, hev4, hB4⟩, by simp [intOf]; omega⟩
    · obtain rfl : j = 64 := by omega
      have hd1 : decide (64 < 64) = false := by simp
      have hd2 : decide (((64 : Nat) : Int) < 64) = false := by simp
      have hmn : IsB wr none 0 [] := IsB.nil _ _
      go_upto_region 15 with (first | ((with_reducible refine wp_load_g ?_ rv.range Try.underlying69 rfl (lev_info _ _ _ _ _) ?_ ?_); rfl; rfl) | (go_at_call 42; refine (enq_is (lg_f HV.out) rfl rfl (ty_lg n (by omega)) hh hmn).mono ?_; rintro en w3 ⟨A3, c3, B3, d3, rfl, hH3, hb3⟩) | ((with_reducible refine wp_row_store (L := LEV (enqL (lgE n 64) []) A3 c3 B3 d3) (Row.bornAt (g := w3.heap.size) rfl 69 _) ?_ (lev_info _ _ _ _ _) (lev_one _ _ _ _ _) ?_ ?_ ?_); rfl; rfl; rfl; intro w4 u4 r4))
      have hal := (Below.refl w3.heap.size w3).alloc (Nat.le_refl _) (.cells ZE 69)
      have hal2 := Upd.below (hb3.trans (hal.mono hb3.size)) u4 hb3.size
      have hB4 := hB.trans (hal2.mono hB.size)
      have hev4 := hev.below hal2
      have rv4 := hev4.1
      have hh4 := hev4.held
      clear hal hal2 hb3 hH3 u4 r4 hev rv hh hB
      go_wp2_with (first | ((with_reducible refine wp_load_g ?_ rv4.range Try.underlying69 rfl (lev_info _ _ _ _ _) ?_ ?_); rfl; rfl) | (go_at_call 43; refine (pend_is (lg_p HV.out) (ty_lg n (by omega)) hh4).mono ?_; rintro en w5 ⟨rfl, hb5⟩) | (go_at_call 44; refine (awake20 _).mono ?_; rintro en w6 ⟨rfl, hb6⟩))
      go_ret
      have hB5 := hB4.trans (hb5.mono hB4.size)
      exact ⟨rfl, hB5.trans (hb6.mono hB5.size)⟩
theorem walk_long (t0 t1 : Int) (_ : (Lit.int .i64 t0).wf = true) (_ : (Lit.int .i64 t1).wf = true) (W : World) : Calls Try.prog 8 #[.int .i64 t0, .int .i64 t1] W (True1 W) := long_from t0 t1 W
end Go.Proofs.Ythjkhambmgepdaa
