/- The law UrpcDrain: if both ends go on receiving and replying, all calls end by replies. -/
import Derived.Test.YthjkhambmgepdaaVn
namespace Go.Proofs.Ythjkhambmgepdaa
open Go.RowKit
set_option linter.unusedVariables false
set_option linter.unusedSimpArgs false
def UcS.pots (S : UcS) : Nat := S.pot 0 + S.pot 1
theorem pots_side {S : UcS} {s : Nat} (hs : s < 2) : S.pots = S.pot s + S.pot (1 - s) := by
  rcases (by omega : s = 0 ∨ s = 1) with rfl | rfl
  · rfl
  · show S.pot 0 + S.pot 1 = S.pot 1 + S.pot 0
    omega
/-- What a side does in a round. -/
theorem side_step {N : Int} {c : Nat} {S S3 S4 : UcS} {s : Nat} (hs : s < 2) (h1 : (S3 = S ∧ S.Y s = []) ∨ ∃ m ys, S.Y s = m :: ys ∧ S3 = rcvS S s m ys) (h2 : (S4 = S3 ∧ (S3.E s).ss = []) ∨ ∃ n v, n ∈ (S3.E s).ss ∧ S4 = repS S3 s n v) :
    S4.pots < S.pots ∨ (S4 = S ∧ S.Y s = [] ∧ (S.E s).ss = []) := by
  have e1 : S3.pots < S.pots ∨ (S3 = S ∧ S.Y s = []) := by
    rcases h1 with h1 | ⟨m, ys, hY, rfl⟩
    · exact .inr h1
    · have := uc_pot_rcv hs hY
      rw [pots_side hs, pots_side (S := S) hs]
      exact .inl (by omega)
  have e2 : S4.pots < S3.pots ∨ (S4 = S3 ∧ (S3.E s).ss = []) := by
    rcases h2 with h2 | ⟨n, v, hn, rfl⟩
    · exact .inr h2
    · have := uc_pot_rep (v := v) hs hn
      rw [pots_side hs, pots_side (S := S3) hs]
      exact .inl (by omega)
  rcases e1 with e1 | ⟨rfl, e1⟩
  · rcases e2 with e2 | ⟨rfl, -⟩
    · exact .inl (by omega)
    · exact .inl e1
  · rcases e2 with e2 | ⟨rfl, e2⟩
    · exact .inl e2
    · exact .inr ⟨rfl, e1, e2⟩
theorem pots_empty {N : Int} {c : Nat} {S : UcS} (h0 : S.Y 0 = []) (h1 : (S.E 0).ss = []) (h2 : S.Y 1 = []) (h3 : (S.E 1).ss = []) : S.pots = 0 := by
  unfold UcS.pots UcS.pot
  rw [h0, h1, h2, h3]
  rfl
/-- How far the round has come. -/
def RdQ (P0 : Nat) (S : UcS) : Nat → Prop
  | 0 => S.pots = P0
  | 1 => S.pots < P0 ∨ (S.pots = P0 ∧ S.Y 0 = [] ∧ (S.E 0).ss = [])
  | _ => S.pots < P0 ∨ S.pots = 0
theorem rd_0 {P0 : Nat} {S S4 : UcS} (h : RdQ P0 S 0) (h4 : S4.pots < S.pots ∨ (S4 = S ∧ S.Y 0 = [] ∧ (S.E 0).ss = [])) : RdQ P0 S4 1 := by
  have h : S.pots = P0 := h
  rcases h4 with h4 | ⟨rfl, h5, h6⟩
  · exact .inl (by omega)
  · exact .inr ⟨h, h5, h6⟩
theorem rd_1 {P0 : Nat} {S S4 : UcS} (h : RdQ P0 S 1) (h4 : S4.pots < S.pots ∨ (S4 = S ∧ S.Y 1 = [] ∧ (S.E 1).ss = [])) : RdQ P0 S4 2 := by
  rcases h with h | ⟨h, h1, h2⟩
  · rcases h4 with h4 | ⟨rfl, -⟩
    · exact .inl (by omega)
    · exact .inl h
  · rcases h4 with h4 | ⟨rfl, h5, h6⟩
    · exact .inl (by omega)
    · exact .inr (pots_empty (N := 0) (c := 0) h1 h2 h5 h6)
set_option maxRecDepth 100000 in
set_option maxHeartbeats 8000000 in
theorem walk_drain (W : World) (t : Int) (A : Option Addr) (n cc : Nat) (_ : (Lit.int .i64 t).wf = true) (hT : IsTr W A n) : Calls Try.prog 16 #[.int .i64 t, .slice A n cc] W (True1 W) := by
  go_enter Try.func16, Try.ntmps16
  go_upto_region 2 with (go_at_call 67; refine (cn_open W.heap.size t _ (Nat.le_refl _)).mono ?_; rintro en w1 ⟨g, N, col, p, n1, n2, rfl, hM0, hc0, hb0⟩)
  have hT1 := trips_cn hT hb0 hM0 hM0.bg hc0
  clear hT
  have hM0 : CM W.heap.size g col w1 ((newUS N).cn (fun _ => [])) p := hM0
  have hB1 := hM0.white (White.refl _ _) hb0
  have hMb := hM0
  go_upto_block 0 with (fail)
  go_cut [7] from 19 to 35 (fun u wx => ∃ S1 Z1 col1 p1, UInv N 200 S1 ∧ RelF S1 (fun _ => []) Z1 ∧ CM W.heap.size g col1 wx (S1.cn Z1) p1 ∧ White col w1 wx ∧ (∀ x, x < w1.heap.size → col x = 0 → col1 x = 0))
  case first =>
   as_aux_lemma =>
    go_upto_region 5 with (fail)
    go_loopw [7] (fun i wr => ∃ j : Nat, ∃ S1 Z1 col1 p1, i = .int .i64 j ∧ j ≤ 200 ∧ j ≤ n ∧ UInv N j S1 ∧ RelF S1 (fun _ => []) Z1 ∧ CM W.heap.size g col1 wr (S1.cn Z1) p1 ∧ Part col1 0 wr (fun w => IsTr w A n) ∧ White col w1 wr ∧ (∀ x, x < w1.heap.size → col x = 0 → col1 x = 0)) (fun i _ => 200 - (intOf i).toNat)
    case atStart => exact ⟨0, newUS N, fun _ => [], col, p, rfl, by omega, by omega, newUS_inv n1 n2, newRelF N, hM0, hT1, White.refl _ _, fun _ _ h => h⟩
    case round =>
      clear hM0 hT1 hc0 hb0
      obtain ⟨j, S1, Z1, col1, p1, rfl, hj, hjn, hI, hR, hM, hT, hW, hC⟩ := hrel
      by_cases hd : j < n ∧ j < 200
      · obtain ⟨hjl, hj4⟩ := hd
        have d1 : decide (j < n) = true := decide_eq_true hjl
        have d1i : decide ((j : Int) < (n : Int)) = true := decide_eq_true (by omega)
        have d2 : decide (j < 200) = true := decide_eq_true hj4
        have d2i : decide ((j : Int) < 200) = true := decide_eq_true (by omega)
        have hji : (j : Int) < n := by omega
        have hj0 : (0 : Int) ≤ (j : Int) := by omega
        obtain ⟨b, o, x, y, z, hA, q0, q1, q2⟩ := hT.now j hjl
        subst hA
        go_upto_region 6 with (go_at_call 68; (with_reducible refine (do_any hM hI hR (by omega) x y z).mono ?_); rintro en w2 ⟨rfl, S2, F2, Z2, col2, p2, ⟨hF2, hI2⟩, hR2, hM2, hw2, hc2⟩; subst hF2)
        have hC4 := fun x (hx : x < w1.heap.size) (h0 : col x = 0) => hc2 x (Nat.lt_of_lt_of_le hx hW.size) (hC x hx h0)
        have hW4 := hW.stepU hC hw2
        have hT4 := hT.ofWhite hw2 hc2
        go_wp2
        exact ⟨⟨j + 1, S2, Z2, col2, p2, by go_num, by omega, by omega, hI2, hR2, hM2, hT4, hW4, hC4⟩, by simp [intOf]; omega⟩
      · have hI := hI.more (show j ≤ 200 by omega) (by omega)
        rcases Nat.lt_or_ge j n with h1 | h1
        · have d1 := dt h1
          have d1i := dt (show (j : Int) < (n : Int) by omega)
          have d2 := df (show ¬ j < 200 by omega)
          have d2i := df (show ¬ (j : Int) < 200 by omega)
          clear h1 hd
          go_wp2
          go_meet
          exact ⟨S1, Z1, col1, p1, hI, hR, hM, hW, hC⟩
        · have d1 := df (show ¬ j < n by omega)
          have d1i := df (show ¬ (j : Int) < (n : Int) by omega)
          clear h1 hd
          go_wp2
          go_meet
          exact ⟨S1, Z1, col1, p1, hI, hR, hM, hW, hC⟩
  case rest =>
  obtain ⟨S0, Z0, col0, p0, hI0, hR0, hM0', hw0, hcc0⟩ := hcut
  have hcol := hcc0
  clear hM0 hT1 hc0 hb0
  obtain ⟨w0, hw0e⟩ : ∃ w', wc = w' := ⟨_, rfl⟩
  rw [hw0e] at hM0' hw0
  have hp0 := uc_pot_le hI0
  go_upto_block 2 with (fail)
  go_cut [8] from 36 to 54 (fun u wx => ∃ S1 Z1 col1 p1, UInv N 200 S1 ∧ S1.pots = 0 ∧ RelF S1 (fun _ => []) Z1 ∧ CM W.heap.size g col1 wx (S1.cn Z1) p1 ∧ White col w1 wx ∧ (∀ x, x < w1.heap.size → col x = 0 → col1 x = 0))
  case first =>
   as_aux_lemma =>
    go_upto_region 10 with (fail)
    go_loopw [8] (fun i wr => ∃ r : Nat, ∃ S1 Z1 col1 p1, i = .int .i64 r ∧ r ≤ 400 ∧ UInv N 200 S1 ∧ RelF S1 (fun _ => []) Z1 ∧ (S1.pots = 0 ∨ S1.pots + r ≤ 96) ∧ CM W.heap.size g col1 wr (S1.cn Z1) p1 ∧ White col w1 wr ∧ (∀ x, x < w1.heap.size → col x = 0 → col1 x = 0)) (fun i _ => 400 - (intOf i).toNat)
    case atStart => exact ⟨0, S0, Z0, col0, p0, rfl, by omega, hI0, hR0, .inr (by unfold UcS.pots; omega), by rw [hw0e]; exact hM0', by rw [hw0e]; exact hw0, hcol⟩
    case round =>
      clear hM0' hw0 hcol hI0 hR0 hp0 hcc0
      obtain ⟨r, S1, Z1, col1, p1, rfl, hr, hI, hR, hp, hM, hW, hC⟩ := hrel
      rcases Nat.lt_or_ge r 400 with hr4 | hr4
      · have d1 : decide (r < 400) = true := decide_eq_true hr4
        have d1i : decide ((r : Int) < 400) = true := decide_eq_true (by omega)
        have HP := Lib.hid hp
        obtain ⟨P0, hP0⟩ : ∃ P0, S1.pots = P0 := ⟨_, rfl⟩
        have HP0 := Lib.hid hP0
        have hrq0 : RdQ P0 S1 0 := hP0
        clear hp hP0
        go_upto_region 13 with (fail)
        go_loopw [9] (fun i wr => ∃ s : Nat, ∃ S1 Z1 col1 p1, i = .int .i64 s ∧ s ≤ 2 ∧ UInv N 200 S1 ∧ RelF S1 (fun _ => []) Z1 ∧ RdQ P0 S1 s ∧ CM W.heap.size g col1 wr (S1.cn Z1) p1 ∧ White col w1 wr ∧ (∀ x, x < w1.heap.size → col x = 0 → col1 x = 0)) (fun i _ => 2 - (intOf i).toNat)
        case atStart => exact ⟨0, S1, Z1, col1, p1, rfl, by omega, hI, hR, hrq0, hM, hW, hC⟩
        case round =>
          clear hI hR hrq0 hM hW hC
          obtain ⟨s, S1, Z1, col1, p1, rfl, hs, hI, hR, hrq, hM, hW, hC⟩ := hrel
          rcases (by omega : s = 0 ∨ s = 1 ∨ s = 2) with h' | h' | h' <;> subst h'
          · skip
            have HB := Lib.hid (show bits .and .i64 (0 : Int) 1 = 0 from rfl)
            have HK := Lib.hid (show (1 : Int) % 3 = 1 from rfl)
            go_upto_region 14 with (first | (go_at_call 68; (with_reducible refine (do_one0 hM hI hR (by omega) HB.out HK.out).mono ?_); rintro en w3 ⟨rfl, S3, F3, Z3, col3, p3, ⟨hF3, hI3, hq3⟩, hR3, hM3, hw3, hc3⟩; subst hF3; have HQ3 := Lib.hid hq3; clear hq3) | (go_at_call 69; (with_reducible refine (st_rep0 hM3 hI3 hR3 (by omega) 0).mono ?_); rintro en w4 ⟨rfl, S4, F4, Z4, col4, p4, ⟨hF4, hI4, hq4⟩, hR4, hM4, hw4, hc4⟩; subst hF4; have HQ4 := Lib.hid hq4; clear hq4))
            have hst := side_step (N := N) (c := 200) (s := 0) (by omega) HQ3.out HQ4.out
            have hC3 := fun x (hx : x < w1.heap.size) (h0 : col x = 0) => hc3 x (Nat.lt_of_lt_of_le hx hW.size) (hC x hx h0)
            have hW3 := hW.stepU hC hw3
            have hC4 := fun x (hx : x < w1.heap.size) (h0 : col x = 0) => hc4 x (Nat.lt_of_lt_of_le hx hW3.size) (hC3 x hx h0)
            have hW4 := hW3.stepU hC3 hw4
            have hRQ := rd_0 hrq hst
            clear hst hrq
            go_wp2
            exact ⟨⟨1, S4, Z4, col4, p4, by go_num, by omega, hI4, hR4, hRQ, hM4, hW4, hC4⟩, by simp [intOf]⟩
          · skip
            have HB := Lib.hid (show bits .and .i64 (1 : Int) 1 = 1 from rfl)
            have HK := Lib.hid (show (1 : Int) % 3 = 1 from rfl)
            go_upto_region 14 with (first | (go_at_call 68; (with_reducible refine (do_one1 hM hI hR (by omega) HB.out HK.out).mono ?_); rintro en w3 ⟨rfl, S3, F3, Z3, col3, p3, ⟨hF3, hI3, hq3⟩, hR3, hM3, hw3, hc3⟩; subst hF3; have HQ3 := Lib.hid hq3; clear hq3) | (go_at_call 69; (with_reducible refine (st_rep1 hM3 hI3 hR3 (by omega) 0).mono ?_); rintro en w4 ⟨rfl, S4, F4, Z4, col4, p4, ⟨hF4, hI4, hq4⟩, hR4, hM4, hw4, hc4⟩; subst hF4; have HQ4 := Lib.hid hq4; clear hq4))
            have hst := side_step (N := N) (c := 200) (s := 1) (by omega) HQ3.out HQ4.out
            have hC3 := fun x (hx : x < w1.heap.size) (h0 : col x = 0) => hc3 x (Nat.lt_of_lt_of_le hx hW.size) (hC x hx h0)
            have hW3 := hW.stepU hC hw3
            have hC4 := fun x (hx : x < w1.heap.size) (h0 : col x = 0) => hc4 x (Nat.lt_of_lt_of_le hx hW3.size) (hC3 x hx h0)
            have hW4 := hW3.stepU hC3 hw4
            have hRQ := rd_1 hrq hst
            clear hst hrq
            go_wp2
            exact ⟨⟨2, S4, Z4, col4, p4, by go_num, by omega, hI4, hR4, hRQ, hM4, hW4, hC4⟩, by simp [intOf]⟩
          · have hend : S1.pots = 0 ∨ S1.pots + (r + 1) ≤ 96 := by
              have h1 : S1.pots < P0 ∨ S1.pots = 0 := hrq
              have h2 := HP.out
              have h3 := HP0.out
              rw [h3] at h2
              omega
            clear hrq
            go_wp2
            exact ⟨⟨r + 1, S1, Z1, col1, p1, by go_num, by omega, hI, hR, hend, hM, hW, hC⟩, by simp [intOf]; omega⟩
      · have d1 : decide (r < 400) = false := decide_eq_false (by omega)
        have d1i : decide ((r : Int) < 400) = false := decide_eq_false (by omega)
        have hz : S1.pots = 0 := by omega
        clear hp hr4
        go_wp2
        go_meet
        exact ⟨S1, Z1, col1, p1, hI, hz, hR, hM, hW, hC⟩
  case rest =>
  clear hM0' hw0 hcol hI0 hR0 hp0 hcc0
  obtain ⟨S2, Z2, col2, p2, hI2, hpz, hR2, hM2, hw2, hc2⟩ := hcut
  have HP := Lib.hid hpz
  clear hpz
  obtain ⟨w2, hw2e⟩ : ∃ w', wc = w' := ⟨_, rfl⟩
  have hB2 := hMb.white hw2 hB1
  rw [hw2e] at hM2 hw2 hB2
  have hlg2 := hM2.lt
  go_upto_region 18 with (fail)
  go_loopw [10] (fun i wr => ∃ s : Nat, s ≤ 2 ∧ i = .int .i64 s ∧ Below w2.heap.size w2 wr) (fun i _ => 2 - (intOf i).toNat)
  case atStart => exact ⟨0, by omega, rfl, by rw [hw2e]; exact Below.refl _ _⟩
  case round =>
  obtain ⟨s, hs, rfl, hBr⟩ := hrel
  rcases (by omega : s = 0 ∨ s = 1 ∨ s = 2) with h' | h' | h' <;> subst h'
  · as_aux_lemma =>
    obtain ⟨hy, hcs0, hss0, hone⟩ := uc_pot_zero hI2 (by have := HP.out; unfold UcS.pots at this; omega) (by have := HP.out; unfold UcS.pots at this; omega) (s := 0) (by omega)
    obtain ⟨O1, hO1e⟩ : ∃ O1, S2.O 0 = O1 := ⟨_, rfl⟩
    have hO1 : O1.length ≤ 1000 := by
      have h1 := (hI2.sd (s := 0) (by omega)).dir.ol
      have h2 := (hI2.sd (s := 0) (by omega)).lc
      rw [← hO1e]; omega
    rw [hO1e] at hone
    have hIO : (S2.cn Z2).I 4 = O1 := hO1e
    have iO' : w2.cell? ⟨g, 18, none⟩ = some (.slice (p2.iA 4) O1.length (p2.ic 4)) := by
      have h : w2.cell? ⟨g, 18, none⟩ = some (.slice (p2.iA 4) ((S2.cn Z2).I 4).length (p2.ic 4)) := hM2.row.now.cell 18
      rw [hIO] at h
      exact h
    have hcells : ∀ k, k < O1.length → ∃ b o, p2.iA 4 = some ⟨b, o, none⟩ ∧ w2.cell? ⟨b, o + k, none⟩ = some (.int .i64 1) := fun k hk => by
      obtain ⟨bO, oO, curO, hAO, hrO, hcO⟩ := (hM2.ints 4 (by omega)).part.now.cells (by rw [hIO]; omega)
      exact ⟨bO, oO, hAO, hcO k _ (iv_at (by rw [hIO]; exact hone k hk))⟩
    have HCE := Lib.hid hcells
    have HY := Lib.hid hy
    have HCS := Lib.hid hcs0
    have HSS := Lib.hid hss0
    clear hone hcells hIO hO1e hy hcs0 hss0
    go_upto_region 21 with (fail)
    go_loopw [11] (fun i wq => ∃ k : Nat, i = .int .i64 k ∧ k ≤ O1.length ∧ wq = wr) (fun i _ => O1.length - (intOf i).toNat)
    case atStart => exact ⟨0, rfl, Nat.zero_le _, rfl⟩
    case round =>
      obtain ⟨k, rfl, hk, rfl⟩ := hrel
      have iO' : wr.cell? ⟨g, 18, none⟩ = some (.slice (p2.iA 4) O1.length (p2.ic 4)) := (hBr.cell (p := ⟨g, 18, none⟩) hlg2).trans iO'
      rcases Nat.lt_or_ge k O1.length with hkl | hkl
      · have dk : decide (k < O1.length) = true := decide_eq_true hkl
        have dki : decide ((k : Int) < (O1.length : Int)) = true := decide_eq_true (by omega)
        have hki : (k : Int) < (O1.length : Int) := by omega
        have hk0 : (0 : Int) ≤ (k : Int) := by omega
        obtain ⟨bO, oO, hAO, hcO⟩ := HCE.out k hkl
        have hcO := (hBr.cell (p := ⟨bO, oO + k, none⟩) (block_lt_of_cell hcO)).trans hcO
        rw [hAO] at iO'
        clear hAO
        go_wp2
        exact ⟨⟨k + 1, by go_num, by omega, trivial⟩, by simp [intOf]; omega⟩
      · have dk : decide (k < O1.length) = false := decide_eq_false (by omega)
        have dki : decide ((k : Int) < (O1.length : Int)) = false := decide_eq_false (by omega)
        clear hkl hk
        have l1 : (S2.E 0).cs.length = 0 := by rw [HCS.out]; rfl
        have l2 : (S2.E 0).ss.length = 0 := by rw [HSS.out]; rfl
        have l3 : (Z2 0).length = 0 := by
          obtain ⟨ms, k1, k2⟩ := hR2 0 (by omega)
          rw [HY.out] at k1
          have : ms = [] := by simpa using k1.symm
          rw [k2, this]; rfl
        have hMr := hM2.below hBr
        have c3 : wr.cell? ⟨g, 3, none⟩ = some (.slice (p2.A 0) (S2.E 0).cs.length (p2.c 0)) := hMr.row.now.cell 3
        have c4 : wr.cell? ⟨g, 4, none⟩ = some (.slice (p2.B 0) (S2.E 0).ss.length (p2.d 0)) := hMr.row.now.cell 4
        have cz : wr.cell? ⟨g, 12, none⟩ = some (.slice (p2.zA 0) (Z2 0).length (p2.zc 0)) := hMr.row.now.cell 12
        rw [l1] at c3
        rw [l2] at c4
        rw [l3] at cz
        clear l1 l2 l3
        have hw00 : IntKind.i64.wrap 0 = 0 := by rw [IntKind.wrap_i64]; rfl
        go_upto_region 25 with (fail)
        clear iO'
        have c3 : wr.drew.cell? ⟨g, 3, none⟩ = some (.slice (p2.A 0) 0 (p2.c 0)) := c3
        have c4 : wr.drew.cell? ⟨g, 4, none⟩ = some (.slice (p2.B 0) 0 (p2.d 0)) := c4
        have cz : wr.drew.cell? ⟨g, 12, none⟩ = some (.slice (p2.zA 0) 0 (p2.zc 0)) := cz
        refine wp_region_told (n := 107) (fun w' => w' = wr.drew) (fun _ _ => True) (by kernel_rfl) (by kernel_rfl) (by rfl) rfl ?_
        repeat (first | (refine walk_pure (v := ?_) (fun _ => trivial) (fun _ => rfl) ?_ ?_; rotate_left; (focus (intro us w9 hS9 hF; subst hS9; clear hF; go_simp; (try with_reducible rfl); done)); simp only [Act.put, List.setIfInBounds_toArray, List.set_cons_zero, List.set_cons_succ, Nat.reduceAdd]) | (refine walk_skip (fun _ => trivial) (fun _ => rfl) ?_; simp only [Act.put, List.setIfInBounds_toArray, List.set_cons_zero, List.set_cons_succ, Nat.reduceAdd]))
        refine walk_done fun us w9 hS9 hF => ?_
        subst hS9
        clear hF
        clear c3 c4 cz
        go_wp2
        exact ⟨⟨1, by omega, by go_num, hBr.drew⟩, by simp [intOf]⟩
  · as_aux_lemma =>
    obtain ⟨hy, hcs0, hss0, hone⟩ := uc_pot_zero hI2 (by have := HP.out; unfold UcS.pots at this; omega) (by have := HP.out; unfold UcS.pots at this; omega) (s := 1) (by omega)
    obtain ⟨O1, hO1e⟩ : ∃ O1, S2.O 1 = O1 := ⟨_, rfl⟩
    have hO1 : O1.length ≤ 1000 := by
      have h1 := (hI2.sd (s := 1) (by omega)).dir.ol
      have h2 := (hI2.sd (s := 1) (by omega)).lc
      rw [← hO1e]; omega
    rw [hO1e] at hone
    have hIO : (S2.cn Z2).I 5 = O1 := hO1e
    have iO' : w2.cell? ⟨g, 19, none⟩ = some (.slice (p2.iA 5) O1.length (p2.ic 5)) := by
      have h : w2.cell? ⟨g, 19, none⟩ = some (.slice (p2.iA 5) ((S2.cn Z2).I 5).length (p2.ic 5)) := hM2.row.now.cell 19
      rw [hIO] at h
      exact h
    have hcells : ∀ k, k < O1.length → ∃ b o, p2.iA 5 = some ⟨b, o, none⟩ ∧ w2.cell? ⟨b, o + k, none⟩ = some (.int .i64 1) := fun k hk => by
      obtain ⟨bO, oO, curO, hAO, hrO, hcO⟩ := (hM2.ints 5 (by omega)).part.now.cells (by rw [hIO]; omega)
      exact ⟨bO, oO, hAO, hcO k _ (iv_at (by rw [hIO]; exact hone k hk))⟩
    have HCE := Lib.hid hcells
    have HY := Lib.hid hy
    have HCS := Lib.hid hcs0
    have HSS := Lib.hid hss0
    clear hone hcells hIO hO1e hy hcs0 hss0
    go_upto_region 21 with (fail)
    go_loopw [11] (fun i wq => ∃ k : Nat, i = .int .i64 k ∧ k ≤ O1.length ∧ wq = wr) (fun i _ => O1.length - (intOf i).toNat)
    case atStart => exact ⟨0, rfl, Nat.zero_le _, rfl⟩
    case round =>
      obtain ⟨k, rfl, hk, rfl⟩ := hrel
      have iO' : wr.cell? ⟨g, 19, none⟩ = some (.slice (p2.iA 5) O1.length (p2.ic 5)) := (hBr.cell (p := ⟨g, 19, none⟩) hlg2).trans iO'
      rcases Nat.lt_or_ge k O1.length with hkl | hkl
      · have dk : decide (k < O1.length) = true := decide_eq_true hkl
        have dki : decide ((k : Int) < (O1.length : Int)) = true := decide_eq_true (by omega)
        have hki : (k : Int) < (O1.length : Int) := by omega
        have hk0 : (0 : Int) ≤ (k : Int) := by omega
        obtain ⟨bO, oO, hAO, hcO⟩ := HCE.out k hkl
        have hcO := (hBr.cell (p := ⟨bO, oO + k, none⟩) (block_lt_of_cell hcO)).trans hcO
        rw [hAO] at iO'
        clear hAO
        go_wp2
        exact ⟨⟨k + 1, by go_num, by omega, trivial⟩, by simp [intOf]; omega⟩
      · have dk : decide (k < O1.length) = false := decide_eq_false (by omega)
        have dki : decide ((k : Int) < (O1.length : Int)) = false := decide_eq_false (by omega)
        clear hkl hk
        have l1 : (S2.E 1).cs.length = 0 := by rw [HCS.out]; rfl
        have l2 : (S2.E 1).ss.length = 0 := by rw [HSS.out]; rfl
        have l3 : (Z2 1).length = 0 := by
          obtain ⟨ms, k1, k2⟩ := hR2 1 (by omega)
          rw [HY.out] at k1
          have : ms = [] := by simpa using k1.symm
          rw [k2, this]; rfl
        have hMr := hM2.below hBr
        have c3 : wr.cell? ⟨g, 9, none⟩ = some (.slice (p2.A 1) (S2.E 1).cs.length (p2.c 1)) := hMr.row.now.cell 9
        have c4 : wr.cell? ⟨g, 10, none⟩ = some (.slice (p2.B 1) (S2.E 1).ss.length (p2.d 1)) := hMr.row.now.cell 10
        have cz : wr.cell? ⟨g, 13, none⟩ = some (.slice (p2.zA 1) (Z2 1).length (p2.zc 1)) := hMr.row.now.cell 13
        rw [l1] at c3
        rw [l2] at c4
        rw [l3] at cz
        clear l1 l2 l3
        have hw00 : IntKind.i64.wrap 0 = 0 := by rw [IntKind.wrap_i64]; rfl
        go_upto_region 25 with (fail)
        clear iO'
        have c3 : wr.drew.cell? ⟨g, 9, none⟩ = some (.slice (p2.A 1) 0 (p2.c 1)) := c3
        have c4 : wr.drew.cell? ⟨g, 10, none⟩ = some (.slice (p2.B 1) 0 (p2.d 1)) := c4
        have cz : wr.drew.cell? ⟨g, 13, none⟩ = some (.slice (p2.zA 1) 0 (p2.zc 1)) := cz
        refine wp_region_told (n := 107) (fun w' => w' = wr.drew) (fun _ _ => True) (by kernel_rfl) (by kernel_rfl) (by rfl) rfl ?_
        repeat (first | (refine walk_pure (v := ?_) (fun _ => trivial) (fun _ => rfl) ?_ ?_; rotate_left; (focus (intro us w9 hS9 hF; subst hS9; clear hF; go_simp; (try with_reducible rfl); done)); simp only [Act.put, List.setIfInBounds_toArray, List.set_cons_zero, List.set_cons_succ, Nat.reduceAdd]) | (refine walk_skip (fun _ => trivial) (fun _ => rfl) ?_; simp only [Act.put, List.setIfInBounds_toArray, List.set_cons_zero, List.set_cons_succ, Nat.reduceAdd]))
        refine walk_done fun us w9 hS9 hF => ?_
        subst hS9
        clear hF
        clear c3 c4 cz
        go_wp2
        exact ⟨⟨2, by omega, by go_num, hBr.drew⟩, by simp [intOf]⟩
  · have hBw := hB2.trans (hBr.mono hB2.size)
    clear hM2
    go_wp2_with (go_at_call 62; refine (awake32 _).mono ?_; rintro en wz ⟨rfl, hbz⟩)
    go_ret
    exact ⟨rfl, hBw.trans (hbz.mono hBw.size)⟩
end Go.Proofs.Ythjkhambmgepdaa
