/- The law LinkAcks: an end that only receives acknowledges after half a ring. -/
import Derived.Test.YthjkhambmgepdaaYa
namespace Go.Proofs.Ythjkhambmgepdaa
open Go.RowKit
set_option linter.unusedVariables false
theorem half_ring (t : Int) : ∃ h : Nat, 1 ≤ h ∧ h ≤ 32 ∧ wrap64 (2 * 2 ^ (t % 6).toNat) = 2 * (h : Int) := by
  have h1 := Int.emod_nonneg t (show (6 : Int) ≠ 0 by omega)
  have h2 := Int.emod_lt_of_pos t (show (0 : Int) < 6 by omega)
  have h3 : (t % 6).toNat = 0 ∨ (t % 6).toNat = 1 ∨ (t % 6).toNat = 2 ∨ (t % 6).toNat = 3 ∨ (t % 6).toNat = 4 ∨ (t % 6).toNat = 5 := by omega
  rcases h3 with h | h | h | h | h | h <;> rw [h]
  · exact ⟨1, by omega, by omega, by decide +kernel⟩
  · exact ⟨2, by omega, by omega, by decide +kernel⟩
  · exact ⟨4, by omega, by omega, by decide +kernel⟩
  · exact ⟨8, by omega, by omega, by decide +kernel⟩
  · exact ⟨16, by omega, by omega, by decide +kernel⟩
  · exact ⟨32, by omega, by omega, by decide +kernel⟩
theorem WM.len1 {base g : Nat} {col : Nat → Nat} {w : World} {S : WrS} {p : WrP} (h : WM base g col w S p) {n : Nat} (hn : (S.Y 1).length = n) : w.cell? ⟨g, 21, none⟩ = some (.slice (p.yA 1) n (p.yc 1)) := by
  obtain ⟨⟨y0, y1, v0, v1, t0, t1⟩, fz, e0, e1⟩ := h.cells
  rw [← hn]
  exact y1
theorem WM.len0 {base g : Nat} {col : Nat → Nat} {w : World} {S : WrS} {p : WrP} (h : WM base g col w S p) {n : Nat} (hn : (S.Y 0).length = n) : w.cell? ⟨g, 20, none⟩ = some (.slice (p.yA 0) n (p.yc 0)) := by
  obtain ⟨⟨y0, y1, v0, v1, t0, t1⟩, fz, e0, e1⟩ := h.cells
  rw [← hn]
  exact y0
theorem WM.lenT {base g : Nat} {col : Nat → Nat} {w : World} {S : WrS} {p : WrP} (h : WM base g col w S p) (hn : S.T 1 = 0) : ∃ A c, w.cell? ⟨g, 25, none⟩ = some (.slice A 0 c) := by
  obtain ⟨⟨y0, y1, v0, v1, t0, t1⟩, fz, e0, e1⟩ := h.cells
  rw [hn] at t1
  exact ⟨_, _, t1⟩
set_option maxRecDepth 100000 in
set_option maxHeartbeats 8000000 in
theorem walk_acks (t sz : Int) (_ : (Lit.int .i64 t).wf = true) (_ : (Lit.int .i64 sz).wf = true) (W : World) : Calls Try.prog 14 #[.int .i64 t, .int .i64 sz] W (True1 W) := by
  obtain ⟨h, h1, h32, hN⟩ := half_ring t
  go_enter Try.func14, Try.ntmps14
  go_upto_region 2 with (go_at_call 57; refine (wire_open W.heap.size t _ (Nat.le_refl _)).mono ?_; rintro en w0 ⟨g, N, col0, p0, hn, hv, rfl, hM0, hc0, hb0⟩)
  obtain rfl : N = 2 * (h : Int) := hn.symm.trans hN
  clear hn
  go_upto_region 3 with (go_at_call 20; (with_reducible refine (place _ _ (by omega) (by omega) _).mono ?_); rintro en w' ⟨rfl, h9⟩; rw [← h9]; clear h9)
  rw [hN]
  clear hN
  have hz0 := Int.emod_nonneg sz (show (500 : Int) ≠ 0 by omega)
  have hz1 := Int.emod_lt_of_pos sz (show (0 : Int) < 500 by omega)
  obtain ⟨M, hM, wc⟩ : ∃ M : Nat, (52 + 56 * (2 * h) ≤ M ∧ M ≤ 52 + 56 * (2 * h) + 500) ∧ IntKind.i64.wrap (52 + 56 * (2 * (h : Int)) + sz % 500) = (M : Int) := ⟨52 + 56 * (2 * h) + (sz % 500).toNat, by omega, by rw [IntKind.wrap_i64]; omega⟩
  have wa : IntKind.i64.wrap (56 * (2 * (h : Int))) = 56 * (2 * (h : Int)) := by rw [IntKind.wrap_i64]; omega
  have wb : IntKind.i64.wrap (52 + 56 * (2 * (h : Int))) = 52 + 56 * (2 * (h : Int)) := by rw [IntKind.wrap_i64]; omega
  have hI0 := newS_inv hv
  have hg0 := hI0.g 0 (by omega)
  have hV0 : ((newS (2 * (h : Int))).V 0).length ≤ 100000 := Nat.zero_le _
  have hQ0 : ((newS (2 * (h : Int))).E 0).q.length < 64 := Nat.succ_pos _
  go_upto_region 6 with (first | (go_at_call 20; (with_reducible refine (place _ _ (by omega) (by omega) _).mono ?_); rintro en w' ⟨rfl, h9⟩; rw [← h9]; clear h9) | (go_at_call 61; (with_reducible refine (enq_yes0 W.heap.size g col0 w0 _ p0 hM0 hg0 M (by omega) hV0 hQ0).mono ?_); rintro en w1 ⟨rfl, col, p, hM1, hw1, hcc⟩))
  have hB1 := hM0.white hw1 hb0
  have hM1 : WM W.heap.size g col w1 (enqS (newS (2 * (h : Int))) 0 (fillB M 0)) p := hM1
  have hml : (fillB M 0).length = M := fillB_len M 0
  have hI1 : WInv (0 + 10) (enqS (newS (2 * (h : Int))) 0 (fillB M 0)) := hI0.enq (k := 10) (by omega) hQ0 (by omega) (by rw [hml]; unfold cntF; rw [if_pos (by omega)]; omega) (by omega)
  have hA1 : AkT h (fillB M 0) 0 0 (enqS (newS (2 * (h : Int))) 0 (fillB M 0)) := AkT.new rfl
  have hY1 : (enqS (newS (2 * (h : Int))) 0 (fillB M 0)).Y 1 = [] := rfl
  have hms : 52 + 56 * (2 * h) ≤ (fillB M 0).length := by omega
  generalize fillB M 0 = ms at *
  generalize enqS (newS (2 * (h : Int))) 0 ms = S0 at *
  clear hV0 hQ0 hg0 hI0 wa wb wc hM hz0 hz1 hml hw1 hcc hM0 hc0 hb0 hv
  go_loopw [8] (fun i wr => ∃ (j : Nat) (S1 : WrS) (col1 : Nat → Nat) (p1 : WrP), i = .int .i64 j ∧ j ≤ 2 * h ∧ AkT h ms j j S1 ∧ Hid (S1.Y 1 = []) ∧ WInv (10 + 3 * j) S1 ∧ WM W.heap.size g col1 wr S1 p1 ∧ White col w1 wr ∧ (∀ x, x < w1.heap.size → col x = 0 → col1 x = 0)) (fun i _ => 2 * h - (intOf i).toNat)
  case atStart => exact ⟨0, S0, col, p, rfl, by omega, hA1, Lib.hid hY1, hI1, hM1, White.refl _ _, fun _ _ h => h⟩
  case round =>
    obtain ⟨j, S1, col1, p1, rfl, hj, hA, HY, hI, hM, hw, hc⟩ := hrel
    clear hA1 hY1 hI1
    rcases Nat.lt_or_ge j (2 * h) with hjl | hjl
    · have dj : decide (j < 2 * h) = true := decide_eq_true hjl
      have dji : decide ((j : Int) < 2 * (h : Int)) = true := decide_eq_true (by omega)
      obtain ⟨A2, l, hl, hk⟩ := hA.go hI hjl (by omega) hms HY.out
      have i2 := (trT_inv hI (by omega) (s := 0) (by omega)).1
      obtain ⟨A3, hY3⟩ := A2.de i2 hl
      have i3 := (deT1_inv i2 (by omega)).1
      obtain ⟨A4, hY4⟩ := A3.ack i3 h1 (by omega) hjl hY3
      have i4 := (trT_inv i3 (by omega) (s := 1) (by omega)).1
      have HL := Lib.hid (show ((trT S1 0).Y 1).length = 1 by rw [hl]; rfl)
      have HY4 := Lib.hid hY4
      clear hl hk hY3 hY4 A2 A3
      have hlg := hM.lt
      go_upto_region 10 with (first | (go_at_call 59; (with_reducible refine (step_tr0 hM hI (by omega)).mono ?_); rintro en w3 ⟨-, rfl, col3, p3, hM3, hw3, hc3⟩; have hM3 : WM W.heap.size g col3 w3 (trT S1 0) p3 := hM3; have y1 := hM3.len1 HL.out) | (go_at_call 60; (with_reducible refine (step_de1 hM3 i2 (by omega)).mono ?_); rintro en w4 ⟨-, rfl, col4, p4, hM4, hw4, hc4⟩; have hM4 : WM W.heap.size g col4 w4 (deT1 (trT S1 0)) p4 := hM4; clear y1) | (go_at_call 59; (with_reducible refine (step_tr1 hM4 i3 (by omega)).mono ?_); rintro en w5 ⟨-, rfl, col5, p5, hM5, hw5, hc5⟩; have hM5 : WM W.heap.size g col5 w5 (trT (deT1 (trT S1 0)) 1) p5 := hM5))
      go_upto_region 11 with (fail)
      obtain ⟨q, hq⟩ : ∃ q : Nat, (j + 1) / h = q := ⟨_, rfl⟩
      have hqi : ((j : Int) + 1) / (h : Int) = (q : Int) := by rw [← hq]; simp
      rw [hqi]
      have y0 := hM5.len0 (n := q) (by rw [A4.y0, hq])
      clear hq hqi
      have hA3 := hw.step hc hw3
      have cA3 := fun x (hx : x < w1.heap.size) (h0 : col x = 0) => hc3 x (Nat.lt_of_lt_of_le hx hw.size) (hc x hx h0)
      have hA4 := hA3.step cA3 hw4
      have cA4 := fun x (hx : x < w1.heap.size) (h0 : col x = 0) => hc4 x (Nat.lt_of_lt_of_le hx hA3.size) (cA3 x hx h0)
      have hA5 := hA4.step cA4 hw5
      have cA5 := fun x (hx : x < w1.heap.size) (h0 : col x = 0) => hc5 x (Nat.lt_of_lt_of_le hx hA4.size) (cA4 x hx h0)
      clear hA3 hA4 cA3 cA4 hw3 hw4 hw5 hc3 hc4 hc5 hM3 hM4 hM i2 i3 hI hA hw hc
      go_wp2
      exact ⟨⟨j + 1, _, col5, p5, by go_num, by omega, A4, HY4, i4.mono (by omega), hM5, hA5, cA5⟩, by simp [intOf]; omega⟩
    · obtain rfl : j = 2 * h := by omega
      have dj : decide (2 * h < 2 * h) = false := decide_eq_false (by omega)
      have dji : decide (2 * (h : Int) < 2 * (h : Int)) = false := decide_eq_false (by omega)
      have djk : decide (((2 * h : Nat) : Int) < 2 * (h : Int)) = false := decide_eq_false (by omega)
      have hst := hA.stop hI h1
      have hlg := hM.lt
      go_upto_region 15 with (first | (go_at_call 59; (with_reducible refine (step_tr0 hM hI (by omega)).mono ?_); rintro en w3 ⟨-, rfl, col3, p3, hM3, hw3, hc3⟩; have hM3 : WM W.heap.size g col3 w3 (trT S1 0) p3 := hM3; rw [hst] at hM3; have y1 := hM3.len1 (n := 0) (by rw [HY.out]; rfl)))
      have hA3 := hw.step hc hw3
      have cA3 := fun x (hx : x < w1.heap.size) (h0 : col x = 0) => hc3 x (Nat.lt_of_lt_of_le hx hw.size) (hc x hx h0)
      have hB3 := hM1.white hA3 hB1
      clear hw hc hw3 hc3 hM hM1 hA3 cA3 hB1 hst
      have hdv : 2 * h / h = 2 := by rw [Nat.mul_comm]; exact Nat.mul_div_cancel_left 2 h1
      obtain ⟨l, ls, hY0, hk, hla⟩ := hA.hd (by rw [hdv]; omega)
      obtain ⟨hon, hoT⟩ := hA.on hI (by omega) h1 (by omega) HY.out (by rw [hdv]; omega)
      have hT0 := (hA.got hI HY.out).2.1
      have tk := hI.takes (s := 0) (by omega) (by omega) hY0
      have hok := tk.ok
      have hvq := (hM3.way 0 (by omega)).part.now
      have hYl : (S1.Y 0).length = ls.length + 1 := by rw [hY0]; rfl
      have y0 := hM3.len0 hYl
      obtain ⟨b, ob, cur, hAd, hrb, hcell⟩ := hvq.cells (by omega)
      obtain ⟨k, el, fl, len, ack, pp⟩ := l
      have hk : k = 2 := hk
      have hla : ack = (h : Int) := hla
      subst hk hla
      have hpp : pp.length = 56 := hok.1
      have hrng : w3.rangeAt b ob (LV 2 el fl len (h : Int) pp).toList := fun i v hv => by
        refine hcell i v ?_
        rw [hY0]
        show ((LV 2 el fl len (h : Int) pp).toList ++ lsC ls)[i]? = some v
        rw [List.getElem?_append_left (List.getElem?_eq_some_iff.1 hv).1]
        exact hv
      rw [hAd] at y0
      have HON := Lib.hid hon
      have HTT := Lib.hid (hoT.trans hT0)
      have i2 := (deT0_inv hI (by omega)).1
      have hlg3 := hM3.lt
      clear hAd hYl hY0 hcell hok tk hrb hvq hon hoT hT0 y1 hA hdv
      have hi0 : (0 : Int) < (ls.length : Int) + 1 := by omega
      go_upto_region 16 with (first | ((with_reducible refine wp_load_g ?_ hrng Try.underlying40 rfl (line_info _ _ _ _ _ hpp) ?_ ?_); rfl; rfl) | ((with_reducible refine wp_row_store (L := LV 2 el fl len (h : Int) pp) (Row.bornAt (g := w3.heap.size) rfl 40 _) ?_ (line_info _ _ _ _ _ hpp) (LV_one _ _ _ _ _ _) ?_ ?_ ?_); exact (LV_size _ _ _ _ _ hpp).symm; rfl; rfl; intro w7 u7 r7))
      have hal := Upd.below ((Below.refl w3.heap.size w3).alloc (Nat.le_refl _) (.cells ZL 40)) u7 (Nat.le_refl _)
      have hM7 := hM3.below hal
      have hB7 := hB3.trans (hal.mono hB3.size)
      obtain ⟨l0, -, -, -, l4⟩ := line_cells r7
      have hwu : IntKind.i64.wrap (h : Int) = (h : Int) := by rw [IntKind.wrap_i64]; omega
      clear hrng u7 y0 hal hB3 hi0 hM3 hlg3
      have hlg := hM7.lt
      go_upto_region 18 with (first | (go_at_call 60; (with_reducible refine (step_de0 hM7 hI (by omega)).mono ?_); rintro en w8 ⟨-, rfl, col8, p8, hM8, hw8, hc8⟩) | (go_at_call 59; (with_reducible refine (step_tr0 hM8 i2 (by omega)).mono ?_); rintro en w9 ⟨-, rfl, col9, p9, hM9, hw9, hc9⟩; have hM9 : WM W.heap.size g col9 w9 (trT (deT0 S1) 0) p9 := hM9; have y1 := hM9.len1 HON.out))
      obtain ⟨tA, tc, t1⟩ := hM9.lenT HTT.out
      have hB8 := hM7.white hw8 hB7
      have hB9 := hM8.white hw9 hB8
      have hlg9 := hM9.lt
      clear y1 l0 l4 hw8 hw9 hc8 hc9 hM7 hM8 hM9 hB7 hB8
      go_wp2_with (go_at_call 44; refine (awake20 _).mono ?_; rintro en wz ⟨rfl, hbz⟩)
      go_ret
      exact ⟨rfl, hB9.trans (hbz.mono hB9.size)⟩
end Go.Proofs.Ythjkhambmgepdaa
