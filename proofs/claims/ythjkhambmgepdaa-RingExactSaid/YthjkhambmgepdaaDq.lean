/- Lines: the reference's DecodeLine. -/
import Derived.Test.YthjkhambmgepdaaRf4
import Derived.Test.YthjkhambmgepdaaDcs
namespace Go.Proofs.Ythjkhambmgepdaa
open Go.RowKit
set_option linter.unusedVariables false
theorem or_word16 {x y : Nat} (hx : x < 256) (hy : y < 256) : bits .or .u16 (x : Int) ((y : Int) * 256) = (x : Int) + 256 * (y : Int) := by
  have h := u16_or_nat x (y * 256) (by omega) (by omega)
  have e := Nat.two_pow_add_eq_or_of_lt (i := 8) hx y
  rw [Nat.or_comm, show y * 256 = 2 ^ 8 * y by omega, ← e] at h
  rw [show ((y : Int) * 256) = ((2 ^ 8 * y : Nat) : Int) by omega, h]
  omega
set_option maxRecDepth 100000 in
set_option maxHeartbeats 4000000 in
theorem decodeq_short (A : Option Addr) (n c : Nat) (bs : List UInt8) (W : World) (hA : IsB W A n bs) (hn : n < 64) : Calls Try.prog 40 #[.slice A n c] W (DcPost bs W) := by
  have hd : decide (n < 64) = true := by simpa using hn
  have hd' : decide ((n : Int) < 64) = true := by simp; omega
  have hB := (Below.refl W.heap.size W).alloc (Nat.le_refl _) (.cells ZL 40)
  have r2 := Row.born W 40 ZL
  have HE := Lib.hid (dc_short (bs := bs) (by have := hA.1; omega))
  go_enter Try.func40, Try.ntmps40
  go_upto_region 1 with (fail)
  obtain ⟨w1, hw1⟩ : ∃ w1, W.alloc (.cells ZL 40) = w1 := ⟨_, rfl⟩
  rw [hw1] at r2 hB
  have hw2 : W.alloc (.cells #[.int .i64 0, .bool false, .bool false, .int .i64 0, .int .u16 0, .int .u8 0, .int .u8 0, .int .u8 0, .int .u8 0, .int .u8 0, .int .u8 0, .int .u8 0, .int .u8 0, .int .u8 0, .int .u8 0, .int .u8 0, .int .u8 0, .int .u8 0, .int .u8 0, .int .u8 0, .int .u8 0, .int .u8 0, .int .u8 0, .int .u8 0, .int .u8 0, .int .u8 0, .int .u8 0, .int .u8 0, .int .u8 0, .int .u8 0, .int .u8 0, .int .u8 0, .int .u8 0, .int .u8 0, .int .u8 0, .int .u8 0, .int .u8 0, .int .u8 0, .int .u8 0, .int .u8 0, .int .u8 0, .int .u8 0, .int .u8 0, .int .u8 0, .int .u8 0, .int .u8 0, .int .u8 0, .int .u8 0, .int .u8 0, .int .u8 0, .int .u8 0, .int .u8 0, .int .u8 0, .int .u8 0, .int .u8 0, .int .u8 0, .int .u8 0, .int .u8 0, .int .u8 0, .int .u8 0, .int .u8 0] 40) = w1 := hw1
  rw [hw2]
  clear hw1 hw2
  go_wp2_with ((with_reducible refine wp_row_store (L := ZL) r2 rfl zl_info zl_one ?_ ?_ ?_); rfl; rfl; intro wz uz rz)
  refine bodyPost_ret (results_ct rfl rfl rz Try.underlying40 rfl zl_info) rfl ?_
  exact dc_no HE.out (by decide) (Upd.below hB uz (Nat.le_refl _))
set_option maxRecDepth 100000 in
set_option maxHeartbeats 4000000 in
theorem decodeq_long (A : Option Addr) (n c : Nat) (bs : List UInt8) (W : World) (hA : IsB W A n bs) (hn : 64 < n) : Calls Try.prog 40 #[.slice A n c] W (DcPost bs W) := by
  have hd : decide (n < 64) = false := by simp; omega
  have hd' : decide ((n : Int) < 64) = false := by simp; omega
  have he : decide (64 < n) = true := by simpa using hn
  have he' : decide (64 < (n : Int)) = true := by simp; omega
  have hB := (Below.refl W.heap.size W).alloc (Nat.le_refl _) (.cells ZL 40)
  have r2 := Row.born W 40 ZL
  have HE := Lib.hid (dc_long (bs := bs) (by have := hA.1; omega))
  go_enter Try.func40, Try.ntmps40
  go_upto_region 1 with (fail)
  obtain ⟨w1, hw1⟩ : ∃ w1, W.alloc (.cells ZL 40) = w1 := ⟨_, rfl⟩
  rw [hw1] at r2 hB
  have hw2 : W.alloc (.cells #[.int .i64 0, .bool false, .bool false, .int .i64 0, .int .u16 0, .int .u8 0, .int .u8 0, .int .u8 0, .int .u8 0, .int .u8 0, .int .u8 0, .int .u8 0, .int .u8 0, .int .u8 0, .int .u8 0, .int .u8 0, .int .u8 0, .int .u8 0, .int .u8 0, .int .u8 0, .int .u8 0, .int .u8 0, .int .u8 0, .int .u8 0, .int .u8 0, .int .u8 0, .int .u8 0, .int .u8 0, .int .u8 0, .int .u8 0, .int .u8 0, .int .u8 0, .int .u8 0, .int .u8 0, .int .u8 0, .int .u8 0, .int .u8 0, .int .u8 0, .int .u8 0, .int .u8 0, .int .u8 0, .int .u8 0, .int .u8 0, .int .u8 0, .int .u8 0, .int .u8 0, .int .u8 0, .int .u8 0, .int .u8 0, .int .u8 0, .int .u8 0, .int .u8 0, .int .u8 0, .int .u8 0, .int .u8 0, .int .u8 0, .int .u8 0, .int .u8 0, .int .u8 0, .int .u8 0, .int .u8 0] 40) = w1 := hw1
  rw [hw2]
  clear hw1 hw2
  go_wp2_with ((with_reducible refine wp_row_store (L := ZL) r2 rfl zl_info zl_one ?_ ?_ ?_); rfl; rfl; intro wz uz rz)
  refine bodyPost_ret (results_ct rfl rfl rz Try.underlying40 rfl zl_info) rfl ?_
  exact dc_no HE.out (by decide) (Upd.below hB uz (Nat.le_refl _))
set_option maxRecDepth 100000 in
set_option maxHeartbeats 4000000 in
theorem decodeq_sum (A : Option Addr) (c : Nat) (bs : List UInt8) (W : World) (hA : IsB W A 64 bs) (hs : sum16 bs ≠ 0) : Calls Try.prog 40 #[.slice A 64 c] W (DcPost bs W) := by
  have hB := (Below.refl W.heap.size W).alloc (Nat.le_refl _) (.cells ZL 40)
  have r2 := Row.born W 40 ZL
  have HE := Lib.hid (show dcE bs = 55 by unfold dcE; rw [if_neg (by rw [← hA.1]; omega), if_neg (by rw [← hA.1]; omega), if_pos hs])
  obtain ⟨S, hS⟩ : ∃ S, sum16 bs = S := ⟨_, rfl⟩
  have HS := Lib.hid hS
  rw [hS] at hs
  clear hS
  have z1 : ((S : Int) == 0) = false := by simpa using hs
  have z2 : (S == 0) = false := by simpa using hs
  have z3 : ((S : Int) != 0) = true := by simpa using hs
  have z4 : (S = 0) = False := by simpa using hs
  clear hs
  go_enter Try.func40, Try.ntmps40
  go_upto_region 1 with (fail)
  obtain ⟨w1, hw1⟩ : ∃ w1, W.alloc (.cells ZL 40) = w1 := ⟨_, rfl⟩
  rw [hw1] at r2 hB
  have hw2 : W.alloc (.cells #[.int .i64 0, .bool false, .bool false, .int .i64 0, .int .u16 0, .int .u8 0, .int .u8 0, .int .u8 0, .int .u8 0, .int .u8 0, .int .u8 0, .int .u8 0, .int .u8 0, .int .u8 0, .int .u8 0, .int .u8 0, .int .u8 0, .int .u8 0, .int .u8 0, .int .u8 0, .int .u8 0, .int .u8 0, .int .u8 0, .int .u8 0, .int .u8 0, .int .u8 0, .int .u8 0, .int .u8 0, .int .u8 0, .int .u8 0, .int .u8 0, .int .u8 0, .int .u8 0, .int .u8 0, .int .u8 0, .int .u8 0, .int .u8 0, .int .u8 0, .int .u8 0, .int .u8 0, .int .u8 0, .int .u8 0, .int .u8 0, .int .u8 0, .int .u8 0, .int .u8 0, .int .u8 0, .int .u8 0, .int .u8 0, .int .u8 0, .int .u8 0, .int .u8 0, .int .u8 0, .int .u8 0, .int .u8 0, .int .u8 0, .int .u8 0, .int .u8 0, .int .u8 0, .int .u8 0, .int .u8 0] 40) = w1 := hw1
  rw [hw2]
  clear hw1 hw2
  have hA1 := hA.below hB
  go_wp2_with (first | ((with_reducible refine wp_row_store (L := ZL) r2 rfl zl_info zl_one ?_ ?_ ?_); rfl; rfl; intro wz uz rz) | (go_at_call 96; refine (sum_ref _ _ _ _ _ hA1 (by omega)).mono ?_; rintro e w' ⟨rfl, rfl⟩; rw [HS.out]))
  refine bodyPost_ret (results_ct rfl rfl rz Try.underlying40 rfl zl_info) rfl ?_
  exact dc_no HE.out (by decide) (Upd.below hB uz (Nat.le_refl _))
set_option maxRecDepth 100000 in
set_option maxHeartbeats 4000000 in
theorem decodeq_main (A : Option Addr) (c : Nat) (bs : List UInt8) (W : World) (hA : IsB W A 64 bs) (hs : sum16 bs = 0) (hc : 64 ≤ c) : Calls Try.prog 40 #[.slice A 64 c] W (DcPost bs W) := by
  have hB := (Below.refl W.heap.size W).alloc (Nat.le_refl _) (.cells ZL 40)
  have r2 := Row.born W 40 ZL
  have hl1 : bs.length = 64 := hA.1.symm
  have HD := Lib.hid (show dcE bs = if dcOk bs = true then 0 else 54 by unfold dcE; rw [hl1, hs]; simp)
  have HS := Lib.hid hs
  clear hs
  obtain ⟨bb, oo, rfl, hbb, hcell⟩ := hA.at_ (by omega)
  have x00 := hcell 0 (by omega)
  have x11 := hcell 1 (by omega)
  rw [Nat.add_zero] at x00
  have g0 : bs[0].toNat = (bs.getD 0 0).toNat := by rw [List.getD_eq_getElem?_getD, List.getElem?_eq_getElem (by omega)]; rfl
  have g1 : bs[1].toNat = (bs.getD 1 0).toNat := by rw [List.getD_eq_getElem?_getD, List.getElem?_eq_getElem (by omega)]; rfl
  have hx := bs[0].toNat_lt
  have hx1 := bs[1].toNat_lt
  obtain ⟨f1, f2, f3⟩ := u8_and ⟨bs[0].toNat, hx⟩
  dsimp only at f1 f2 f3
  rw [g0] at f1 f2 f3 x00
  rw [g1] at x11 hx1
  obtain ⟨K, hK⟩ : ∃ K, gK bs = K := ⟨_, rfl⟩
  obtain ⟨F, hF⟩ : ∃ F, gF bs = F := ⟨_, rfl⟩
  obtain ⟨E, hE⟩ : ∃ E, gE bs = E := ⟨_, rfl⟩
  obtain ⟨n, hn⟩ : ∃ n, gN bs = n := ⟨_, rfl⟩
  obtain ⟨a, ha⟩ : ∃ a, gA bs = a := ⟨_, rfl⟩
  obtain ⟨X0, hX0⟩ : ∃ X0 : Int, ((bs.getD 0 0).toNat : Int) = X0 := ⟨_, rfl⟩
  have k3 : bits .and .u8 X0 3 = K := by rw [← hX0, ← hK]; exact f1
  have k4 : (bits .and .u8 X0 4 != 0) = F := by rw [← hX0, ← hF]; exact f2
  have k8 : (bits .and .u8 X0 8 != 0) = E := by rw [← hX0, ← hE]; exact f3
  have n0 : 0 ≤ n ∧ n < 256 := by rw [← hn]; unfold gN; omega
  have a0 : 0 ≤ a ∧ a < 65536 := by
    rw [← ha]
    unfold gA
    have := (bs.getD 2 0).toNat_lt
    have := (bs.getD 3 0).toNat_lt
    omega
  have x22 := hcell 2 (by omega)
  have x33 := hcell 3 (by omega)
  have g2 : bs[2].toNat = (bs.getD 2 0).toNat := by rw [List.getD_eq_getElem?_getD, List.getElem?_eq_getElem (by omega)]; rfl
  have g3 : bs[3].toNat = (bs.getD 3 0).toNat := by rw [List.getD_eq_getElem?_getD, List.getElem?_eq_getElem (by omega)]; rfl
  have hx2 := bs[2].toNat_lt
  have hx3 := bs[3].toNat_lt
  rw [g2] at x22 hx2
  rw [g3] at x33 hx3
  have haY : a = ((bs.getD 2 0).toNat : Int) + 256 * ((bs.getD 3 0).toNat : Int) := by rw [← ha]; unfold gA; omega
  have hor := or_word16 hx2 hx3
  rw [← haY] at hor
  generalize (bs.getD 2 0).toNat = y2 at *
  generalize (bs.getD 3 0).toNat = y3 at *
  have q0 : 0 ≤ K ∧ K < 4 := by rw [← hK]; unfold gK; omega
  rw [hX0] at x00
  have x11 : W.cell? ⟨bb, oo + 1, none⟩ = some (.int .u8 n) := by rw [x11, ← hn]; rfl
  have HK := Lib.hid hK
  have HF := Lib.hid hF
  have HEE := Lib.hid hE
  have HN := Lib.hid hn
  have HA := Lib.hid ha
  clear f1 f2 f3 hx hx1 g0 g1 hK hF hE hn ha hX0 hcell g2 g3 haY
  have hs0 : ((sum16 bs : Nat) : Int) = 0 := by rw [HS.out]; rfl
  have HS0 := Lib.hid hs0
  clear hs0
  go_enter Try.func40, Try.ntmps40
  go_upto_region 1 with (fail)
  obtain ⟨w1, hw1⟩ : ∃ w1, W.alloc (.cells ZL 40) = w1 := ⟨_, rfl⟩
  rw [hw1] at r2 hB
  have hw2 : W.alloc (.cells #[.int .i64 0, .bool false, .bool false, .int .i64 0, .int .u16 0, .int .u8 0, .int .u8 0, .int .u8 0, .int .u8 0, .int .u8 0, .int .u8 0, .int .u8 0, .int .u8 0, .int .u8 0, .int .u8 0, .int .u8 0, .int .u8 0, .int .u8 0, .int .u8 0, .int .u8 0, .int .u8 0, .int .u8 0, .int .u8 0, .int .u8 0, .int .u8 0, .int .u8 0, .int .u8 0, .int .u8 0, .int .u8 0, .int .u8 0, .int .u8 0, .int .u8 0, .int .u8 0, .int .u8 0, .int .u8 0, .int .u8 0, .int .u8 0, .int .u8 0, .int .u8 0, .int .u8 0, .int .u8 0, .int .u8 0, .int .u8 0, .int .u8 0, .int .u8 0, .int .u8 0, .int .u8 0, .int .u8 0, .int .u8 0, .int .u8 0, .int .u8 0, .int .u8 0, .int .u8 0, .int .u8 0, .int .u8 0, .int .u8 0, .int .u8 0, .int .u8 0, .int .u8 0, .int .u8 0, .int .u8 0] 40) = w1 := hw1
  rw [hw2]
  clear hw1 hw2
  have hA1 := hA.below hB
  go_upto_region 7 with (first | (go_at_call 96; refine (sum_ref _ _ _ _ _ hA1 (by omega)).mono ?_; rintro e w' ⟨rfl, h9⟩; rw [← h9, HS0.out]; clear h9))
  have x0 := (hB.cell (p := ⟨bb, oo, none⟩) hbb).trans x00
  have x1 := (hB.cell (p := ⟨bb, oo + 1, none⟩) hbb).trans x11
  have x2 := (hB.cell (p := ⟨bb, oo + 2, none⟩) hbb).trans x22
  have x3 := (hB.cell (p := ⟨bb, oo + 3, none⟩) hbb).trans x33
  have hlz : bb < w1.heap.size := by have := hB.size; omega
  have hlt0 := r2.lt
  have kw : IntKind.i64.wrap K = K := by rw [IntKind.wrap_i64]; omega
  have nw : IntKind.i64.wrap n = n := by rw [IntKind.wrap_i64]; omega
  have wy2 : IntKind.u16.wrap (y2 : Int) = y2 := by rw [IntKind.wrap_u16]; omega
  have wy3 : IntKind.u16.wrap (y3 : Int) = y3 := by rw [IntKind.wrap_u16]; omega
  refine wp_region_tailN (n := 81) 31 (fun w' => Below w1.heap.size w1 w') (fun w1 w2 => Below w1.heap.size w1 w2) (by kernel_rfl) (by kernel_rfl) (by decide) (by rfl) (Below.refl _ _).drew ?_
  simp only [List.take_succ_cons, List.take_zero, List.drop_succ_cons, List.drop_zero]
  refine tail_pure (fun w => Below.refl _ w) (v := .slice (some ⟨bb, oo, none⟩) 64 c) (fun _ => rfl) ?_ ?_; (focus (intro us w9 hS9 hF; clear hF; have k0 := (hS9.cell (p := ⟨bb, oo, none⟩) hlz).trans x0; have k1 := (hS9.cell (p := ⟨bb, oo + 1, none⟩) hlz).trans x1; have k2 := (hS9.cell (p := ⟨bb, oo + 2, none⟩) hlz).trans x2; have k9 := (hS9.cell (p := ⟨bb, oo + 3, none⟩) hlz).trans x3; clear hS9; go_simp; (try with_reducible rfl); done)); simp only [Act.put, List.setIfInBounds_toArray, List.set_cons_zero, List.set_cons_succ, Nat.reduceAdd]
  refine tail_pure (fun w => Below.refl _ w) (v := .pointer (some ⟨bb, oo, none⟩)) (fun _ => rfl) ?_ ?_; (focus (intro us w9 hS9 hF; clear hF; have k0 := (hS9.cell (p := ⟨bb, oo, none⟩) hlz).trans x0; have k1 := (hS9.cell (p := ⟨bb, oo + 1, none⟩) hlz).trans x1; have k2 := (hS9.cell (p := ⟨bb, oo + 2, none⟩) hlz).trans x2; have k9 := (hS9.cell (p := ⟨bb, oo + 3, none⟩) hlz).trans x3; clear hS9; go_simp; (try with_reducible rfl); done)); simp only [Act.put, List.setIfInBounds_toArray, List.set_cons_zero, List.set_cons_succ, Nat.reduceAdd]
  refine tail_pure (fun w => Below.refl _ w) (v := .int .u8 X0) (fun _ => rfl) ?_ ?_; (focus (intro us w9 hS9 hF; clear hF; have k0 := (hS9.cell (p := ⟨bb, oo, none⟩) hlz).trans x0; have k1 := (hS9.cell (p := ⟨bb, oo + 1, none⟩) hlz).trans x1; have k2 := (hS9.cell (p := ⟨bb, oo + 2, none⟩) hlz).trans x2; have k9 := (hS9.cell (p := ⟨bb, oo + 3, none⟩) hlz).trans x3; clear hS9; go_simp; (try with_reducible rfl); done)); simp only [Act.put, List.setIfInBounds_toArray, List.set_cons_zero, List.set_cons_succ, Nat.reduceAdd]
  refine tail_pure (fun w => Below.refl _ w) (v := .int .u8 K) (fun _ => rfl) ?_ ?_; (focus (intro us w9 hS9 hF; clear hF; have k0 := (hS9.cell (p := ⟨bb, oo, none⟩) hlz).trans x0; have k1 := (hS9.cell (p := ⟨bb, oo + 1, none⟩) hlz).trans x1; have k2 := (hS9.cell (p := ⟨bb, oo + 2, none⟩) hlz).trans x2; have k9 := (hS9.cell (p := ⟨bb, oo + 3, none⟩) hlz).trans x3; clear hS9; go_simp; (try with_reducible rfl); done)); simp only [Act.put, List.setIfInBounds_toArray, List.set_cons_zero, List.set_cons_succ, Nat.reduceAdd]
  refine tail_pure (fun w => Below.refl _ w) (v := .int .i64 K) (fun _ => rfl) ?_ ?_; (focus (intro us w9 hS9 hF; clear hF; have k0 := (hS9.cell (p := ⟨bb, oo, none⟩) hlz).trans x0; have k1 := (hS9.cell (p := ⟨bb, oo + 1, none⟩) hlz).trans x1; have k2 := (hS9.cell (p := ⟨bb, oo + 2, none⟩) hlz).trans x2; have k9 := (hS9.cell (p := ⟨bb, oo + 3, none⟩) hlz).trans x3; clear hS9; go_simp; (try with_reducible rfl); done)); simp only [Act.put, List.setIfInBounds_toArray, List.set_cons_zero, List.set_cons_succ, Nat.reduceAdd]
  refine tail_pure (fun w => Below.refl _ w) (v := .slice (some ⟨bb, oo, none⟩) 64 c) (fun _ => rfl) ?_ ?_; (focus (intro us w9 hS9 hF; clear hF; have k0 := (hS9.cell (p := ⟨bb, oo, none⟩) hlz).trans x0; have k1 := (hS9.cell (p := ⟨bb, oo + 1, none⟩) hlz).trans x1; have k2 := (hS9.cell (p := ⟨bb, oo + 2, none⟩) hlz).trans x2; have k9 := (hS9.cell (p := ⟨bb, oo + 3, none⟩) hlz).trans x3; clear hS9; go_simp; (try with_reducible rfl); done)); simp only [Act.put, List.setIfInBounds_toArray, List.set_cons_zero, List.set_cons_succ, Nat.reduceAdd]
  refine tail_pure (fun w => Below.refl _ w) (v := .pointer (some ⟨bb, oo, none⟩)) (fun _ => rfl) ?_ ?_; (focus (intro us w9 hS9 hF; clear hF; have k0 := (hS9.cell (p := ⟨bb, oo, none⟩) hlz).trans x0; have k1 := (hS9.cell (p := ⟨bb, oo + 1, none⟩) hlz).trans x1; have k2 := (hS9.cell (p := ⟨bb, oo + 2, none⟩) hlz).trans x2; have k9 := (hS9.cell (p := ⟨bb, oo + 3, none⟩) hlz).trans x3; clear hS9; go_simp; (try with_reducible rfl); done)); simp only [Act.put, List.setIfInBounds_toArray, List.set_cons_zero, List.set_cons_succ, Nat.reduceAdd]
  refine tail_pure (fun w => Below.refl _ w) (v := .int .u8 X0) (fun _ => rfl) ?_ ?_; (focus (intro us w9 hS9 hF; clear hF; have k0 := (hS9.cell (p := ⟨bb, oo, none⟩) hlz).trans x0; have k1 := (hS9.cell (p := ⟨bb, oo + 1, none⟩) hlz).trans x1; have k2 := (hS9.cell (p := ⟨bb, oo + 2, none⟩) hlz).trans x2; have k9 := (hS9.cell (p := ⟨bb, oo + 3, none⟩) hlz).trans x3; clear hS9; go_simp; (try with_reducible rfl); done)); simp only [Act.put, List.setIfInBounds_toArray, List.set_cons_zero, List.set_cons_succ, Nat.reduceAdd]
  refine tail_pure (fun w => Below.refl _ w) (v := .int .u8 (bits .and .u8 X0 4)) (fun _ => rfl) ?_ ?_; (focus (intro us w9 hS9 hF; clear hF; have k0 := (hS9.cell (p := ⟨bb, oo, none⟩) hlz).trans x0; have k1 := (hS9.cell (p := ⟨bb, oo + 1, none⟩) hlz).trans x1; have k2 := (hS9.cell (p := ⟨bb, oo + 2, none⟩) hlz).trans x2; have k9 := (hS9.cell (p := ⟨bb, oo + 3, none⟩) hlz).trans x3; clear hS9; go_simp; (try with_reducible rfl); done)); simp only [Act.put, List.setIfInBounds_toArray, List.set_cons_zero, List.set_cons_succ, Nat.reduceAdd]
  refine tail_pure (fun w => Below.refl _ w) (v := .bool F) (fun _ => rfl) ?_ ?_; (focus (intro us w9 hS9 hF; clear hF; have k0 := (hS9.cell (p := ⟨bb, oo, none⟩) hlz).trans x0; have k1 := (hS9.cell (p := ⟨bb, oo + 1, none⟩) hlz).trans x1; have k2 := (hS9.cell (p := ⟨bb, oo + 2, none⟩) hlz).trans x2; have k9 := (hS9.cell (p := ⟨bb, oo + 3, none⟩) hlz).trans x3; clear hS9; go_simp; (try with_reducible rfl); done)); simp only [Act.put, List.setIfInBounds_toArray, List.set_cons_zero, List.set_cons_succ, Nat.reduceAdd]
  refine tail_pure (fun w => Below.refl _ w) (v := .slice (some ⟨bb, oo, none⟩) 64 c) (fun _ => rfl) ?_ ?_; (focus (intro us w9 hS9 hF; clear hF; have k0 := (hS9.cell (p := ⟨bb, oo, none⟩) hlz).trans x0; have k1 := (hS9.cell (p := ⟨bb, oo + 1, none⟩) hlz).trans x1; have k2 := (hS9.cell (p := ⟨bb, oo + 2, none⟩) hlz).trans x2; have k9 := (hS9.cell (p := ⟨bb, oo + 3, none⟩) hlz).trans x3; clear hS9; go_simp; (try with_reducible rfl); done)); simp only [Act.put, List.setIfInBounds_toArray, List.set_cons_zero, List.set_cons_succ, Nat.reduceAdd]
  refine tail_pure (fun w => Below.refl _ w) (v := .pointer (some ⟨bb, oo, none⟩)) (fun _ => rfl) ?_ ?_; (focus (intro us w9 hS9 hF; clear hF; have k0 := (hS9.cell (p := ⟨bb, oo, none⟩) hlz).trans x0; have k1 := (hS9.cell (p := ⟨bb, oo + 1, none⟩) hlz).trans x1; have k2 := (hS9.cell (p := ⟨bb, oo + 2, none⟩) hlz).trans x2; have k9 := (hS9.cell (p := ⟨bb, oo + 3, none⟩) hlz).trans x3; clear hS9; go_simp; (try with_reducible rfl); done)); simp only [Act.put, List.setIfInBounds_toArray, List.set_cons_zero, List.set_cons_succ, Nat.reduceAdd]
  refine tail_pure (fun w => Below.refl _ w) (v := .int .u8 X0) (fun _ => rfl) ?_ ?_; (focus (intro us w9 hS9 hF; clear hF; have k0 := (hS9.cell (p := ⟨bb, oo, none⟩) hlz).trans x0; have k1 := (hS9.cell (p := ⟨bb, oo + 1, none⟩) hlz).trans x1; have k2 := (hS9.cell (p := ⟨bb, oo + 2, none⟩) hlz).trans x2; have k9 := (hS9.cell (p := ⟨bb, oo + 3, none⟩) hlz).trans x3; clear hS9; go_simp; (try with_reducible rfl); done)); simp only [Act.put, List.setIfInBounds_toArray, List.set_cons_zero, List.set_cons_succ, Nat.reduceAdd]
  refine tail_pure (fun w => Below.refl _ w) (v := .int .u8 (bits .and .u8 X0 8)) (fun _ => rfl) ?_ ?_; (focus (intro us w9 hS9 hF; clear hF; have k0 := (hS9.cell (p := ⟨bb, oo, none⟩) hlz).trans x0; have k1 := (hS9.cell (p := ⟨bb, oo + 1, none⟩) hlz).trans x1; have k2 := (hS9.cell (p := ⟨bb, oo + 2, none⟩) hlz).trans x2; have k9 := (hS9.cell (p := ⟨bb, oo + 3, none⟩) hlz).trans x3; clear hS9; go_simp; (try with_reducible rfl); done)); simp only [Act.put, List.setIfInBounds_toArray, List.set_cons_zero, List.set_cons_succ, Nat.reduceAdd]
  refine tail_pure (fun w => Below.refl _ w) (v := .bool E) (fun _ => rfl) ?_ ?_; (focus (intro us w9 hS9 hF; clear hF; have k0 := (hS9.cell (p := ⟨bb, oo, none⟩) hlz).trans x0; have k1 := (hS9.cell (p := ⟨bb, oo + 1, none⟩) hlz).trans x1; have k2 := (hS9.cell (p := ⟨bb, oo + 2, none⟩) hlz).trans x2; have k9 := (hS9.cell (p := ⟨bb, oo + 3, none⟩) hlz).trans x3; clear hS9; go_simp; (try with_reducible rfl); done)); simp only [Act.put, List.setIfInBounds_toArray, List.set_cons_zero, List.set_cons_succ, Nat.reduceAdd]
  refine tail_pure (fun w => Below.refl _ w) (v := .slice (some ⟨bb, oo, none⟩) 64 c) (fun _ => rfl) ?_ ?_; (focus (intro us w9 hS9 hF; clear hF; have k0 := (hS9.cell (p := ⟨bb, oo, none⟩) hlz).trans x0; have k1 := (hS9.cell (p := ⟨bb, oo + 1, none⟩) hlz).trans x1; have k2 := (hS9.cell (p := ⟨bb, oo + 2, none⟩) hlz).trans x2; have k9 := (hS9.cell (p := ⟨bb, oo + 3, none⟩) hlz).trans x3; clear hS9; go_simp; (try with_reducible rfl); done)); simp only [Act.put, List.setIfInBounds_toArray, List.set_cons_zero, List.set_cons_succ, Nat.reduceAdd]
  refine tail_pure (fun w => Below.refl _ w) (v := .pointer (some ⟨bb, oo + 1, none⟩)) (fun _ => rfl) ?_ ?_; (focus (intro us w9 hS9 hF; clear hF; have k0 := (hS9.cell (p := ⟨bb, oo, none⟩) hlz).trans x0; have k1 := (hS9.cell (p := ⟨bb, oo + 1, none⟩) hlz).trans x1; have k2 := (hS9.cell (p := ⟨bb, oo + 2, none⟩) hlz).trans x2; have k9 := (hS9.cell (p := ⟨bb, oo + 3, none⟩) hlz).trans x3; clear hS9; go_simp; (try with_reducible rfl); done)); simp only [Act.put, List.setIfInBounds_toArray, List.set_cons_zero, List.set_cons_succ, Nat.reduceAdd]
  refine tail_pure (fun w => Below.refl _ w) (v := .int .u8 n) (fun _ => rfl) ?_ ?_; (focus (intro us w9 hS9 hF; clear hF; have k0 := (hS9.cell (p := ⟨bb, oo, none⟩) hlz).trans x0; have k1 := (hS9.cell (p := ⟨bb, oo + 1, none⟩) hlz).trans x1; have k2 := (hS9.cell (p := ⟨bb, oo + 2, none⟩) hlz).trans x2; have k9 := (hS9.cell (p := ⟨bb, oo + 3, none⟩) hlz).trans x3; clear hS9; go_simp; (try with_reducible rfl); done)); simp only [Act.put, List.setIfInBounds_toArray, List.set_cons_zero, List.set_cons_succ, Nat.reduceAdd]
  refine tail_pure (fun w => Below.refl _ w) (v := .int .i64 n) (fun _ => rfl) ?_ ?_; (focus (intro us w9 hS9 hF; clear hF; have k0 := (hS9.cell (p := ⟨bb, oo, none⟩) hlz).trans x0; have k1 := (hS9.cell (p := ⟨bb, oo + 1, none⟩) hlz).trans x1; have k2 := (hS9.cell (p := ⟨bb, oo + 2, none⟩) hlz).trans x2; have k9 := (hS9.cell (p := ⟨bb, oo + 3, none⟩) hlz).trans x3; clear hS9; go_simp; (try with_reducible rfl); done)); simp only [Act.put, List.setIfInBounds_toArray, List.set_cons_zero, List.set_cons_succ, Nat.reduceAdd]
  refine tail_pure (fun w => Below.refl _ w) (v := .slice (some ⟨bb, oo, none⟩) 64 c) (fun _ => rfl) ?_ ?_; (focus (intro us w9 hS9 hF; clear hF; have k0 := (hS9.cell (p := ⟨bb, oo, none⟩) hlz).trans x0; have k1 := (hS9.cell (p := ⟨bb, oo + 1, none⟩) hlz).trans x1; have k2 := (hS9.cell (p := ⟨bb, oo + 2, none⟩) hlz).trans x2; have k9 := (hS9.cell (p := ⟨bb, oo + 3, none⟩) hlz).trans x3; clear hS9; go_simp; (try with_reducible rfl); done)); simp only [Act.put, List.setIfInBounds_toArray, List.set_cons_zero, List.set_cons_succ, Nat.reduceAdd]
  refine tail_pure (fun w => Below.refl _ w) (v := .pointer (some ⟨bb, oo + 2, none⟩)) (fun _ => rfl) ?_ ?_; (focus (intro us w9 hS9 hF; clear hF; have k0 := (hS9.cell (p := ⟨bb, oo, none⟩) hlz).trans x0; have k1 := (hS9.cell (p := ⟨bb, oo + 1, none⟩) hlz).trans x1; have k2 := (hS9.cell (p := ⟨bb, oo + 2, none⟩) hlz).trans x2; have k9 := (hS9.cell (p := ⟨bb, oo + 3, none⟩) hlz).trans x3; clear hS9; go_simp; (try with_reducible rfl); done)); simp only [Act.put, List.setIfInBounds_toArray, List.set_cons_zero, List.set_cons_succ, Nat.reduceAdd]
  refine tail_pure (fun w => Below.refl _ w) (v := .int .u8 (y2 : Int)) (fun _ => rfl) ?_ ?_; (focus (intro us w9 hS9 hF; clear hF; have k0 := (hS9.cell (p := ⟨bb, oo, none⟩) hlz).trans x0; have k1 := (hS9.cell (p := ⟨bb, oo + 1, none⟩) hlz).trans x1; have k2 := (hS9.cell (p := ⟨bb, oo + 2, none⟩) hlz).trans x2; have k9 := (hS9.cell (p := ⟨bb, oo + 3, none⟩) hlz).trans x3; clear hS9; go_simp; (try with_reducible rfl); done)); simp only [Act.put, List.setIfInBounds_toArray, List.set_cons_zero, List.set_cons_succ, Nat.reduceAdd]
  refine tail_pure (fun w => Below.refl _ w) (v := .int .u16 (y2 : Int)) (fun _ => rfl) ?_ ?_; (focus (intro us w9 hS9 hF; clear hF; have k0 := (hS9.cell (p := ⟨bb, oo, none⟩) hlz).trans x0; have k1 := (hS9.cell (p := ⟨bb, oo + 1, none⟩) hlz).trans x1; have k2 := (hS9.cell (p := ⟨bb, oo + 2, none⟩) hlz).trans x2; have k9 := (hS9.cell (p := ⟨bb, oo + 3, none⟩) hlz).trans x3; clear hS9; go_simp; (try with_reducible rfl); done)); simp only [Act.put, List.setIfInBounds_toArray, List.set_cons_zero, List.set_cons_succ, Nat.reduceAdd]
  refine tail_pure (fun w => Below.refl _ w) (v := .slice (some ⟨bb, oo, none⟩) 64 c) (fun _ => rfl) ?_ ?_; (focus (intro us w9 hS9 hF; clear hF; have k0 := (hS9.cell (p := ⟨bb, oo, none⟩) hlz).trans x0; have k1 := (hS9.cell (p := ⟨bb, oo + 1, none⟩) hlz).trans x1; have k2 := (hS9.cell (p := ⟨bb, oo + 2, none⟩) hlz).trans x2; have k9 := (hS9.cell (p := ⟨bb, oo + 3, none⟩) hlz).trans x3; clear hS9; go_simp; (try with_reducible rfl); done)); simp only [Act.put, List.setIfInBounds_toArray, List.set_cons_zero, List.set_cons_succ, Nat.reduceAdd]
  refine tail_pure (fun w => Below.refl _ w) (v := .pointer (some ⟨bb, oo + 3, none⟩)) (fun _ => rfl) ?_ ?_; (focus (intro us w9 hS9 hF; clear hF; have k0 := (hS9.cell (p := ⟨bb, oo, none⟩) hlz).trans x0; have k1 := (hS9.cell (p := ⟨bb, oo + 1, none⟩) hlz).trans x1; have k2 := (hS9.cell (p := ⟨bb, oo + 2, none⟩) hlz).trans x2; have k9 := (hS9.cell (p := ⟨bb, oo + 3, none⟩) hlz).trans x3; clear hS9; go_simp; (try with_reducible rfl); done)); simp only [Act.put, List.setIfInBounds_toArray, List.set_cons_zero, List.set_cons_succ, Nat.reduceAdd]
  refine tail_pure (fun w => Below.refl _ w) (v := .int .u8 (y3 : Int)) (fun _ => rfl) ?_ ?_; (focus (intro us w9 hS9 hF; clear hF; have k0 := (hS9.cell (p := ⟨bb, oo, none⟩) hlz).trans x0; have k1 := (hS9.cell (p := ⟨bb, oo + 1, none⟩) hlz).trans x1; have k2 := (hS9.cell (p := ⟨bb, oo + 2, none⟩) hlz).trans x2; have k9 := (hS9.cell (p := ⟨bb, oo + 3, none⟩) hlz).trans x3; clear hS9; go_simp; (try with_reducible rfl); done)); simp only [Act.put, List.setIfInBounds_toArray, List.set_cons_zero, List.set_cons_succ, Nat.reduceAdd]
  refine tail_pure (fun w => Below.refl _ w) (v := .int .u16 (y3 : Int)) (fun _ => rfl) ?_ ?_; (focus (intro us w9 hS9 hF; clear hF; have k0 := (hS9.cell (p := ⟨bb, oo, none⟩) hlz).trans x0; have k1 := (hS9.cell (p := ⟨bb, oo + 1, none⟩) hlz).trans x1; have k2 := (hS9.cell (p := ⟨bb, oo + 2, none⟩) hlz).trans x2; have k9 := (hS9.cell (p := ⟨bb, oo + 3, none⟩) hlz).trans x3; clear hS9; go_simp; (try with_reducible rfl); done)); simp only [Act.put, List.setIfInBounds_toArray, List.set_cons_zero, List.set_cons_succ, Nat.reduceAdd]
  refine tail_pure (fun w => Below.refl _ w) (v := .int .u16 ((y3 : Int) * 256)) (fun _ => rfl) ?_ ?_; (focus (intro us w9 hS9 hF; clear hF; clear hS9; go_simp; (try rw [show IntKind.u16.wrap ((y3 : Int) * 256) = (y3 : Int) * 256 by rw [IntKind.wrap_u16]; omega]))); simp only [Act.put, List.setIfInBounds_toArray, List.set_cons_zero, List.set_cons_succ, Nat.reduceAdd]
  refine tail_pure (fun w => Below.refl _ w) (v := .int .u16 a) (fun _ => rfl) ?_ ?_; (focus (intro us w9 hS9 hF; clear hF; clear hS9; go_simp; (try rw [hor]))); simp only [Act.put, List.setIfInBounds_toArray, List.set_cons_zero, List.set_cons_succ, Nat.reduceAdd]
  refine tail_pure (fun w => Below.refl _ w) (v := .agg (LV K E F n a z56)) (fun _ => rfl) ?_ ?_; (focus (intro us w9 hS9 hF; clear hF; clear hS9; go_simp; (try rfl))); simp only [Act.put, List.setIfInBounds_toArray, List.set_cons_zero, List.set_cons_succ, Nat.reduceAdd]
  refine tail_free (NewL w1.heap.size) (fun u w1 w2 hg h => NewL.mono hg h) ?_ ?_; (focus (intro us w9 hS9 hF K hK; clear hF; go_simp; exact hK _ _ (hS9.alloc hS9.size _) ((Below.refl _ _).alloc (Nat.le_refl _) _) ⟨w9.heap.size, rfl, hS9.size, Row.born _ _ _⟩)); simp only [Act.put, List.setIfInBounds_toArray, List.set_cons_zero, List.set_cons_succ, Nat.reduceAdd]
  refine tail_done fun us w3 hS3 hF => ?_
  obtain ⟨g6, hu, hg6, hr6⟩ := hF _ (List.mem_cons_self ..)
  dsimp only at hu
  clear hF k3 k4 k8 kw nw wy2 wy3
  simp only [hu]
  refine wp_row_store (L := LV K E F n a z56) hr6 ((LV_size _ _ _ _ _ z56_len).trans (LV_size _ _ _ _ _ z56_len).symm) (line_info _ _ _ _ _ z56_len) (LV_one _ _ _ _ _ _) rfl rfl ?_
  intro w4 u4 r4
  have hb14 := Upd.below hS3 u4 hg6
  have hB4 := hB.trans (hb14.mono hB.size)
  have r2 := r2.below hb14 r2.lt
  have hA4 := hA.below hB4
  have hsz := hB.size
  clear hS3 u4 hr6 hu x0 x1 x2 x3 hb14 hB hA1 hor
  have hg2 : W.heap.size < g6 := by omega
  have hPl : (bs.drop 8).length = 56 := by simp [hl1]
  have r4 : Row w4 g6 40 (LV K E F n a (pj 0 (bs.drop 8))) := r4
  clear x00 x11 x22 x33 hlz hg6 hsz
  generalize w1.heap.size = w1s at *
  go_upto_region 9 with (fail)
  go_loopw [5] (fun i wr => ∃ j : Nat, j ≤ 56 ∧ i = .int .i64 j ∧ Row wr g6 40 (LV K E F n a (pj j (bs.drop 8))) ∧ Row wr W.heap.size 40 ZL ∧ Below W.heap.size W wr) (fun i _ => 56 - (intOf i).toNat)
  case atStart => exact ⟨0, by omega, rfl, r4, r2, hB4⟩
  case round =>
    clear r4 r2 hB4 hA4
    obtain ⟨j, hj, rfl, r4, r2, hB⟩ := hrel
    rcases Nat.lt_or_ge j 56 with hjm | hjm
    · have hd : decide (j < 56) = true := by simpa using hjm
      have hji : (j : Int) < 56 := by omega
      obtain ⟨b', o', hA', _, hc'⟩ := (hA.below hB).at_ (by omega)
      injection hA' with e1
      injection e1 with e2 e3
      subst e2 e3
      have x := hc' (8 + j) (by omega)
      obtain ⟨y, hy⟩ : ∃ y, wr.cell? ⟨g6, 5 + j, none⟩ = some y := by
        rw [r4.cell (5 + j)]
        have : 5 + j < (LV K E F n a (pj j (bs.drop 8))).size := by rw [LV_size _ _ _ _ _ (pj_len (by omega) (by omega))]; omega
        exact ⟨_, Array.getElem?_eq_getElem this⟩
      have ff := r4.frozen
      clear hc'
      go_wp2
      have q := r4.set (5 + j) (bv (bs.drop 8)[j])
      rw [pj_set (by omega) (by omega)] at q
      rw [List.getElem_drop] at q
      exact ⟨⟨j + 1, by omega, by go_num, q, r2.other (by simp; omega) _, hB.setCell (by simp; omega) _⟩, by simp [intOf]; omega⟩
    · obtain rfl : j = 56 := by omega
      have hd : decide (56 < 56) = false := by simp
      have hPe : pj 56 (bs.drop 8) = bs.drop 8 := by unfold pj; exact (congrArg (· ++ z56.drop 56) (List.take_of_length_le (by omega))).trans (List.append_nil _)
      rw [hPe] at r4
      have hA6 := hA.below hB
      obtain ⟨P, hP⟩ : ∃ P, gP bs = P := ⟨_, rfl⟩
      have hP2 : bs.drop 8 = P := hP
      have HP := Lib.hid hP
      rw [hP2] at r4 hPl
      clear hP hP2 hPe
      go_upto_region 12 with (fail)
      by_cases hE0 : lnE K E F n P = 0
      · have HE0 := Lib.hid hE0
        clear hE0
        go_upto_region 13 with (first | ((with_reducible refine wp_load_g ?_ r4.range Try.underlying40 rfl (line_info _ _ _ _ _ hPl) ?_ ?_); rfl; rfl) | (go_at_call 31; with_reducible refine (encq_yes K E F n a P a0.1 a0.2 hPl HE0.out _).mono ?_; rintro e w7 ⟨A9, c9, rfl, hI9, hb7⟩))
        have hB7 := hB.trans (hb7.mono hB.size)
        have r2 := r2.below hb7 r2.lt
        have r7 := r4.below hb7 r4.lt
        have hA7 := hA6.below hb7
        clear hb7 r4 hA6 hB
        obtain ⟨B, hBB⟩ : ∃ B, (lnB K E F n a P == bs) = B := ⟨_, rfl⟩
        have hOK : dcOk bs = B := by unfold dcOk; rw [HK.out, HEE.out, HF.out, HN.out, HA.out, HP.out, HE0.out, hBB]; rfl
        have HOK := Lib.hid hOK
        have hSB : ((lnB K E F n a P).toArray == bs.toArray) = B := by rw [← hBB]; simp
        clear hOK hBB
        generalize lnB K E F n a P = bs2 at *
        cases B
        · have HE := Lib.hid (show dcE bs = 54 by rw [HD.out, HOK.out]; rfl)
          have hSD : bs2 ≠ bs := by simpa using hSB
          have hSL : (bs2 == bs) = false := by simpa using hSD
          go_wp2_with (first | ((with_reducible refine wp_str_g (c := c9) ?_ hI9 ?_ ?_); rfl; rfl) | ((with_reducible refine wp_str_g (c := c) ?_ hA7 ?_ ?_); rfl; rfl) | ((with_reducible refine wp_row_store (L := ZL) r2 rfl zl_info zl_one ?_ ?_ ?_); rfl; rfl; intro wz uz rz))
          refine bodyPost_ret (results_ct rfl rfl rz Try.underlying40 rfl zl_info) rfl ?_
          exact dc_no HE.out (by decide) (Upd.below hB7 uz (Nat.le_refl _))
        · have HE := Lib.hid (show dcE bs = 0 by rw [HD.out, HOK.out]; rfl)
          obtain rfl : bs2 = bs := by simpa using hSB
          go_wp2_with (first | ((with_reducible refine wp_str_g (c := c9) ?_ hI9 ?_ ?_); rfl; rfl) | ((with_reducible refine wp_str_g (c := c) ?_ hA7 ?_ ?_); rfl; rfl) | ((with_reducible refine wp_load_g ?_ r7.range Try.underlying40 rfl (line_info _ _ _ _ _ hPl) ?_ ?_); rfl; rfl) | ((with_reducible refine wp_row_store (L := LV K E F n a P) r2 (zl_61.trans (LV_size _ _ _ _ _ hPl).symm) (line_info _ _ _ _ _ hPl) (LV_one _ _ _ _ _ _) ?_ ?_ ?_); rfl; rfl; intro wz uz rz))
          refine bodyPost_ret (results_ct rfl rfl rz Try.underlying40 rfl (line_info _ _ _ _ _ hPl)) rfl ?_
          exact dc_yes HE.out HK.out HEE.out HF.out HN.out HA.out HP.out (Upd.below hB7 uz (Nat.le_refl _))
      · obtain ⟨EE, hEE⟩ : ∃ EE, lnE K E F n P = EE := ⟨_, rfl⟩
        have hOK : dcOk bs = false := by
          unfold dcOk
          rw [HK.out, HEE.out, HF.out, HN.out, HA.out, HP.out, hEE]
          rw [hEE] at hE0
          simp [hE0]
        have HE := Lib.hid (show dcE bs = 54 by rw [HD.out, hOK]; rfl)
        have HEE2 := Lib.hid hEE
        rw [hEE] at hE0
        have e1 : (EE != 0) = true := by simpa using hE0
        clear hOK hEE
        go_upto_region 13 with (first | ((with_reducible refine wp_load_g ?_ r4.range Try.underlying40 rfl (line_info _ _ _ _ _ hPl) ?_ ?_); rfl; rfl) | (go_at_call 31; (with_reducible refine (encq_no K E F n a P EE a0.1 a0.2 hPl HEE2.out hE0 _).mono ?_); rintro e w7 ⟨rfl, hb7⟩))
        have hB7 := hB.trans (hb7.mono hB.size)
        have r2 := r2.below hb7 r2.lt
        clear hb7 r4 hA6 hB hE0
        go_wp2_with (((with_reducible refine wp_row_store (L := ZL) r2 rfl zl_info zl_one ?_ ?_ ?_); rfl; rfl; intro wz uz rz))
        refine bodyPost_ret (results_ct rfl rfl rz Try.underlying40 rfl zl_info) rfl ?_
        exact dc_no HE.out (by decide) (Upd.below hB7 uz (Nat.le_refl _))
theorem decode_ref (A : Option Addr) (n c : Nat) (bs : List UInt8) (W : World) (hA : IsB W A n bs) (hc : n ≤ c) : Calls Try.prog 40 #[.slice A n c] W (DcPost bs W) := by
  rcases Nat.lt_trichotomy n 64 with h | rfl | h
  · exact decodeq_short A n c bs W hA h
  · by_cases hs : sum16 bs = 0
    · exact decodeq_main A c bs W hA hs hc
    · exact decodeq_sum A c bs W hA hs
  · exact decodeq_long A n c bs W hA h
end Go.Proofs.Ythjkhambmgepdaa
