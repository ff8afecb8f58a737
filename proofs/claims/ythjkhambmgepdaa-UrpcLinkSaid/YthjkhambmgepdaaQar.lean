/- Texts Pk, without what this claim does not use. -/
import Derived.Test.YthjkhambmgepdaaQaq
namespace Go.Proofs.Ythjkhambmgepdaa
section
open Go.RowKit
set_option linter.unusedVariables false
def V8 (v0 v1 v2 v3 v4 v5 v6 v7 : Value) (p : List Value) : Array Value := (v0 :: v1 :: v2 :: v3 :: v4 :: v5 :: v6 :: v7 :: p).toArray
def b0 : Value := .int .u8 0
theorem V8_zero : (List.replicate 64 (Value.int .u8 0)).toArray = V8 b0 b0 b0 b0 b0 b0 b0 b0 (z56.map bv) := rfl
theorem bv_hd {k : Int} (hk : k = 1 ∨ k = 2) (e f : Bool) : Value.int .u8 (k + (if f then 4 else 0) + (if e then 8 else 0)) = bv (hdB k e f) := by
  rcases hk with rfl | rfl <;> cases e <;> cases f <;> rfl
theorem bv_int {n : Int} (h0 : 0 ≤ n) (h1 : n < 256) : Value.int .u8 n = bv (UInt8.ofNat n.toNat) := by
  obtain ⟨k, rfl⟩ := Int.eq_ofNat_of_zero_le h0
  exact bv_nat k (by omega)
def AckB (a : Int) (u : Value) (w : World) : Prop := ∃ g, u = .slice (some ⟨g, 0, none⟩) 2 2 ∧ Row w g 5 #[bv (UInt8.ofNat (a.toNat % 256)), bv (UInt8.ofNat (a.toNat / 256))]
theorem AckB.mono {a : Int} {u : Value} {w w' : World} (hg : Below w.heap.size w w') (h : AckB a u w) : AckB a u w' := by
  obtain ⟨g, e, h⟩ := h
  exact ⟨g, e, h.below hg h.lt⟩
theorem app16' (a : Int) (a0 : 0 ≤ a) (a1 : a < 65536) (w : World) : Calls Try.prog 134 #[.slice none 0 0, .int .u16 a] w (fun e W' => ∃ g, e = .returned (.slice (some ⟨g, 0, none⟩) 2 2) ∧ Row W' g 5 #[bv (UInt8.ofNat (a.toNat % 256)), bv (UInt8.ofNat (a.toNat / 256))] ∧ Below w.heap.size w W') := by
  obtain ⟨v, rfl⟩ := Int.eq_ofNat_of_zero_le a0
  refine (app16 none 0 0 [] v w (IsB.nil w none) (by omega) (by omega)).mono ?_
  rintro e w' ⟨g, m, hge, hm, rfl, hr, hb⟩
  have hm' := hm.out
  simp only [List.nil_append, fixB_len] at hm'
  subst hm'
  refine ⟨g, rfl, ?_, hb⟩
  have e1 : (([] ++ fixB v 2).map bv).toArray = #[bv (UInt8.ofNat ((v : Int).toNat % 256)), bv (UInt8.ofNat ((v : Int).toNat / 256))] := by
    simp [fixB, List.range_succ, Nat.mod_eq_of_lt (show v / 256 < 256 by omega)]
  rwa [e1] at hr
theorem V8_cells {w : World} {g : Nat} {t : TypeId} {v0 v1 v2 v3 v4 v5 v6 v7 : Value} {p : List Value} (h : Row w g t (V8 v0 v1 v2 v3 v4 v5 v6 v7 p)) :
    w.cell? ⟨g, 0, none⟩ = some v0 ∧ w.cell? ⟨g, 1, none⟩ = some v1 ∧ w.cell? ⟨g, 4, none⟩ = some v4 ∧ w.cell? ⟨g, 5, none⟩ = some v5 := ⟨h.cell 0, h.cell 1, h.cell 4, h.cell 5⟩
theorem V8_list {w : World} {g : Nat} {t : TypeId} {v0 v1 v2 v3 v4 v5 v6 v7 : Value} {p : List Value} (h : Row w g t (V8 v0 v1 v2 v3 v4 v5 v6 v7 p)) : Row w g t (V8 v0 v1 v2 v3 v4 v5 v6 v7 p).toList.toArray := h
theorem V8_0 (v0 v1 v2 v3 v4 v5 v6 v7 v : Value) (p : List Value) : (V8 v0 v1 v2 v3 v4 v5 v6 v7 p).setIfInBounds 0 v = V8 v v1 v2 v3 v4 v5 v6 v7 p := by simp [V8, List.setIfInBounds_toArray]
theorem V8_1 (v0 v1 v2 v3 v4 v5 v6 v7 v : Value) (p : List Value) : (V8 v0 v1 v2 v3 v4 v5 v6 v7 p).setIfInBounds 1 v = V8 v0 v v2 v3 v4 v5 v6 v7 p := by simp [V8, List.setIfInBounds_toArray]
theorem V8_45 (v0 v1 v2 v3 v4 v5 v6 v7 v v' : Value) (p : List Value) : ((V8 v0 v1 v2 v3 v4 v5 v6 v7 p).setIfInBounds 4 v).setIfInBounds 5 v' = V8 v0 v1 v2 v3 v v' v6 v7 p := by simp [V8, List.setIfInBounds_toArray]
theorem V8_copy2 (v0 v1 v2 v3 v4 v5 v6 v7 x y : Value) (p : List Value) : ((V8 v0 v1 v2 v3 v4 v5 v6 v7 p).toList.take 2 ++ ([x, y] ++ (V8 v0 v1 v2 v3 v4 v5 v6 v7 p).toList.drop (2 + [x, y].length))).toArray = V8 v0 v1 x y v4 v5 v6 v7 p := rfl
theorem V8_copy8 (v0 v1 v2 v3 v4 v5 v6 v7 : Value) (p q : List Value) (hp : p.length = 56) (hq : q.length = 56) : ((V8 v0 v1 v2 v3 v4 v5 v6 v7 p).toList.take 8 ++ (q ++ (V8 v0 v1 v2 v3 v4 v5 v6 v7 p).toList.drop (8 + q.length))).toArray = V8 v0 v1 v2 v3 v4 v5 v6 v7 q := by
  have e : (V8 v0 v1 v2 v3 v4 v5 v6 v7 p).toList.drop (8 + q.length) = [] := List.drop_eq_nil_of_le (by rw [hq]; simp [V8, hp])
  rw [e, List.append_nil]
  rfl
def LnPost (bs : List UInt8) (W : World) (e : Ending) (W' : World) : Prop := ∃ g, W.heap.size ≤ g ∧ e = .returned (.slice (some ⟨g, 0, none⟩) 64 64) ∧ Row W' g 5 (bs.map bv).toArray ∧ Below W.heap.size W W'
def OrK (k : Int) : Prop := bits .or .u8 k 4 = k + 4 ∧ bits .or .u8 k 8 = k + 8 ∧ bits .or .u8 (k + 4) 8 = k + 4 + 8
theorem orK {k : Int} (hk : k = 1 ∨ k = 2) : OrK k := by rcases hk with rfl | rfl <;> exact ⟨by decide, by decide, by decide⟩
set_option maxRecDepth 100000 in
set_option maxHeartbeats 4000000 in
theorem pack_tt (k n a : Int) (p : List UInt8) (hk : k = 1 ∨ k = 2) (n0 : 0 ≤ n) (n1 : n ≤ 56) (a0 : 0 ≤ a) (a1 : a < 65536) (hp : p.length = 56) (W : World) : Calls Try.prog 94 #[.agg (LV k true true n a p)] W (LnPost (lnB k true true n a p) W) := by
  have OK := Lib.hid (orK hk)
  have HK := Lib.hid hk
  have kw : k % 256 = k := by omega
  have nw : n % 256 = n := by omega
  have KW := Lib.hid kw
  have NW := Lib.hid nw
  clear kw nw hk
  have hB := (Below.refl W.heap.size W).alloc (Nat.le_refl _) (.cells (LV k true true n a p) 40)
  have r1 := Row.born W 40 (LV k true true n a p)
  go_enter Try.func94, Try.ntmps94
  go_upto_region 1 with (fail)
  generalize W.alloc (.cells (LV k true true n a p) 40) = w1 at *
  have hl1 := r1.lt
  go_upto_region 2 with ((at_make; refine wp_make 64 Try.underlying44 info_u8 rfl (by omega) (by omega) rfl rfl rfl rfl ?_; intro w2 q5 hb2))
  rw [V8_zero] at q5
  have r1 := r1.below hb2 hl1
  have hB := hB.trans (hb2.mono hB.size)
  generalize w1.heap.size = g5 at *
  clear hb2
  obtain ⟨b0', b1', b4', b5'⟩ := V8_cells q5
  obtain ⟨c0, c1, c2, c3, c4⟩ := line_cells r1
  have bf := q5.frozen
  go_upto_region 3 with (fail)
  rw [KW.out]
  have u := Upd.setCell w2 g5 0 (.int .u8 k)
  have q5 := q5.set 0 (.int .u8 k)
  rw [V8_0] at q5
  have r1 := r1.upd u (by omega)
  have hB := Upd.below hB u (by omega)
  generalize w2.setCell ⟨g5, 0, none⟩ (.int .u8 k) = w3 at *
  clear u b0' b1' b4' b5' c0 c1 c2 c3 c4
  obtain ⟨b0', b1', b4', b5'⟩ := V8_cells q5
  obtain ⟨c0, c1, c2, c3, c4⟩ := line_cells r1
  have bf := q5.frozen
  go_upto_region 5 with (fail)
  rw [OK.out.1]
  have u := Upd.setCell w3 g5 0 (.int .u8 (k + 4))
  have q5 := q5.set 0 (.int .u8 (k + 4))
  rw [V8_0] at q5
  have r1 := r1.upd u (by omega)
  have hB := Upd.below hB u (by omega)
  generalize w3.setCell ⟨g5, 0, none⟩ (.int .u8 (k + 4)) = w4 at *
  clear u b0' b1' b4' b5' c0 c1 c2 c3 c4
  obtain ⟨b0', b1', b4', b5'⟩ := V8_cells q5
  obtain ⟨c0, c1, c2, c3, c4⟩ := line_cells r1
  have bf := q5.frozen
  go_upto_region 7 with (fail)
  rw [OK.out.2.2]
  have u := Upd.setCell w4 g5 0 (.int .u8 (k + 4 + 8))
  have q5 := q5.set 0 (.int .u8 (k + 4 + 8))
  rw [V8_0] at q5
  have r1 := r1.upd u (by omega)
  have hB := Upd.below hB u (by omega)
  generalize w4.setCell ⟨g5, 0, none⟩ (.int .u8 (k + 4 + 8)) = w5 at *
  clear u b0' b1' b4' b5' c0 c1 c2 c3 c4
  obtain ⟨b0', b1', b4', b5'⟩ := V8_cells q5
  obtain ⟨c0, c1, c2, c3, c4⟩ := line_cells r1
  have bf := q5.frozen
  go_upto_region 8 with (fail)
  try rw [NW.out]
  have u := Upd.setCell w5 g5 1 (.int .u8 n)
  have q5 := q5.set 1 (.int .u8 n)
  rw [V8_1] at q5
  have r1 := r1.upd u (by omega)
  have hB := Upd.below hB u (by omega)
  generalize w5.setCell ⟨g5, 1, none⟩ (.int .u8 n) = w6 at *
  clear u b0' b1' b4' b5' c0 c1 c2 c3 c4
  obtain ⟨b0', b1', b4', b5'⟩ := V8_cells q5
  obtain ⟨c0, c1, c2, c3, c4⟩ := line_cells r1
  have bf := q5.frozen
  have hl1 := r1.lt
  have hlg := q5.lt
  refine wp_region_tailN (n := 53) 5 (fun w' => Below w6.heap.size w6 w') (fun w1 w2 => Below w1.heap.size w1 w2) (by kernel_rfl) (by kernel_rfl) (by decide) (by rfl) (Below.refl _ _).drew ?_
  simp only [List.take_succ_cons, List.take_zero, List.drop_succ_cons, List.drop_zero]
  refine tail_pure (fun w => Below.refl _ w) (v := .slice (some ⟨g5, 0, none⟩) 64 64) (fun _ => rfl) ?_ ?_; (focus (intro us w9 hS9 hF; clear hF; have k4 := (hS9.cell (p := ⟨W.heap.size, 4, none⟩) hl1).trans c4; clear hS9; go_simp; try (with_reducible rfl))); simp only [Act.put, zA, zB, zC, Nat.reduceAdd]
  refine tail_pure (fun w => Below.refl _ w) (v := .slice (some ⟨g5, 2, none⟩) 62 62) (fun _ => rfl) ?_ ?_; (focus (intro us w9 hS9 hF; clear hF; have k4 := (hS9.cell (p := ⟨W.heap.size, 4, none⟩) hl1).trans c4; clear hS9; go_simp; try (with_reducible rfl))); simp only [Act.put, zA, zB, zC, Nat.reduceAdd]
  refine tail_pure (fun w => Below.refl _ w) (v := .pointer (some ⟨W.heap.size, 4, none⟩)) (fun _ => rfl) ?_ ?_; (focus (intro us w9 hS9 hF; clear hF; have k4 := (hS9.cell (p := ⟨W.heap.size, 4, none⟩) hl1).trans c4; clear hS9; go_simp; try (with_reducible rfl))); simp only [Act.put, zA, zB, zC, Nat.reduceAdd]
  refine tail_pure (fun w => Below.refl _ w) (v := .int .u16 a) (fun _ => rfl) ?_ ?_; (focus (intro us w9 hS9 hF; clear hF; have k4 := (hS9.cell (p := ⟨W.heap.size, 4, none⟩) hl1).trans c4; clear hS9; go_simp; try (with_reducible rfl))); simp only [Act.put, zA, zB, zC, Nat.reduceAdd]
  refine tail_free (AckB a) (fun u w1 w2 hg h => AckB.mono hg h) ?_ ?_; (focus (intro us w9 hS9 hF K hK; clear hF; go_simp; refine (app16' a a0 a1 w9).mono ?_; rintro e w' ⟨g, rfl, hr, hb⟩; exact hK _ _ (hS9.trans (hb.mono hS9.size)) hb ⟨g, rfl, hr⟩)); simp only [Act.put, zA, zB, zC, Nat.reduceAdd]
  refine tail_done fun us w7 hS7 hF => ?_
  obtain ⟨ga, hu, hra⟩ := hF _ (List.mem_cons_self ..)
  dsimp only at hu
  clear hF
  simp only [hu]
  have q5 := q5.below hS7 hlg
  have r1 := r1.below hS7 hl1
  have hB := hB.trans (hS7.mono hB.size)
  clear hS7 hu b0' b1' b4' b5' c0 c1 c2 c3 c4 bf
  have q5' := V8_list q5
  refine wp_row_copy (P := Try.prog) (off := 2) (dCap := 62) (sCap := 2) (cs := [bv (UInt8.ofNat (a.toNat % 256)), bv (UInt8.ofNat (a.toNat / 256))]) q5' Try.underlying44 info_u8s rfl (fun _ => ⟨rfl, _, rfl, fun j v hv => ?_⟩) (by simp [V8, z56]) (fun v hv => by simp at hv; rcases hv with rfl | rfl <;> rfl) rfl rfl ?_
  · rw [Addr.add_mid, Nat.zero_add, hra.cell j]
    simpa using hv
  intro w8 u8 q8
  rw [V8_copy2] at q8
  have r1 := r1.upd u8 (by omega)
  have hB := Upd.below hB u8 (by omega)
  clear q5 q5' u8 hra
  have hl1 := r1.lt
  have hlg := q8.lt
  go_upto_region 9 with (fail)
  refine wp_region_tailN (n := 53) 4 (fun w' => Below w8.heap.size w8 w') (fun w1 w2 => Below w1.heap.size w1 w2) (by kernel_rfl) (by kernel_rfl) (by decide) (by rfl) (Below.refl _ _).drew ?_
  simp only [List.take_succ_cons, List.take_zero, List.drop_succ_cons, List.drop_zero]
  refine tail_pure (fun w => Below.refl _ w) (v := .slice (some ⟨g5, 0, none⟩) 64 64) (fun _ => rfl) ?_ ?_; (focus (intro us w9 hS9 hF; clear hF; clear hS9; go_simp; try (with_reducible rfl))); simp only [Act.put, zA, zB, zC, Nat.reduceAdd]
  refine tail_pure (fun w => Below.refl _ w) (v := .slice (some ⟨g5, 8, none⟩) 56 56) (fun _ => rfl) ?_ ?_; (focus (intro us w9 hS9 hF; clear hF; clear hS9; go_simp; try (with_reducible rfl))); simp only [Act.put, zA, zB, zC, Nat.reduceAdd]
  refine tail_pure (fun w => Below.refl _ w) (v := .pointer (some ⟨W.heap.size, 5, none⟩)) (fun _ => rfl) ?_ ?_; (focus (intro us w9 hS9 hF; clear hF; clear hS9; go_simp; try (with_reducible rfl))); simp only [Act.put, zA, zB, zC, Nat.reduceAdd]
  refine tail_pure (fun w => Below.refl _ w) (v := .slice (some ⟨W.heap.size, 5, none⟩) 56 56) (fun _ => rfl) ?_ ?_; (focus (intro us w9 hS9 hF; clear hF; clear hS9; go_simp; try (with_reducible rfl))); simp only [Act.put, zA, zB, zC, Nat.reduceAdd]
  refine tail_done fun us w9 hS9 hF => ?_
  clear hF
  have q9 := q8.below hS9 hlg
  have r1 := r1.below hS9 hl1
  have hB := hB.trans (hS9.mono hB.size)
  clear hS9 q8
  have q9' := V8_list q9
  refine wp_row_copy (P := Try.prog) (off := 8) (dCap := 56) (sCap := 56) (cs := p.map bv) q9' Try.underlying44 info_u8s (by simp [hp]) (fun _ => ⟨rfl, _, rfl, fun j v hv => ?_⟩) (by simp [V8, z56, hp]) (bv_one p) rfl rfl ?_
  · rw [Addr.add_mid, r1.cell (5 + j)]
    unfold LV
    rw [List.getElem?_toArray, Nat.add_comm]
    simpa using hv
  intro w10 u10 q10
  rw [V8_copy8 _ _ _ _ _ _ _ _ _ _ (by simp [z56]) (by simp [hp])] at q10
  have hB := Upd.below hB u10 (by omega)
  clear q9 q9' u10 r1
  have eX : Value.int .u8 (k + 4 + 8) = bv (hdB k true true) := by simpa using bv_hd HK.out true true
  have eN := bv_int n0 (show n < 256 by omega)
  rw [eX, eN] at q10
  have q10 : Row w10 g5 5 ((ln0 k true true n a p).map bv).toArray := q10
  have hib := IsB.of_row q10
  have hlen : (ln0 k true true n a p).length = 64 := by simp [ln0, ln8, hp]
  rw [hlen] at hib
  obtain ⟨S, hS⟩ : ∃ S, S = lnS k true true n a p := ⟨_, rfl⟩
  have HS := Lib.hid hS
  have hS2 : S ≤ 65535 := by rw [hS]; exact sum16_le _
  clear eX eN hS
  go_upto_region 11 with (go_at_call 97; refine (sum16_any _ _ _ _ _ hib (by omega)).mono ?_; rintro e w' ⟨rfl, rfl⟩; rw [show sum16 (ln0 k true true n a p) = S from HS.out.symm])
  have q11 : Row w10 g5 5 (V8 (bv (hdB k true true)) (bv (UInt8.ofNat n.toNat)) (bv (UInt8.ofNat (a.toNat % 256))) (bv (UInt8.ofNat (a.toNat / 256))) b0 b0 b0 b0 (p.map bv)) := q10
  obtain ⟨b0', b1', b4', b5'⟩ := V8_cells q11
  have bf := q11.frozen
  have e4 : Value.int .u8 ((S : Int) / 256) = bv (UInt8.ofNat (S / 256)) := by rw [show (S : Int) / 256 = ((S / 256 : Nat) : Int) by omega]; exact bv_nat _ (by omega)
  have e5 : Value.int .u8 ((S : Int) % 256) = bv (UInt8.ofNat (S % 256)) := by rw [show (S : Int) % 256 = ((S % 256 : Nat) : Int) by omega]; exact bv_nat _ (by omega)
  have E4 := Lib.hid e4
  have E5 := Lib.hid e5
  clear e4 e5 q10 hib hlen
  go_wp2
  have q12 := (q11.set 4 (.int .u8 ((S : Int) / 256))).set 5 (.int .u8 ((S : Int) % 256))
  have u := (Upd.setCell w10 g5 4 (.int .u8 ((S : Int) / 256))).trans (Upd.setCell _ g5 5 (.int .u8 ((S : Int) % 256)))
  rw [V8_45, E4.out, E5.out] at q12
  have hB := Upd.below hB u (by omega)
  go_ret
  refine ⟨g5, by omega, rfl, ?_, hB⟩
  have hS := HS.out
  unfold lnB
  rw [← hS, E4.out, E5.out]
  exact q12
set_option maxRecDepth 100000 in
set_option maxHeartbeats 4000000 in
theorem pack_tf (k n a : Int) (p : List UInt8) (hk : k = 1 ∨ k = 2) (n0 : 0 ≤ n) (n1 : n ≤ 56) (a0 : 0 ≤ a) (a1 : a < 65536) (hp : p.length = 56) (W : World) : Calls Try.prog 94 #[.agg (LV k false true n a p)] W (LnPost (lnB k false true n a p) W) := by
  have OK := Lib.hid (orK hk)
  have HK := Lib.hid hk
  have kw : k % 256 = k := by omega
  have nw : n % 256 = n := by omega
  have KW := Lib.hid kw
  have NW := Lib.hid nw
  clear kw nw hk
  have hB := (Below.refl W.heap.size W).alloc (Nat.le_refl _) (.cells (LV k false true n a p) 40)
  have r1 := Row.born W 40 (LV k false true n a p)
  go_enter Try.func94, Try.ntmps94
  go_upto_region 1 with (fail)
  generalize W.alloc (.cells (LV k false true n a p) 40) = w1 at *
  have hl1 := r1.lt
  go_upto_region 2 with ((at_make; refine wp_make 64 Try.underlying44 info_u8 rfl (by omega) (by omega) rfl rfl rfl rfl ?_; intro w2 q5 hb2))
  rw [V8_zero] at q5
  have r1 := r1.below hb2 hl1
  have hB := hB.trans (hb2.mono hB.size)
  generalize w1.heap.size = g5 at *
  clear hb2
  obtain ⟨b0', b1', b4', b5'⟩ := V8_cells q5
  obtain ⟨c0, c1, c2, c3, c4⟩ := line_cells r1
  have bf := q5.frozen
  go_upto_region 3 with (fail)
  rw [KW.out]
  have u := Upd.setCell w2 g5 0 (.int .u8 k)
  have q5 := q5.set 0 (.int .u8 k)
  rw [V8_0] at q5
  have r1 := r1.upd u (by omega)
  have hB := Upd.below hB u (by omega)
  generalize w2.setCell ⟨g5, 0, none⟩ (.int .u8 k) = w3 at *
  clear u b0' b1' b4' b5' c0 c1 c2 c3 c4
  obtain ⟨b0', b1', b4', b5'⟩ := V8_cells q5
  obtain ⟨c0, c1, c2, c3, c4⟩ := line_cells r1
  have bf := q5.frozen
  go_upto_region 5 with (fail)
  rw [OK.out.1]
  have u := Upd.setCell w3 g5 0 (.int .u8 (k + 4))
  have q5 := q5.set 0 (.int .u8 (k + 4))
  rw [V8_0] at q5
  have r1 := r1.upd u (by omega)
  have hB := Upd.below hB u (by omega)
  generalize w3.setCell ⟨g5, 0, none⟩ (.int .u8 (k + 4)) = w4 at *
  clear u b0' b1' b4' b5' c0 c1 c2 c3 c4
  obtain ⟨b0', b1', b4', b5'⟩ := V8_cells q5
  obtain ⟨c0, c1, c2, c3, c4⟩ := line_cells r1
  have bf := q5.frozen
  go_upto_region 7 with (fail)
  go_upto_region 8 with (fail)
  try rw [NW.out]
  have u := Upd.setCell w4 g5 1 (.int .u8 n)
  have q5 := q5.set 1 (.int .u8 n)
  rw [V8_1] at q5
  have r1 := r1.upd u (by omega)
  have hB := Upd.below hB u (by omega)
  generalize w4.setCell ⟨g5, 1, none⟩ (.int .u8 n) = w6 at *
  clear u b0' b1' b4' b5' c0 c1 c2 c3 c4
  obtain ⟨b0', b1', b4', b5'⟩ := V8_cells q5
  obtain ⟨c0, c1, c2, c3, c4⟩ := line_cells r1
  have bf := q5.frozen
  have hl1 := r1.lt
  have hlg := q5.lt
  refine wp_region_tailN (n := 53) 5 (fun w' => Below w6.heap.size w6 w') (fun w1 w2 => Below w1.heap.size w1 w2) (by kernel_rfl) (by kernel_rfl) (by decide) (by rfl) (Below.refl _ _).drew ?_
  simp only [List.take_succ_cons, List.take_zero, List.drop_succ_cons, List.drop_zero]
  refine tail_pure (fun w => Below.refl _ w) (v := .slice (some ⟨g5, 0, none⟩) 64 64) (fun _ => rfl) ?_ ?_; (focus (intro us w9 hS9 hF; clear hF; have k4 := (hS9.cell (p := ⟨W.heap.size, 4, none⟩) hl1).trans c4; clear hS9; go_simp; try (with_reducible rfl))); simp only [Act.put, zA, zB, zC, Nat.reduceAdd]
  refine tail_pure (fun w => Below.refl _ w) (v := .slice (some ⟨g5, 2, none⟩) 62 62) (fun _ => rfl) ?_ ?_; (focus (intro us w9 hS9 hF; clear hF; have k4 := (hS9.cell (p := ⟨W.heap.size, 4, none⟩) hl1).trans c4; clear hS9; go_simp; try (with_reducible rfl))); simp only [Act.put, zA, zB, zC, Nat.reduceAdd]
  refine tail_pure (fun w => Below.refl _ w) (v := .pointer (some ⟨W.heap.size, 4, none⟩)) (fun _ => rfl) ?_ ?_; (focus (intro us w9 hS9 hF; clear hF; have k4 := (hS9.cell (p := ⟨W.heap.size, 4, none⟩) hl1).trans c4; clear hS9; go_simp; try (with_reducible rfl))); simp only [Act.put, zA, zB, zC, Nat.reduceAdd]
  refine tail_pure (fun w => Below.refl _ w) (v := .int .u16 a) (fun _ => rfl) ?_ ?_; (focus (intro us w9 hS9 hF; clear hF; have k4 := (hS9.cell (p := ⟨W.heap.size, 4, none⟩) hl1).trans c4; clear hS9; go_simp; try (with_reducible rfl))); simp only [Act.put, zA, zB, zC, Nat.reduceAdd]
  refine tail_free (AckB a) (fun u w1 w2 hg h => AckB.mono hg h) ?_ ?_; (focus (intro us w9 hS9 hF K hK; clear hF; go_simp; refine (app16' a a0 a1 w9).mono ?_; rintro e w' ⟨g, rfl, hr, hb⟩; exact hK _ _ (hS9.trans (hb.mono hS9.size)) hb ⟨g, rfl, hr⟩)); simp only [Act.put, zA, zB, zC, Nat.reduceAdd]
  refine tail_done fun us w7 hS7 hF => ?_
  obtain ⟨ga, hu, hra⟩ := hF _ (List.mem_cons_self ..)
  dsimp only at hu
  clear hF
  simp only [hu]
  have q5 := q5.below hS7 hlg
  have r1 := r1.below hS7 hl1
  have hB := hB.trans (hS7.mono hB.size)
  clear hS7 hu b0' b1' b4' b5' c0 c1 c2 c3 c4 bf
  have q5' := V8_list q5
  refine wp_row_copy (P := Try.prog) (off := 2) (dCap := 62) (sCap := 2) (cs := [bv (UInt8.ofNat (a.toNat % 256)), bv (UInt8.ofNat (a.toNat / 256))]) q5' Try.underlying44 info_u8s rfl (fun _ => ⟨rfl, _, rfl, fun j v hv => ?_⟩) (by simp [V8, z56]) (fun v hv => by simp at hv; rcases hv with rfl | rfl <;> rfl) rfl rfl ?_
  · rw [Addr.add_mid, Nat.zero_add, hra.cell j]
    simpa using hv
  intro w8 u8 q8
  rw [V8_copy2] at q8
  have r1 := r1.upd u8 (by omega)
  have hB := Upd.below hB u8 (by omega)
  clear q5 q5' u8 hra
  have hl1 := r1.lt
  have hlg := q8.lt
  go_upto_region 9 with (fail)
  refine wp_region_tailN (n := 53) 4 (fun w' => Below w8.heap.size w8 w') (fun w1 w2 => Below w1.heap.size w1 w2) (by kernel_rfl) (by kernel_rfl) (by decide) (by rfl) (Below.refl _ _).drew ?_
  simp only [List.take_succ_cons, List.take_zero, List.drop_succ_cons, List.drop_zero]
  refine tail_pure (fun w => Below.refl _ w) (v := .slice (some ⟨g5, 0, none⟩) 64 64) (fun _ => rfl) ?_ ?_; (focus (intro us w9 hS9 hF; clear hF; clear hS9; go_simp; try (with_reducible rfl))); simp only [Act.put, zA, zB, zC, Nat.reduceAdd]
  refine tail_pure (fun w => Below.refl _ w) (v := .slice (some ⟨g5, 8, none⟩) 56 56) (fun _ => rfl) ?_ ?_; (focus (intro us w9 hS9 hF; clear hF; clear hS9; go_simp; try (with_reducible rfl))); simp only [Act.put, zA, zB, zC, Nat.reduceAdd]
  refine tail_pure (fun w => Below.refl _ w) (v := .pointer (some ⟨W.heap.size, 5, none⟩)) (fun _ => rfl) ?_ ?_; (focus (intro us w9 hS9 hF; clear hF; clear hS9; go_simp; try (with_reducible rfl))); simp only [Act.put, zA, zB, zC, Nat.reduceAdd]
  refine tail_pure (fun w => Below.refl _ w) (v := .slice (some ⟨W.heap.size, 5, none⟩) 56 56) (fun _ => rfl) ?_ ?_; (focus (intro us w9 hS9 hF; clear hF; clear hS9; go_simp; try (with_reducible rfl))); simp only [Act.put, zA, zB, zC, Nat.reduceAdd]
  refine tail_done fun us w9 hS9 hF => ?_
  clear hF
  have q9 := q8.below hS9 hlg
  have r1 := r1.below hS9 hl1
  have hB := hB.trans (hS9.mono hB.size)
  clear hS9 q8
  have q9' := V8_list q9
  refine wp_row_copy (P := Try.prog) (off := 8) (dCap := 56) (sCap := 56) (cs := p.map bv) q9' Try.underlying44 info_u8s (by simp [hp]) (fun _ => ⟨rfl, _, rfl, fun j v hv => ?_⟩) (by simp [V8, z56, hp]) (bv_one p) rfl rfl ?_
  · rw [Addr.add_mid, r1.cell (5 + j)]
    unfold LV
    rw [List.getElem?_toArray, Nat.add_comm]
    simpa using hv
  intro w10 u10 q10
  rw [V8_copy8 _ _ _ _ _ _ _ _ _ _ (by simp [z56]) (by simp [hp])] at q10
  have hB := Upd.below hB u10 (by omega)
  clear q9 q9' u10 r1
  have eX : Value.int .u8 (k + 4) = bv (hdB k false true) := by simpa using bv_hd HK.out false true
  have eN := bv_int n0 (show n < 256 by omega)
  rw [eX, eN] at q10
  have q10 : Row w10 g5 5 ((ln0 k false true n a p).map bv).toArray := q10
  have hib := IsB.of_row q10
  have hlen : (ln0 k false true n a p).length = 64 := by simp [ln0, ln8, hp]
  rw [hlen] at hib
  obtain ⟨S, hS⟩ : ∃ S, S = lnS k false true n a p := ⟨_, rfl⟩
  have HS := Lib.hid hS
  have hS2 : S ≤ 65535 := by rw [hS]; exact sum16_le _
  clear eX eN hS
  go_upto_region 11 with (go_at_call 97; refine (sum16_any _ _ _ _ _ hib (by omega)).mono ?_; rintro e w' ⟨rfl, rfl⟩; rw [show sum16 (ln0 k false true n a p) = S from HS.out.symm])
  have q11 : Row w10 g5 5 (V8 (bv (hdB k false true)) (bv (UInt8.ofNat n.toNat)) (bv (UInt8.ofNat (a.toNat % 256))) (bv (UInt8.ofNat (a.toNat / 256))) b0 b0 b0 b0 (p.map bv)) := q10
  obtain ⟨b0', b1', b4', b5'⟩ := V8_cells q11
  have bf := q11.frozen
  have e4 : Value.int .u8 ((S : Int) / 256) = bv (UInt8.ofNat (S / 256)) := by rw [show (S : Int) / 256 = ((S / 256 : Nat) : Int) by omega]; exact bv_nat _ (by omega)
  have e5 : Value.int .u8 ((S : Int) % 256) = bv (UInt8.ofNat (S % 256)) := by rw [show (S : Int) % 256 = ((S % 256 : Nat) : Int) by omega]; exact bv_nat _ (by omega)
  have E4 := Lib.hid e4
  have E5 := Lib.hid e5
  clear e4 e5 q10 hib hlen
  go_wp2
  have q12 := (q11.set 4 (.int .u8 ((S : Int) / 256))).set 5 (.int .u8 ((S : Int) % 256))
  have u := (Upd.setCell w10 g5 4 (.int .u8 ((S : Int) / 256))).trans (Upd.setCell _ g5 5 (.int .u8 ((S : Int) % 256)))
  rw [V8_45, E4.out, E5.out] at q12
  have hB := Upd.below hB u (by omega)
  go_ret
  refine ⟨g5, by omega, rfl, ?_, hB⟩
  have hS := HS.out
  unfold lnB
  rw [← hS, E4.out, E5.out]
  exact q12
set_option maxRecDepth 100000 in
set_option maxHeartbeats 4000000 in
theorem pack_ft (k n a : Int) (p : List UInt8) (hk : k = 1 ∨ k = 2) (n0 : 0 ≤ n) (n1 : n ≤ 56) (a0 : 0 ≤ a) (a1 : a < 65536) (hp : p.length = 56) (W : World) : Calls Try.prog 94 #[.agg (LV k true false n a p)] W (LnPost (lnB k true false n a p) W) := by
  have OK := Lib.hid (orK hk)
  have HK := Lib.hid hk
  have kw : k % 256 = k := by omega
  have nw : n % 256 = n := by omega
  have KW := Lib.hid kw
  have NW := Lib.hid nw
  clear kw nw hk
  have hB := (Below.refl W.heap.size W).alloc (Nat.le_refl _) (.cells (LV k true false n a p) 40)
  have r1 := Row.born W 40 (LV k true false n a p)
  go_enter Try.func94, Try.ntmps94
  go_upto_region 1 with (fail)
  generalize W.alloc (.cells (LV k true false n a p) 40) = w1 at *
  have hl1 := r1.lt
  go_upto_region 2 with ((at_make; refine wp_make 64 Try.underlying44 info_u8 rfl (by omega) (by omega) rfl rfl rfl rfl ?_; intro w2 q5 hb2))
  rw [V8_zero] at q5
  have r1 := r1.below hb2 hl1
  have hB := hB.trans (hb2.mono hB.size)
  generalize w1.heap.size = g5 at *
  clear hb2
  obtain ⟨b0', b1', b4', b5'⟩ := V8_cells q5
  obtain ⟨c0, c1, c2, c3, c4⟩ := line_cells r1
  have bf := q5.frozen
  go_upto_region 3 with (fail)
  rw [KW.out]
  have u := Upd.setCell w2 g5 0 (.int .u8 k)
  have q5 := q5.set 0 (.int .u8 k)
  rw [V8_0] at q5
  have r1 := r1.upd u (by omega)
  have hB := Upd.below hB u (by omega)
  generalize w2.setCell ⟨g5, 0, none⟩ (.int .u8 k) = w3 at *
  clear u b0' b1' b4' b5' c0 c1 c2 c3 c4
  obtain ⟨b0', b1', b4', b5'⟩ := V8_cells q5
  obtain ⟨c0, c1, c2, c3, c4⟩ := line_cells r1
  have bf := q5.frozen
  go_upto_region 5 with (fail)
  go_upto_region 7 with (fail)
  rw [OK.out.2.1]
  have u := Upd.setCell w3 g5 0 (.int .u8 (k + 8))
  have q5 := q5.set 0 (.int .u8 (k + 8))
  rw [V8_0] at q5
  have r1 := r1.upd u (by omega)
  have hB := Upd.below hB u (by omega)
  generalize w3.setCell ⟨g5, 0, none⟩ (.int .u8 (k + 8)) = w5 at *
  clear u b0' b1' b4' b5' c0 c1 c2 c3 c4
  obtain ⟨b0', b1', b4', b5'⟩ := V8_cells q5
  obtain ⟨c0, c1, c2, c3, c4⟩ := line_cells r1
  have bf := q5.frozen
  go_upto_region 8 with (fail)
  try rw [NW.out]
  have u := Upd.setCell w5 g5 1 (.int .u8 n)
  have q5 := q5.set 1 (.int .u8 n)
  rw [V8_1] at q5
  have r1 := r1.upd u (by omega)
  have hB := Upd.below hB u (by omega)
  generalize w5.setCell ⟨g5, 1, none⟩ (.int .u8 n) = w6 at *
  clear u b0' b1' b4' b5' c0 c1 c2 c3 c4
  obtain ⟨b0', b1', b4', b5'⟩ := V8_cells q5
  obtain ⟨c0, c1, c2, c3, c4⟩ := line_cells r1
  have bf := q5.frozen
  have hl1 := r1.lt
  have hlg := q5.lt
  refine wp_region_tailN (n := 53) 5 (fun w' => Below w6.heap.size w6 w') (fun w1 w2 => Below w1.heap.size w1 w2) (by kernel_rfl) (by kernel_rfl) (by decide) (by rfl) (Below.refl _ _).drew ?_
  simp only [List.take_succ_cons, List.take_zero, List.drop_succ_cons, List.drop_zero]
  refine tail_pure (fun w => Below.refl _ w) (v := .slice (some ⟨g5, 0, none⟩) 64 64) (fun _ => rfl) ?_ ?_; (focus (intro us w9 hS9 hF; clear hF; have k4 := (hS9.cell (p := ⟨W.heap.size, 4, none⟩) hl1).trans c4; clear hS9; go_simp; try (with_reducible rfl))); simp only [Act.put, zA, zB, zC, Nat.reduceAdd]
  refine tail_pure (fun w => Below.refl _ w) (v := .slice (some ⟨g5, 2, none⟩) 62 62) (fun _ => rfl) ?_ ?_; (focus (intro us w9 hS9 hF; clear hF; have k4 := (hS9.cell (p := ⟨W.heap.size, 4, none⟩) hl1).trans c4; clear hS9; go_simp; try (with_reducible rfl))); simp only [Act.put, zA, zB, zC, Nat.reduceAdd]
  refine tail_pure (fun w => Below.refl _ w) (v := .pointer (some ⟨W.heap.size, 4, none⟩)) (fun _ => rfl) ?_ ?_; (focus (intro us w9 hS9 hF; clear hF; have k4 := (hS9.cell (p := ⟨W.heap.size, 4, none⟩) hl1).trans c4; clear hS9; go_simp; try (with_reducible rfl))); simp only [Act.put, zA, zB, zC, Nat.reduceAdd]
  refine tail_pure (fun w => Below.refl _ w) (v := .int .u16 a) (fun _ => rfl) ?_ ?_; (focus (intro us w9 hS9 hF; clear hF; have k4 := (hS9.cell (p := ⟨W.heap.size, 4, none⟩) hl1).trans c4; clear hS9; go_simp; try (with_reducible rfl))); simp only [Act.put, zA, zB, zC, Nat.reduceAdd]
  refine tail_free (AckB a) (fun u w1 w2 hg h => AckB.mono hg h) ?_ ?_; (focus (intro us w9 hS9 hF K hK; clear hF; go_simp; refine (app16' a a0 a1 w9).mono ?_; rintro e w' ⟨g, rfl, hr, hb⟩; exact hK _ _ (hS9.trans (hb.mono hS9.size)) hb ⟨g, rfl, hr⟩)); simp only [Act.put, zA, zB, zC, Nat.reduceAdd]
  refine tail_done fun us w7 hS7 hF => ?_
  obtain ⟨ga, hu, hra⟩ := hF _ (List.mem_cons_self ..)
  dsimp only at hu
  clear hF
  simp only [hu]
  have q5 := q5.below hS7 hlg
  have r1 := r1.below hS7 hl1
  have hB := hB.trans (hS7.mono hB.size)
  clear hS7 hu b0' b1' b4' b5' c0 c1 c2 c3 c4 bf
  have q5' := V8_list q5
  refine wp_row_copy (P := Try.prog) (off := 2) (dCap := 62) (sCap := 2) (cs := [bv (UInt8.ofNat (a.toNat % 256)), bv (UInt8.ofNat (a.toNat / 256))]) q5' Try.underlying44 info_u8s rfl (fun _ => ⟨rfl, _, rfl, fun j v hv => ?_⟩) (by simp [V8, z56]) (fun v hv => by simp at hv; rcases hv with rfl | rfl <;> rfl) rfl rfl ?_
  · rw [Addr.add_mid, Nat.zero_add, hra.cell j]
    simpa using hv
  intro w8 u8 q8
  rw [V8_copy2] at q8
  have r1 := r1.upd u8 (by omega)
  have hB := Upd.below hB u8 (by omega)
  clear q5 q5' u8 hra
  have hl1 := r1.lt
  have hlg := q8.lt
  go_upto_region 9 with (fail)
  refine wp_region_tailN (n := 53) 4 (fun w' => Below w8.heap.size w8 w') (fun w1 w2 => Below w1.heap.size w1 w2) (by kernel_rfl) (by kernel_rfl) (by decide) (by rfl) (Below.refl _ _).drew ?_
  simp only [List.take_succ_cons, List.take_zero, List.drop_succ_cons, List.drop_zero]
  refine tail_pure (fun w => Below.refl _ w) (v := .slice (some ⟨g5, 0, none⟩) 64 64) (fun _ => rfl) ?_ ?_; (focus (intro us w9 hS9 hF; clear hF; clear hS9; go_simp; try (with_reducible rfl))); simp only [Act.put, zA, zB, zC, Nat.reduceAdd]
  refine tail_pure (fun w => Below.refl _ w) (v := .slice (some ⟨g5, 8, none⟩) 56 56) (fun _ => rfl) ?_ ?_; (focus (intro us w9 hS9 hF; clear hF; clear hS9; go_simp; try (with_reducible rfl))); simp only [Act.put, zA, zB, zC, Nat.reduceAdd]
  refine tail_pure (fun w => Below.refl _ w) (v := .pointer (some ⟨W.heap.size, 5, none⟩)) (fun _ => rfl) ?_ ?_; (focus (intro us w9 hS9 hF; clear hF; clear hS9; go_simp; try (with_reducible rfl))); simp only [Act.put, zA, zB, zC, Nat.reduceAdd]
  refine tail_pure (fun w => Below.refl _ w) (v := .slice (some ⟨W.heap.size, 5, none⟩) 56 56) (fun _ => rfl) ?_ ?_; (focus (intro us w9 hS9 hF; clear hF; clear hS9; go_simp; try (with_reducible rfl))); simp only [Act.put, zA, zB, zC, Nat.reduceAdd]
  refine tail_done fun us w9 hS9 hF => ?_
  clear hF
  have q9 := q8.below hS9 hlg
  have r1 := r1.below hS9 hl1
  have hB := hB.trans (hS9.mono hB.size)
  clear hS9 q8
  have q9' := V8_list q9
  refine wp_row_copy (P := Try.prog) (off := 8) (dCap := 56) (sCap := 56) (cs := p.map bv) q9' Try.underlying44 info_u8s (by simp [hp]) (fun _ => ⟨rfl, _, rfl, fun j v hv => ?_⟩) (by simp [V8, z56, hp]) (bv_one p) rfl rfl ?_
  · rw [Addr.add_mid, r1.cell (5 + j)]
    unfold LV
    rw [List.getElem?_toArray, Nat.add_comm]
    simpa using hv
  intro w10 u10 q10
  rw [V8_copy8 _ _ _ _ _ _ _ _ _ _ (by simp [z56]) (by simp [hp])] at q10
  have hB := Upd.below hB u10 (by omega)
  clear q9 q9' u10 r1
  have eX : Value.int .u8 (k + 8) = bv (hdB k true false) := by simpa using bv_hd HK.out true false
  have eN := bv_int n0 (show n < 256 by omega)
  rw [eX, eN] at q10
  have q10 : Row w10 g5 5 ((ln0 k true false n a p).map bv).toArray := q10
  have hib := IsB.of_row q10
  have hlen : (ln0 k true false n a p).length = 64 := by simp [ln0, ln8, hp]
  rw [hlen] at hib
  obtain ⟨S, hS⟩ : ∃ S, S = lnS k true false n a p := ⟨_, rfl⟩
  have HS := Lib.hid hS
  have hS2 : S ≤ 65535 := by rw [hS]; exact sum16_le _
  clear eX eN hS
  go_upto_region 11 with (go_at_call 97; refine (sum16_any _ _ _ _ _ hib (by omega)).mono ?_; rintro e w' ⟨rfl, rfl⟩; rw [show sum16 (ln0 k true false n a p) = S from HS.out.symm])
  have q11 : Row w10 g5 5 (V8 (bv (hdB k true false)) (bv (UInt8.ofNat n.toNat)) (bv (UInt8.ofNat (a.toNat % 256))) (bv (UInt8.ofNat (a.toNat / 256))) b0 b0 b0 b0 (p.map bv)) := q10
  obtain ⟨b0', b1', b4', b5'⟩ := V8_cells q11
  have bf := q11.frozen
  have e4 : Value.int .u8 ((S : Int) / 256) = bv (UInt8.ofNat (S / 256)) := by rw [show (S : Int) / 256 = ((S / 256 : Nat) : Int) by omega]; exact bv_nat _ (by omega)
  have e5 : Value.int .u8 ((S : Int) % 256) = bv (UInt8.ofNat (S % 256)) := by rw [show (S : Int) % 256 = ((S % 256 : Nat) : Int) by omega]; exact bv_nat _ (by omega)
  have E4 := Lib.hid e4
  have E5 := Lib.hid e5
  clear e4 e5 q10 hib hlen
  go_wp2
  have q12 := (q11.set 4 (.int .u8 ((S : Int) / 256))).set 5 (.int .u8 ((S : Int) % 256))
  have u := (Upd.setCell w10 g5 4 (.int .u8 ((S : Int) / 256))).trans (Upd.setCell _ g5 5 (.int .u8 ((S : Int) % 256)))
  rw [V8_45, E4.out, E5.out] at q12
  have hB := Upd.below hB u (by omega)
  go_ret
  refine ⟨g5, by omega, rfl, ?_, hB⟩
  have hS := HS.out
  unfold lnB
  rw [← hS, E4.out, E5.out]
  exact q12
set_option maxRecDepth 100000 in
set_option maxHeartbeats 4000000 in
theorem pack_ff (k n a : Int) (p : List UInt8) (hk : k = 1 ∨ k = 2) (n0 : 0 ≤ n) (n1 : n ≤ 56) (a0 : 0 ≤ a) (a1 : a < 65536) (hp : p.length = 56) (W : World) : Calls Try.prog 94 #[.agg (LV k false false n a p)] W (LnPost (lnB k false false n a p) W) := by
  have OK := Lib.hid (orK hk)
  have HK := Lib.hid hk
  have kw : k % 256 = k := by omega
  have nw : n % 256 = n := by omega
  have KW := Lib.hid kw
  have NW := Lib.hid nw
  clear kw nw hk
  have hB := (Below.refl W.heap.size W).alloc (Nat.le_refl _) (.cells (LV k false false n a p) 40)
  have r1 := Row.born W 40 (LV k false false n a p)
  go_enter Try.func94, Try.ntmps94
  go_upto_region 1 with (fail)
  generalize W.alloc (.cells (LV k false false n a p) 40) = w1 at *
  have hl1 := r1.lt
  go_upto_region 2 with ((at_make; refine wp_make 64 Try.underlying44 info_u8 rfl (by omega) (by omega) rfl rfl rfl rfl ?_; intro w2 q5 hb2))
  rw [V8_zero] at q5
  have r1 := r1.below hb2 hl1
  have hB := hB.trans (hb2.mono hB.size)
  generalize w1.heap.size = g5 at *
  clear hb2
  obtain ⟨b0', b1', b4', b5'⟩ := V8_cells q5
  obtain ⟨c0, c1, c2, c3, c4⟩ := line_cells r1
  have bf := q5.frozen
  go_upto_region 3 with (fail)
  rw [KW.out]
  have u := Upd.setCell w2 g5 0 (.int .u8 k)
  have q5 := q5.set 0 (.int .u8 k)
  rw [V8_0] at q5
  have r1 := r1.upd u (by omega)
  have hB := Upd.below hB u (by omega)
  generalize w2.setCell ⟨g5, 0, none⟩ (.int .u8 k) = w3 at *
  clear u b0' b1' b4' b5' c0 c1 c2 c3 c4
  obtain ⟨b0', b1', b4', b5'⟩ := V8_cells q5
  obtain ⟨c0, c1, c2, c3, c4⟩ := line_cells r1
  have bf := q5.frozen
  go_upto_region 5 with (fail)
  go_upto_region 7 with (fail)
  go_upto_region 8 with (fail)
  try rw [NW.out]
  have u := Upd.setCell w3 g5 1 (.int .u8 n)
  have q5 := q5.set 1 (.int .u8 n)
  rw [V8_1] at q5
  have r1 := r1.upd u (by omega)
  have hB := Upd.below hB u (by omega)
  generalize w3.setCell ⟨g5, 1, none⟩ (.int .u8 n) = w6 at *
  clear u b0' b1' b4' b5' c0 c1 c2 c3 c4
  obtain ⟨b0', b1', b4', b5'⟩ := V8_cells q5
  obtain ⟨c0, c1, c2, c3, c4⟩ := line_cells r1
  have bf := q5.frozen
  have hl1 := r1.lt
  have hlg := q5.lt
  refine wp_region_tailN (n := 53) 5 (fun w' => Below w6.heap.size w6 w') (fun w1 w2 => Below w1.heap.size w1 w2) (by kernel_rfl) (by kernel_rfl) (by decide) (by rfl) (Below.refl _ _).drew ?_
  simp only [List.take_succ_cons, List.take_zero, List.drop_succ_cons, List.drop_zero]
  refine tail_pure (fun w => Below.refl _ w) (v := .slice (some ⟨g5, 0, none⟩) 64 64) (fun _ => rfl) ?_ ?_; (focus (intro us w9 hS9 hF; clear hF; have k4 := (hS9.cell (p := ⟨W.heap.size, 4, none⟩) hl1).trans c4; clear hS9; go_simp; try (with_reducible rfl))); simp only [Act.put, zA, zB, zC, Nat.reduceAdd]
  refine tail_pure (fun w => Below.refl _ w) (v := .slice (some ⟨g5, 2, none⟩) 62 62) (fun _ => rfl) ?_ ?_; (focus (intro us w9 hS9 hF; clear hF; have k4 := (hS9.cell (p := ⟨W.heap.size, 4, none⟩) hl1).trans c4; clear hS9; go_simp; try (with_reducible rfl))); simp only [Act.put, zA, zB, zC, Nat.reduceAdd]
  refine tail_pure (fun w => Below.refl _ w) (v := .pointer (some ⟨W.heap.size, 4, none⟩)) (fun _ => rfl) ?_ ?_; (focus (intro us w9 hS9 hF; clear hF; have k4 := (hS9.cell (p := ⟨W.heap.size, 4, none⟩) hl1).trans c4; clear hS9; go_simp; try (with_reducible rfl))); simp only [Act.put, zA, zB, zC, Nat.reduceAdd]
  refine tail_pure (fun w => Below.refl _ w) (v := .int .u16 a) (fun _ => rfl) ?_ ?_; (focus (intro us w9 hS9 hF; clear hF; have k4 := (hS9.cell (p := ⟨W.heap.size, 4, none⟩) hl1).trans c4; clear hS9; go_simp; try (with_reducible rfl))); simp only [Act.put, zA, zB, zC, Nat.reduceAdd]
  refine tail_free (AckB a) (fun u w1 w2 hg h => AckB.mono hg h) ?_ ?_; (focus (intro us w9 hS9 hF K hK; clear hF; go_simp; refine (app16' a a0 a1 w9).mono ?_; rintro e w' ⟨g, rfl, hr, hb⟩; exact hK _ _ (hS9.trans (hb.mono hS9.size)) hb ⟨g, rfl, hr⟩)); simp only [Act.put, zA, zB, zC, Nat.reduceAdd]
  refine tail_done fun us w7 hS7 hF => ?_
  obtain ⟨ga, hu, hra⟩ := hF _ (List.mem_cons_self ..)
  dsimp only at hu
  clear hF
  simp only [hu]
  have q5 := q5.below hS7 hlg
  have r1 := r1.below hS7 hl1
  have hB := hB.trans (hS7.mono hB.size)
  clear hS7 hu b0' b1' b4' b5' c0 c1 c2 c3 c4 bf
  have q5' := V8_list q5
  refine wp_row_copy (P := Try.prog) (off := 2) (dCap := 62) (sCap := 2) (cs := [bv (UInt8.ofNat (a.toNat % 256)), bv (UInt8.ofNat (a.toNat / 256))]) q5' Try.underlying44 info_u8s rfl (fun _ => ⟨rfl, _, rfl, fun j v hv => ?_⟩) (by simp [V8, z56]) (fun v hv => by simp at hv; rcases hv with rfl | rfl <;> rfl) rfl rfl ?_
  · rw [Addr.add_mid, Nat.zero_add, hra.cell j]
    simpa using hv
  intro w8 u8 q8
  rw [V8_copy2] at q8
  have r1 := r1.upd u8 (by omega)
  have hB := Upd.below hB u8 (by omega)
  clear q5 q5' u8 hra
  have hl1 := r1.lt
  have hlg := q8.lt
  go_upto_region 9 with (fail)
  refine wp_region_tailN (n := 53) 4 (fun w' => Below w8.heap.size w8 w') (fun w1 w2 => Below w1.heap.size w1 w2) (by kernel_rfl) (by kernel_rfl) (by decide) (by rfl) (Below.refl _ _).drew ?_
  simp only [List.take_succ_cons, List.take_zero, List.drop_succ_cons, List.drop_zero]
  refine tail_pure (fun w => Below.refl _ w) (v := .slice (some ⟨g5, 0, none⟩) 64 64) (fun _ => rfl) ?_ ?_; (focus (intro us w9 hS9 hF; clear hF; clear hS9; go_simp; try (with_reducible rfl))); simp only [Act.put, zA, zB, zC, Nat.reduceAdd]
  refine tail_pure (fun w => Below.refl _ w) (v := .slice (some ⟨g5, 8, none⟩) 56 56) (fun _ => rfl) ?_ ?_; (focus (intro us w9 hS9 hF; clear hF; clear hS9; go_simp; try (with_reducible rfl))); simp only [Act.put, zA, zB, zC, Nat.reduceAdd]
  refine tail_pure (fun w => Below.refl _ w) (v := .pointer (some ⟨W.heap.size, 5, none⟩)) (fun _ => rfl) ?_ ?_; (focus (intro us w9 hS9 hF; clear hF; clear hS9; go_simp; try (with_reducible rfl))); simp only [Act.put, zA, zB, zC, Nat.reduceAdd]
  refine tail_pure (fun w => Below.refl _ w) (v := .slice (some ⟨W.heap.size, 5, none⟩) 56 56) (fun _ => rfl) ?_ ?_; (focus (intro us w9 hS9 hF; clear hF; clear hS9; go_simp; try (with_reducible rfl))); simp only [Act.put, zA, zB, zC, Nat.reduceAdd]
  refine tail_done fun us w9 hS9 hF => ?_
  clear hF
  have q9 := q8.below hS9 hlg
  have r1 := r1.below hS9 hl1
  have hB := hB.trans (hS9.mono hB.size)
  clear hS9 q8
  have q9' := V8_list q9
  refine wp_row_copy (P := Try.prog) (off := 8) (dCap := 56) (sCap := 56) (cs := p.map bv) q9' Try.underlying44 info_u8s (by simp [hp]) (fun _ => ⟨rfl, _, rfl, fun j v hv => ?_⟩) (by simp [V8, z56, hp]) (bv_one p) rfl rfl ?_
  · rw [Addr.add_mid, r1.cell (5 + j)]
    unfold LV
    rw [List.getElem?_toArray, Nat.add_comm]
    simpa using hv
  intro w10 u10 q10
  rw [V8_copy8 _ _ _ _ _ _ _ _ _ _ (by simp [z56]) (by simp [hp])] at q10
  have hB := Upd.below hB u10 (by omega)
  clear q9 q9' u10 r1
  have eX : Value.int .u8 (k) = bv (hdB k false false) := by simpa using bv_hd HK.out false false
  have eN := bv_int n0 (show n < 256 by omega)
  rw [eX, eN] at q10
  have q10 : Row w10 g5 5 ((ln0 k false false n a p).map bv).toArray := q10
  have hib := IsB.of_row q10
  have hlen : (ln0 k false false n a p).length = 64 := by simp [ln0, ln8, hp]
  rw [hlen] at hib
  obtain ⟨S, hS⟩ : ∃ S, S = lnS k false false n a p := ⟨_, rfl⟩
  have HS := Lib.hid hS
  have hS2 : S ≤ 65535 := by rw [hS]; exact sum16_le _
  clear eX eN hS
  go_upto_region 11 with (go_at_call 97; refine (sum16_any _ _ _ _ _ hib (by omega)).mono ?_; rintro e w' ⟨rfl, rfl⟩; rw [show sum16 (ln0 k false false n a p) = S from HS.out.symm])
  have q11 : Row w10 g5 5 (V8 (bv (hdB k false false)) (bv (UInt8.ofNat n.toNat)) (bv (UInt8.ofNat (a.toNat % 256))) (bv (UInt8.ofNat (a.toNat / 256))) b0 b0 b0 b0 (p.map bv)) := q10
  obtain ⟨b0', b1', b4', b5'⟩ := V8_cells q11
  have bf := q11.frozen
  have e4 : Value.int .u8 ((S : Int) / 256) = bv (UInt8.ofNat (S / 256)) := by rw [show (S : Int) / 256 = ((S / 256 : Nat) : Int) by omega]; exact bv_nat _ (by omega)
  have e5 : Value.int .u8 ((S : Int) % 256) = bv (UInt8.ofNat (S % 256)) := by rw [show (S : Int) % 256 = ((S % 256 : Nat) : Int) by omega]; exact bv_nat _ (by omega)
  have E4 := Lib.hid e4
  have E5 := Lib.hid e5
  clear e4 e5 q10 hib hlen
  go_wp2
  have q12 := (q11.set 4 (.int .u8 ((S : Int) / 256))).set 5 (.int .u8 ((S : Int) % 256))
  have u := (Upd.setCell w10 g5 4 (.int .u8 ((S : Int) / 256))).trans (Upd.setCell _ g5 5 (.int .u8 ((S : Int) % 256)))
  rw [V8_45, E4.out, E5.out] at q12
  have hB := Upd.below hB u (by omega)
  go_ret
  refine ⟨g5, by omega, rfl, ?_, hB⟩
  have hS := HS.out
  unfold lnB
  rw [← hS, E4.out, E5.out]
  exact q12
theorem pack (k : Int) (e f : Bool) (n a : Int) (p : List UInt8) (hk : k = 1 ∨ k = 2) (n0 : 0 ≤ n) (n1 : n ≤ 56) (a0 : 0 ≤ a) (a1 : a < 65536) (hp : p.length = 56) (W : World) : Calls Try.prog 94 #[.agg (LV k e f n a p)] W (LnPost (lnB k e f n a p) W) := by
  cases f <;> cases e
  · exact pack_ff k n a p hk n0 n1 a0 a1 hp W
  · exact pack_ft k n a p hk n0 n1 a0 a1 hp W
  · exact pack_tf k n a p hk n0 n1 a0 a1 hp W
  · exact pack_tt k n a p hk n0 n1 a0 a1 hp W
end
end Go.Proofs.Ythjkhambmgepdaa
