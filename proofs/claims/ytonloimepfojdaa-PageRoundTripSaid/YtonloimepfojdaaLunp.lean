/- Page tables: the walk of PageUnpackExact. -/
import Derived.Test.YtonloimepfojdaaWit4
import Derived.Test.YtonloimepfojdaaCpy
import Derived.Test.YtonloimepfojdaaTab8
namespace Go.Proofs.Ytonloimepfojdaa
open Go.RowKit
set_option linter.unusedVariables false
def CB (cs : List UInt8) (u : Value) (w : World) : Prop := ∃ A c, u = .slice A 4096 c ∧ IsB w A 4096 cs
theorem CB.mono {cs : List UInt8} {u : Value} {w w' : World} (hg : Below w.heap.size w w') (h : CB cs u w) : CB cs u w' := by
  obtain ⟨A, c, e, h⟩ := h
  exact ⟨A, c, e, h.below hg⟩
def UpT (N : Nat) (E : Int) (X : List Value) (u : Value) (w : World) : Prop := ∃ A c, u = .tuple #[.slice A N c, .int .i64 E] ∧ IsC w A N 4 X
theorem UpT.mono {N : Nat} {E : Int} {X : List Value} {u : Value} {w w' : World} (hg : Below w.heap.size w w') (h : UpT N E X u w) : UpT N E X u w' := by
  obtain ⟨A, c, e, h⟩ := h
  exact ⟨A, c, e, h.below hg⟩
def UpS (N : Nat) (X : List Value) (u : Value) (w : World) : Prop := ∃ A c, u = .slice A N c ∧ IsC w A N 4 X
theorem UpS.mono {N : Nat} {X : List Value} {u : Value} {w w' : World} (hg : Below w.heap.size w w') (h : UpS N X u w) : UpS N X u w' := by
  obtain ⟨A, c, e, h⟩ := h
  exact ⟨A, c, e, h.below hg⟩
def UpIs (w : Int) (bs : List UInt8) (N : Nat) (E : Int) (X : List Value) : Prop := upN w bs = N ∧ upE w bs = E ∧ upX w bs = X
def UpL (N : Nat) (E : Int) (X : List Value) (W : World) (e : Ending) (W' : World) : Prop := ∃ A c, e = .returned (.tuple #[.slice A N c, .int .i64 E]) ∧ IsC W' A N 4 X ∧ Below W.heap.size W W'
theorem unpackL {N : Nat} {E : Int} {X : List Value} (w : Int) (A : Option Addr) (n c : Nat) (bs : List UInt8) (W : World) (hA : IsB W A n bs) (hn1 : n ≤ 1000000) (h : UpIs w bs N E X) : Calls Try.prog 30 #[.int .i64 w, .slice A n c] W (UpL N E X W) := by
  obtain ⟨rfl, rfl, rfl⟩ := h
  exact unpack w A n c bs W hA hn1
theorem unpackR {N : Nat} {E : Int} {X : List Value} (w : Int) (A : Option Addr) (n c : Nat) (bs : List UInt8) (W : World) (hA : IsB W A n bs) (hn1 : n ≤ 1000000) (h : UpIs w bs N E X) : Calls Try.prog 31 #[.int .i64 w, .slice A n c] W (UpL N E X W) := by
  obtain ⟨rfl, rfl, rfl⟩ := h
  exact unpack_ref w A n c bs W hA hn1
theorem upIs (w : Int) (bs : List UInt8) : ∃ N E X, UpIs w bs N E X ∧ PteRow N X ∧ N ≤ 4096 := ⟨_, _, _, ⟨rfl, rfl, rfl⟩, upX_row w bs, upN_le w bs⟩
theorem row_set_bv (L : List UInt8) (i : Nat) (by' : Int) (h0 : 0 ≤ by') (h1 : by' < 256) : ∃ M : List UInt8, M.length = L.length ∧ (L.map bv).toArray.setIfInBounds i (.int .u8 by') = (M.map bv).toArray := by
  refine ⟨L.set i (UInt8.ofNat by'.toNat), by simp, ?_⟩
  obtain ⟨k, rfl⟩ := Int.eq_ofNat_of_zero_le h0
  rw [bv_nat k (by omega)]
  simp [List.setIfInBounds_toArray, List.map_set]
theorem byte_cell {w : World} {g : Nat} {L : List UInt8} (r : Row w g 5 (L.map bv).toArray) (hl : L.length = 4096) (i : Nat) (hi : i < 4096) : ∃ v, w.cell? ⟨g, i, none⟩ = some (.int .u8 v) := by
  rw [r.cell i]
  exact ⟨(L[i].toNat : Int), by simp [hl, hi, bv]⟩
set_option maxRecDepth 20000 in
set_option maxHeartbeats 8000000 in
theorem law_unpack (w level at_ by' : Int) (A : Option Addr) (n c : Nat) (bs : List UInt8) (B : Option Addr) (m d : Nat) (W : World) (hA : IsB W A n bs) (hI : IsI W B m) (b0 : 0 ≤ by') (b1 : by' < 256) :
    Calls Try.prog 8 #[.int .i64 w, .slice A n c, .int .i64 level, .slice B m d, .int .i64 at_, .int .u8 by'] W (True1 W) := by
  rcases Nat.lt_or_ge 5000 n with hn | hn
  · have hd : decide ((5000 : Int) < (n : Int)) = true := by simp; omega
    go_enter Try.func8, Try.ntmps8
    go_wp2_with (go_at_call 18; refine (awake_ok _).mono ?_; rintro e w5 ⟨rfl, hb5⟩)
    go_ret
    exact ⟨rfl, hb5⟩
  have hd : decide ((5000 : Int) < (n : Int)) = false := by simp; omega
  obtain ⟨N1, E1, X1, HX1, hP1, hN1⟩ := upIs w bs
  have HX1 := Lib.hid HX1
  have hB := Below.refl W.heap.size W
  go_enter Try.func8, Try.ntmps8
  go_upto_region 4 with (first | (at_builtin; (refine wp_append_b (P := Try.prog) rfl _ _ 44 rfl Try.underlying44 info_byte (OwnB.nil W W.heap.size 5) hA (by omega) (Nat.le_refl _) rfl rfl ?_); intro A1 n1 c1 w1 hn1 ho1 hb1 hg1 hat1; have hi1 : IsB w1 A1 n1 bs := ho1.isB; have hle1 : n1 ≤ 1000000 := (by have := hn1.out; omega); clear hg1 hat1) | (go_at_call 30; refine (unpackL _ _ _ _ _ _ hi1 hle1 HX1.out).mono ?_; rintro e w2 ⟨A2, c2, rfl, hC2, hb2⟩))
  have hB2 := hB.trans (hb1.trans (hb2.mono hb1.size))
  clear hi1 hle1 ho1 hn1 hb1 hb2 hd
  go_upto_region 5 with (go_at_call 31; refine (unpackR _ _ _ _ _ _ (hA.below hB2) (by omega) HX1.out).mono ?_; rintro e w3 ⟨A3, c3, rfl, hC3, hb3⟩)
  have hB3 := hB2.trans (hb3.mono hB2.size)
  have hC2 := hC2.below hb3
  have hI3 : IsI w3 B m := fun i hi => by
    obtain ⟨b, o, z, e, h⟩ := hI i hi
    exact ⟨b, o, z, e, (hB3.cell (p := ⟨b, o + i, none⟩) (block_lt_of_cell h)).trans h⟩
  clear hb3 hB2
  go_upto_region 6 with (go_at_call 32; refine (table _ _ _ _ _ _ hI3).mono ?_; rintro e w4 ⟨wd, lv, A4, n4, c4, ms, rfl, hM4, hn4, hc4, hwd, hvt, hb4⟩)
  have hB4 := hB3.trans (hb4.mono hB3.size)
  have hC2 := hC2.below hb4
  have hC3 := hC3.below hb4
  have r5 := Row.born w4 43 #[.int .i64 4096, .int .i64 wd, .int .i64 lv, .slice A4 n4 c4]
  have hB5 := hB4.alloc hB4.size (.cells #[.int .i64 4096, .int .i64 wd, .int .i64 lv, .slice A4 n4 c4] 43)
  have hb45 := (Below.refl w4.heap.size w4).alloc (Nat.le_refl _) (.cells #[.int .i64 4096, .int .i64 wd, .int .i64 lv, .slice A4 n4 c4] 43)
  have hC2 := hC2.below hb45
  have hC3 := hC3.below hb45
  have hM5 := hM4.below hb45
  have hge := hB4.size
  generalize w4.alloc (.cells #[.int .i64 4096, .int .i64 wd, .int .i64 lv, .slice A4 n4 c4] 43) = w5 at *
  generalize w4.heap.size = g17 at *
  clear hI3 hb4 hB3 hB4 hM4 hb45
  have t0 := r5.cell 0
  have t1 := r5.cell 1
  have t2 := r5.cell 2
  have t3 := r5.cell 3
  simp at t0 t1 t2 t3
  obtain ⟨L, hLL⟩ : ∃ L, packL wd lv (eb wd).toNat (eb wd).toNat (List.replicate 4096 0) ms = L := ⟨_, rfl⟩
  have HLL := Lib.hid hLL
  have HV := Lib.hid hvt
  clear hLL hvt hwd
  go_upto_region 7 with (go_at_call 27; refine (pack_ref_yes hM5 (by omega) HV.out HLL.out).mono ?_; rintro e w6 ⟨g18, hg18, rfl, hL4, q18, hb6⟩)
  have hB6 := hB5.trans (hb6.mono hB5.size)
  have hl5 := r5.lt
  have r6 := r5.below hb6 r5.lt
  clear t0 t1 t2 t3 hB5 hM5 r5
  obtain ⟨k, hk⟩ : ∃ k : Nat, at_ % 4096 = k := ⟨(at_ % 4096).toNat, by omega⟩
  have hk4 : k < 4096 := by omega
  obtain ⟨ov, hov⟩ := byte_cell q18 hL4.out k hk4
  have qf := q18.frozen
  go_upto_region 8 with (go_at_call 20; refine (place _ _ (by omega) (by omega) _).mono ?_; rintro e w' ⟨rfl, rfl⟩; rw [hk])
  obtain ⟨cs, hcl, hcs⟩ := row_set_bv L k by' b0 b1
  have u7 := Upd.setCell w6 g18 k (.int .u8 by')
  have q7 := q18.set k (.int .u8 by')
  rw [hcs] at q7
  have r7 := r6.upd u7 (by omega)
  have hB7 := Upd.below hB6 u7 (by omega)
  have hC2 := hC2.below (Upd.below hb6 u7 hg18)
  have hC3 := hC3.below (Upd.below hb6 u7 hg18)
  generalize w6.setCell ⟨g18, k, none⟩ (.int .u8 by') = w7 at *
  have hl4 : cs.length = 4096 := by rw [hcl]; exact hL4.out
  have hIc : IsB w7 (some ⟨g18, 0, none⟩) 4096 cs := by
    have h := IsB.of_row q7
    rwa [hl4] at h
  clear hb6 hk hov qf u7 q18 q7 hcs hcl hB6 r6 hL4
  obtain ⟨N2, E2, X2, HX2, hP2, hN2⟩ := upIs wd cs
  have HX2 := Lib.hid HX2
  have hl17 := r7.lt
  have t1 := r7.cell 1
  simp at t1
  refine wp_region_told (n := 91) (fun w' => Below w7.heap.size w7 w') (fun w1 w2 => Below w1.heap.size w1 w2) (by kernel_rfl) (by kernel_rfl) (by rfl) (Below.refl _ _).drew ?_
  refine walk_pure (v := .pointer (some ⟨g17, 1, none⟩)) (fun w => Below.refl _ w) (fun _ => rfl) ?_ ?_; (focus (intro us w9 hS9 hF; clear hF; clear hS9; go_simp; try (with_reducible rfl))); simp only [Act.put, List.setIfInBounds_toArray, List.set_cons_zero, List.set_cons_succ, Nat.reduceAdd]
  refine walk_pure (v := .int .i64 wd) (fun w => Below.refl _ w) (fun _ => rfl) ?_ ?_; (focus (intro us w9 hS9 hF; clear hF; have k1 := (hS9.cell (p := ⟨g17, 1, none⟩) hl17).trans t1; clear hS9; go_simp; try (with_reducible rfl))); simp only [Act.put, List.setIfInBounds_toArray, List.set_cons_zero, List.set_cons_succ, Nat.reduceAdd]
  refine walk_pure (v := .slice (some ⟨g18, 0, none⟩) 4096 4096) (fun w => Below.refl _ w) (fun _ => rfl) ?_ ?_; (focus (intro us w9 hS9 hF; clear hF; clear hS9; go_simp; try (with_reducible rfl))); simp only [Act.put, List.setIfInBounds_toArray, List.set_cons_zero, List.set_cons_succ, Nat.reduceAdd]
  refine walk_free (CB cs) (fun u a b hg h => CB.mono hg h) ?_ ?_; (focus (intro us w9 hS9 hF K hK; clear hF; refine step_copy_b (c' := 4096) Try.underlying44 info_byte (hIc.below hS9) (by omega) rfl rfl ?_; intro A' c' w' ho hb; exact hK _ _ (hS9.trans (hb.mono hS9.size)) hb ⟨A', c', rfl, ho.isB⟩)); simp only [Act.put, List.setIfInBounds_toArray, List.set_cons_zero, List.set_cons_succ, Nat.reduceAdd]
  refine walk_free (UpT N2 E2 X2) (fun u a b hg h => UpT.mono hg h) ?_ ?_; (focus (intro us w9 hS9 hF K hK; obtain ⟨A', c', hu, hi⟩ := hF _ (List.mem_cons_self ..) (by kernel_rfl); dsimp only at hu; clear hF; simp only [hu] at hK ⊢; go_simp; refine (unpackL _ _ _ _ _ _ hi (by omega) HX2.out).mono ?_; rintro e w' ⟨A2, c2, rfl, hC, hb⟩; exact hK _ _ (hS9.trans (hb.mono hS9.size)) hb ⟨A2, c2, rfl, hC⟩)); simp only [Act.put, List.setIfInBounds_toArray, List.set_cons_zero, List.set_cons_succ, Nat.reduceAdd]
  refine walk_free (UpT N2 E2 X2) (fun u a b hg h => UpT.mono hg h) ?_ ?_; (focus (intro us w9 hS9 hF K hK; have h5 := hF _ (List.mem_cons_self ..) (by kernel_rfl); obtain ⟨A', c', hu, hi⟩ := h5; dsimp only at hu; clear hF; simp only [hu] at hK ⊢; go_simp; exact hK _ _ hS9 (Below.refl _ _) ⟨A', c', rfl, hi⟩)); simp only [Act.put, List.setIfInBounds_toArray, List.set_cons_zero, List.set_cons_succ, Nat.reduceAdd]
  refine walk_free (UpS N2 X2) (fun u a b hg h => UpS.mono hg h) ?_ ?_; (focus (intro us w9 hS9 hF K hK; have h5 := hF _ (List.mem_cons_self ..) (by kernel_rfl); obtain ⟨A', c', hu, hi⟩ := h5; dsimp only at hu; clear hF; simp only [hu] at hK ⊢; go_simp; exact hK _ _ hS9 (Below.refl _ _) ⟨A', c', rfl, hi⟩)); simp only [Act.put, List.setIfInBounds_toArray, List.set_cons_zero, List.set_cons_succ, Nat.reduceAdd]
  refine walk_pure (v := .int .i64 E2) (fun w => Below.refl _ w) (fun _ => rfl) ?_ ?_; (focus (intro us w9 hS9 hF; have h5 := hF _ (List.mem_cons_of_mem _ (List.mem_cons_self ..)) (by kernel_rfl); obtain ⟨A', c', hu, hi⟩ := h5; dsimp only at hu; clear hF; simp only [hu]; go_simp; try (with_reducible rfl))); simp only [Act.put, List.setIfInBounds_toArray, List.set_cons_zero, List.set_cons_succ, Nat.reduceAdd]
  refine walk_free (UpS N2 X2) (fun u a b hg h => UpS.mono hg h) ?_ ?_; (focus (intro us w9 hS9 hF K hK; have h5 := hF _ (List.mem_cons_self ..) (by kernel_rfl); obtain ⟨A', c', hu, hi⟩ := h5; dsimp only at hu; clear hF; simp only [hu] at hK ⊢; go_simp; exact hK _ _ hS9 (Below.refl _ _) ⟨A', c', rfl, hi⟩)); simp only [Act.put, List.setIfInBounds_toArray, List.set_cons_zero, List.set_cons_succ, Nat.reduceAdd]
  refine walk_pure (v := .int .i64 E2) (fun w => Below.refl _ w) (fun _ => rfl) ?_ ?_; (focus (intro us w9 hS9 hF; clear hF; clear hS9; go_simp; try (with_reducible rfl))); simp only [Act.put, List.setIfInBounds_toArray, List.set_cons_zero, List.set_cons_succ, Nat.reduceAdd]
  refine walk_done fun us w8 hS8 hF => ?_
  obtain ⟨A5, c5, hu, hC5⟩ := hF _ (List.mem_cons_self ..)
  dsimp only at hu
  clear hF
  simp only [hu]
  have r8 := r7.below hS8 hl17
  have hB8 := hB7.trans (hS8.mono hB7.size)
  have hC2 := hC2.below hS8
  have hC3 := hC3.below hS8
  have hI8 := hIc.below hS8
  clear t1 hS8 r7 hB7 hIc hu
  have t1 := r8.cell 1
  simp at t1
  go_upto_region 10 with (go_at_call 31; refine (unpackR _ _ _ _ _ _ hI8 (by omega) HX2.out).mono ?_; rintro e w9 ⟨A6, c6, rfl, hC6, hb9⟩)
  have hB9 := hB8.trans (hb9.mono hB8.size)
  have hC2 := hC2.below hb9
  have hC3 := hC3.below hb9
  have hC5 := hC5.below hb9
  clear t1 hb9 hB8 r8 hI8
  have e1 : (E1 == E1) = true := by simp
  have e2 : (E2 == E2) = true := by simp
  go_wp2_with (first | (go_at_call 33; refine (same_ptes _ _ _ _ _ _ _ (by assumption) (by assumption) (by assumption) (by assumption)).mono ?_; rintro e wa ⟨rfl, hba⟩; have hB9 := hB9.trans (hba.mono hB9.size); have hC5 := hC5.below hba; have hC6 := hC6.below hba) | (go_at_call 18; refine (awake_ok _).mono ?_; rintro e wc ⟨rfl, hbc⟩))
  go_ret
  exact ⟨rfl, hB9.trans (hbc.mono hB9.size)⟩
end Go.Proofs.Ytonloimepfojdaa
