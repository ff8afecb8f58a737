/- Page tables: the builder of tables. -/
import Derived.Test.YtonloimepfojdaaWit3
namespace Go.Proofs.Ytonloimepfojdaa
open Go.RowKit
set_option linter.unusedVariables false
/-- A slice of integers that came in. -/
def IsI (w : World) (A : Option Addr) (n : Nat) : Prop := ∀ i, i < n → ∃ b o z, A = some ⟨b, o, none⟩ ∧ w.cell? ⟨b, o + i, none⟩ = some (.int .i64 z)
/-- A valid table of at most m mappings. -/
structure TabAt (w : World) (g : Nat) (wd lv : Int) (m : Nat) (A : Option Addr) (n c : Nat) (ms : List Mp) : Prop where
  row : Row w g 43 #[.int .i64 4096, .int .i64 wd, .int .i64 lv, .slice A n c]
  maps : IsMs w A n ms
  nil : (A = none ∧ n = 0 ∧ c = 0 ∧ ms = []) ∨ 0 < n
  nm : n ≤ m
  nc : n ≤ c
  ok : vMs lv 512 (-1) ms = true
def TabPost (W : World) (e : Ending) (W' : World) : Prop := ∃ wd lv A n c ms, e = .returned (.agg #[.int .i64 4096, .int .i64 wd, .int .i64 lv, .slice A n c]) ∧ IsMs W' A n ms ∧ n ≤ 41 ∧ n ≤ c ∧ (wd = 32 ∨ wd = 39) ∧ vT 4096 wd lv ms = true ∧ Below W.heap.size W W'
theorem IsMs.apart {w w' : World} {A : Option Addr} {n g : Nat} {ms : List Mp} {t : TypeId} {cs : Array Value} (h : IsMs w A n ms) (hr : Row w g t cs) (hs : cs.size < 6) (u : Upd w w' g) : IsMs w' A n ms := by
  refine ⟨h.1, fun hn => ?_⟩
  obtain ⟨b, o, e, hc⟩ := h.2 hn
  refine ⟨b, o, e, fun i hi j v hv => ?_⟩
  have hne : b ≠ g := by
    rintro rfl
    have h5 := hc i hi 5 _ rfl
    rw [hr.cell] at h5
    have := (Array.getElem?_eq_some_iff.1 h5).1
    omega
  rw [World.cell?_of_block (w := w) (u.block b hne)]
  exact hc i hi j v hv
theorem vM_made {lv jx yy rt jc jo : Int} (h0 : 0 ≤ jx) (h1 : jx < 512) (y0 : 0 ≤ yy) (y1 : yy < 268435456) (c0 : 0 ≤ jc) (c1 : jc < 4) (o0 : 0 ≤ jo) (o1 : jo < 12) (r0 : 0 ≤ rt) (r1 : rt ≤ 3) (hr : lv = 0 ∨ rt = 0) : vM lv 512 (-1) ⟨jx, yy * 4096, rt, jc, 1 + jo, 0⟩ = true := by
  have e1 : vId jc (1 + jo) 0 = true := by unfold vId; exact decide_eq_true (by omega)
  have e2 : aligned (yy * 4096) = true := by unfold aligned; exact decide_eq_true (by omega)
  unfold vM
  dsimp only
  rw [e1, e2, decide_eq_true (show -1 < jx ∧ jx < 512 by omega), decide_eq_true (show 0 ≤ rt ∧ rt ≤ 3 by omega), decide_eq_true hr]
  rfl
theorem vMs_mono {lv : Int} : ∀ (ms : List Mp) (last : Int), vMs lv 512 last ms = true → vMs lv 1024 last ms = true
  | [], _, _ => rfl
  | m :: r, last, h => by
    obtain ⟨h1, h2⟩ := (Bool.and_eq_true _ _).mp (show (vM lv 512 last m && vMs lv 512 m.ix r) = true from h)
    have h3 : vM lv 1024 last m = true := by
      unfold vM at h1 ⊢
      simp only [Bool.and_eq_true, decide_eq_true_eq] at h1 ⊢
      exact ⟨⟨⟨⟨⟨h1.1.1.1.1.1, by have := h1.1.1.1.1.2; omega⟩, h1.1.1.1.2⟩, h1.1.1.2⟩, h1.1.2⟩, h1.2⟩
    show (vM lv 1024 last m && vMs lv 1024 m.ix r) = true
    rw [h3, vMs_mono r m.ix h2]
    rfl
theorem vT_made {x L lv : Int} {ms : List Mp} (hx : x = 32 ∧ L = 2 ∨ x = 39 ∧ L = 3) (q0 : 0 ≤ lv) (q1 : lv < L) (hn : 0 < ms.length) (h : vMs lv 512 (-1) ms = true) : vT 4096 x lv ms = true := by
  have e2 : aligned 4096 = true := rfl
  rcases hx with ⟨rfl, rfl⟩ | ⟨rfl, rfl⟩
  · unfold vT
    rw [e2, show okw 32 = true from rfl, show lev 32 = 2 from rfl, show bnd 32 = 1024 from rfl, decide_eq_true (show 0 ≤ lv ∧ lv < 2 by omega), decide_eq_true hn, vMs_mono ms _ h]
    rfl
  · unfold vT
    rw [e2, show okw 39 = true from rfl, show lev 39 = 3 from rfl, show bnd 39 = 512 from rfl, decide_eq_true (show 0 ≤ lv ∧ lv < 3 by omega), decide_eq_true hn, h]
    rfl
theorem with_any (b w lv : Int) (A : Option Addr) (n c : Nat) (ms : List Mp) (ix bs rt co op pt : Int) (W : World) (h : (A = none ∧ n = 0 ∧ c = 0 ∧ ms = []) ∨ 0 < n) (hA : IsMs W A n ms) (hn : n ≤ 100) (hc : n ≤ c) :
    Calls Try.prog 43 #[.agg #[.int .i64 b, .int .i64 w, .int .i64 lv, .slice A n c], .agg #[.int .i64 ix, .int .i64 bs, .int .i64 rt, .int .i64 co, .int .i64 op, .int .i64 pt]] W (WithPost b w lv (withM ms ⟨ix, bs, rt, co, op, pt⟩) W) := by
  rcases h with ⟨rfl, rfl, rfl, rfl⟩ | h
  · exact with_nil b w lv ix bs rt co op pt W
  · obtain ⟨b1, o, rfl, _⟩ := hA.2 h
    exact with_some b w lv b1 o n c ms ix bs rt co op pt W hA hn hc h
theorem with_five (x lv : Int) (W : World) : Calls Try.prog 43 #[.agg #[.int .i64 4096, .int .i64 x, .int .i64 lv, .slice none 0 0], .agg #[.int .i64 5, .int .i64 8192, .int .i64 0, .int .i64 0, .int .i64 1, .int .i64 0]] W (fun e W' => ∃ A' c', e = .returned (.agg #[.int .i64 4096, .int .i64 x, .int .i64 lv, .slice A' 1 c']) ∧ IsMs W' A' 1 [⟨5, 8192, 0, 0, 1, 0⟩] ∧ 1 ≤ c' ∧ Below W.heap.size W W') :=
  with_nil 4096 x lv 5 8192 0 0 1 0 W
theorem info60 : (Try.prog.info? 60).map (·.size) = some 6 := by kernel_rfl
set_option maxRecDepth 20000 in
set_option maxHeartbeats 8000000 in
theorem table (w level : Int) (A : Option Addr) (n c : Nat) (W : World) (hI : IsI W A n) : Calls Try.prog 32 #[.int .i64 w, .int .i64 level, .slice A n c] W (TabPost W) := by
  have hB := (Below.refl W.heap.size W).alloc (Nat.le_refl _) (.cells #[.int .i64 0, .int .i64 0, .int .i64 0, .slice none 0 0] 43)
  have r6 := Row.born W 43 #[.int .i64 0, .int .i64 0, .int .i64 0, .slice none 0 0]
  go_enter Try.func32, Try.ntmps32
  go_upto_region 1 with (fail)
  generalize W.alloc (.cells #[.int .i64 0, .int .i64 0, .int .i64 0, .slice none 0 0] 43) = w1 at *
  have hl6 := r6.lt
  obtain ⟨x, hx⟩ : ∃ x, wd w = x := ⟨_, rfl⟩
  have hx2 : x = 32 ∨ x = 39 := by rw [← hx]; unfold wd; split <;> simp
  go_upto_region 2 with (go_at_call 19; refine (width _ _).mono ?_; rintro e w2 ⟨rfl, hb2⟩; rw [hx])
  have hB2 := hB.trans (hb2.mono hB.size)
  have r6 := r6.below hb2 hl6
  have hl6 := r6.lt
  have r7 := Row.born w2 43 #[.int .i64 4096, .int .i64 x, .int .i64 0, .slice none 0 0]
  have r6 := r6.alloc (.cells #[.int .i64 4096, .int .i64 x, .int .i64 0, .slice none 0 0] 43)
  have hB3 := hB2.alloc hB2.size (.cells #[.int .i64 4096, .int .i64 x, .int .i64 0, .slice none 0 0] 43)
  generalize w2.alloc (.cells #[.int .i64 4096, .int .i64 x, .int .i64 0, .slice none 0 0] 43) = w3 at *
  generalize w2.heap.size = g7 at *
  clear hB hB2 hb2 hx
  obtain ⟨L, hL⟩ : ∃ L, lev x = L := ⟨_, rfl⟩
  have hxL : x = 32 ∧ L = 2 ∨ x = 39 ∧ L = 3 := by
    rcases hx2 with rfl | rfl
    · exact .inl ⟨rfl, hL.symm⟩
    · exact .inr ⟨rfl, hL.symm⟩
  have HLV := Lib.hid hL
  clear hx2 hL
  have t1 := r7.cell 1
  have t2 := r7.cell 2
  have tf := r7.frozen 2
  simp at t1 t2
  go_upto_region 3 with (first | (go_at_call 11; refine (levels _ _).mono ?_; rintro e w' ⟨rfl, rfl⟩; rw [HLV.out]) | (go_at_call 20; refine (place _ _ (by omega) (by omega) _).mono ?_; rintro e w' ⟨rfl, rfl⟩))
  have q0 : 0 ≤ level % L := Int.emod_nonneg _ (by omega)
  have q1 : level % L < L := Int.emod_lt_of_pos _ (by omega)
  generalize level % L = lv at *
  have u := Upd.setCell w3 g7 2 (.int .i64 lv)
  have r7 := r7.set 2 (.int .i64 lv)
  have r6 := r6.upd u (by omega)
  have hB4 := Upd.below hB3 u (by omega)
  generalize w3.setCell ⟨g7, 2, none⟩ (.int .i64 lv) = w4 at *
  have TA : TabAt w4 g7 x lv 0 none 0 0 [] := ⟨by simpa using r7, IsMs.empty _, .inl ⟨rfl, rfl, rfl, rfl⟩, Nat.le_refl _, Nat.le_refl _, rfl⟩
  clear t1 t2 tf u r7 hB3
  go_wp2
  go_loopw [8] (fun i wr => ∃ (k : Nat) (A' : Option Addr) (n' c' : Nat) (ms : List Mp), k ≤ 40 ∧ i = .int .i64 k ∧ TabAt wr g7 x lv k A' n' c' ms ∧ Row wr W.heap.size 43 #[.int .i64 0, .int .i64 0, .int .i64 0, .slice none 0 0] ∧ Below W.heap.size W wr) (fun i _ => 40 - (intOf i).toNat)
  case atStart => exact ⟨0, none, 0, 0, [], by omega, rfl, TA, r6, hB4⟩
  case round =>
    clear TA r6 hB4
    obtain ⟨k, A', n', c', ms, hk, rfl, TA, r6, hB⟩ := hrel
    rcases Nat.lt_or_ge k 40 with hk4 | hk4
    · rcases Nat.lt_or_ge k n with hkn | hkn
      · have hd1 : decide (k < n) = true := by simp; omega
        have hd2 : decide ((k : Int) < 40) = true := by simp; omega
        go_upto_region 6 with (fail)
        obtain ⟨bb, oo, z, rfl, cz0⟩ := hI k hkn
        have cz := (hB.cell (p := ⟨bb, oo + k, none⟩) (block_lt_of_cell cz0)).trans cz0
        have hlz := block_lt_of_cell cz
        clear cz0 hd1 hd2
        refine wp_region_tailN (n := 70) 20 (fun w' => Below wr.heap.size wr w') (fun x y => Below x.heap.size x y) (by kernel_rfl) (by kernel_rfl) (by decide) (by rfl) (Below.refl _ _).drew ?_
        simp only [List.take_succ_cons, List.take_zero, List.drop_succ_cons, List.drop_zero]
        repeat (refine tail_pure (fun w => Below.refl _ w) (v := ?_) (fun _ => rfl) ?_ ?_; rotate_left; (focus (intro us w8 hS8 hF; clear hF; have z0 := (hS8.cell (p := ⟨bb, oo + k, none⟩) hlz).trans cz; clear hS8; go_simp; (try with_reducible rfl); done)); simp only [Act.put, List.setIfInBounds_toArray, List.set_cons_zero, List.set_cons_succ, Nat.reduceAdd])
        refine tail_fix (v := .int .i64 (z % 512)) ?_ ?_; (focus (intro us w8 hS8 hF K hK; clear hF; go_simp; refine (place _ _ (by omega) (by omega) w8).mono ?_; rintro e w' ⟨rfl, rfl⟩; exact hK _ hS8 (Below.refl _ _))); simp only [Act.put, List.setIfInBounds_toArray, List.set_cons_zero, List.set_cons_succ, Nat.reduceAdd]
        repeat (refine tail_pure (fun w => Below.refl _ w) (v := ?_) (fun _ => rfl) ?_ ?_; rotate_left; (focus (intro us w8 hS8 hF; clear hF; have z0 := (hS8.cell (p := ⟨bb, oo + k, none⟩) hlz).trans cz; clear hS8; go_simp; (try with_reducible rfl); done)); simp only [Act.put, List.setIfInBounds_toArray, List.set_cons_zero, List.set_cons_succ, Nat.reduceAdd])
        generalize IntKind.i64.wrap (z.tdiv 512) = y
        refine tail_fix (v := .int .i64 (y % 268435456)) ?_ ?_; (focus (intro us w8 hS8 hF K hK; clear hF; go_simp; refine (place _ _ (by omega) (by omega) w8).mono ?_; rintro e w' ⟨rfl, rfl⟩; exact hK _ hS8 (Below.refl _ _))); simp only [Act.put, List.setIfInBounds_toArray, List.set_cons_zero, List.set_cons_succ, Nat.reduceAdd]
        have y0 : 0 ≤ y % 268435456 := by omega
        have y1 : y % 268435456 < 268435456 := by omega
        generalize y % 268435456 = yy at *
        have hmul : IntKind.i64.wrap (yy * 4096) = yy * 4096 := IntWalk.i64_in _ (by omega)
        repeat (refine tail_pure (fun w => Below.refl _ w) (v := ?_) (fun _ => rfl) ?_ ?_; rotate_left; (focus (intro us w8 hS8 hF; clear hF; have z0 := (hS8.cell (p := ⟨bb, oo + k, none⟩) hlz).trans cz; clear hS8; go_simp; (try with_reducible rfl); done)); simp only [Act.put, List.setIfInBounds_toArray, List.set_cons_zero, List.set_cons_succ, Nat.reduceAdd])
        refine tail_fix (v := .agg #[.int .i64 (z % 4), .int .i64 (1 + (k : Int) % 12), .int .i64 (0 % 3)]) ?_ ?_; (focus (intro us w8 hS8 hF K hK; clear hF; go_simp; refine (make_id _ _ _ w8).mono ?_; rintro e w' ⟨rfl, hb⟩; exact hK _ (hS8.trans (hb.mono hS8.size)) hb)); simp only [Act.put, List.setIfInBounds_toArray, List.set_cons_zero, List.set_cons_succ, Nat.reduceAdd]
        repeat (refine tail_pure (fun w => Below.refl _ w) (v := ?_) (fun _ => rfl) ?_ ?_; rotate_left; (focus (intro us w8 hS8 hF; clear hF; have z0 := (hS8.cell (p := ⟨bb, oo + k, none⟩) hlz).trans cz; clear hS8; go_simp; (try with_reducible rfl); done)); simp only [Act.put, List.setIfInBounds_toArray, List.set_cons_zero, List.set_cons_succ, Nat.reduceAdd])
        refine tail_free (fun u w' => ∃ q, u = .pointer (some ⟨q, 0, none⟩) ∧ wr.heap.size ≤ q ∧ Row w' q 60 #[.int .i64 0, .int .i64 0, .int .i64 0, .int .i64 0, .int .i64 0, .int .i64 0]) (fun u x y hg ⟨q, e, h0, h⟩ => ⟨q, e, h0, h.below hg h.lt⟩) ?_ ?_; (focus (intro us w8 hS8 hF K hK; clear hF; go_simp; exact hK _ _ (hS8.alloc hS8.size _) ((Below.refl _ _).alloc (Nat.le_refl _) _) ⟨w8.heap.size, rfl, hS8.size, Row.born _ _ _⟩)); simp only [Act.put, List.setIfInBounds_toArray, List.set_cons_zero, List.set_cons_succ, Nat.reduceAdd]
        refine tail_done fun us w10 hS10 hF => ?_
        obtain ⟨q, hu, hq, hr9⟩ := hF _ (List.mem_cons_self ..)
        dsimp only at hu
        clear hF
        simp only [hu]
        refine wp_row_store (L := #[.int .i64 (z % 512), .int .i64 (yy * 4096), .int .i64 0, .int .i64 (z % 4), .int .i64 (1 + (k : Int) % 12), .int .i64 (0 % 3)]) hr9 rfl info60 (by simp [Value.oneCell']) rfl rfl ?_
        intro w11 u11 r9
        have hB11 := Upd.below hS10 u11 hq
        have hg7 := TA.row.lt
        have hgW := hB.size
        have row7 := TA.row.below hB11 hg7
        have maps := TA.maps.below hB11
        have r611 := r6.below hB11 r6.lt
        have hBW := hB.trans (hB11.mono hB.size)
        have cz11 := (hB11.cell (p := ⟨bb, oo + k, none⟩) hlz).trans cz
        generalize hgr : wr.heap.size = gr at *
        have HGR := Lib.hid hgr
        clear hgr
        clear hS10 u11 hr9 hmul hu cz r6 hB hlz
        have s2 := row7.cell 2
        simp at s2
        have v0 : 0 ≤ z % 512 := by omega
        have v1 : z % 512 < 512 := by omega
        generalize z % 512 = jx at *
        obtain ⟨hv0, hv1⟩ : 0 ≤ z % 4 ∧ z % 4 < 4 := by omega
        generalize z % 4 = jc at *
        obtain ⟨hk0, hk1⟩ : 0 ≤ (k : Int) % 12 ∧ (k : Int) % 12 < 12 := by omega
        generalize (k : Int) % 12 = jo at *
        rcases (by omega : lv = 0 ∨ 0 < lv) with rfl | hlv
        · have ef := r9.frozen
          have e2 := r9.cell 2
          simp at e2
          go_upto_region 9 with (go_at_call 20; refine (place _ _ (by omega) (by omega) _).mono ?_; rintro e w' ⟨rfl, rfl⟩)
          generalize wrap64 (z.tdiv 3) = y3
          have hr0 : 0 ≤ y3 % 4 := by omega
          have hr1 : y3 % 4 ≤ 3 := by omega
          generalize y3 % 4 = r3 at *
          have u15 := Upd.setCell w11 q 2 (.int .i64 r3)
          have r9 := r9.set 2 (.int .i64 r3)
          have hB15 := Upd.below hB11 u15 hq
          have maps := TA.maps.below (by rw [HGR.out]; exact hB15)
          have row7 := row7.upd u15 (by omega)
          have r611 := r611.upd u15 (by omega)
          have hBW := Upd.below hBW u15 (by omega)
          generalize w11.setCell ⟨q, 2, none⟩ (.int .i64 r3) = w15 at *
          clear e2 ef s2 cz11 u15 hB15 hB11
          have e0 := r9.cell 0
          have e1 := r9.cell 1
          have e2 := r9.cell 2
          have e3 := r9.cell 3
          have e4 := r9.cell 4
          have e5 := r9.cell 5
          have s0 := row7.cell 0
          have s1 := row7.cell 1
          have s2' := row7.cell 2
          have s3 := row7.cell 3
          have sf := row7.frozen
          simp at e0 e1 e2 e3 e4 e5 s0 s1 s2' s3
          go_upto_region 5 with (go_at_call 43; refine (with_any _ _ _ A' n' c' ms jx (yy * 4096) r3 jc (1 + jo) 0 w15 TA.nil maps (by have := TA.nm; omega) TA.nc).mono ?_; rintro e w12 ⟨A2, c2, rfl, hM2, hc2, hb12⟩; have row12 := row7.below hb12 row7.lt; have w0' := row12.cell 0; have w1' := row12.cell 1; have w2' := row12.cell 2; have w3' := row12.cell 3; have wf := row12.frozen; simp at w0' w1' w2' w3')
          have hvm := vM_made (lv := 0) v0 v1 y0 y1 hv0 hv1 hk0 hk1 hr0 hr1 (.inl rfl)
          have hins := vMs_insert 0 512 _ ms (-1) TA.ok (show (-1 : Int) < jx by omega) hvm
          obtain ⟨hw0, hw1⟩ := withM_len ms ⟨jx, yy * 4096, r3, jc, 1 + jo, 0⟩
          have hmn := TA.maps.1
          have hnm := TA.nm
          generalize withM ms ⟨jx, yy * 4096, r3, jc, 1 + jo, 0⟩ = mm at *
          have nrow := (((row12.set 0 (.int .i64 4096)).set 1 (.int .i64 x)).set 2 (.int .i64 0)).set 3 (.slice A2 mm.length c2)
          have u := (((Upd.setCell w12 g7 0 (.int .i64 4096)).trans (Upd.setCell _ g7 1 (.int .i64 x))).trans (Upd.setCell _ g7 2 (.int .i64 0))).trans (Upd.setCell _ g7 3 (.slice A2 mm.length c2))
          generalize (((w12.setCell ⟨g7, 0, none⟩ (.int .i64 4096)).setCell ⟨g7, 1, none⟩ (.int .i64 x)).setCell ⟨g7, 2, none⟩ (.int .i64 0)).setCell ⟨g7, 3, none⟩ (.slice A2 mm.length c2) = w13 at *
          have TA2 : TabAt w13 g7 x 0 (k + 1) A2 mm.length c2 mm := ⟨by simpa using nrow, hM2.apart row12 (by simp) u, .inr hw0, by omega, hc2, hins⟩
          have r613 := (r611.below hb12 r611.lt).upd u (by omega)
          have hB13 := Upd.below (hBW.trans (hb12.mono hBW.size)) u (by omega)
          clear e0 e1 e2 e3 e4 e5 s0 s1 s2' s3 sf w0' w1' w2' w3' wf nrow u hM2 row12 hb12 hvm hins
          go_wp2
          exact ⟨⟨k + 1, A2, mm.length, c2, mm, by omega, by go_num, TA2, r613, hB13⟩, by simp [intOf]; omega⟩
        · have hd3 : (lv == 0) = false := by simp; omega
          have e0 := r9.cell 0
          have e1 := r9.cell 1
          have e2 := r9.cell 2
          have e3 := r9.cell 3
          have e4 := r9.cell 4
          have e5 := r9.cell 5
          have s0 := row7.cell 0
          have s1 := row7.cell 1
          have s2' := row7.cell 2
          have s3 := row7.cell 3
          have sf := row7.frozen
          simp at e0 e1 e2 e3 e4 e5 s0 s1 s2' s3
          go_upto_region 5 with (go_at_call 43; refine (with_any _ _ _ A' n' c' ms jx (yy * 4096) 0 jc (1 + jo) 0 w11 TA.nil maps (by have := TA.nm; omega) TA.nc).mono ?_; rintro e w12 ⟨A2, c2, rfl, hM2, hc2, hb12⟩; have row12 := row7.below hb12 row7.lt; have w0' := row12.cell 0; have w1' := row12.cell 1; have w2' := row12.cell 2; have w3' := row12.cell 3; have wf := row12.frozen; simp at w0' w1' w2' w3')
          have hvm := vM_made (lv := lv) v0 v1 y0 y1 hv0 hv1 hk0 hk1 (Int.le_refl 0) (by omega) (.inr rfl)
          have hins := vMs_insert lv 512 _ ms (-1) TA.ok (show (-1 : Int) < jx by omega) hvm
          obtain ⟨hw0, hw1⟩ := withM_len ms ⟨jx, yy * 4096, 0, jc, 1 + jo, 0⟩
          have hmn := TA.maps.1
          have hnm := TA.nm
          generalize withM ms ⟨jx, yy * 4096, 0, jc, 1 + jo, 0⟩ = mm at *
          have nrow := (((row12.set 0 (.int .i64 4096)).set 1 (.int .i64 x)).set 2 (.int .i64 lv)).set 3 (.slice A2 mm.length c2)
          have u := (((Upd.setCell w12 g7 0 (.int .i64 4096)).trans (Upd.setCell _ g7 1 (.int .i64 x))).trans (Upd.setCell _ g7 2 (.int .i64 lv))).trans (Upd.setCell _ g7 3 (.slice A2 mm.length c2))
          generalize (((w12.setCell ⟨g7, 0, none⟩ (.int .i64 4096)).setCell ⟨g7, 1, none⟩ (.int .i64 x)).setCell ⟨g7, 2, none⟩ (.int .i64 lv)).setCell ⟨g7, 3, none⟩ (.slice A2 mm.length c2) = w13 at *
          have TA2 : TabAt w13 g7 x lv (k + 1) A2 mm.length c2 mm := ⟨by simpa using nrow, hM2.apart row12 (by simp) u, .inr hw0, by omega, hc2, hins⟩
          have r613 := (r611.below hb12 r611.lt).upd u (by omega)
          have hB13 := Upd.below (hBW.trans (hb12.mono hBW.size)) u (by omega)
          clear e0 e1 e2 e3 e4 e5 s0 s1 s2 s2' s3 sf w0' w1' w2' w3' wf nrow u hM2 row12 hb12 hvm hins
          go_wp2
          exact ⟨⟨k + 1, A2, mm.length, c2, mm, by omega, by go_num, TA2, r613, hB13⟩, by simp [intOf]; omega⟩
      · have hd1 : decide (k < n) = false := by simp; omega
        go_upto_region 10 with (fail)
        have s0 := TA.row.cell 0
        have s1 := TA.row.cell 1
        have s2 := TA.row.cell 2
        have s3 := TA.row.cell 3
        have sf := TA.row.frozen
        simp at s0 s1 s2 s3
        rcases TA.nil with ⟨rfl, rfl, rfl, rfl⟩ | hn0
        · go_upto_region 12 with (go_at_call 43; refine (with_five x lv _).mono ?_; rintro e w12 ⟨A2, c2, rfl, hM2, hc2, hb12⟩; have row12 := TA.row.below hb12 TA.row.lt; have w0' := row12.cell 0; have w1' := row12.cell 1; have w2' := row12.cell 2; have w3' := row12.cell 3; have wf := row12.frozen; simp at w0' w1' w2' w3')
          have hM2 : IsMs w12 A2 1 [⟨5, 8192, 0, 0, 1, 0⟩] := hM2
          have nrow := (((row12.set 0 (.int .i64 4096)).set 1 (.int .i64 x)).set 2 (.int .i64 lv)).set 3 (.slice A2 1 c2)
          have u := (((Upd.setCell w12 g7 0 (.int .i64 4096)).trans (Upd.setCell _ g7 1 (.int .i64 x))).trans (Upd.setCell _ g7 2 (.int .i64 lv))).trans (Upd.setCell _ g7 3 (.slice A2 1 c2))
          have hvm := vM_made (lv := lv) (jx := 5) (yy := 2) (rt := 0) (jc := 0) (jo := 0) (by omega) (by omega) (by omega) (by omega) (by omega) (by omega) (by omega) (by omega) (by omega) (by omega) (.inr rfl)
          have hok : vMs lv 512 (-1) [⟨5, 8192, 0, 0, 1, 0⟩] = true := by show (vM lv 512 (-1) ⟨5, 2 * 4096, 0, 0, 1 + 0, 0⟩ && true) = true; rw [hvm]; rfl
          have r6 := (r6.below hb12 r6.lt).upd u (by omega)
          have hB := Upd.below (hB.trans (hb12.mono hB.size)) u (by omega)
          generalize (((w12.setCell ⟨g7, 0, none⟩ (.int .i64 4096)).setCell ⟨g7, 1, none⟩ (.int .i64 x)).setCell ⟨g7, 2, none⟩ (.int .i64 lv)).setCell ⟨g7, 3, none⟩ (.slice A2 1 c2) = w13 at *
          have TA2 : TabAt w13 g7 x lv 40 A2 1 c2 [⟨5, 8192, 0, 0, 1, 0⟩] := ⟨by simpa using nrow, hM2.apart row12 (by simp) u, .inr (by omega), by omega, hc2, hok⟩
          obtain ⟨mm, hmm⟩ : ∃ mm : List Mp, mm = [⟨5, 8192, 0, 0, 1, 0⟩] := ⟨_, rfl⟩
          rw [← hmm] at TA2
          clear hmm
          clear s0 s1 s2 s3 sf w0' w1' w2' w3' wf nrow u hM2 row12 hb12 hvm hok
          have e0 := r6.cell 0
          have e1 := r6.cell 1
          have e2 := r6.cell 2
          have e3 := r6.cell 3
          have ef := r6.frozen
          have s0 := TA2.row.cell 0
          have s1 := TA2.row.cell 1
          have s2 := TA2.row.cell 2
          have s3 := TA2.row.cell 3
          simp at e0 e1 e2 e3 s0 s1 s2 s3
          go_wp2
          have z := (((r6.set 0 (.int .i64 4096)).set 1 (.int .i64 x)).set 2 (.int .i64 lv)).set 3 (.slice A2 1 c2)
          have u := (((Upd.setCell w13 W.heap.size 0 (.int .i64 4096)).trans (Upd.setCell _ W.heap.size 1 (.int .i64 x))).trans (Upd.setCell _ W.heap.size 2 (.int .i64 lv))).trans (Upd.setCell _ W.heap.size 3 (.slice A2 1 c2))
          generalize (((w13.setCell ⟨W.heap.size, 0, none⟩ (.int .i64 4096)).setCell ⟨W.heap.size, 1, none⟩ (.int .i64 x)).setCell ⟨W.heap.size, 2, none⟩ (.int .i64 lv)).setCell ⟨W.heap.size, 3, none⟩ (.slice A2 1 c2) = w14 at *
          clear e0 e1 e2 e3
          have d0 := z.cell 0
          have d1 := z.cell 1
          have d2 := z.cell 2
          have d3 := z.cell 3
          simp at d0 d1 d2 d3
          have hlen := TA2.maps.1
          have hnm := TA2.nm
          exact bodyPost_ret (v := .agg #[.int .i64 4096, .int .i64 x, .int .i64 lv, .slice A2 1 c2]) (by simp [results, Try.results32, go_sem, d0, d1, d2, d3]) rfl ⟨x, lv, A2, 1, c2, mm, rfl, TA2.maps.apart r6 (by simp) u, by omega, TA2.nc, by omega, vT_made hxL q0 q1 (by omega) TA2.ok, Upd.below hB u (Nat.le_refl _)⟩
        · go_upto_region 12 with (fail)
          clear s0 s1 s2 s3 sf
          have e0 := r6.cell 0
          have e1 := r6.cell 1
          have e2 := r6.cell 2
          have e3 := r6.cell 3
          have ef := r6.frozen
          have s0 := TA.row.cell 0
          have s1 := TA.row.cell 1
          have s2 := TA.row.cell 2
          have s3 := TA.row.cell 3
          simp at e0 e1 e2 e3 s0 s1 s2 s3
          go_wp2
          have z := (((r6.set 0 (.int .i64 4096)).set 1 (.int .i64 x)).set 2 (.int .i64 lv)).set 3 (.slice A' n' c')
          have u := (((Upd.setCell wr W.heap.size 0 (.int .i64 4096)).trans (Upd.setCell _ W.heap.size 1 (.int .i64 x))).trans (Upd.setCell _ W.heap.size 2 (.int .i64 lv))).trans (Upd.setCell _ W.heap.size 3 (.slice A' n' c'))
          generalize (((wr.setCell ⟨W.heap.size, 0, none⟩ (.int .i64 4096)).setCell ⟨W.heap.size, 1, none⟩ (.int .i64 x)).setCell ⟨W.heap.size, 2, none⟩ (.int .i64 lv)).setCell ⟨W.heap.size, 3, none⟩ (.slice A' n' c') = w14 at *
          clear e0 e1 e2 e3
          have d0 := z.cell 0
          have d1 := z.cell 1
          have d2 := z.cell 2
          have d3 := z.cell 3
          simp at d0 d1 d2 d3
          have hlen := TA.maps.1
          have hnm := TA.nm
          exact bodyPost_ret (v := .agg #[.int .i64 4096, .int .i64 x, .int .i64 lv, .slice A' n' c']) (by simp [results, Try.results32, go_sem, d0, d1, d2, d3]) rfl ⟨x, lv, A', n', c', ms, rfl, TA.maps.apart r6 (by simp) u, by omega, TA.nc, by omega, vT_made hxL q0 q1 (by omega) TA.ok, Upd.below hB u (Nat.le_refl _)⟩
    · have hd2 : decide ((k : Int) < 40) = false := by simp; omega
      rcases Nat.lt_or_ge k n with hkn | hkn
      · have hd1 : decide (k < n) = true := by simp; omega
        go_upto_region 10 with (fail)
        have s0 := TA.row.cell 0
        have s1 := TA.row.cell 1
        have s2 := TA.row.cell 2
        have s3 := TA.row.cell 3
        have sf := TA.row.frozen
        simp at s0 s1 s2 s3
        rcases TA.nil with ⟨rfl, rfl, rfl, rfl⟩ | hn0
        · go_upto_region 12 with (go_at_call 43; refine (with_five x lv _).mono ?_; rintro e w12 ⟨A2, c2, rfl, hM2, hc2, hb12⟩; have row12 := TA.row.below hb12 TA.row.lt; have w0' := row12.cell 0; have w1' := row12.cell 1; have w2' := row12.cell 2; have w3' := row12.cell 3; have wf := row12.frozen; simp at w0' w1' w2' w3')
          have hM2 : IsMs w12 A2 1 [⟨5, 8192, 0, 0, 1, 0⟩] := hM2
          have nrow := (((row12.set 0 (.int .i64 4096)).set 1 (.int .i64 x)).set 2 (.int .i64 lv)).set 3 (.slice A2 1 c2)
          have u := (((Upd.setCell w12 g7 0 (.int .i64 4096)).trans (Upd.setCell _ g7 1 (.int .i64 x))).trans (Upd.setCell _ g7 2 (.int .i64 lv))).trans (Upd.setCell _ g7 3 (.slice A2 1 c2))
          have hvm := vM_made (lv := lv) (jx := 5) (yy := 2) (rt := 0) (jc := 0) (jo := 0) (by omega) (by omega) (by omega) (by omega) (by omega) (by omega) (by omega) (by omega) (by omega) (by omega) (.inr rfl)
          have hok : vMs lv 512 (-1) [⟨5, 8192, 0, 0, 1, 0⟩] = true := by show (vM lv 512 (-1) ⟨5, 2 * 4096, 0, 0, 1 + 0, 0⟩ && true) = true; rw [hvm]; rfl
          have r6 := (r6.below hb12 r6.lt).upd u (by omega)
          have hB := Upd.below (hB.trans (hb12.mono hB.size)) u (by omega)
          generalize (((w12.setCell ⟨g7, 0, none⟩ (.int .i64 4096)).setCell ⟨g7, 1, none⟩ (.int .i64 x)).setCell ⟨g7, 2, none⟩ (.int .i64 lv)).setCell ⟨g7, 3, none⟩ (.slice A2 1 c2) = w13 at *
          have TA2 : TabAt w13 g7 x lv 40 A2 1 c2 [⟨5, 8192, 0, 0, 1, 0⟩] := ⟨by simpa using nrow, hM2.apart row12 (by simp) u, .inr (by omega), by omega, hc2, hok⟩
          obtain ⟨mm, hmm⟩ : ∃ mm : List Mp, mm = [⟨5, 8192, 0, 0, 1, 0⟩] := ⟨_, rfl⟩
          rw [← hmm] at TA2
          clear hmm
          clear s0 s1 s2 s3 sf w0' w1' w2' w3' wf nrow u hM2 row12 hb12 hvm hok
          have e0 := r6.cell 0
          have e1 := r6.cell 1
          have e2 := r6.cell 2
          have e3 := r6.cell 3
          have ef := r6.frozen
          have s0 := TA2.row.cell 0
          have s1 := TA2.row.cell 1
          have s2 := TA2.row.cell 2
          have s3 := TA2.row.cell 3
          simp at e0 e1 e2 e3 s0 s1 s2 s3
          go_wp2
          have z := (((r6.set 0 (.int .i64 4096)).set 1 (.int .i64 x)).set 2 (.int .i64 lv)).set 3 (.slice A2 1 c2)
          have u := (((Upd.setCell w13 W.heap.size 0 (.int .i64 4096)).trans (Upd.setCell _ W.heap.size 1 (.int .i64 x))).trans (Upd.setCell _ W.heap.size 2 (.int .i64 lv))).trans (Upd.setCell _ W.heap.size 3 (.slice A2 1 c2))
          generalize (((w13.setCell ⟨W.heap.size, 0, none⟩ (.int .i64 4096)).setCell ⟨W.heap.size, 1, none⟩ (.int .i64 x)).setCell ⟨W.heap.size, 2, none⟩ (.int .i64 lv)).setCell ⟨W.heap.size, 3, none⟩ (.slice A2 1 c2) = w14 at *
          clear e0 e1 e2 e3
          have d0 := z.cell 0
          have d1 := z.cell 1
          have d2 := z.cell 2
          have d3 := z.cell 3
          simp at d0 d1 d2 d3
          have hlen := TA2.maps.1
          have hnm := TA2.nm
          exact bodyPost_ret (v := .agg #[.int .i64 4096, .int .i64 x, .int .i64 lv, .slice A2 1 c2]) (by simp [results, Try.results32, go_sem, d0, d1, d2, d3]) rfl ⟨x, lv, A2, 1, c2, mm, rfl, TA2.maps.apart r6 (by simp) u, by omega, TA2.nc, by omega, vT_made hxL q0 q1 (by omega) TA2.ok, Upd.below hB u (Nat.le_refl _)⟩
        · go_upto_region 12 with (fail)
          clear s0 s1 s2 s3 sf
          have e0 := r6.cell 0
          have e1 := r6.cell 1
          have e2 := r6.cell 2
          have e3 := r6.cell 3
          have ef := r6.frozen
          have s0 := TA.row.cell 0
          have s1 := TA.row.cell 1
          have s2 := TA.row.cell 2
          have s3 := TA.row.cell 3
          simp at e0 e1 e2 e3 s0 s1 s2 s3
          go_wp2
          have z := (((r6.set 0 (.int .i64 4096)).set 1 (.int .i64 x)).set 2 (.int .i64 lv)).set 3 (.slice A' n' c')
          have u := (((Upd.setCell wr W.heap.size 0 (.int .i64 4096)).trans (Upd.setCell _ W.heap.size 1 (.int .i64 x))).trans (Upd.setCell _ W.heap.size 2 (.int .i64 lv))).trans (Upd.setCell _ W.heap.size 3 (.slice A' n' c'))
          generalize (((wr.setCell ⟨W.heap.size, 0, none⟩ (.int .i64 4096)).setCell ⟨W.heap.size, 1, none⟩ (.int .i64 x)).setCell ⟨W.heap.size, 2, none⟩ (.int .i64 lv)).setCell ⟨W.heap.size, 3, none⟩ (.slice A' n' c') = w14 at *
          clear e0 e1 e2 e3
          have d0 := z.cell 0
          have d1 := z.cell 1
          have d2 := z.cell 2
          have d3 := z.cell 3
          simp at d0 d1 d2 d3
          have hlen := TA.maps.1
          have hnm := TA.nm
          exact bodyPost_ret (v := .agg #[.int .i64 4096, .int .i64 x, .int .i64 lv, .slice A' n' c']) (by simp [results, Try.results32, go_sem, d0, d1, d2, d3]) rfl ⟨x, lv, A', n', c', ms, rfl, TA.maps.apart r6 (by simp) u, by omega, TA.nc, by omega, vT_made hxL q0 q1 (by omega) TA.ok, Upd.below hB u (Nat.le_refl _)⟩
      · have hd1 : decide (k < n) = false := by simp; omega
        go_upto_region 10 with (fail)
        have s0 := TA.row.cell 0
        have s1 := TA.row.cell 1
        have s2 := TA.row.cell 2
        have s3 := TA.row.cell 3
        have sf := TA.row.frozen
        simp at s0 s1 s2 s3
        rcases TA.nil with ⟨rfl, rfl, rfl, rfl⟩ | hn0
        · go_upto_region 12 with (go_at_call 43; refine (with_five x lv _).mono ?_; rintro e w12 ⟨A2, c2, rfl, hM2, hc2, hb12⟩; have row12 := TA.row.below hb12 TA.row.lt; have w0' := row12.cell 0; have w1' := row12.cell 1; have w2' := row12.cell 2; have w3' := row12.cell 3; have wf := row12.frozen; simp at w0' w1' w2' w3')
          have hM2 : IsMs w12 A2 1 [⟨5, 8192, 0, 0, 1, 0⟩] := hM2
          have nrow := (((row12.set 0 (.int .i64 4096)).set 1 (.int .i64 x)).set 2 (.int .i64 lv)).set 3 (.slice A2 1 c2)
          have u := (((Upd.setCell w12 g7 0 (.int .i64 4096)).trans (Upd.setCell _ g7 1 (.int .i64 x))).trans (Upd.setCell _ g7 2 (.int .i64 lv))).trans (Upd.setCell _ g7 3 (.slice A2 1 c2))
          have hvm := vM_made (lv := lv) (jx := 5) (yy := 2) (rt := 0) (jc := 0) (jo := 0) (by omega) (by omega) (by omega) (by omega) (by omega) (by omega) (by omega) (by omega) (by omega) (by omega) (.inr rfl)
          have hok : vMs lv 512 (-1) [⟨5, 8192, 0, 0, 1, 0⟩] = true := by show (vM lv 512 (-1) ⟨5, 2 * 4096, 0, 0, 1 + 0, 0⟩ && true) = true; rw [hvm]; rfl
          have r6 := (r6.below hb12 r6.lt).upd u (by omega)
          have hB := Upd.below (hB.trans (hb12.mono hB.size)) u (by omega)
          generalize (((w12.setCell ⟨g7, 0, none⟩ (.int .i64 4096)).setCell ⟨g7, 1, none⟩ (.int .i64 x)).setCell ⟨g7, 2, none⟩ (.int .i64 lv)).setCell ⟨g7, 3, none⟩ (.slice A2 1 c2) = w13 at *
          have TA2 : TabAt w13 g7 x lv 40 A2 1 c2 [⟨5, 8192, 0, 0, 1, 0⟩] := ⟨by simpa using nrow, hM2.apart row12 (by simp) u, .inr (by omega), by omega, hc2, hok⟩
          obtain ⟨mm, hmm⟩ : ∃ mm : List Mp, mm = [⟨5, 8192, 0, 0, 1, 0⟩] := ⟨_, rfl⟩
          rw [← hmm] at TA2
          clear hmm
          clear s0 s1 s2 s3 sf w0' w1' w2' w3' wf nrow u hM2 row12 hb12 hvm hok
          have e0 := r6.cell 0
          have e1 := r6.cell 1
          have e2 := r6.cell 2
          have e3 := r6.cell 3
          have ef := r6.frozen
          have s0 := TA2.row.cell 0
          have s1 := TA2.row.cell 1
          have s2 := TA2.row.cell 2
          have s3 := TA2.row.cell 3
          simp at e0 e1 e2 e3 s0 s1 s2 s3
          go_wp2
          have z := (((r6.set 0 (.int .i64 4096)).set 1 (.int .i64 x)).set 2 (.int .i64 lv)).set 3 (.slice A2 1 c2)
          have u := (((Upd.setCell w13 W.heap.size 0 (.int .i64 4096)).trans (Upd.setCell _ W.heap.size 1 (.int .i64 x))).trans (Upd.setCell _ W.heap.size 2 (.int .i64 lv))).trans (Upd.setCell _ W.heap.size 3 (.slice A2 1 c2))
          generalize (((w13.setCell ⟨W.heap.size, 0, none⟩ (.int .i64 4096)).setCell ⟨W.heap.size, 1, none⟩ (.int .i64 x)).setCell ⟨W.heap.size, 2, none⟩ (.int .i64 lv)).setCell ⟨W.heap.size, 3, none⟩ (.slice A2 1 c2) = w14 at *
          clear e0 e1 e2 e3
          have d0 := z.cell 0
          have d1 := z.cell 1
          have d2 := z.cell 2
          have d3 := z.cell 3
          simp at d0 d1 d2 d3
          have hlen := TA2.maps.1
          have hnm := TA2.nm
          exact bodyPost_ret (v := .agg #[.int .i64 4096, .int .i64 x, .int .i64 lv, .slice A2 1 c2]) (by simp [results, Try.results32, go_sem, d0, d1, d2, d3]) rfl ⟨x, lv, A2, 1, c2, mm, rfl, TA2.maps.apart r6 (by simp) u, by omega, TA2.nc, by omega, vT_made hxL q0 q1 (by omega) TA2.ok, Upd.below hB u (Nat.le_refl _)⟩
        · go_upto_region 12 with (fail)
          clear s0 s1 s2 s3 sf
          have e0 := r6.cell 0
          have e1 := r6.cell 1
          have e2 := r6.cell 2
          have e3 := r6.cell 3
          have ef := r6.frozen
          have s0 := TA.row.cell 0
          have s1 := TA.row.cell 1
          have s2 := TA.row.cell 2
          have s3 := TA.row.cell 3
          simp at e0 e1 e2 e3 s0 s1 s2 s3
          go_wp2
          have z := (((r6.set 0 (.int .i64 4096)).set 1 (.int .i64 x)).set 2 (.int .i64 lv)).set 3 (.slice A' n' c')
          have u := (((Upd.setCell wr W.heap.size 0 (.int .i64 4096)).trans (Upd.setCell _ W.heap.size 1 (.int .i64 x))).trans (Upd.setCell _ W.heap.size 2 (.int .i64 lv))).trans (Upd.setCell _ W.heap.size 3 (.slice A' n' c'))
          generalize (((wr.setCell ⟨W.heap.size, 0, none⟩ (.int .i64 4096)).setCell ⟨W.heap.size, 1, none⟩ (.int .i64 x)).setCell ⟨W.heap.size, 2, none⟩ (.int .i64 lv)).setCell ⟨W.heap.size, 3, none⟩ (.slice A' n' c') = w14 at *
          clear e0 e1 e2 e3
          have d0 := z.cell 0
          have d1 := z.cell 1
          have d2 := z.cell 2
          have d3 := z.cell 3
          simp at d0 d1 d2 d3
          have hlen := TA.maps.1
          have hnm := TA.nm
          exact bodyPost_ret (v := .agg #[.int .i64 4096, .int .i64 x, .int .i64 lv, .slice A' n' c']) (by simp [results, Try.results32, go_sem, d0, d1, d2, d3]) rfl ⟨x, lv, A', n', c', ms, rfl, TA.maps.apart r6 (by simp) u, by omega, TA.nc, by omega, vT_made hxL q0 q1 (by omega) TA.ok, Upd.below hB u (Nat.le_refl _)⟩
end Go.Proofs.Ytonloimepfojdaa
