/- urpc's reference: the small functions. -/
import Derived.Test.YthjkhambmgepdaaVu
import Derived.Test.YthjkhambmgepdaaUi
import Derived.Test.YthjkhambmgepdaaR1
namespace Go.Proofs.Ythjkhambmgepdaa
open Go.RowKit
set_option linter.unusedVariables false
set_option linter.unusedSimpArgs false
theorem IsN.of_sameV {w w' : World} {A : Option Addr} {n : Nat} {bs : List Int} (h : IsN w A n bs) (hb : ∀ b o, A = some ⟨b, o, none⟩ → 0 < n → w'.heap[b]? = w.heap[b]?) : IsN w' A n bs := by
  refine ⟨h.1, fun hn => ?_⟩
  obtain ⟨b, o, e, hc⟩ := h.2 hn
  exact ⟨b, o, e, fun j hj => (World.cell?_of_block (w := w) (a := ⟨b, o + j, none⟩) (hb b o e hn)).trans (hc j hj)⟩
theorem results_c1 {P : Program} {fn : Func} {p : Tmp} {ty1 : TypeId} {d1 : TypeDesc} (h : fn.results = #[.cell p ty1]) {tmps : Array Value} {w : World} {g1 : Nat} {t1 : TypeId} {cs1 : Array Value}
    (h1 : tmps.getD p undef = .pointer (some ⟨g1, 0, none⟩)) (r1 : Row w g1 t1 cs1) (u1 : P.underlying ty1 = some d1) (k1 : d1.isRow = true) (i1 : (P.info? ty1).map (·.size) = some cs1.size) :
    (results fn tmps).run P w = .ok (.agg cs1) w := by
  have l1 := run_loadVar_mid (P := P) w g1 0 ty1 cs1.toList d1 r1.range u1 k1 (by simpa using i1)
  simp only [Array.toArray_toList] at l1
  simp only [Array.getD_eq_getD_getElem?] at h1
  simp [results, h, h1, asAddr, l1]
set_option maxRecDepth 100000 in
set_option maxHeartbeats 8000000 in
theorem ints_eq (A B : Option Addr) (n cA cB : Nat) (l : List Int) (W : World) (hA : IsN W A n l) (hB : IsN W B n l) (hn : n ≤ 1000000) : Calls Try.prog 119 #[.slice A n cA, .slice B n cB] W (True1 W) := by
  have HA := Lib.hid hA
  have HB := Lib.hid hB
  clear hA hB
  go_enter Try.func119, Try.ntmps119
  go_upto_region 4 with (fail)
  go_loopw [5] (fun i wr => ∃ j : Nat, j ≤ n ∧ i = .int .i64 j ∧ Below W.heap.size W wr) (fun i _ => n - (intOf i).toNat)
  case atStart => exact ⟨0, by omega, rfl, Below.refl _ _⟩
  case round =>
    obtain ⟨j, hj, rfl, hBl⟩ := hrel
    rcases Nat.lt_or_ge j n with hjn | hjn
    · have dj : decide (j < n) = true := decide_eq_true hjn
      have dji : decide ((j : Int) < (n : Int)) = true := decide_eq_true (by omega)
      have hji : (j : Int) < n := by omega
      have hj0 : (0 : Int) ≤ (j : Int) := by omega
      have HA2 := Lib.hid (HA.out.below hBl)
      have HB2 := Lib.hid (HB.out.below hBl)
      obtain ⟨b, o, rfl⟩ := HA.out.form (by omega)
      obtain ⟨b2, o2, rfl⟩ := HB.out.form (by omega)
      obtain ⟨x, hx, hcx⟩ := HA2.out.idx hjn
      obtain ⟨y, hy, hcy⟩ := HB2.out.idx hjn
      obtain rfl : y = x := by rw [hx] at hy; injection hy with hy; exact hy.symm
      clear hx hy
      go_upto_region 6 with (fail)
      have hcx : wr.drew.cell? ⟨b, o + j, none⟩ = some (.int .i64 y) := hcx
      have hcy : wr.drew.cell? ⟨b2, o2 + j, none⟩ = some (.int .i64 y) := hcy
      refine wp_region_told (n := 26) (fun w' => w' = wr.drew) (fun _ _ => True) (by kernel_rfl) (by kernel_rfl) (by rfl) rfl ?_
      repeat (first | (refine walk_pure (v := ?_) (fun _ => trivial) (fun _ => rfl) ?_ ?_; rotate_left; (focus (intro us w9 hS9 hF; subst hS9; clear hF; go_simp; (try with_reducible rfl); done)); simp only [Act.put, List.setIfInBounds_toArray, List.set_cons_zero, List.set_cons_succ, Nat.reduceAdd]) | (refine walk_skip (fun _ => trivial) (fun _ => rfl) ?_; simp only [Act.put, List.setIfInBounds_toArray, List.set_cons_zero, List.set_cons_succ, Nat.reduceAdd]))
      refine walk_done fun us w9 hS9 hF => ?_
      subst hS9
      clear hF
      go_wp2
      exact ⟨⟨j + 1, by omega, by go_num, hBl.drew⟩, by simp [intOf]; omega⟩
    · have dj : decide (j < n) = false := decide_eq_false (by omega)
      have dji : decide ((j : Int) < (n : Int)) = false := decide_eq_false (by omega)
      clear hjn
      go_wp2
      go_ret
      exact ⟨rfl, hBl⟩
set_option maxRecDepth 100000 in
set_option maxHeartbeats 8000000 in
theorem same_u {e e' : UE} (he : e = e') {A B A' B' : Option Addr} {c d c' d' : Nat} {W : World} (hH : HeldU W e A c B d) (hH' : HeldU W e' A' c' B' d') : Calls Try.prog 73 #[.agg (UEV e A c B d), .agg (UEV e' A' c' B' d')] W (True1 W) := by
  subst he
  have hB1 := ((Below.refl W.heap.size W).alloc (Nat.le_refl _) (.cells (UEV e A c B d) 112)).alloc (by simp) (.cells (UEV e A' c' B' d') 112)
  have r1 := (Row.born W 112 (UEV e A c B d)).alloc (.cells (UEV e A' c' B' d') 112)
  have r2 : Row ((W.alloc (.cells (UEV e A c B d) 112)).alloc (.cells (UEV e A' c' B' d') 112)) (W.heap.size + 1) 112 (UEV e A' c' B' d') := by
    have h := Row.born (W.alloc (.cells (UEV e A c B d) 112)) 112 (UEV e A' c' B' d')
    have e1 : (W.alloc (.cells (UEV e A c B d) 112)).heap.size = W.heap.size + 1 := by simp
    rwa [e1] at h
  have hH1 := hH.below hB1
  have hH2 := hH'.below hB1
  have hal := hH.al
  have hbl := hH.bl
  go_enter Try.func73, Try.ntmps73
  go_upto_region 1 with (fail)
  change Code.wp _ _ _ _ ((W.alloc (.cells (UEV e A c B d) 112)).alloc (.cells (UEV e A' c' B' d') 112))
  generalize (W.alloc (.cells (UEV e A c B d) 112)).alloc (.cells (UEV e A' c' B' d') 112) = w1 at *
  obtain ⟨⟨c0, c1, c2⟩, c3, c4, c5⟩ := uev_cells r1
  obtain ⟨⟨k0, k1, k2⟩, k3, k4, k5⟩ := uev_cells r2
  have hl1 := r1.lt
  have hl2 := r2.lt
  have HHa := Lib.hid hH1.a
  have HHb := Lib.hid hH1.b
  have HKa := Lib.hid hH2.a
  have HKb := Lib.hid hH2.b
  clear hH hH' hH1 hH2 r1 r2
  go_wp2_with (first | (go_at_call 119; (with_reducible refine (ints_eq A A' _ _ _ _ _ HHa.out HKa.out (by omega)).mono ?_); rintro en w2 ⟨rfl, hb2⟩; replace c4 := (hb2.cell (p := ⟨W.heap.size, 4, none⟩) hl1).trans c4; replace k4 := (hb2.cell (p := ⟨W.heap.size + 1, 4, none⟩) hl2).trans k4) | (go_at_call 119; (with_reducible refine (ints_eq B B' _ _ _ _ _ (HHb.out.below hb2) (HKb.out.below hb2) (by omega)).mono ?_); rintro en w3 ⟨rfl, hb3⟩))
  go_ret
  have hB2 := hB1.trans (hb2.mono hB1.size)
  exact ⟨rfl, hB2.trans (hb3.mono hB2.size)⟩
set_option maxRecDepth 100000 in
set_option maxHeartbeats 8000000 in
theorem copyU (e : UE) (A B : Option Addr) (c d : Nat) (W : World) (hH : HeldU W e A c B d) : Calls Try.prog 70 #[.agg (UEV e A c B d)] W (CloU e W) := by
  have hB1 := ((Below.refl W.heap.size W).alloc (Nat.le_refl _) (.cells (UEV e A c B d) 112)).alloc (by simp) (.cells ZU 112)
  have r1 := (Row.born W 112 (UEV e A c B d)).alloc (.cells ZU 112)
  have r2 : Row ((W.alloc (.cells (UEV e A c B d) 112)).alloc (.cells ZU 112)) (W.heap.size + 1) 112 ZU := by
    have h := Row.born (W.alloc (.cells (UEV e A c B d) 112)) 112 ZU
    have e1 : (W.alloc (.cells (UEV e A c B d) 112)).heap.size = W.heap.size + 1 := by simp
    rwa [e1] at h
  have hH1 := hH.below hB1
  have hal := hH.al
  have hbl := hH.bl
  go_enter Try.func70, Try.ntmps70
  go_upto_region 1 with (fail)
  change Code.wp _ _ _ _ ((W.alloc (.cells (UEV e A c B d) 112)).alloc (.cells ZU 112))
  generalize (W.alloc (.cells (UEV e A c B d) 112)).alloc (.cells ZU 112) = w1 at *
  have c3 : w1.cell? ⟨W.heap.size, 3, none⟩ = some (.slice A e.cs.length c) := r1.cell 3
  have hI1 := hH1.a
  have ho0 := OwnN.nil w1 W.heap.size 3
  have hlc : (0 + e.cs.length) * 8 ≤ 140737488355328 := by omega
  have hls : (0 + e.ss.length) * 8 ≤ 140737488355328 := by omega
  have hs1 : W.heap.size ≤ w1.heap.size := hB1.size
  have hl1 := r1.lt
  have hl2 := r2.lt
  go_upto_region 2 with (at_builtin; (refine wp_append_n (P := Try.prog) rfl _ _ 52 rfl Try.underlying52 info_n ho0 hI1 hlc hs1 rfl rfl ?_); intro A5 n5 c5 w5 hn5 ho5 hb5 hg5 hat5; have kp5 := Keeps.grown (ts := []) hg5 (fun k hk => by cases hk); have r5 := kp5.row r1 (by decide); have c3 : w5.cell? ⟨W.heap.size, 3, none⟩ = some (.slice A e.cs.length c) := r5.cell 3; have f3 := r5.frozen 3)
  have r2 := kp5.row r2 (by decide)
  have u6 := Upd.setCell w5 W.heap.size 3 (.slice A5 n5 c5)
  have r6 := r5.set 3 (.slice A5 n5 c5)
  have e6 : (UEV e A c B d).setIfInBounds 3 (.slice A5 n5 c5) = #[.int .i64 e.cr, .int .i64 e.la, .int .i64 e.se, .slice A5 n5 c5, .slice B e.ss.length d, .bool e.dd] := by simp [UEV]
  rw [e6] at r6
  have r2 := r2.upd u6 (by omega)
  have hHb : IsN w5 B e.ss.length e.ss := by
    refine hH1.b.of_sameV (fun b o e h0 => ?_)
    obtain ⟨b', o', e', hlt, -⟩ := hH1.b.at_ h0
    rw [e'] at e
    injection e with e
    injection e with e1 e2
    subst e1
    exact hg5.block _ hlt (fun h => by cases h)
  have hHb : IsN (w5.setCell ⟨W.heap.size, 3, none⟩ (.slice A5 n5 c5)) B e.ss.length e.ss := by
    refine hHb.of_sameV (fun b o e h0 => ?_)
    obtain ⟨b', o', e', hlt, -⟩ := hH.b.at_ h0
    rw [e'] at e
    injection e with e
    injection e with e1 e2
    subst e1
    exact u6.block _ (by omega)
  have kp6 := Keeps.upd (ts := [112]) u6 r5 (by simp)
  have ho6 := ho5.keeps kp6 (by decide)
  have hB5 : Below W.heap.size W (w5.setCell ⟨W.heap.size, 3, none⟩ (.slice A5 n5 c5)) := Upd.below (hB1.trans hb5) u6 (Nat.le_refl _)
  clear e6 r1 r5 c3 f3 ho0 ho5 hb5 hg5 hat5 kp5 kp6 u6 hH1 hI1 hs1 hB1
  generalize w5.setCell ⟨W.heap.size, 3, none⟩ (.slice A5 n5 c5) = w6 at *
  have c4 : w6.cell? ⟨W.heap.size, 4, none⟩ = some (.slice B e.ss.length d) := r6.cell 4
  have ho0 := OwnN.nil w6 w6.heap.size 3
  have hs6 : W.heap.size ≤ w6.heap.size := hB5.size
  go_upto_region 3 with (at_builtin; (refine wp_append_n (P := Try.prog) rfl _ _ 52 rfl Try.underlying52 info_n ho0 hHb hls (Nat.le_refl _) rfl rfl ?_); intro A7 n7 c7 w7 hn7 ho7 hb7 hg7 hat7; have kp7 := Keeps.grown (ts := []) hg7 (fun k hk => by cases hk); have r7 := kp7.row r6 (by decide); have c4 : w7.cell? ⟨W.heap.size, 4, none⟩ = some (.slice B e.ss.length d) := r7.cell 4; have f4 := r7.frozen 4)
  have r2 := kp7.row r2 (by decide)
  have u8 := Upd.setCell w7 W.heap.size 4 (.slice A7 n7 c7)
  have r8 := r7.set 4 (.slice A7 n7 c7)
  have ho6b := ho6.keeps kp7 (by decide)
  have kp8 := Keeps.upd (ts := [112]) u8 r7 (by simp)
  have r2 := r2.upd u8 (by omega)
  have ho8 := ho6b.keeps kp8 (by decide)
  have ho7 := ho7.keeps kp8 (by decide)
  have hap := OwnN.ap (b2 := 0) ho6 ho7
  have hn5 : n5 = e.cs.length := by rw [hn5.out]; omega
  have hn7 : n7 = e.ss.length := by rw [hn7.out]; omega
  have e8 : (#[.int .i64 e.cr, .int .i64 e.la, .int .i64 e.se, .slice A5 n5 c5, .slice B e.ss.length d, .bool e.dd] : Array Value).setIfInBounds 4 (.slice A7 n7 c7) = UEV e A5 c5 A7 c7 := by simp [UEV, hn5, hn7]
  rw [e8] at r8
  have hB7 : Below W.heap.size W (w7.setCell ⟨W.heap.size, 4, none⟩ (.slice A7 n7 c7)) := Upd.below (hB5.trans (hb7.mono hB5.size)) u8 (Nat.le_refl _)
  have ho7 := OwnN.lower ho7 hs6
  subst hn5 hn7
  clear e8 r6 r7 c4 f4 ho0 ho6 ho6b hb7 hg7 hat7 kp7 kp8 u8 hHb hs6 hB5
  generalize w7.setCell ⟨W.heap.size, 4, none⟩ (.slice A7 e.ss.length c7) = w8 at *
  go_wp2_with (first | ((with_reducible refine wp_load_g ?_ r8.range Try.underlying112 rfl (uev_info _ _ _ _ _) ?_ ?_); rfl; rfl) | ((with_reducible refine wp_row_store (L := UEV e A5 c5 A7 c7) r2 rfl (uev_info _ _ _ _ _) (uev_one _ _ _ _ _) ?_ ?_ ?_); rfl; rfl; intro w9 u9 r9))
  refine bodyPost_ret (results_c1 rfl rfl r9 Try.underlying112 rfl (uev_info _ _ _ _ _)) rfl ?_
  have k9 := Keeps.upd (ts := [112]) u9 r2 (by simp)
  exact ⟨A5, c5, A7, c7, rfl, ⟨ho8.keeps k9 (by decide), ho7.keeps k9 (by decide), hap⟩, Upd.below hB7 u9 (by omega)⟩
set_option maxRecDepth 100000 in
set_option maxHeartbeats 8000000 in
theorem newR_0 (n : Int) (W : World) (h : n < 1) : Calls Try.prog 72 #[.int .i64 n] W (NwU n W) := by
  have HK := Lib.hid (show nwK n = false by unfold nwK; simp; omega)
  have d1 : decide (n < 1) = true := dt h
  clear h
  have hB1 := (Below.refl W.heap.size W).alloc (Nat.le_refl _) (.cells ZU 112)
  have r1 := Row.born W 112 ZU
  go_enter Try.func72, Try.ntmps72
  go_upto_region 1 with (fail)
  change Code.wp _ _ _ _ (W.alloc (.cells ZU 112))
  generalize W.alloc (.cells ZU 112) = w1 at *
  go_wp2_with ((with_reducible refine wp_row_store (L := ZU) r1 rfl zu_info zu_one ?_ ?_ ?_); rfl; rfl; intro w9 u9 r9)
  refine bodyPost_ret (results_ct rfl rfl r9 Try.underlying112 rfl zu_info) rfl ?_
  exact ⟨Upd.below hB1 u9 (Nat.le_refl _), .inl ⟨HK.out, rfl⟩⟩
set_option maxRecDepth 100000 in
set_option maxHeartbeats 8000000 in
theorem newR_1 (n : Int) (W : World) (h : 1 ≤ n ∧ 16 < n) : Calls Try.prog 72 #[.int .i64 n] W (NwU n W) := by
  have HK := Lib.hid (show nwK n = false by unfold nwK; simp; omega)
  have d1 : decide (n < 1) = false := df (by omega)
  have d2 : decide (16 < n) = true := dt h.2
  clear h
  have hB1 := (Below.refl W.heap.size W).alloc (Nat.le_refl _) (.cells ZU 112)
  have r1 := Row.born W 112 ZU
  go_enter Try.func72, Try.ntmps72
  go_upto_region 1 with (fail)
  change Code.wp _ _ _ _ (W.alloc (.cells ZU 112))
  generalize W.alloc (.cells ZU 112) = w1 at *
  go_wp2_with ((with_reducible refine wp_row_store (L := ZU) r1 rfl zu_info zu_one ?_ ?_ ?_); rfl; rfl; intro w9 u9 r9)
  refine bodyPost_ret (results_ct rfl rfl r9 Try.underlying112 rfl zu_info) rfl ?_
  exact ⟨Upd.below hB1 u9 (Nat.le_refl _), .inl ⟨HK.out, rfl⟩⟩
set_option maxRecDepth 100000 in
set_option maxHeartbeats 8000000 in
theorem newR_2 (n : Int) (W : World) (h : 1 ≤ n ∧ n ≤ 16) : Calls Try.prog 72 #[.int .i64 n] W (NwU n W) := by
  have HK := Lib.hid (show nwK n = true by unfold nwK; simp; omega)
  have d1 : decide (n < 1) = false := df (by omega)
  have d2 : decide (16 < n) = false := df (by omega)
  clear h
  have hB1 := (Below.refl W.heap.size W).alloc (Nat.le_refl _) (.cells ZU 112)
  have r1 := Row.born W 112 ZU
  go_enter Try.func72, Try.ntmps72
  go_upto_region 1 with (fail)
  change Code.wp _ _ _ _ (W.alloc (.cells ZU 112))
  generalize W.alloc (.cells ZU 112) = w1 at *
  go_wp2_with ((with_reducible refine wp_row_store (L := UEV (nwU n) none 0 none 0) r1 rfl (uev_info _ _ _ _ _) (uev_one _ _ _ _ _) ?_ ?_ ?_); rfl; rfl; intro w9 u9 r9)
  refine bodyPost_ret (results_ct rfl rfl r9 Try.underlying112 rfl (uev_info _ _ _ _ _)) rfl ?_
  exact ⟨Upd.below hB1 u9 (Nat.le_refl _), .inr ⟨HK.out, rfl⟩⟩
theorem newRef (n : Int) (W : World) : Calls Try.prog 72 #[.int .i64 n] W (NwU n W) := by
  rcases Int.lt_or_le n 1 with h | h
  · exact newR_0 n W h
  · rcases Int.lt_or_le 16 n with h2 | h2
    · exact newR_1 n W ⟨h, h2⟩
    · exact newR_2 n W ⟨h, h2⟩
set_option maxRecDepth 100000 in
set_option maxHeartbeats 8000000 in
theorem use_no (e : UE) (A B : Option Addr) (c d : Nat) (W : World) (hH : HeldU W e A c B d) (hv : uV e = false) : Calls Try.prog 124 #[.agg (UEV e A c B d)] W (CkU e W) := by
  have HE := Lib.hid (show uE e = 74 by unfold uE; rw [hv]; rfl)
  have HV := Lib.hid hv
  clear hv
  have hB1 := (Below.refl W.heap.size W).alloc (Nat.le_refl _) (.cells (UEV e A c B d) 112)
  have r1 := Row.born W 112 (UEV e A c B d)
  go_enter Try.func124, Try.ntmps124
  go_upto_region 1 with (fail)
  generalize W.alloc (.cells (UEV e A c B d) 112) = w1 at *
  have hH1 := hH.below hB1
  obtain ⟨-, -, -, c5⟩ := uev_cells r1
  have hl1 := r1.lt
  go_wp2_with (first | ((with_reducible refine wp_load_g ?_ r1.range Try.underlying112 rfl (uev_info _ _ _ _ _) ?_ ?_); rfl; rfl) | (go_at_call 75; (with_reducible refine (valid_ref_is HV.out hH1).mono ?_); rintro en w2 ⟨rfl, hb2⟩; have c5 := (hb2.cell (p := ⟨W.heap.size, 5, none⟩) hl1).trans c5))
  go_ret
  exact cku_mk HE.out (hB1.trans (hb2.mono hB1.size))
set_option maxRecDepth 100000 in
set_option maxHeartbeats 8000000 in
theorem use_dead (e : UE) (A B : Option Addr) (c d : Nat) (W : World) (hH : HeldU W e A c B d) (hv : uV e = true) (hd : e.dd = true) : Calls Try.prog 124 #[.agg (UEV e A c B d)] W (CkU e W) := by
  have HE := Lib.hid (show uE e = 16 by unfold uE; rw [hv, hd]; rfl)
  have HV := Lib.hid hv
  clear hv
  have hB1 := (Below.refl W.heap.size W).alloc (Nat.le_refl _) (.cells (UEV e A c B d) 112)
  have r1 := Row.born W 112 (UEV e A c B d)
  go_enter Try.func124, Try.ntmps124
  go_upto_region 1 with (fail)
  generalize W.alloc (.cells (UEV e A c B d) 112) = w1 at *
  have hH1 := hH.below hB1
  obtain ⟨-, -, -, c5⟩ := uev_cells r1
  rw [hd] at c5
  clear hd
  have hl1 := r1.lt
  go_wp2_with (first | ((with_reducible refine wp_load_g ?_ r1.range Try.underlying112 rfl (uev_info _ _ _ _ _) ?_ ?_); rfl; rfl) | (go_at_call 75; (with_reducible refine (valid_ref_is HV.out hH1).mono ?_); rintro en w2 ⟨rfl, hb2⟩; have c5 := (hb2.cell (p := ⟨W.heap.size, 5, none⟩) hl1).trans c5))
  go_ret
  exact cku_mk HE.out (hB1.trans (hb2.mono hB1.size))
set_option maxRecDepth 100000 in
set_option maxHeartbeats 8000000 in
theorem use_ok (e : UE) (A B : Option Addr) (c d : Nat) (W : World) (hH : HeldU W e A c B d) (hv : uV e = true) (hd : e.dd = false) : Calls Try.prog 124 #[.agg (UEV e A c B d)] W (CkU e W) := by
  have HE := Lib.hid (show uE e = 0 by unfold uE; rw [hv, hd]; rfl)
  have HV := Lib.hid hv
  clear hv
  have hB1 := (Below.refl W.heap.size W).alloc (Nat.le_refl _) (.cells (UEV e A c B d) 112)
  have r1 := Row.born W 112 (UEV e A c B d)
  go_enter Try.func124, Try.ntmps124
  go_upto_region 1 with (fail)
  generalize W.alloc (.cells (UEV e A c B d) 112) = w1 at *
  have hH1 := hH.below hB1
  obtain ⟨-, -, -, c5⟩ := uev_cells r1
  rw [hd] at c5
  clear hd
  have hl1 := r1.lt
  go_wp2_with (first | ((with_reducible refine wp_load_g ?_ r1.range Try.underlying112 rfl (uev_info _ _ _ _ _) ?_ ?_); rfl; rfl) | (go_at_call 75; (with_reducible refine (valid_ref_is HV.out hH1).mono ?_); rintro en w2 ⟨rfl, hb2⟩; have c5 := (hb2.cell (p := ⟨W.heap.size, 5, none⟩) hl1).trans c5))
  go_ret
  exact cku_mk HE.out (hB1.trans (hb2.mono hB1.size))
theorem usable_is {e : UE} {A B : Option Addr} {c d : Nat} {W : World} {x : Int} (hx : uE e = x) (hH : HeldU W e A c B d) : Calls Try.prog 124 #[.agg (UEV e A c B d)] W (fun en W' => en = .returned (.int .i64 x) ∧ Below W.heap.size W W') := by
  rw [← hx]
  cases hv : uV e
  · exact use_no e A B c d W hH hv
  cases hd : e.dd
  · exact use_ok e A B c d W hH hv hd
  · exact use_dead e A B c d W hH hv hd
set_option maxRecDepth 100000 in
set_option maxHeartbeats 8000000 in
theorem drop_n (A : Option Addr) (n c : Nat) (l : List Int) (x : Int) (W : World) (hA : IsN W A n l) (hn : n ≤ 1000000) (hc : n ≤ c) : Calls Try.prog 127 #[.slice A n c, .int .i64 x] W (fun en W' => Below W.heap.size W W' ∧ ((x ∉ l ∧ en = .returned (.tuple #[.slice A n c, .bool false])) ∨ (x ∈ l ∧ ∃ A' c', en = .returned (.tuple #[.slice A' (n - 1) c', .bool true]) ∧ OwnN W' W.heap.size 3 A' (n - 1) c' (l.eraseIdx (l.idxOf x))))) := by
  have hl := Lib.hid hA.1
  have HA := Lib.hid hA
  clear hA
  go_enter Try.func127, Try.ntmps127
  go_upto_region 2 with (fail)
  go_loopw [6] (fun i wr => ∃ j : Nat, j ≤ n ∧ i = .int .i64 j ∧ Below W.heap.size W wr ∧ ∀ i, i < j → l[i]? ≠ some x) (fun i _ => n - (intOf i).toNat)
  case atStart => exact ⟨0, by omega, rfl, Below.refl _ _, fun i hi => by omega⟩
  case round =>
    obtain ⟨j, hj, rfl, hB, hno⟩ := hrel
    have HNO := Lib.hid hno
    clear hno
    rcases Nat.lt_or_ge j n with hjn | hjn
    · have dj : decide (j < n) = true := decide_eq_true hjn
      have dji : decide ((j : Int) < (n : Int)) = true := decide_eq_true (by omega)
      have hji : (j : Int) < n := by omega
      have hj0 : (0 : Int) ≤ (j : Int) := by omega
      have HA2 := Lib.hid (HA.out.below hB)
      obtain ⟨b, o, rfl⟩ := HA.out.form (by omega)
      obtain ⟨y, hy, hcy⟩ := HA2.out.idx hjn
      have HY := Lib.hid hy
      clear hy
      by_cases hxy : y = x
      · have dxy : (y == x) = true := et hxy
        have hlj : l[j]? = some x := by rw [HY.out, hxy]
        obtain ⟨hmem, hidx⟩ := idx_first hlj HNO.out
        have HX := Lib.hid hxy
        clear hxy
        have hj1 : (j : Int) + 1 ≤ n := by omega
        have hj3 : (0 : Int) ≤ (j : Int) + 1 := by omega
        have hj2 : (j : Int) + 1 ≤ c := by omega
        have hjc : (j : Int) ≤ c := by omega
        have hnc : (n : Int) ≤ c := by omega
        have hwj : IntKind.i64.wrap ((j : Int) + 1) = (j : Int) + 1 := by rw [IntKind.wrap_i64]; omega
        go_upto_region 5 with (fail)
        have hP1 : IsN wr.drew (some ⟨b, o, none⟩) j (l.take j) := (HA2.out.pre j (by omega))
        obtain ⟨A3, hA3⟩ : ∃ A3 : Option Addr, (if c - (j + 1) = 0 then some ⟨b, o, none⟩ else some ⟨b, o + (j + 1), none⟩) = A3 := ⟨_, rfl⟩
        have hP2 : IsN wr.drew A3 (n - (j + 1)) (l.drop (j + 1)) := by
          have hln := hl.out
          refine ⟨by rw [List.length_drop, ← hln], fun h0 => ?_⟩
          obtain ⟨b', o', e, hc'⟩ := HA2.out.2 (by omega)
          injection e with e
          injection e with e1 e2
          subst e1 e2
          refine ⟨b, o + (j + 1), by rw [← hA3, if_neg (by omega)], fun i hi => ?_⟩
          rw [List.length_drop] at hi
          have h9 := hc' (j + 1 + i) (by omega)
          rw [List.getElem_drop]
          rw [← Nat.add_assoc] at h9
          exact h9
        have HA3 := Lib.hid hA3
        have hBd := hB.drew
        have hl3 : n ≤ 1000000 := hn
        clear hA3 hcy hB
        refine wp_region_tailN (n := 29) 8 (fun w' => Below wr.drew.heap.size wr.drew w') (fun w w' => Below w.heap.size w w') (by kernel_rfl) (by kernel_rfl) (by decide) (by rfl) (Below.refl _ _) ?_
        simp only [List.take_succ_cons, List.take_zero, List.drop_succ_cons, List.drop_zero]
        generalize wr.drew = wd at *
        refine tail_pure (fun w => Below.refl _ w) (v := ?_) (fun _ => rfl) ?_ ?_; rotate_left; (focus (intro us w9 hS9 hF; clear hF; clear hS9; go_simp; (try with_reducible rfl); done)); simp only [Act.put, List.setIfInBounds_toArray, List.set_cons_zero, List.set_cons_succ, Nat.reduceAdd]
        refine tail_pure (fun w => Below.refl _ w) (v := ?_) (fun _ => rfl) ?_ ?_; rotate_left; (focus (intro us w9 hS9 hF; clear hF; clear hS9; go_simp; (try with_reducible rfl); done)); simp only [Act.put, List.setIfInBounds_toArray, List.set_cons_zero, List.set_cons_succ, Nat.reduceAdd]
        refine tail_pure (fun w => Below.refl _ w) (v := ?_) (fun _ => rfl) ?_ ?_; rotate_left; (focus (intro us w9 hS9 hF; clear hF; clear hS9; go_simp; (try with_reducible rfl); done)); simp only [Act.put, List.setIfInBounds_toArray, List.set_cons_zero, List.set_cons_succ, Nat.reduceAdd]
        refine tail_free (fun u w' => ∃ A' n' c', u = .slice A' n' c' ∧ n' = j ∧ OwnN w' wd.heap.size 3 A' n' c' (l.take j)) (fun u x y hg ⟨A', n', c', e, h0, h⟩ => ⟨A', n', c', e, h0, h.below hg⟩) ?_ ?_; (focus (intro us w9 hS9 hF K hK; clear hF; rw [if_pos (by rfl)]; exact step_copy_n (P := Try.prog) Try.underlying52 info_n (hP1.below hS9) (by omega) rfl rfl (fun A' c'' w' h1 h2 => hK _ _ (hS9.trans (h2.mono hS9.size)) h2 ⟨A', j, c'', rfl, rfl, h1.lower hS9.size⟩))); simp only [Act.put, List.setIfInBounds_toArray, List.set_cons_zero, List.set_cons_succ, Nat.reduceAdd]
        refine tail_pure (fun w => Below.refl _ w) (v := ?_) (fun _ => rfl) ?_ ?_; rotate_left; (focus (intro us w9 hS9 hF; clear hF; clear hS9; go_simp; (try with_reducible rfl); done)); simp only [Act.put, List.setIfInBounds_toArray, List.set_cons_zero, List.set_cons_succ, Nat.reduceAdd]
        refine tail_pure (fun w => Below.refl _ w) (v := ?_) (fun _ => rfl) ?_ ?_; rotate_left; (focus (intro us w9 hS9 hF; clear hF; clear hS9; go_simp; (try with_reducible rfl); done)); simp only [Act.put, List.setIfInBounds_toArray, List.set_cons_zero, List.set_cons_succ, Nat.reduceAdd]
        refine tail_pure (fun w => Below.refl _ w) (v := .int .i64 ((j : Int) + 1)) (fun _ => rfl) ?_ ?_; (focus (intro us w9 hS9 hF; clear hF; clear hS9; go_simp; (try with_reducible rfl); done)); simp only [Act.put, List.setIfInBounds_toArray, List.set_cons_zero, List.set_cons_succ, Nat.reduceAdd]
        refine tail_pure (fun w => Below.refl _ w) (v := .slice A3 (n - (j + 1)) (c - (j + 1))) (fun _ => rfl) ?_ ?_; (focus (intro us w9 hS9 hF; clear hF hS9; rw [← HA3.out]; by_cases hz : c = j + 1; (focus (subst hz; rw [if_pos (by omega)]; go_simp)); (focus (rw [if_neg (by omega)]; go_simp)))); simp only [Act.put, List.setIfInBounds_toArray, List.set_cons_zero, List.set_cons_succ, Nat.reduceAdd]
        refine tail_done fun us w7 hS7 hF => ?_
        obtain ⟨A5, n5, c5, hu, hn5, ho5⟩ := hF (3, fun u w' => ∃ A' n' c', u = .slice A' n' c' ∧ n' = j ∧ OwnN w' wd.heap.size 3 A' n' c' (l.take j)) (by simp)
        clear hF
        dsimp only at hu
        simp only [hu]
        clear hu
        have ho5 := ho5.below (Below.refl _ _)
        have hP3 := hP2.below hS7
        have hbs := hS7.size
        go_wp2_with (at_builtin; (refine wp_append_n (P := Try.prog) rfl _ _ 52 rfl Try.underlying52 info_n ho5 hP3 (by omega) hbs rfl rfl ?_); intro A9 n9 c9 w9 hn9 ho9 hb9 hg9 hat9)
        refine bodyPost_ret (v := .tuple #[.slice A9 n9 c9, .bool true]) (by simp [results, Try.results127, go_sem]) rfl ?_
        have e9 : n9 = n - 1 := by rw [hn9.out, hn5]; omega
        have el : l.take j ++ l.drop (j + 1) = l.eraseIdx (l.idxOf x) := by rw [hidx, List.eraseIdx_eq_take_drop_succ]
        rw [el] at ho9
        rw [e9] at ho9 ⊢
        exact ⟨(hBd.trans (hS7.mono hBd.size)).trans (hb9.mono hBd.size), .inr ⟨hmem, A9, c9, rfl, ho9.lower hBd.size⟩⟩
      · have dxy : (y == x) = false := ef hxy
        have hno2 : ∀ i, i < j + 1 → l[i]? ≠ some x := by
          intro i hi
          rcases Nat.lt_or_ge i j with h1 | h1
          · exact HNO.out i h1
          · obtain rfl : i = j := by omega
            rw [HY.out]
            intro h
            injection h with h
            exact hxy h
        have HN2 := Lib.hid hno2
        clear hno2 hxy
        go_wp2
        exact ⟨⟨j + 1, by omega, by go_num, hB, HN2.out⟩, by simp [intOf]; omega⟩
    · have e0 : j = n := by omega
      have hmem : x ∉ l := by
        intro h
        obtain ⟨i, hi⟩ := List.mem_iff_getElem?.1 h
        have h2 := (List.getElem?_eq_some_iff.1 hi).1
        exact HNO.out i (by have := hl.out; omega) hi
      have HM := Lib.hid hmem
      have dj : decide (j < n) = false := decide_eq_false (by omega)
      have dji : decide ((j : Int) < (n : Int)) = false := decide_eq_false (by omega)
      clear e0 hmem
      go_wp2
      refine bodyPost_ret (v := .tuple #[.slice A n c, .bool false]) (by simp [results, Try.results127, go_sem]) rfl ?_
      exact ⟨hB, .inl ⟨HM.out, rfl⟩⟩
end Go.Proofs.Ythjkhambmgepdaa
