/- urpc's reference: ReceiveRemote. -/
import Derived.Test.YthjkhambmgepdaaEc
namespace Go.Proofs.Ythjkhambmgepdaa
open Go.RowKit
set_option linter.unusedVariables false
set_option linter.unusedSimpArgs false
theorem decR_n {D : Option Addr} {dc : Nat} {ms : List UInt8} {W : World} (hv : dOk ms = false) (hD : IsB W D ms.length ms) (hn : ms.length ≤ 1000000) (hc : ms.length ≤ dc) : Calls Try.prog 85 #[.slice D ms.length dc] W (fun en W' => en = .returned (.tuple #[.agg ZRm, .int .i64 14]) ∧ Below W.heap.size W W') := by
  refine (decodeR ms D _ dc W hD hn hc).mono ?_
  rintro en W' ⟨hb, ⟨-, h⟩ | ⟨h, -⟩⟩
  · exact ⟨h, hb⟩
  · rw [hv] at h; cases h
theorem decR_y {D : Option Addr} {dc : Nat} {ms : List UInt8} {W : World} (hv : dOk ms = true) (hD : IsB W D ms.length ms) (hn : ms.length ≤ 1000000) (hc : ms.length ≤ dc) : Calls Try.prog 85 #[.slice D ms.length dc] W (fun en W' => ∃ A c, en = .returned (.tuple #[.agg (RMV (dM ms) A c), .int .i64 0]) ∧ OwnB W' W.heap.size 5 A (dM ms).b.length c (dM ms).b ∧ Below W.heap.size W W') := by
  refine (decodeR ms D _ dc W hD hn hc).mono ?_
  rintro en W' ⟨hb, ⟨h, -⟩ | ⟨-, A, c, h1, h2⟩⟩
  · rw [hv] at h; cases h
  · exact ⟨A, c, h1, h2, hb⟩
theorem OwnN.capU {w : World} {base : Nat} {e : TypeId} {A : Option Addr} {n c : Nat} {l : List Int} (h : OwnN w base e A n c l) : n ≤ c := by
  rcases Nat.eq_zero_or_pos n with h0 | h0
  · omega
  · obtain ⟨g, -, -, -, h2⟩ := h.form h0
    exact h2
def RcvRP (e : UE) (ms : List UInt8) (W : World) (en : Ending) (W' : World) : Prop := Below W.heap.size W W' ∧
  ((rcvE e ms ≠ 0 ∧ en = .returned (.tuple #[.agg ZU, .agg ZRm, .int .i64 (rcvE e ms)])) ∨
   (rcvE e ms = 0 ∧ ∃ A c B d A' c', en = .returned (.tuple #[.agg (UEV (rcvU e ms) A c B d), .agg (RMV (dM ms) A' c'), .int .i64 0]) ∧ TwoN W' W.heap.size (rcvU e ms) A c B d ∧ IsB W' A' (dM ms).b.length (dM ms).b))
theorem rcvR_mk {e : UE} {ms : List UInt8} {x : Int} {W W' : World} (h : rcvE e ms = x) (hx : x ≠ 0) (hb : Below W.heap.size W W') : RcvRP e ms W (.returned (.tuple #[.agg ZU, .agg ZRm, .int .i64 x])) W' := ⟨hb, .inl ⟨by rw [h]; exact hx, by rw [h]⟩⟩
set_option maxRecDepth 100000 in
set_option maxHeartbeats 8000000 in
theorem rcvR_chk (e : UE) (A B : Option Addr) (c d : Nat) (D : Option Addr) (dc : Nat) (ms : List UInt8) (W : World) (hH : HeldU W e A c B d) (hD : IsB W D ms.length ms) (hDn : ms.length ≤ 1000000) (hDc : ms.length ≤ dc) (x : Int) (hx : uE e = x) (h0 : x ≠ 0) : Calls Try.prog 79 #[.agg (UEV e A c B d), .slice D ms.length dc] W (RcvRP e ms W) := by
  have HC := Lib.hid (show rcvE e ms = x by unfold rcvE; rw [if_neg (by omega), hx])
  have HE := Lib.hid hx
  have H0 := Lib.hid h0
  have dx : (x != 0) = true := nt h0
  clear hx h0
  have hB1 := (((Below.refl W.heap.size W).alloc (Nat.le_refl _) (.cells (UEV e A c B d) 112)).alloc (by simp) (.cells ZU 112)).alloc (by simp; omega) (.cells ZRm 97)
  have r1 := ((Row.born W 112 (UEV e A c B d)).alloc (.cells ZU 112)).alloc (.cells ZRm 97)
  have r2 : Row (((W.alloc (.cells (UEV e A c B d) 112)).alloc (.cells ZU 112)).alloc (.cells ZRm 97)) (W.heap.size + 1) 112 ZU := (Row.bornAt' (w := W.alloc (.cells (UEV e A c B d) 112)) (by simp) 112 ZU).alloc (.cells ZRm 97)
  have r3 : Row (((W.alloc (.cells (UEV e A c B d) 112)).alloc (.cells ZU 112)).alloc (.cells ZRm 97)) (W.heap.size + 2) 97 ZRm := Row.bornAt' (w := (W.alloc (.cells (UEV e A c B d) 112)).alloc (.cells ZU 112)) (by simp) 97 ZRm
  have hH1 := hH.below hB1
  have hal := hH.al
  have hbl := hH.bl
  go_enter Try.func79, Try.ntmps79
  go_upto_region 1 with (fail)
  change Code.wp _ _ _ _ (((W.alloc (.cells (UEV e A c B d) 112)).alloc (.cells ZU 112)).alloc (.cells ZRm 97))
  generalize (((W.alloc (.cells (UEV e A c B d) 112)).alloc (.cells ZU 112)).alloc (.cells ZRm 97)) = w1 at *
  have hl1 := r1.lt
  have hl2 := r2.lt
  have hl3 := r3.lt
  go_wp2_with (first | ((with_reducible refine wp_load_g ?_ r1.range Try.underlying112 rfl (uev_info _ _ _ _ _) ?_ ?_); rfl; rfl) | (go_at_call 124; (with_reducible refine (usable_is HE.out hH1).mono ?_); rintro en w2 ⟨rfl, hb2⟩; have r1 := r1.below hb2 hl1; have r2 := r2.below hb2 hl2; have r3 := r3.below hb2 hl3; have hB2 := hB1.trans (hb2.mono hB1.size); have hl1 := r1.lt; have hl2 := r2.lt; have hl3 := r3.lt) | ((with_reducible refine wp_row_store (L := ZU) r2 rfl zu_info zu_one ?_ ?_ ?_); rfl; rfl; intro w9 u9 r9; have r3 := r3.upd u9 (by omega)) | ((with_reducible refine wp_row_store (L := ZRm) r3 rfl zrm_info zrm_one ?_ ?_ ?_); rfl; rfl; intro wa ua ra; have r9 := r9.upd ua (by omega)))
  refine bodyPost_ret (results_cc1 rfl rfl rfl r9 ra Try.underlying112 Try.underlying97 rfl rfl zu_info zrm_info) rfl ?_
  exact rcvR_mk HC.out H0.out (Upd.below (Upd.below hB2 u9 (by omega)) ua (by omega))
set_option maxRecDepth 100000 in
set_option maxHeartbeats 8000000 in
theorem rcvR_dec (e : UE) (A B : Option Addr) (c d : Nat) (D : Option Addr) (dc : Nat) (ms : List UInt8) (W : World) (hH : HeldU W e A c B d) (hD : IsB W D ms.length ms) (hDn : ms.length ≤ 1000000) (hDc : ms.length ≤ dc) (hx : uE e = 0) (hv : dOk ms = false) : Calls Try.prog 79 #[.agg (UEV e A c B d), .slice D ms.length dc] W (RcvRP e ms W) := by
  have HC := Lib.hid (show rcvE e ms = 14 by unfold rcvE; rw [if_pos hx, if_neg (by rw [hv]; simp)])
  have HE := Lib.hid hx
  have HV := Lib.hid hv
  clear hx hv
  have hB1 := (((Below.refl W.heap.size W).alloc (Nat.le_refl _) (.cells (UEV e A c B d) 112)).alloc (by simp) (.cells ZU 112)).alloc (by simp; omega) (.cells ZRm 97)
  have r1 := ((Row.born W 112 (UEV e A c B d)).alloc (.cells ZU 112)).alloc (.cells ZRm 97)
  have r2 : Row (((W.alloc (.cells (UEV e A c B d) 112)).alloc (.cells ZU 112)).alloc (.cells ZRm 97)) (W.heap.size + 1) 112 ZU := (Row.bornAt' (w := W.alloc (.cells (UEV e A c B d) 112)) (by simp) 112 ZU).alloc (.cells ZRm 97)
  have r3 : Row (((W.alloc (.cells (UEV e A c B d) 112)).alloc (.cells ZU 112)).alloc (.cells ZRm 97)) (W.heap.size + 2) 97 ZRm := Row.bornAt' (w := (W.alloc (.cells (UEV e A c B d) 112)).alloc (.cells ZU 112)) (by simp) 97 ZRm
  have hH1 := hH.below hB1
  have hal := hH.al
  have hbl := hH.bl
  go_enter Try.func79, Try.ntmps79
  go_upto_region 1 with (fail)
  change Code.wp _ _ _ _ (((W.alloc (.cells (UEV e A c B d) 112)).alloc (.cells ZU 112)).alloc (.cells ZRm 97))
  generalize (((W.alloc (.cells (UEV e A c B d) 112)).alloc (.cells ZU 112)).alloc (.cells ZRm 97)) = w1 at *
  have hl1 := r1.lt
  have hl2 := r2.lt
  have hl3 := r3.lt
  go_upto_region 4 with (first | ((with_reducible refine wp_load_g ?_ r1.range Try.underlying112 rfl (uev_info _ _ _ _ _) ?_ ?_); rfl; rfl) | (go_at_call 124; (with_reducible refine (usable_is HE.out hH1).mono ?_); rintro en w2 ⟨rfl, hb2⟩; have r1 := r1.below hb2 hl1; have r2 := r2.below hb2 hl2; have r3 := r3.below hb2 hl3; have hB2 := hB1.trans (hb2.mono hB1.size); have hl1 := r1.lt; have hl2 := r2.lt; have hl3 := r3.lt))
  have hD2 := hD.below hB2
  go_upto_region 5 with (first | (go_at_call 85; (with_reducible refine (decR_n HV.out hD2 hDn hDc).mono ?_); rintro en w4 ⟨rfl, hb4⟩) | ((with_reducible refine wp_row_store (L := ZRm) (Row.bornAt' (g := w4.heap.size) rfl 97 _) ?_ zrm_info zrm_one ?_ ?_ ?_); rfl; rfl; rfl; intro w5 u5 r8))
  have hal5 := Upd.below ((Below.refl w4.heap.size w4).alloc (Nat.le_refl _) (.cells ZRm 97)) u5 (Nat.le_refl _)
  have hb5 := hb4.trans (hal5.mono hb4.size)
  have r2 := r2.below hb5 hl2
  have r3 := r3.below hb5 hl3
  have hB5 := hB2.trans (hb5.mono hB2.size)
  clear u5
  go_wp2_with (first | ((with_reducible refine wp_row_store (L := ZU) r2 rfl zu_info zu_one ?_ ?_ ?_); rfl; rfl; intro w9 u9 r9; have r3 := r3.upd u9 (by omega)) | ((with_reducible refine wp_row_store (L := ZRm) r3 rfl zrm_info zrm_one ?_ ?_ ?_); rfl; rfl; intro wa ua ra; have r9 := r9.upd ua (by omega)))
  refine bodyPost_ret (results_cc1 rfl rfl rfl r9 ra Try.underlying112 Try.underlying97 rfl rfl zu_info zrm_info) rfl ?_
  exact rcvR_mk HC.out (by omega) (Upd.below (Upd.below hB5 u9 (by omega)) ua (by omega))
set_option maxRecDepth 100000 in
set_option maxHeartbeats 8000000 in
theorem rcvR_q1 (e : UE) (A B : Option Addr) (c d : Nat) (D : Option Addr) (dc : Nat) (ms : List UInt8) (W : World) (hH : HeldU W e A c B d) (hD : IsB W D ms.length ms) (hDn : ms.length ≤ 1000000) (hDc : ms.length ≤ dc) (hx : uE e = 0) (hv : dOk ms = true) (hk : (dM ms).k = 1) (hn : (dM ms).n ≠ e.se + 1) : Calls Try.prog 79 #[.agg (UEV e A c B d), .slice D ms.length dc] W (RcvRP e ms W) := by
  have HC := Lib.hid (show rcvE e ms = 66 by unfold rcvE; rw [if_pos hx, if_pos hv, if_pos hk, if_neg hn])
  have hbd := uV_bd (uE_ne hx).1
  have hsw : IntKind.i64.wrap (e.se + 1) = e.se + 1 := by rw [IntKind.wrap_i64]; omega
  have d1 : ((dM ms).n != e.se + 1) = true := nt hn
  clear hn hbd
  have HE := Lib.hid hx
  have HV := Lib.hid hv
  have dk : ((dM ms).k == 1) = true := et hk
  clear hx hv hk
  have hB1 := (((Below.refl W.heap.size W).alloc (Nat.le_refl _) (.cells (UEV e A c B d) 112)).alloc (by simp) (.cells ZU 112)).alloc (by simp; omega) (.cells ZRm 97)
  have r1 := ((Row.born W 112 (UEV e A c B d)).alloc (.cells ZU 112)).alloc (.cells ZRm 97)
  have r2 : Row (((W.alloc (.cells (UEV e A c B d) 112)).alloc (.cells ZU 112)).alloc (.cells ZRm 97)) (W.heap.size + 1) 112 ZU := (Row.bornAt' (w := W.alloc (.cells (UEV e A c B d) 112)) (by simp) 112 ZU).alloc (.cells ZRm 97)
  have r3 : Row (((W.alloc (.cells (UEV e A c B d) 112)).alloc (.cells ZU 112)).alloc (.cells ZRm 97)) (W.heap.size + 2) 97 ZRm := Row.bornAt' (w := (W.alloc (.cells (UEV e A c B d) 112)).alloc (.cells ZU 112)) (by simp) 97 ZRm
  have hH1 := hH.below hB1
  have hal := hH.al
  have hbl := hH.bl
  go_enter Try.func79, Try.ntmps79
  go_upto_region 1 with (fail)
  change Code.wp _ _ _ _ (((W.alloc (.cells (UEV e A c B d) 112)).alloc (.cells ZU 112)).alloc (.cells ZRm 97))
  generalize (((W.alloc (.cells (UEV e A c B d) 112)).alloc (.cells ZU 112)).alloc (.cells ZRm 97)) = w1 at *
  have hl1 := r1.lt
  have hl2 := r2.lt
  have hl3 := r3.lt
  go_upto_region 4 with (first | ((with_reducible refine wp_load_g ?_ r1.range Try.underlying112 rfl (uev_info _ _ _ _ _) ?_ ?_); rfl; rfl) | (go_at_call 124; (with_reducible refine (usable_is HE.out hH1).mono ?_); rintro en w2 ⟨rfl, hb2⟩; have r1 := r1.below hb2 hl1; have r2 := r2.below hb2 hl2; have r3 := r3.below hb2 hl3; have hB2 := hB1.trans (hb2.mono hB1.size); have hl1 := r1.lt; have hl2 := r2.lt; have hl3 := r3.lt))
  have hD2 := hD.below hB2
  go_upto_region 5 with (first | (go_at_call 85; (with_reducible refine (decR_y HV.out hD2 hDn hDc).mono ?_); rintro en w4 ⟨A4, c4, rfl, ho4, hb4⟩) | ((with_reducible refine wp_row_store (L := RMV (dM ms) A4 c4) (Row.bornAt' (g := w4.heap.size) rfl 97 _) ?_ (rmv_info _ _ _) (rmv_one _ _ _) ?_ ?_ ?_); rfl; rfl; rfl; intro w5 u5 r8))
  have hal5 := Upd.below ((Below.refl w4.heap.size w4).alloc (Nat.le_refl _) (.cells ZRm 97)) u5 (Nat.le_refl _)
  have hb5 := hb4.trans (hal5.mono hb4.size)
  have r1 := r1.below hb5 hl1
  have r2 := r2.below hb5 hl2
  have r3 := r3.below hb5 hl3
  have hB5 := hB2.trans (hb5.mono hB2.size)
  have hm5 := (ho4.below hal5).lower hB2.size
  have hg8 : W.heap.size + 3 ≤ w4.heap.size := by have := hb4.size; omega
  clear u5 ho4 hb4 hal5 hb5 hD2 hB2 hb2 hl1 hl2 hl3 hB1 hH1
  generalize w4.heap.size = g8 at *
  have hl1 := r1.lt
  have hl2 := r2.lt
  have hl3 := r3.lt
  have hl8 := r8.lt
  have hH5 := hH.below hB5
  go_upto_region 8 with (first | ((with_reducible refine wp_load_g ?_ r1.range Try.underlying112 rfl (uev_info _ _ _ _ _) ?_ ?_); rfl; rfl) | (go_at_call 70; (with_reducible refine (copyU e A B c d _ hH5).mono ?_); rintro en w6 ⟨A6, c6, B6, d6, rfl, ho6, hb6⟩) | ((with_reducible refine wp_row_store (L := UEV e A6 c6 B6 d6) (Row.bornAt' (g := w6.heap.size) rfl 112 _) ?_ (uev_info _ _ _ _ _) (uev_one _ _ _ _ _) ?_ ?_ ?_); rfl; rfl; rfl; intro w7 u7 r10))
  have hal7 := Upd.below ((Below.refl w6.heap.size w6).alloc (Nat.le_refl _) (.cells ZU 112)) u7 (Nat.le_refl _)
  have hb7 := hb6.trans (hal7.mono hb6.size)
  have r1 := r1.below hb7 hl1
  have r2 := r2.below hb7 hl2
  have r3 := r3.below hb7 hl3
  have r8 := r8.below hb7 hl8
  have hm7 := hm5.below hb7
  have ho7 := ho6.below hal7
  have hB7 := hB5.trans (hb7.mono hB5.size)
  have hg10 : g8 < w6.heap.size := Nat.lt_of_lt_of_le hl8 hb6.size
  have hW5 : W.heap.size ≤ w5.heap.size := hB5.size
  have hs75 : w5.heap.size ≤ w7.heap.size := hb7.size
  clear u7 ho6 hb6 hal7 hb7 hm5 hB5 hH5 hl1 hl2 hl3 hl8
  generalize w6.heap.size = g10 at *
  generalize w5.heap.size = b5 at *
  have m0 : w7.cell? ⟨g8, 0, none⟩ = some (.int .i64 (dM ms).k) := r8.cell 0
  have m1 : w7.cell? ⟨g8, 1, none⟩ = some (.int .i64 (dM ms).n) := r8.cell 1
  have q0 : w7.cell? ⟨W.heap.size, 0, none⟩ = some (.int .i64 e.cr) := r1.cell 0
  have q2 : w7.cell? ⟨W.heap.size, 2, none⟩ = some (.int .i64 e.se) := r1.cell 2
  have q4 : w7.cell? ⟨W.heap.size, 4, none⟩ = some (.slice B e.ss.length d) := r1.cell 4
  clear m0
  have m0 : w7.cell? ⟨g8, 0, none⟩ = some (.int .i64 (dM ms).k) := r8.cell 0
  go_wp2_with (first | ((with_reducible refine wp_row_store (L := ZU) r2 rfl zu_info zu_one ?_ ?_ ?_); rfl; rfl; intro w9 u9 r9; have r3 := r3.upd u9 (by omega)) | ((with_reducible refine wp_row_store (L := ZRm) r3 rfl zrm_info zrm_one ?_ ?_ ?_); rfl; rfl; intro wa ua ra; have r9 := r9.upd ua (by omega)))
  refine bodyPost_ret (results_cc1 rfl rfl rfl r9 ra Try.underlying112 Try.underlying97 rfl rfl zu_info zrm_info) rfl ?_
  exact rcvR_mk HC.out (by omega) (Upd.below (Upd.below hB7 u9 (by omega)) ua (by omega))
set_option maxRecDepth 100000 in
set_option maxHeartbeats 8000000 in
theorem rcvR_q2 (e : UE) (A B : Option Addr) (c d : Nat) (D : Option Addr) (dc : Nat) (ms : List UInt8) (W : World) (hH : HeldU W e A c B d) (hD : IsB W D ms.length ms) (hDn : ms.length ≤ 1000000) (hDc : ms.length ≤ dc) (hx : uE e = 0) (hv : dOk ms = true) (hk : (dM ms).k = 1) (hn : (dM ms).n = e.se + 1) (hl : (e.ss.length : Int) = e.cr) : Calls Try.prog 79 #[.agg (UEV e A c B d), .slice D ms.length dc] W (RcvRP e ms W) := by
  have HC := Lib.hid (show rcvE e ms = 66 by unfold rcvE; rw [if_pos hx, if_pos hv, if_pos hk, if_pos hn, if_pos hl])
  have hbd := uV_bd (uE_ne hx).1
  have hsw : IntKind.i64.wrap (e.se + 1) = e.se + 1 := by rw [IntKind.wrap_i64]; omega
  have d1 : ((dM ms).n != e.se + 1) = false := nf hn
  have d2 : decide (e.cr ≤ (e.ss.length : Int)) = true := dt (by omega)
  clear hn hbd hl
  have HE := Lib.hid hx
  have HV := Lib.hid hv
  have dk : ((dM ms).k == 1) = true := et hk
  clear hx hv hk
  have hB1 := (((Below.refl W.heap.size W).alloc (Nat.le_refl _) (.cells (UEV e A c B d) 112)).alloc (by simp) (.cells ZU 112)).alloc (by simp; omega) (.cells ZRm 97)
  have r1 := ((Row.born W 112 (UEV e A c B d)).alloc (.cells ZU 112)).alloc (.cells ZRm 97)
  have r2 : Row (((W.alloc (.cells (UEV e A c B d) 112)).alloc (.cells ZU 112)).alloc (.cells ZRm 97)) (W.heap.size + 1) 112 ZU := (Row.bornAt' (w := W.alloc (.cells (UEV e A c B d) 112)) (by simp) 112 ZU).alloc (.cells ZRm 97)
  have r3 : Row (((W.alloc (.cells (UEV e A c B d) 112)).alloc (.cells ZU 112)).alloc (.cells ZRm 97)) (W.heap.size + 2) 97 ZRm := Row.bornAt' (w := (W.alloc (.cells (UEV e A c B d) 112)).alloc (.cells ZU 112)) (by simp) 97 ZRm
  have hH1 := hH.below hB1
  have hal := hH.al
  have hbl := hH.bl
  go_enter Try.func79, Try.ntmps79
  go_upto_region 1 with (fail)
  change Code.wp _ _ _ _ (((W.alloc (.cells (UEV e A c B d) 112)).alloc (.cells ZU 112)).alloc (.cells ZRm 97))
  generalize (((W.alloc (.cells (UEV e A c B d) 112)).alloc (.cells ZU 112)).alloc (.cells ZRm 97)) = w1 at *
  have hl1 := r1.lt
  have hl2 := r2.lt
  have hl3 := r3.lt
  go_upto_region 4 with (first | ((with_reducible refine wp_load_g ?_ r1.range Try.underlying112 rfl (uev_info _ _ _ _ _) ?_ ?_); rfl; rfl) | (go_at_call 124; (with_reducible refine (usable_is HE.out hH1).mono ?_); rintro en w2 ⟨rfl, hb2⟩; have r1 := r1.below hb2 hl1; have r2 := r2.below hb2 hl2; have r3 := r3.below hb2 hl3; have hB2 := hB1.trans (hb2.mono hB1.size); have hl1 := r1.lt; have hl2 := r2.lt; have hl3 := r3.lt))
  have hD2 := hD.below hB2
  go_upto_region 5 with (first | (go_at_call 85; (with_reducible refine (decR_y HV.out hD2 hDn hDc).mono ?_); rintro en w4 ⟨A4, c4, rfl, ho4, hb4⟩) | ((with_reducible refine wp_row_store (L := RMV (dM ms) A4 c4) (Row.bornAt' (g := w4.heap.size) rfl 97 _) ?_ (rmv_info _ _ _) (rmv_one _ _ _) ?_ ?_ ?_); rfl; rfl; rfl; intro w5 u5 r8))
  have hal5 := Upd.below ((Below.refl w4.heap.size w4).alloc (Nat.le_refl _) (.cells ZRm 97)) u5 (Nat.le_refl _)
  have hb5 := hb4.trans (hal5.mono hb4.size)
  have r1 := r1.below hb5 hl1
  have r2 := r2.below hb5 hl2
  have r3 := r3.below hb5 hl3
  have hB5 := hB2.trans (hb5.mono hB2.size)
  have hm5 := (ho4.below hal5).lower hB2.size
  have hg8 : W.heap.size + 3 ≤ w4.heap.size := by have := hb4.size; omega
  clear u5 ho4 hb4 hal5 hb5 hD2 hB2 hb2 hl1 hl2 hl3 hB1 hH1
  generalize w4.heap.size = g8 at *
  have hl1 := r1.lt
  have hl2 := r2.lt
  have hl3 := r3.lt
  have hl8 := r8.lt
  have hH5 := hH.below hB5
  go_upto_region 8 with (first | ((with_reducible refine wp_load_g ?_ r1.range Try.underlying112 rfl (uev_info _ _ _ _ _) ?_ ?_); rfl; rfl) | (go_at_call 70; (with_reducible refine (copyU e A B c d _ hH5).mono ?_); rintro en w6 ⟨A6, c6, B6, d6, rfl, ho6, hb6⟩) | ((with_reducible refine wp_row_store (L := UEV e A6 c6 B6 d6) (Row.bornAt' (g := w6.heap.size) rfl 112 _) ?_ (uev_info _ _ _ _ _) (uev_one _ _ _ _ _) ?_ ?_ ?_); rfl; rfl; rfl; intro w7 u7 r10))
  have hal7 := Upd.below ((Below.refl w6.heap.size w6).alloc (Nat.le_refl _) (.cells ZU 112)) u7 (Nat.le_refl _)
  have hb7 := hb6.trans (hal7.mono hb6.size)
  have r1 := r1.below hb7 hl1
  have r2 := r2.below hb7 hl2
  have r3 := r3.below hb7 hl3
  have r8 := r8.below hb7 hl8
  have hm7 := hm5.below hb7
  have ho7 := ho6.below hal7
  have hB7 := hB5.trans (hb7.mono hB5.size)
  have hg10 : g8 < w6.heap.size := Nat.lt_of_lt_of_le hl8 hb6.size
  have hW5 : W.heap.size ≤ w5.heap.size := hB5.size
  have hs75 : w5.heap.size ≤ w7.heap.size := hb7.size
  clear u7 ho6 hb6 hal7 hb7 hm5 hB5 hH5 hl1 hl2 hl3 hl8
  generalize w6.heap.size = g10 at *
  generalize w5.heap.size = b5 at *
  have m0 : w7.cell? ⟨g8, 0, none⟩ = some (.int .i64 (dM ms).k) := r8.cell 0
  have m1 : w7.cell? ⟨g8, 1, none⟩ = some (.int .i64 (dM ms).n) := r8.cell 1
  have q0 : w7.cell? ⟨W.heap.size, 0, none⟩ = some (.int .i64 e.cr) := r1.cell 0
  have q2 : w7.cell? ⟨W.heap.size, 2, none⟩ = some (.int .i64 e.se) := r1.cell 2
  have q4 : w7.cell? ⟨W.heap.size, 4, none⟩ = some (.slice B e.ss.length d) := r1.cell 4
  clear m0
  have m0 : w7.cell? ⟨g8, 0, none⟩ = some (.int .i64 (dM ms).k) := r8.cell 0
  go_wp2_with (first | ((with_reducible refine wp_row_store (L := ZU) r2 rfl zu_info zu_one ?_ ?_ ?_); rfl; rfl; intro w9 u9 r9; have r3 := r3.upd u9 (by omega)) | ((with_reducible refine wp_row_store (L := ZRm) r3 rfl zrm_info zrm_one ?_ ?_ ?_); rfl; rfl; intro wa ua ra; have r9 := r9.upd ua (by omega)))
  refine bodyPost_ret (results_cc1 rfl rfl rfl r9 ra Try.underlying112 Try.underlying97 rfl rfl zu_info zrm_info) rfl ?_
  exact rcvR_mk HC.out (by omega) (Upd.below (Upd.below hB7 u9 (by omega)) ua (by omega))
set_option maxRecDepth 100000 in
set_option maxHeartbeats 8000000 in
theorem rcvR_p1 (e : UE) (A B : Option Addr) (c d : Nat) (D : Option Addr) (dc : Nat) (ms : List UInt8) (W : World) (hH : HeldU W e A c B d) (hD : IsB W D ms.length ms) (hDn : ms.length ≤ 1000000) (hDc : ms.length ≤ dc) (hx : uE e = 0) (hv : dOk ms = true) (hk : (dM ms).k ≠ 1) (hn : (dM ms).n ∉ e.cs) : Calls Try.prog 79 #[.agg (UEV e A c B d), .slice D ms.length dc] W (RcvRP e ms W) := by
  have HC := Lib.hid (show rcvE e ms = 66 by unfold rcvE; rw [if_pos hx, if_pos hv, if_neg hk, if_neg hn])
  have HX := Lib.hid hn
  clear hn
  have HE := Lib.hid hx
  have HV := Lib.hid hv
  have dk : ((dM ms).k == 1) = false := ef hk
  clear hx hv hk
  have hB1 := (((Below.refl W.heap.size W).alloc (Nat.le_refl _) (.cells (UEV e A c B d) 112)).alloc (by simp) (.cells ZU 112)).alloc (by simp; omega) (.cells ZRm 97)
  have r1 := ((Row.born W 112 (UEV e A c B d)).alloc (.cells ZU 112)).alloc (.cells ZRm 97)
  have r2 : Row (((W.alloc (.cells (UEV e A c B d) 112)).alloc (.cells ZU 112)).alloc (.cells ZRm 97)) (W.heap.size + 1) 112 ZU := (Row.bornAt' (w := W.alloc (.cells (UEV e A c B d) 112)) (by simp) 112 ZU).alloc (.cells ZRm 97)
  have r3 : Row (((W.alloc (.cells (UEV e A c B d) 112)).alloc (.cells ZU 112)).alloc (.cells ZRm 97)) (W.heap.size + 2) 97 ZRm := Row.bornAt' (w := (W.alloc (.cells (UEV e A c B d) 112)).alloc (.cells ZU 112)) (by simp) 97 ZRm
  have hH1 := hH.below hB1
  have hal := hH.al
  have hbl := hH.bl
  go_enter Try.func79, Try.ntmps79
  go_upto_region 1 with (fail)
  change Code.wp _ _ _ _ (((W.alloc (.cells (UEV e A c B d) 112)).alloc (.cells ZU 112)).alloc (.cells ZRm 97))
  generalize (((W.alloc (.cells (UEV e A c B d) 112)).alloc (.cells ZU 112)).alloc (.cells ZRm 97)) = w1 at *
  have hl1 := r1.lt
  have hl2 := r2.lt
  have hl3 := r3.lt
  go_upto_region 4 with (first | ((with_reducible refine wp_load_g ?_ r1.range Try.underlying112 rfl (uev_info _ _ _ _ _) ?_ ?_); rfl; rfl) | (go_at_call 124; (with_reducible refine (usable_is HE.out hH1).mono ?_); rintro en w2 ⟨rfl, hb2⟩; have r1 := r1.below hb2 hl1; have r2 := r2.below hb2 hl2; have r3 := r3.below hb2 hl3; have hB2 := hB1.trans (hb2.mono hB1.size); have hl1 := r1.lt; have hl2 := r2.lt; have hl3 := r3.lt))
  have hD2 := hD.below hB2
  go_upto_region 5 with (first | (go_at_call 85; (with_reducible refine (decR_y HV.out hD2 hDn hDc).mono ?_); rintro en w4 ⟨A4, c4, rfl, ho4, hb4⟩) | ((with_reducible refine wp_row_store (L := RMV (dM ms) A4 c4) (Row.bornAt' (g := w4.heap.size) rfl 97 _) ?_ (rmv_info _ _ _) (rmv_one _ _ _) ?_ ?_ ?_); rfl; rfl; rfl; intro w5 u5 r8))
  have hal5 := Upd.below ((Below.refl w4.heap.size w4).alloc (Nat.le_refl _) (.cells ZRm 97)) u5 (Nat.le_refl _)
  have hb5 := hb4.trans (hal5.mono hb4.size)
  have r1 := r1.below hb5 hl1
  have r2 := r2.below hb5 hl2
  have r3 := r3.below hb5 hl3
  have hB5 := hB2.trans (hb5.mono hB2.size)
  have hm5 := (ho4.below hal5).lower hB2.size
  have hg8 : W.heap.size + 3 ≤ w4.heap.size := by have := hb4.size; omega
  clear u5 ho4 hb4 hal5 hb5 hD2 hB2 hb2 hl1 hl2 hl3 hB1 hH1
  generalize w4.heap.size = g8 at *
  have hl1 := r1.lt
  have hl2 := r2.lt
  have hl3 := r3.lt
  have hl8 := r8.lt
  have hH5 := hH.below hB5
  go_upto_region 8 with (first | ((with_reducible refine wp_load_g ?_ r1.range Try.underlying112 rfl (uev_info _ _ _ _ _) ?_ ?_); rfl; rfl) | (go_at_call 70; (with_reducible refine (copyU e A B c d _ hH5).mono ?_); rintro en w6 ⟨A6, c6, B6, d6, rfl, ho6, hb6⟩) | ((with_reducible refine wp_row_store (L := UEV e A6 c6 B6 d6) (Row.bornAt' (g := w6.heap.size) rfl 112 _) ?_ (uev_info _ _ _ _ _) (uev_one _ _ _ _ _) ?_ ?_ ?_); rfl; rfl; rfl; intro w7 u7 r10))
  have hal7 := Upd.below ((Below.refl w6.heap.size w6).alloc (Nat.le_refl _) (.cells ZU 112)) u7 (Nat.le_refl _)
  have hb7 := hb6.trans (hal7.mono hb6.size)
  have r1 := r1.below hb7 hl1
  have r2 := r2.below hb7 hl2
  have r3 := r3.below hb7 hl3
  have r8 := r8.below hb7 hl8
  have hm7 := hm5.below hb7
  have ho7 := ho6.below hal7
  have hB7 := hB5.trans (hb7.mono hB5.size)
  have hg10 : g8 < w6.heap.size := Nat.lt_of_lt_of_le hl8 hb6.size
  have hW5 : W.heap.size ≤ w5.heap.size := hB5.size
  have hs75 : w5.heap.size ≤ w7.heap.size := hb7.size
  clear u7 ho6 hb6 hal7 hb7 hm5 hB5 hH5 hl1 hl2 hl3 hl8
  generalize w6.heap.size = g10 at *
  generalize w5.heap.size = b5 at *
  have m0 : w7.cell? ⟨g8, 0, none⟩ = some (.int .i64 (dM ms).k) := r8.cell 0
  have m1 : w7.cell? ⟨g8, 1, none⟩ = some (.int .i64 (dM ms).n) := r8.cell 1
  have q3 : w7.cell? ⟨g10, 3, none⟩ = some (.slice A6 e.cs.length c6) := r10.cell 3
  have hcp := OwnN.capU ho7.a
  have hl2 := r2.lt
  have hl3 := r3.lt
  go_wp2_with (first | (go_at_call 127; (with_reducible refine (drop_no HX.out ho7.a.isB (by omega) hcp).mono ?_); rintro en w8 ⟨rfl, hb8⟩; have r2 := r2.below hb8 hl2; have r3 := r3.below hb8 hl3; have hB8 := hB7.trans (hb8.mono hB7.size)) | ((with_reducible refine wp_row_store (L := ZU) r2 rfl zu_info zu_one ?_ ?_ ?_); rfl; rfl; intro w9 u9 r9; have r3 := r3.upd u9 (by omega)) | ((with_reducible refine wp_row_store (L := ZRm) r3 rfl zrm_info zrm_one ?_ ?_ ?_); rfl; rfl; intro wa ua ra; have r9 := r9.upd ua (by omega)))
  refine bodyPost_ret (results_cc1 rfl rfl rfl r9 ra Try.underlying112 Try.underlying97 rfl rfl zu_info zrm_info) rfl ?_
  exact rcvR_mk HC.out (by omega) (Upd.below (Upd.below hB8 u9 (by omega)) ua (by omega))
set_option maxRecDepth 100000 in
set_option maxHeartbeats 8000000 in
theorem rcvR_p2 (e : UE) (A B : Option Addr) (c d : Nat) (D : Option Addr) (dc : Nat) (ms : List UInt8) (W : World) (hH : HeldU W e A c B d) (hD : IsB W D ms.length ms) (hDn : ms.length ≤ 1000000) (hDc : ms.length ≤ dc) (hx : uE e = 0) (hv : dOk ms = true) (hk : (dM ms).k ≠ 1) (hn : (dM ms).n ∈ e.cs) : Calls Try.prog 79 #[.agg (UEV e A c B d), .slice D ms.length dc] W (RcvRP e ms W) := by
  have HC := Lib.hid (show rcvE e ms = 0 by unfold rcvE; rw [if_pos hx, if_pos hv, if_neg hk, if_pos hn])
  have HX := Lib.hid hn
  have HU := Lib.hid (show rcvU e ms = { e with cs := e.cs.eraseIdx (e.cs.idxOf (dM ms).n) } by unfold rcvU; rw [if_neg hk])
  have HLM := Lib.hid (show (e.cs.eraseIdx (e.cs.idxOf (dM ms).n)).length = e.cs.length - 1 by rw [List.length_eraseIdx, if_pos (List.idxOf_lt_length_of_mem hn)])
  clear hn
  have HE := Lib.hid hx
  have HV := Lib.hid hv
  have dk : ((dM ms).k == 1) = false := ef hk
  clear hx hv hk
  have hB1 := (((Below.refl W.heap.size W).alloc (Nat.le_refl _) (.cells (UEV e A c B d) 112)).alloc (by simp) (.cells ZU 112)).alloc (by simp; omega) (.cells ZRm 97)
  have r1 := ((Row.born W 112 (UEV e A c B d)).alloc (.cells ZU 112)).alloc (.cells ZRm 97)
  have r2 : Row (((W.alloc (.cells (UEV e A c B d) 112)).alloc (.cells ZU 112)).alloc (.cells ZRm 97)) (W.heap.size + 1) 112 ZU := (Row.bornAt' (w := W.alloc (.cells (UEV e A c B d) 112)) (by simp) 112 ZU).alloc (.cells ZRm 97)
  have r3 : Row (((W.alloc (.cells (UEV e A c B d) 112)).alloc (.cells ZU 112)).alloc (.cells ZRm 97)) (W.heap.size + 2) 97 ZRm := Row.bornAt' (w := (W.alloc (.cells (UEV e A c B d) 112)).alloc (.cells ZU 112)) (by simp) 97 ZRm
  have hH1 := hH.below hB1
  have hal := hH.al
  have hbl := hH.bl
  go_enter Try.func79, Try.ntmps79
  go_upto_region 1 with (fail)
  change Code.wp _ _ _ _ (((W.alloc (.cells (UEV e A c B d) 112)).alloc (.cells ZU 112)).alloc (.cells ZRm 97))
  generalize (((W.alloc (.cells (UEV e A c B d) 112)).alloc (.cells ZU 112)).alloc (.cells ZRm 97)) = w1 at *
  have hl1 := r1.lt
  have hl2 := r2.lt
  have hl3 := r3.lt
  go_upto_region 4 with (first | ((with_reducible refine wp_load_g ?_ r1.range Try.underlying112 rfl (uev_info _ _ _ _ _) ?_ ?_); rfl; rfl) | (go_at_call 124; (with_reducible refine (usable_is HE.out hH1).mono ?_); rintro en w2 ⟨rfl, hb2⟩; have r1 := r1.below hb2 hl1; have r2 := r2.below hb2 hl2; have r3 := r3.below hb2 hl3; have hB2 := hB1.trans (hb2.mono hB1.size); have hl1 := r1.lt; have hl2 := r2.lt; have hl3 := r3.lt))
  have hD2 := hD.below hB2
  go_upto_region 5 with (first | (go_at_call 85; (with_reducible refine (decR_y HV.out hD2 hDn hDc).mono ?_); rintro en w4 ⟨A4, c4, rfl, ho4, hb4⟩) | ((with_reducible refine wp_row_store (L := RMV (dM ms) A4 c4) (Row.bornAt' (g := w4.heap.size) rfl 97 _) ?_ (rmv_info _ _ _) (rmv_one _ _ _) ?_ ?_ ?_); rfl; rfl; rfl; intro w5 u5 r8))
  have hal5 := Upd.below ((Below.refl w4.heap.size w4).alloc (Nat.le_refl _) (.cells ZRm 97)) u5 (Nat.le_refl _)
  have hb5 := hb4.trans (hal5.mono hb4.size)
  have r1 := r1.below hb5 hl1
  have r2 := r2.below hb5 hl2
  have r3 := r3.below hb5 hl3
  have hB5 := hB2.trans (hb5.mono hB2.size)
  have hm5 := (ho4.below hal5).lower hB2.size
  have hg8 : W.heap.size + 3 ≤ w4.heap.size := by have := hb4.size; omega
  clear u5 ho4 hb4 hal5 hb5 hD2 hB2 hb2 hl1 hl2 hl3 hB1 hH1
  generalize w4.heap.size = g8 at *
  have hl1 := r1.lt
  have hl2 := r2.lt
  have hl3 := r3.lt
  have hl8 := r8.lt
  have hH5 := hH.below hB5
  go_upto_region 8 with (first | ((with_reducible refine wp_load_g ?_ r1.range Try.underlying112 rfl (uev_info _ _ _ _ _) ?_ ?_); rfl; rfl) | (go_at_call 70; (with_reducible refine (copyU e A B c d _ hH5).mono ?_); rintro en w6 ⟨A6, c6, B6, d6, rfl, ho6, hb6⟩) | ((with_reducible refine wp_row_store (L := UEV e A6 c6 B6 d6) (Row.bornAt' (g := w6.heap.size) rfl 112 _) ?_ (uev_info _ _ _ _ _) (uev_one _ _ _ _ _) ?_ ?_ ?_); rfl; rfl; rfl; intro w7 u7 r10))
  have hal7 := Upd.below ((Below.refl w6.heap.size w6).alloc (Nat.le_refl _) (.cells ZU 112)) u7 (Nat.le_refl _)
  have hb7 := hb6.trans (hal7.mono hb6.size)
  have r1 := r1.below hb7 hl1
  have r2 := r2.below hb7 hl2
  have r3 := r3.below hb7 hl3
  have r8 := r8.below hb7 hl8
  have hm7 := hm5.below hb7
  have ho7 := ho6.below hal7
  have hB7 := hB5.trans (hb7.mono hB5.size)
  have hg10 : g8 < w6.heap.size := Nat.lt_of_lt_of_le hl8 hb6.size
  have hW5 : W.heap.size ≤ w5.heap.size := hB5.size
  have hs75 : w5.heap.size ≤ w7.heap.size := hb7.size
  clear u7 ho6 hb6 hal7 hb7 hm5 hB5 hH5 hl1 hl2 hl3 hl8
  generalize w6.heap.size = g10 at *
  generalize w5.heap.size = b5 at *
  have m0 : w7.cell? ⟨g8, 0, none⟩ = some (.int .i64 (dM ms).k) := r8.cell 0
  have m1 : w7.cell? ⟨g8, 1, none⟩ = some (.int .i64 (dM ms).n) := r8.cell 1
  have q3 : w7.cell? ⟨g10, 3, none⟩ = some (.slice A6 e.cs.length c6) := r10.cell 3
  have hcp := OwnN.capU ho7.a
  have hl1 := r1.lt
  have hl2 := r2.lt
  have hl3 := r3.lt
  have hl8 := r8.lt
  have hl10 := r10.lt
  go_upto_region 17 with (go_at_call 127; (with_reducible refine (drop_y HX.out ho7.a.isB (by omega) hcp).mono ?_); rintro en w8 ⟨A9, c9, rfl, ho9, hb8⟩)
  have r2 := r2.below hb8 hl2
  have r3 := r3.below hb8 hl3
  have r8 := r8.below hb8 hl8
  have r10 := r10.below hb8 hl10
  have hB8 := hB7.trans (hb8.mono hB7.size)
  have hm8 := hm7.below hb8
  have hob8 := (ho7.b.lower hW5).below hb8
  have ho9 := ho9.lower hB7.size
  have q3 : w8.cell? ⟨g10, 3, none⟩ = some (.slice A6 e.cs.length c6) := r10.cell 3
  have f3 := r10.frozen 3
  go_upto_region 18 with (fail)
  have ua := Upd.setCell w8 g10 3 (.slice A9 (e.cs.length - 1) c9)
  have ra := r10.set 3 (.slice A9 (e.cs.length - 1) c9)
  have ea : (UEV e A6 c6 B6 d6).setIfInBounds 3 (.slice A9 (e.cs.length - 1) c9) = UEV { e with cs := e.cs.eraseIdx (e.cs.idxOf (dM ms).n) } A9 c9 B6 d6 := by simp [UEV, HLM.out]
  rw [ea] at ra
  have kpa := Keeps.upd (ts := [112]) ua r10 (by simp)
  have hml := hm8.keeps kpa (by decide)
  have holb := hob8.keeps kpa (by decide)
  have hola := ho9.keeps kpa (by decide)
  have r2 := r2.upd ua (by omega)
  have r3 := r3.upd ua (by omega)
  have r8 := r8.upd ua (by omega)
  have hBl := Upd.below hB8 ua (by omega)
  clear q3 f3 ea kpa hm8 hob8 ho9 ho7 hm7 hB7 hb8 ua hB8 r1 m0 m1 hcp
  have r10 := ra
  clear ra
  generalize w8.setCell ⟨g10, 3, none⟩ (.slice A9 (e.cs.length - 1) c9) = wa at *
  have r2 : Row wa.drew (W.heap.size + 1) 112 ZU := r2
  have r3 : Row wa.drew (W.heap.size + 2) 97 ZRm := r3
  have r8 : Row wa.drew g8 97 (RMV (dM ms) A4 c4) := r8
  have r10 : Row wa.drew g10 112 (UEV { e with cs := e.cs.eraseIdx (e.cs.idxOf (dM ms).n) } A9 c9 B6 d6) := r10
  have hBz := hBl.drew
  have hmz := hml.below ((Below.refl _ _).drew)
  have hoa := hola.below ((Below.refl _ _).drew)
  have hob := holb.below ((Below.refl _ _).drew)
  refine wp_region_late (n := 79) [2, 3] (fun kst us w' => Below W.heap.size W w' ∧ Row w' g10 112 (UEV { e with cs := e.cs.eraseIdx (e.cs.idxOf (dM ms).n) } A9 c9 B6 d6) ∧ Row w' g8 97 (RMV (dM ms) A4 c4) ∧ (kst = 0 → Row w' (W.heap.size + 1) 112 ZU) ∧ (1 ≤ kst → Row w' (W.heap.size + 1) 112 (UEV { e with cs := e.cs.eraseIdx (e.cs.idxOf (dM ms).n) } A9 c9 B6 d6)) ∧ (kst ≤ 1 → Row w' (W.heap.size + 2) 97 ZRm) ∧ (2 ≤ kst → Row w' (W.heap.size + 2) 97 (RMV (dM ms) A4 c4)) ∧ Keeps [112, 97] wa.drew w') (fun _ _ => True) (by kernel_rfl) (by kernel_rfl) (by rfl) (fun _ _ _ _ _ h => h) ⟨hBz, r10, r8, fun _ => r2, fun h => by omega, fun _ => r3, fun h => by omega, Keeps.refl _ _⟩ ?_
  refine late_pure (by simp) (fun w => trivial) (v := .agg (UEV { e with cs := e.cs.eraseIdx (e.cs.idxOf (dM ms).n) } A9 c9 B6 d6)) (fun _ => rfl) ?_ ?_; (focus (intro c9 us w9 hm9 hS9 hF; exact exec_load_g hS9.2.1.range Try.underlying112 rfl (uev_info _ _ _ _ _) rfl)); simp only [Act.put, List.setIfInBounds_toArray, List.set_cons_zero, List.set_cons_succ, Nat.reduceAdd]
  refine late_pure (by simp) (fun w => trivial) (v := .agg (RMV (dM ms) A4 c4)) (fun _ => rfl) ?_ ?_; (focus (intro c9 us w9 hm9 hS9 hF; exact exec_load_g hS9.2.2.1.range Try.underlying97 rfl (rmv_info _ _ _) rfl)); simp only [Act.put, List.setIfInBounds_toArray, List.set_cons_zero, List.set_cons_succ, Nat.reduceAdd]
  refine late_store rfl ?_ ?_; (focus (intro us w9 hS9 hF K hK; clear hF; obtain ⟨s1, s2, s3, s4, -, s6, -, s8⟩ := hS9; rw [if_pos (by rfl)]; exact step_put (L := UEV { e with cs := e.cs.eraseIdx (e.cs.idxOf (dM ms).n) } A9 c9 B6 d6) (s4 rfl) rfl (uev_info _ _ _ _ _) (uev_one _ _ _ _ _) rfl rfl (fun w9 u9 r9 => hK w9 ⟨Upd.below s1 u9 (by omega), s2.upd u9 (by omega), s3.upd u9 (by omega), fun h => by omega, fun _ => r9, fun _ => (s6 (by omega)).upd u9 (by omega), fun h => by omega, s8.trans (Keeps.upd (ts := [112, 97]) u9 (s4 rfl) (by simp))⟩ trivial))); (try simp only [Nat.reduceAdd])
  refine late_store rfl ?_ ?_; (focus (intro us w9 hS9 hF K hK; clear hF; obtain ⟨s1, s2, s3, -, s5, s6, -, s8⟩ := hS9; rw [if_pos (by rfl)]; exact step_put (L := RMV (dM ms) A4 c4) (s6 (by omega)) rfl (rmv_info _ _ _) (rmv_one _ _ _) rfl rfl (fun w9 u9 r9 => hK w9 ⟨Upd.below s1 u9 (by omega), s2.upd u9 (by omega), s3.upd u9 (by omega), fun h => by omega, fun _ => (s5 (by omega)).upd u9 (by omega), fun h => by omega, fun _ => r9, s8.trans (Keeps.upd (ts := [112, 97]) u9 (s6 (by omega)) (by simp))⟩ trivial))); (try simp only [Nat.reduceAdd])
  refine late_pure (by simp) (fun w => trivial) (v := ?_) (fun _ => rfl) ?_ ?_; rotate_left; (focus (intro c9 us w9 hm9 hS9 hF; clear hF hm9 hS9; go_simp; (try with_reducible rfl); done)); simp only [Act.put, List.setIfInBounds_toArray, List.set_cons_zero, List.set_cons_succ, Nat.reduceAdd]
  refine late_done fun us wz hSz hF => ?_
  obtain ⟨z1, -, -, -, z5, -, z7, z8⟩ := hSz
  have z5 := z5 (by omega)
  have z7 := z7 (by omega)
  clear hF
  go_wp2
  refine bodyPost_ret (results_cc1 rfl rfl rfl z5 z7 Try.underlying112 Try.underlying97 rfl rfl (uev_info _ _ _ _ _) (rmv_info _ _ _)) rfl ?_
  refine ⟨z1, .inr ⟨HC.out, A9, c9, B6, d6, A4, c4, ?_, ?_, (hmz.keeps z8 (by decide)).isB⟩⟩
  · rw [HU.out]; rfl
  · rw [HU.out]
    exact ⟨(by have h9 := hoa.keeps z8 (by decide); rw [← HLM.out] at h9; exact h9), hob.keeps z8 (by decide), by show (e.cs.eraseIdx _).length ≤ 1000; rw [HLM.out]; omega, hbl⟩
set_option maxRecDepth 100000 in
set_option maxHeartbeats 8000000 in
theorem rcvR_q3 (e : UE) (A B : Option Addr) (c d : Nat) (D : Option Addr) (dc : Nat) (ms : List UInt8) (W : World) (hH : HeldU W e A c B d) (hD : IsB W D ms.length ms) (hDn : ms.length ≤ 1000000) (hDc : ms.length ≤ dc) (hx : uE e = 0) (hv : dOk ms = true) (hk : (dM ms).k = 1) (hn : (dM ms).n = e.se + 1) (hl : (e.ss.length : Int) ≠ e.cr) : Calls Try.prog 79 #[.agg (UEV e A c B d), .slice D ms.length dc] W (RcvRP e ms W) := by
  have HC := Lib.hid (show rcvE e ms = 0 by unfold rcvE; rw [if_pos hx, if_pos hv, if_pos hk, if_pos hn, if_neg hl])
  have HU := Lib.hid (show rcvU e ms = { e with se := (dM ms).n, ss := e.ss ++ [(dM ms).n] } by unfold rcvU; rw [if_pos hk])
  have hbd := uV_bd (uE_ne hx).1
  have hsw : IntKind.i64.wrap (e.se + 1) = e.se + 1 := by rw [IntKind.wrap_i64]; omega
  have d1 : ((dM ms).n != e.se + 1) = false := nf hn
  have d2 : decide (e.cr ≤ (e.ss.length : Int)) = false := df (by omega)
  have hssl : e.ss.length ≤ 16 := by omega
  clear hn hl hbd
  have HE := Lib.hid hx
  have HV := Lib.hid hv
  have dk : ((dM ms).k == 1) = true := et hk
  clear hx hv hk
  have hB1 := (((Below.refl W.heap.size W).alloc (Nat.le_refl _) (.cells (UEV e A c B d) 112)).alloc (by simp) (.cells ZU 112)).alloc (by simp; omega) (.cells ZRm 97)
  have r1 := ((Row.born W 112 (UEV e A c B d)).alloc (.cells ZU 112)).alloc (.cells ZRm 97)
  have r2 : Row (((W.alloc (.cells (UEV e A c B d) 112)).alloc (.cells ZU 112)).alloc (.cells ZRm 97)) (W.heap.size + 1) 112 ZU := (Row.bornAt' (w := W.alloc (.cells (UEV e A c B d) 112)) (by simp) 112 ZU).alloc (.cells ZRm 97)
  have r3 : Row (((W.alloc (.cells (UEV e A c B d) 112)).alloc (.cells ZU 112)).alloc (.cells ZRm 97)) (W.heap.size + 2) 97 ZRm := Row.bornAt' (w := (W.alloc (.cells (UEV e A c B d) 112)).alloc (.cells ZU 112)) (by simp) 97 ZRm
  have hH1 := hH.below hB1
  have hal := hH.al
  have hbl := hH.bl
  go_enter Try.func79, Try.ntmps79
  go_upto_region 1 with (fail)
  change Code.wp _ _ _ _ (((W.alloc (.cells (UEV e A c B d) 112)).alloc (.cells ZU 112)).alloc (.cells ZRm 97))
  generalize (((W.alloc (.cells (UEV e A c B d) 112)).alloc (.cells ZU 112)).alloc (.cells ZRm 97)) = w1 at *
  have hl1 := r1.lt
  have hl2 := r2.lt
  have hl3 := r3.lt
  go_upto_region 4 with (first | ((with_reducible refine wp_load_g ?_ r1.range Try.underlying112 rfl (uev_info _ _ _ _ _) ?_ ?_); rfl; rfl) | (go_at_call 124; (with_reducible refine (usable_is HE.out hH1).mono ?_); rintro en w2 ⟨rfl, hb2⟩; have r1 := r1.below hb2 hl1; have r2 := r2.below hb2 hl2; have r3 := r3.below hb2 hl3; have hB2 := hB1.trans (hb2.mono hB1.size); have hl1 := r1.lt; have hl2 := r2.lt; have hl3 := r3.lt))
  have hD2 := hD.below hB2
  go_upto_region 5 with (first | (go_at_call 85; (with_reducible refine (decR_y HV.out hD2 hDn hDc).mono ?_); rintro en w4 ⟨A4, c4, rfl, ho4, hb4⟩) | ((with_reducible refine wp_row_store (L := RMV (dM ms) A4 c4) (Row.bornAt' (g := w4.heap.size) rfl 97 _) ?_ (rmv_info _ _ _) (rmv_one _ _ _) ?_ ?_ ?_); rfl; rfl; rfl; intro w5 u5 r8))
  have hal5 := Upd.below ((Below.refl w4.heap.size w4).alloc (Nat.le_refl _) (.cells ZRm 97)) u5 (Nat.le_refl _)
  have hb5 := hb4.trans (hal5.mono hb4.size)
  have r1 := r1.below hb5 hl1
  have r2 := r2.below hb5 hl2
  have r3 := r3.below hb5 hl3
  have hB5 := hB2.trans (hb5.mono hB2.size)
  have hm5 := (ho4.below hal5).lower hB2.size
  have hg8 : W.heap.size + 3 ≤ w4.heap.size := by have := hb4.size; omega
  clear u5 ho4 hb4 hal5 hb5 hD2 hB2 hb2 hl1 hl2 hl3 hB1 hH1
  generalize w4.heap.size = g8 at *
  have hl1 := r1.lt
  have hl2 := r2.lt
  have hl3 := r3.lt
  have hl8 := r8.lt
  have hH5 := hH.below hB5
  go_upto_region 8 with (first | ((with_reducible refine wp_load_g ?_ r1.range Try.underlying112 rfl (uev_info _ _ _ _ _) ?_ ?_); rfl; rfl) | (go_at_call 70; (with_reducible refine (copyU e A B c d _ hH5).mono ?_); rintro en w6 ⟨A6, c6, B6, d6, rfl, ho6, hb6⟩) | ((with_reducible refine wp_row_store (L := UEV e A6 c6 B6 d6) (Row.bornAt' (g := w6.heap.size) rfl 112 _) ?_ (uev_info _ _ _ _ _) (uev_one _ _ _ _ _) ?_ ?_ ?_); rfl; rfl; rfl; intro w7 u7 r10))
  have hal7 := Upd.below ((Below.refl w6.heap.size w6).alloc (Nat.le_refl _) (.cells ZU 112)) u7 (Nat.le_refl _)
  have hb7 := hb6.trans (hal7.mono hb6.size)
  have r1 := r1.below hb7 hl1
  have r2 := r2.below hb7 hl2
  have r3 := r3.below hb7 hl3
  have r8 := r8.below hb7 hl8
  have hm7 := hm5.below hb7
  have ho7 := ho6.below hal7
  have hB7 := hB5.trans (hb7.mono hB5.size)
  have hg10 : g8 < w6.heap.size := Nat.lt_of_lt_of_le hl8 hb6.size
  have hW5 : W.heap.size ≤ w5.heap.size := hB5.size
  have hs75 : w5.heap.size ≤ w7.heap.size := hb7.size
  clear u7 ho6 hb6 hal7 hb7 hm5 hB5 hH5 hl1 hl2 hl3 hl8
  generalize w6.heap.size = g10 at *
  generalize w5.heap.size = b5 at *
  have m0 : w7.cell? ⟨g8, 0, none⟩ = some (.int .i64 (dM ms).k) := r8.cell 0
  have m1 : w7.cell? ⟨g8, 1, none⟩ = some (.int .i64 (dM ms).n) := r8.cell 1
  have q0 : w7.cell? ⟨W.heap.size, 0, none⟩ = some (.int .i64 e.cr) := r1.cell 0
  have q2 : w7.cell? ⟨W.heap.size, 2, none⟩ = some (.int .i64 e.se) := r1.cell 2
  have q4 : w7.cell? ⟨W.heap.size, 4, none⟩ = some (.slice B e.ss.length d) := r1.cell 4
  have p2 : w7.cell? ⟨g10, 2, none⟩ = some (.int .i64 e.se) := r10.cell 2
  have p2f := r10.frozen 2
  go_upto_region 12 with (fail)
  have u8 := Upd.setCell w7 g10 2 (.int .i64 (dM ms).n)
  have r10' := r10.set 2 (.int .i64 (dM ms).n)
  have e7 : (UEV e A6 c6 B6 d6).setIfInBounds 2 (.int .i64 (dM ms).n) = UEV { e with se := (dM ms).n } A6 c6 B6 d6 := by simp [UEV]
  rw [e7] at r10'
  have k8 := Keeps.upd (ts := [112]) u8 r10 (by simp)
  have ho8 := ho7.keeps k8 (by decide)
  have hm8 := hm7.keeps k8 (by decide)
  have r2 := r2.upd u8 (by omega)
  have r3 := r3.upd u8 (by omega)
  have r8 := r8.upd u8 (by omega)
  have hB8 := Upd.below hB7 u8 (by omega)
  have hs8 : b5 ≤ (w7.setCell ⟨g10, 2, none⟩ (.int .i64 (dM ms).n)).heap.size := by rw [u8.size]; exact hs75
  clear e7 q0 q2 q4 p2 p2f r1 r10 ho7 hm7 hB7 k8 u8 m0 m1 hs75
  generalize w7.setCell ⟨g10, 2, none⟩ (.int .i64 (dM ms).n) = w8 at *
  have m1 : w8.cell? ⟨g8, 1, none⟩ = some (.int .i64 (dM ms).n) := r8.cell 1
  have p4 : w8.cell? ⟨g10, 4, none⟩ = some (.slice B6 e.ss.length d6) := r10'.cell 4
  have hal9 := (Below.refl w8.heap.size w8).alloc (Nat.le_refl _) (.cells #[.int .i64 (dM ms).n] 3)
  have hI9 : IsN (w8.alloc (.cells #[.int .i64 (dM ms).n] 3)) (some ⟨w8.heap.size, 0, none⟩) 1 [(dM ms).n] := IsN.of_row (bs := [(dM ms).n]) (Row.born w8 3 #[.int .i64 (dM ms).n])
  have ho9 := ho8.below hal9
  have hm9 := hm8.below hal9
  have r10 := r10'.below hal9 r10'.lt
  have r2 := r2.below hal9 r2.lt
  have r3 := r3.below hal9 r3.lt
  have r8 := r8.below hal9 r8.lt
  have hB9 := hB8.trans (hal9.mono hB8.size)
  have hs9 : b5 ≤ (w8.alloc (.cells #[.int .i64 (dM ms).n] 3)).heap.size := Nat.le_trans hs8 hal9.size
  have hlen : (e.ss.length + 1) * 8 ≤ 140737488355328 := by omega
  go_upto_region 13 with (at_builtin; (refine wp_append_n (P := Try.prog) rfl _ _ 52 rfl Try.underlying52 info_n ho9.b hI9 hlen hs9 rfl rfl ?_); intro Ab nb cb wb hnb hob hbb hgb hatb; have kpb := Keeps.grown (ts := [3]) hgb (fun k hk => OwnV.typed (size := 1) ho9.b k hk); have rb := kpb.row r10 (by decide); have p4 : wb.cell? ⟨g10, 4, none⟩ = some (.slice B6 e.ss.length d6) := rb.cell 4; have f4 := rb.frozen 4)
  have hBb := hB9.trans (hbb.mono hW5)
  have hoU := OwnU.appB (e' := { e with se := (dM ms).n, ss := e.ss ++ [(dM ms).n] }) ho9 hob hgb hatb (by rw [hnb.out]; simp) rfl rfl
  have hmb := hm9.keeps kpb (by decide)
  have r2 := kpb.row r2 (by decide)
  have r3 := kpb.row r3 (by decide)
  have r8 := kpb.row r8 (by decide)
  have uc := Upd.setCell wb g10 4 (.slice Ab nb cb)
  have rc := rb.set 4 (.slice Ab nb cb)
  have ec : (UEV { e with se := (dM ms).n } A6 c6 B6 d6).setIfInBounds 4 (.slice Ab nb cb) = UEV { e with se := (dM ms).n, ss := e.ss ++ [(dM ms).n] } A6 c6 Ab cb := by simp [UEV, hnb.out]
  rw [ec] at rc
  have kc := Keeps.upd (ts := [112]) uc rb (by simp)
  have hoU := hoU.keeps kc (by decide)
  have hml := hmb.keeps kc (by decide)
  have hBl := Upd.below hBb uc (by omega)
  have r2 := r2.upd uc (by omega)
  have r3 := r3.upd uc (by omega)
  have r8 := r8.upd uc (by omega)
  clear ec rb r10 ho9 hob hgb hatb hbb hI9 hal9 hB8 hB9 f4 p4 ho8 hs8 hs9 uc hnb m1 r10' hm8 hm9 hmb kc kpb hBb
  have r10 := rc
  clear rc
  generalize wb.setCell ⟨g10, 4, none⟩ (.slice Ab nb cb) = wc at *
  have hola := hoU.a.lower hW5
  have holb := hoU.b.lower hW5
  have r2 : Row wc.drew (W.heap.size + 1) 112 ZU := r2
  have r3 : Row wc.drew (W.heap.size + 2) 97 ZRm := r3
  have r8 : Row wc.drew g8 97 (RMV (dM ms) A4 c4) := r8
  have r10 : Row wc.drew g10 112 (UEV { e with se := (dM ms).n, ss := e.ss ++ [(dM ms).n] } A6 c6 Ab cb) := r10
  have hBz := hBl.drew
  have hmz := hml.below ((Below.refl _ _).drew)
  have hoa := hola.below ((Below.refl _ _).drew)
  have hob := holb.below ((Below.refl _ _).drew)
  refine wp_region_late (n := 79) [2, 3] (fun kst us w' => Below W.heap.size W w' ∧ Row w' g10 112 (UEV { e with se := (dM ms).n, ss := e.ss ++ [(dM ms).n] } A6 c6 Ab cb) ∧ Row w' g8 97 (RMV (dM ms) A4 c4) ∧ (kst = 0 → Row w' (W.heap.size + 1) 112 ZU) ∧ (1 ≤ kst → Row w' (W.heap.size + 1) 112 (UEV { e with se := (dM ms).n, ss := e.ss ++ [(dM ms).n] } A6 c6 Ab cb)) ∧ (kst ≤ 1 → Row w' (W.heap.size + 2) 97 ZRm) ∧ (2 ≤ kst → Row w' (W.heap.size + 2) 97 (RMV (dM ms) A4 c4)) ∧ Keeps [112, 97] wc.drew w') (fun _ _ => True) (by kernel_rfl) (by kernel_rfl) (by rfl) (fun _ _ _ _ _ h => h) ⟨hBz, r10, r8, fun _ => r2, fun h => by omega, fun _ => r3, fun h => by omega, Keeps.refl _ _⟩ ?_
  refine late_pure (by simp) (fun w => trivial) (v := .agg (UEV { e with se := (dM ms).n, ss := e.ss ++ [(dM ms).n] } A6 c6 Ab cb)) (fun _ => rfl) ?_ ?_; (focus (intro c9 us w9 hm9 hS9 hF; exact exec_load_g hS9.2.1.range Try.underlying112 rfl (uev_info _ _ _ _ _) rfl)); simp only [Act.put, List.setIfInBounds_toArray, List.set_cons_zero, List.set_cons_succ, Nat.reduceAdd]
  refine late_pure (by simp) (fun w => trivial) (v := .agg (RMV (dM ms) A4 c4)) (fun _ => rfl) ?_ ?_; (focus (intro c9 us w9 hm9 hS9 hF; exact exec_load_g hS9.2.2.1.range Try.underlying97 rfl (rmv_info _ _ _) rfl)); simp only [Act.put, List.setIfInBounds_toArray, List.set_cons_zero, List.set_cons_succ, Nat.reduceAdd]
  refine late_store rfl ?_ ?_; (focus (intro us w9 hS9 hF K hK; clear hF; obtain ⟨s1, s2, s3, s4, -, s6, -, s8⟩ := hS9; rw [if_pos (by rfl)]; exact step_put (L := UEV { e with se := (dM ms).n, ss := e.ss ++ [(dM ms).n] } A6 c6 Ab cb) (s4 rfl) rfl (uev_info _ _ _ _ _) (uev_one _ _ _ _ _) rfl rfl (fun w9 u9 r9 => hK w9 ⟨Upd.below s1 u9 (by omega), s2.upd u9 (by omega), s3.upd u9 (by omega), fun h => by omega, fun _ => r9, fun _ => (s6 (by omega)).upd u9 (by omega), fun h => by omega, s8.trans (Keeps.upd (ts := [112, 97]) u9 (s4 rfl) (by simp))⟩ trivial))); (try simp only [Nat.reduceAdd])
  refine late_store rfl ?_ ?_; (focus (intro us w9 hS9 hF K hK; clear hF; obtain ⟨s1, s2, s3, -, s5, s6, -, s8⟩ := hS9; rw [if_pos (by rfl)]; exact step_put (L := RMV (dM ms) A4 c4) (s6 (by omega)) rfl (rmv_info _ _ _) (rmv_one _ _ _) rfl rfl (fun w9 u9 r9 => hK w9 ⟨Upd.below s1 u9 (by omega), s2.upd u9 (by omega), s3.upd u9 (by omega), fun h => by omega, fun _ => (s5 (by omega)).upd u9 (by omega), fun h => by omega, fun _ => r9, s8.trans (Keeps.upd (ts := [112, 97]) u9 (s6 (by omega)) (by simp))⟩ trivial))); (try simp only [Nat.reduceAdd])
  refine late_pure (by simp) (fun w => trivial) (v := ?_) (fun _ => rfl) ?_ ?_; rotate_left; (focus (intro c9 us w9 hm9 hS9 hF; clear hF hm9 hS9; go_simp; (try with_reducible rfl); done)); simp only [Act.put, List.setIfInBounds_toArray, List.set_cons_zero, List.set_cons_succ, Nat.reduceAdd]
  refine late_done fun us wz hSz hF => ?_
  obtain ⟨z1, -, -, -, z5, -, z7, z8⟩ := hSz
  have z5 := z5 (by omega)
  have z7 := z7 (by omega)
  clear hF
  go_wp2
  refine bodyPost_ret (results_cc1 rfl rfl rfl z5 z7 Try.underlying112 Try.underlying97 rfl rfl (uev_info _ _ _ _ _) (rmv_info _ _ _)) rfl ?_
  refine ⟨z1, .inr ⟨HC.out, A6, c6, Ab, cb, A4, c4, ?_, ?_, (hmz.keeps z8 (by decide)).isB⟩⟩
  · rw [HU.out]; rfl
  · rw [HU.out]
    exact ⟨hoa.keeps z8 (by decide), hob.keeps z8 (by decide), hal, by show (e.ss ++ [(dM ms).n]).length ≤ 1000; simp; omega⟩
theorem receiveR (e : UE) (A B : Option Addr) (c d : Nat) (D : Option Addr) (dc : Nat) (ms : List UInt8) (W : World) (hH : HeldU W e A c B d) (hD : IsB W D ms.length ms) (hDn : ms.length ≤ 1000000) (hDc : ms.length ≤ dc) : Calls Try.prog 79 #[.agg (UEV e A c B d), .slice D ms.length dc] W (RcvRP e ms W) := by
  by_cases hx : uE e = 0
  · cases hv : dOk ms
    · exact rcvR_dec e A B c d D dc ms W hH hD hDn hDc hx hv
    · by_cases hk : (dM ms).k = 1
      · by_cases hn : (dM ms).n = e.se + 1
        · by_cases hl : (e.ss.length : Int) = e.cr
          · exact rcvR_q2 e A B c d D dc ms W hH hD hDn hDc hx hv hk hn hl
          · exact rcvR_q3 e A B c d D dc ms W hH hD hDn hDc hx hv hk hn hl
        · exact rcvR_q1 e A B c d D dc ms W hH hD hDn hDc hx hv hk hn
      · by_cases hn : (dM ms).n ∈ e.cs
        · exact rcvR_p2 e A B c d D dc ms W hH hD hDn hDc hx hv hk hn
        · exact rcvR_p1 e A B c d D dc ms W hH hD hDn hDc hx hv hk hn
  · exact rcvR_chk e A B c d D dc ms W hH hD hDn hDc _ rfl hx
end Go.Proofs.Ythjkhambmgepdaa
