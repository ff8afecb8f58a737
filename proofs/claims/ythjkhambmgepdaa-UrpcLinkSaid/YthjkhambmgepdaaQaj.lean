/- Texts Ui, without what this claim does not use. -/
import Derived.Test.YthjkhambmgepdaaQai
namespace Go.Proofs.Ythjkhambmgepdaa
section
open Go.RowKit
set_option linter.unusedVariables false
set_option linter.unusedSimpArgs false
theorem Row.bornAt' {w : World} {g : Nat} (hg : w.heap.size = g) (t : TypeId) (cs : Array Value) : Row (w.alloc (.cells cs t)) g t cs := by
  subst hg
  exact Row.born w t cs
def rcvE (e : UE) (ms : List UInt8) : Int := if uE e = 0 then (if dOk ms = true then (if (dM ms).k = 1 then (if (dM ms).n = e.se + 1 then (if (e.ss.length : Int) = e.cr then 66 else 0) else 66) else if (dM ms).n ∈ e.cs then 0 else 66) else 14) else uE e
def rcvU (e : UE) (ms : List UInt8) : UE := if (dM ms).k = 1 then { e with se := (dM ms).n, ss := e.ss ++ [(dM ms).n] } else { e with cs := e.cs.eraseIdx (e.cs.idxOf (dM ms).n) }
def RcvP (e : UE) (ms : List UInt8) (W : World) (en : Ending) (W' : World) : Prop := Below W.heap.size W W' ∧
  ((rcvE e ms ≠ 0 ∧ en = .returned (.tuple #[.agg ZU, .agg ZRm, .int .i64 (rcvE e ms)])) ∨
   (rcvE e ms = 0 ∧ ∃ A c B d A' c', en = .returned (.tuple #[.agg (UEV (rcvU e ms) A c B d), .agg (RMV (dM ms) A' c'), .int .i64 0]) ∧ OwnU W' W.heap.size (rcvU e ms) A c B d ∧ OwnB W' W.heap.size 5 A' (dM ms).b.length c' (dM ms).b))
theorem rcv_no {e : UE} {ms : List UInt8} {x : Int} {W W' : World} (h : rcvE e ms = x) (hx : x ≠ 0) (hb : Below W.heap.size W W') : RcvP e ms W (.returned (.tuple #[.agg ZU, .agg ZRm, .int .i64 x])) W' := ⟨hb, .inl ⟨by rw [h]; exact hx, by rw [h]⟩⟩
theorem decode_n {D : Option Addr} {dc : Nat} {ms : List UInt8} {W : World} (hv : dOk ms = false) (hD : IsB W D ms.length ms) (hn : ms.length ≤ 1000000) (hc : ms.length ≤ dc) : Calls Try.prog 64 #[.slice D ms.length dc] W (fun en W' => en = .returned (.tuple #[.agg ZRm, .int .i64 14]) ∧ Below W.heap.size W W') := by
  refine (decode D ms.length dc ms W hD hn hc).mono ?_
  rintro en W' ⟨hb, ⟨-, h⟩ | ⟨h, -⟩⟩
  · exact ⟨h, hb⟩
  · rw [hv] at h
    cases h
theorem decode_y {D : Option Addr} {dc : Nat} {ms : List UInt8} {W : World} (hv : dOk ms = true) (hD : IsB W D ms.length ms) (hn : ms.length ≤ 1000000) (hc : ms.length ≤ dc) : Calls Try.prog 64 #[.slice D ms.length dc] W (fun en W' => ∃ A c, en = .returned (.tuple #[.agg (RMV (dM ms) A c), .int .i64 0]) ∧ OwnB W' W.heap.size 5 A (dM ms).b.length c (dM ms).b ∧ Below W.heap.size W W') := by
  refine (decode D ms.length dc ms W hD hn hc).mono ?_
  rintro en W' ⟨hb, ⟨h, -⟩ | ⟨-, A, c, h, ho⟩⟩
  · rw [hv] at h
    cases h
  · exact ⟨A, c, h, ho, hb⟩
set_option maxRecDepth 100000 in
theorem ta_1 (w : World) (v : Value) : (Instr.typeAssert (.iface 186 v) 169 186 true).run Try.prog w = .ok (.tuple #[v, .bool true]) w := by kernel_rfl
set_option maxRecDepth 100000 in
theorem ta_2 (w : World) (v : Value) : (Instr.typeAssert (.iface 188 v) 169 186 true).run Try.prog w = .ok (.tuple #[.agg #[.int .i64 0, .int .i64 0, .slice none 0 0], .bool false]) w := by kernel_rfl
set_option maxRecDepth 100000 in
theorem ta_3 (w : World) (v : Value) : (Instr.typeAssert (.iface 188 v) 169 188 true).run Try.prog w = .ok (.tuple #[v, .bool true]) w := by kernel_rfl
theorem OwnU.appB {w8 w9 : World} {base : Nat} {e e' : UE} {A5 B5 A9 : Option Addr} {c5 d5 c9 n9 : Nat} {l : List Int} (ho : OwnU w8 base e A5 c5 B5 d5) (h9 : OwnN w9 base 3 A9 n9 c9 l) (hg : w8.grownBy w9 (Value.slice B5 e.ss.length d5).ownBlock) (hat : (Value.slice A9 n9 c9).ownBlock = (Value.slice B5 e.ss.length d5).ownBlock ∨ (Value.slice A9 n9 c9).ownBlock = some w8.heap.size) (hn : n9 = e'.ss.length) (h1 : e'.ss = l) (h2 : e'.cs = e.cs) : OwnU w9 base e' A5 c5 A9 c9 := by
  refine ⟨?_, ?_, ?_⟩
  · rw [h2]
    refine World.ownsRow.kept ho.a hg ?_
    cases A5 with
    | none => exact .inl rfl
    | some a =>
      refine .inr ?_
      cases B5 with
      | none => intro h; cases h
      | some b => intro h; exact ho.ap a b rfl rfl (by injection h)
  · rw [← hn, h1]; exact h9
  · intro a b ha hb
    subst ha hb
    rcases hat with h | h
    · cases B5 with
      | none => cases h
      | some b5 =>
        have : b.block = b5.block := by injection h
        rw [this]
        exact ho.ap a b5 rfl rfl
    · have h3 : b.block = w8.heap.size := by injection h
      have h4 := (World.ownsRow.lt ho.a a.block rfl).2
      omega
theorem dOk_ok {ms : List UInt8} (h : dOk ms = true) : (dM ms).ok = true := by
  unfold dOk at h
  simp only [Bool.and_eq_true] at h
  exact h.2.2.2.2.2
set_option maxRecDepth 100000 in
set_option maxHeartbeats 8000000 in
theorem rcv_chk (e : UE) (A B : Option Addr) (c d : Nat) (D : Option Addr) (dc : Nat) (ms : List UInt8) (W : World) (hH : HeldU W e A c B d) (hD : IsB W D ms.length ms) (hDn : ms.length ≤ 1000000) (hDc : ms.length ≤ dc) (x : Int) (hx : uE e = x) (h0 : x ≠ 0) : Calls Try.prog 78 #[.agg (UEV e A c B d), .slice D ms.length dc] W (RcvP e ms W) := by
  have HC := Lib.hid (show rcvE e ms = x by unfold rcvE; rw [if_neg (by omega), hx])
  have HE := Lib.hid hx
  have H0 := Lib.hid h0
  have dx : (x != 0) = true := nt h0
  clear hx h0
  have hB1 := (((Below.refl W.heap.size W).alloc (Nat.le_refl _) (.cells (UEV e A c B d) 112)).alloc (by simp) (.cells ZU 112)).alloc (by simp; omega) (.cells ZRm 97)
  have r1 := ((Row.born W 112 (UEV e A c B d)).alloc (.cells ZU 112)).alloc (.cells ZRm 97)
  have r2 : Row (((W.alloc (.cells (UEV e A c B d) 112)).alloc (.cells ZU 112)).alloc (.cells ZRm 97)) (W.heap.size + 1) 112 ZU := by
    have h := (Row.born (W.alloc (.cells (UEV e A c B d) 112)) 112 ZU).alloc (.cells ZRm 97)
    have e1 : (W.alloc (.cells (UEV e A c B d) 112)).heap.size = W.heap.size + 1 := by simp
    rwa [e1] at h
  have r3 : Row (((W.alloc (.cells (UEV e A c B d) 112)).alloc (.cells ZU 112)).alloc (.cells ZRm 97)) (W.heap.size + 2) 97 ZRm := by
    have h := Row.born ((W.alloc (.cells (UEV e A c B d) 112)).alloc (.cells ZU 112)) 97 ZRm
    have e1 : ((W.alloc (.cells (UEV e A c B d) 112)).alloc (.cells ZU 112)).heap.size = W.heap.size + 2 := by simp
    rwa [e1] at h
  have hH1 := hH.below hB1
  go_enter Try.func78, Try.ntmps78
  go_upto_region 1 with (fail)
  change Code.wp _ _ _ _ (((W.alloc (.cells (UEV e A c B d) 112)).alloc (.cells ZU 112)).alloc (.cells ZRm 97))
  generalize ((W.alloc (.cells (UEV e A c B d) 112)).alloc (.cells ZU 112)).alloc (.cells ZRm 97) = w1 at *
  have hl1 := r1.lt
  have hl2 := r2.lt
  have hl3 := r3.lt
  go_wp2_with (first | ((with_reducible refine wp_load_g ?_ r1.range Try.underlying112 rfl (uev_info _ _ _ _ _) ?_ ?_); rfl; rfl) | (go_at_call 122; (with_reducible refine (check_is HE.out hH1).mono ?_); rintro en w2 ⟨rfl, hb2⟩; have r1 := r1.below hb2 hl1; have r2 := r2.below hb2 hl2; have r3 := r3.below hb2 hl3; have hB2 := hB1.trans (hb2.mono hB1.size)) | ((with_reducible refine wp_row_store (L := ZU) r2 rfl zu_info zu_one ?_ ?_ ?_); rfl; rfl; intro w8 u8 r8; have r3 := r3.upd u8 (by omega)) | ((with_reducible refine wp_row_store (L := ZRm) r3 rfl zrm_info zrm_one ?_ ?_ ?_); rfl; rfl; intro w9 u9 r9; have r8 := r8.upd u9 (by omega)))
  refine bodyPost_ret (results_cc1 rfl rfl rfl r8 r9 Try.underlying112 Try.underlying97 rfl rfl zu_info zrm_info) rfl ?_
  exact rcv_no HC.out H0.out (Upd.below (Upd.below hB2 u8 (by omega)) u9 (by omega))
set_option maxRecDepth 100000 in
set_option maxHeartbeats 8000000 in
theorem rcv_dec (e : UE) (A B : Option Addr) (c d : Nat) (D : Option Addr) (dc : Nat) (ms : List UInt8) (W : World) (hH : HeldU W e A c B d) (hD : IsB W D ms.length ms) (hDn : ms.length ≤ 1000000) (hDc : ms.length ≤ dc) (hx : uE e = 0) (hv : dOk ms = false) : Calls Try.prog 78 #[.agg (UEV e A c B d), .slice D ms.length dc] W (RcvP e ms W) := by
  have HC := Lib.hid (show rcvE e ms = 14 by unfold rcvE; rw [if_pos hx, hv]; rfl)
  have HE := Lib.hid hx
  have HV := Lib.hid hv
  clear hx hv
  have hB1 := (((Below.refl W.heap.size W).alloc (Nat.le_refl _) (.cells (UEV e A c B d) 112)).alloc (by simp) (.cells ZU 112)).alloc (by simp; omega) (.cells ZRm 97)
  have r1 := ((Row.born W 112 (UEV e A c B d)).alloc (.cells ZU 112)).alloc (.cells ZRm 97)
  have r2 : Row (((W.alloc (.cells (UEV e A c B d) 112)).alloc (.cells ZU 112)).alloc (.cells ZRm 97)) (W.heap.size + 1) 112 ZU := by
    have h := (Row.born (W.alloc (.cells (UEV e A c B d) 112)) 112 ZU).alloc (.cells ZRm 97)
    have e1 : (W.alloc (.cells (UEV e A c B d) 112)).heap.size = W.heap.size + 1 := by simp
    rwa [e1] at h
  have r3 : Row (((W.alloc (.cells (UEV e A c B d) 112)).alloc (.cells ZU 112)).alloc (.cells ZRm 97)) (W.heap.size + 2) 97 ZRm := by
    have h := Row.born ((W.alloc (.cells (UEV e A c B d) 112)).alloc (.cells ZU 112)) 97 ZRm
    have e1 : ((W.alloc (.cells (UEV e A c B d) 112)).alloc (.cells ZU 112)).heap.size = W.heap.size + 2 := by simp
    rwa [e1] at h
  have hH1 := hH.below hB1
  go_enter Try.func78, Try.ntmps78
  go_upto_region 1 with (fail)
  change Code.wp _ _ _ _ (((W.alloc (.cells (UEV e A c B d) 112)).alloc (.cells ZU 112)).alloc (.cells ZRm 97))
  generalize ((W.alloc (.cells (UEV e A c B d) 112)).alloc (.cells ZU 112)).alloc (.cells ZRm 97) = w1 at *
  have hl1 := r1.lt
  have hl2 := r2.lt
  have hl3 := r3.lt
  go_upto_region 4 with (first | ((with_reducible refine wp_load_g ?_ r1.range Try.underlying112 rfl (uev_info _ _ _ _ _) ?_ ?_); rfl; rfl) | (go_at_call 122; (with_reducible refine (check_is HE.out hH1).mono ?_); rintro en w2 ⟨rfl, hb2⟩; have r1 := r1.below hb2 hl1; have r2 := r2.below hb2 hl2; have r3 := r3.below hb2 hl3; have hB2 := hB1.trans (hb2.mono hB1.size)))
  have hD2 := hD.below hB2
  have hl1 := r1.lt
  have hl2 := r2.lt
  have hl3 := r3.lt
  go_upto_region 5 with (first | (go_at_call 64; (with_reducible refine (decode_n HV.out hD2 hDn hDc).mono ?_); rintro en w4 ⟨rfl, hb4⟩; have r2 := r2.below hb4 hl2; have r3 := r3.below hb4 hl3; have hB4 := hB2.trans (hb4.mono hB2.size)) | ((with_reducible refine wp_row_store (L := ZRm) (Row.bornAt' (g := w4.heap.size) rfl 97 _) ?_ zrm_info zrm_one ?_ ?_ ?_); rfl; rfl; rfl; intro w5 u5 r5))
  have hal := Upd.below ((Below.refl w4.heap.size w4).alloc (Nat.le_refl _) (.cells ZRm 97)) u5 (Nat.le_refl _)
  have r2 := r2.below hal r2.lt
  have r3 := r3.below hal r3.lt
  have hB5 := hB4.trans (hal.mono hB4.size)
  clear hal u5 r5
  go_wp2_with (first | ((with_reducible refine wp_row_store (L := ZU) r2 rfl zu_info zu_one ?_ ?_ ?_); rfl; rfl; intro w8 u8 r8; have r3 := r3.upd u8 (by omega)) | ((with_reducible refine wp_row_store (L := ZRm) r3 rfl zrm_info zrm_one ?_ ?_ ?_); rfl; rfl; intro w9 u9 r9; have r8 := r8.upd u9 (by omega)))
  refine bodyPost_ret (results_cc1 rfl rfl rfl r8 r9 Try.underlying112 Try.underlying97 rfl rfl zu_info zrm_info) rfl ?_
  exact rcv_no HC.out (by omega) (Upd.below (Upd.below hB5 u8 (by omega)) u9 (by omega))
set_option maxRecDepth 100000 in
set_option maxHeartbeats 8000000 in
theorem rcv_q1 (e : UE) (A B : Option Addr) (c d : Nat) (D : Option Addr) (dc : Nat) (ms : List UInt8) (W : World) (hH : HeldU W e A c B d) (hD : IsB W D ms.length ms) (hDn : ms.length ≤ 1000000) (hDc : ms.length ≤ dc) (hx : uE e = 0) (hv : dOk ms = true) (hk : (dM ms).k = 1) (hn : (dM ms).n ≠ e.se + 1) : Calls Try.prog 78 #[.agg (UEV e A c B d), .slice D ms.length dc] W (RcvP e ms W) := by
  have HC := Lib.hid (show rcvE e ms = 66 by unfold rcvE; rw [if_pos hx, if_pos hv, if_pos hk, if_neg hn])
  have d1 : ((dM ms).n != e.se + 1) = true := nt hn
  clear hn
  have ta1 := ta_1
  have ta2 := ta_2
  have ta3 := ta_3
  have hok := dOk_ok hv
  have hOk := RM.ok_iff.1 hok
  have HCL := Lib.hid (show ∀ A c, clV (dM ms) A c = .iface 186 (.agg #[.int .i64 (dM ms).n, .int .i64 (dM ms).s, .slice A (dM ms).b.length c]) from fun A c => by
    unfold clV
    rw [if_pos hok, if_pos hk])
  have hn0 := hOk.n0
  have hn1 := hOk.n1
  have hbd := uV_bd (uE_ne hx).1
  have hal0 := hH.al
  have hbl0 := hH.bl
  have HE := Lib.hid hx
  have HV := Lib.hid hv
  have HM := Lib.hid hk
  clear hx hv hk hok hOk
  have hB1 := (((Below.refl W.heap.size W).alloc (Nat.le_refl _) (.cells (UEV e A c B d) 112)).alloc (by simp) (.cells ZU 112)).alloc (by simp; omega) (.cells ZRm 97)
  have r1 := ((Row.born W 112 (UEV e A c B d)).alloc (.cells ZU 112)).alloc (.cells ZRm 97)
  have r2 : Row (((W.alloc (.cells (UEV e A c B d) 112)).alloc (.cells ZU 112)).alloc (.cells ZRm 97)) (W.heap.size + 1) 112 ZU := by
    have h := (Row.born (W.alloc (.cells (UEV e A c B d) 112)) 112 ZU).alloc (.cells ZRm 97)
    have e1 : (W.alloc (.cells (UEV e A c B d) 112)).heap.size = W.heap.size + 1 := by simp
    rwa [e1] at h
  have r3 : Row (((W.alloc (.cells (UEV e A c B d) 112)).alloc (.cells ZU 112)).alloc (.cells ZRm 97)) (W.heap.size + 2) 97 ZRm := by
    have h := Row.born ((W.alloc (.cells (UEV e A c B d) 112)).alloc (.cells ZU 112)) 97 ZRm
    have e1 : ((W.alloc (.cells (UEV e A c B d) 112)).alloc (.cells ZU 112)).heap.size = W.heap.size + 2 := by simp
    rwa [e1] at h
  have hH1 := hH.below hB1
  go_enter Try.func78, Try.ntmps78
  go_upto_region 1 with (fail)
  change Code.wp _ _ _ _ (((W.alloc (.cells (UEV e A c B d) 112)).alloc (.cells ZU 112)).alloc (.cells ZRm 97))
  generalize ((W.alloc (.cells (UEV e A c B d) 112)).alloc (.cells ZU 112)).alloc (.cells ZRm 97) = w1 at *
  have hl1 := r1.lt
  have hl2 := r2.lt
  have hl3 := r3.lt
  go_upto_region 4 with (first | ((with_reducible refine wp_load_g ?_ r1.range Try.underlying112 rfl (uev_info _ _ _ _ _) ?_ ?_); rfl; rfl) | (go_at_call 122; (with_reducible refine (check_is HE.out hH1).mono ?_); rintro en w2 ⟨rfl, hb2⟩; have r1 := r1.below hb2 hl1; have r2 := r2.below hb2 hl2; have r3 := r3.below hb2 hl3; have hB2 := hB1.trans (hb2.mono hB1.size)))
  have hD2 := hD.below hB2
  have hl1 := r1.lt
  have hl2 := r2.lt
  have hl3 := r3.lt
  go_upto_region 5 with (first | (go_at_call 64; (with_reducible refine (decode_y HV.out hD2 hDn hDc).mono ?_); rintro en w4 ⟨A4, c4, rfl, ho4, hb4⟩) | ((with_reducible refine wp_row_store (L := RMV (dM ms) A4 c4) (Row.bornAt' (g := w4.heap.size) rfl 97 _) ?_ (rmv_info _ _ _) (rmv_one _ _ _) ?_ ?_ ?_); rfl; rfl; rfl; intro w5 u5 r5))
  have hal := Upd.below ((Below.refl w4.heap.size w4).alloc (Nat.le_refl _) (.cells ZRm 97)) u5 (Nat.le_refl _)
  have r1 := (r1.below hb4 hl1).below hal (Nat.lt_of_lt_of_le hl1 hb4.size)
  have r2 := (r2.below hb4 hl2).below hal (Nat.lt_of_lt_of_le hl2 hb4.size)
  have r3 := (r3.below hb4 hl3).below hal (Nat.lt_of_lt_of_le hl3 hb4.size)
  have hB5 := (hB2.trans (hb4.mono hB2.size)).trans (hal.mono (Nat.le_trans hB2.size hb4.size))
  have ho5 := (ho4.below hal).lower hB2.size
  have hg8 : W.heap.size + 3 ≤ w4.heap.size := by have := hb4.size; omega
  have r8 := r5
  clear hal u5 r5 ho4 hb4 hb2 hB1 hB2 hH1 hD2
  generalize w4.heap.size = g8 at *
  have hH5 := hH.below hB5
  have hl1 := r1.lt
  have hl2 := r2.lt
  have hl3 := r3.lt
  have hl8 := r8.lt
  go_upto_region 8 with (first | ((with_reducible refine wp_load_g ?_ r1.range Try.underlying112 rfl (uev_info _ _ _ _ _) ?_ ?_); rfl; rfl) | (go_at_call 123; (with_reducible refine (cloneU e A B c d _ hH5).mono ?_); rintro en w6 ⟨A6, c6, B6, d6, rfl, ho6, hb6⟩) | ((with_reducible refine wp_row_store (L := UEV e A6 c6 B6 d6) (Row.bornAt' (g := w6.heap.size) rfl 112 _) ?_ (uev_info _ _ _ _ _) (uev_one _ _ _ _ _) ?_ ?_ ?_); rfl; rfl; rfl; intro w7 u7 r10))
  have hal := Upd.below ((Below.refl w6.heap.size w6).alloc (Nat.le_refl _) (.cells ZU 112)) u7 (Nat.le_refl _)
  have r1 := (r1.below hb6 hl1).below hal (Nat.lt_of_lt_of_le hl1 hb6.size)
  have r2 := (r2.below hb6 hl2).below hal (Nat.lt_of_lt_of_le hl2 hb6.size)
  have r3 := (r3.below hb6 hl3).below hal (Nat.lt_of_lt_of_le hl3 hb6.size)
  have r8 := (r8.below hb6 hl8).below hal (Nat.lt_of_lt_of_le hl8 hb6.size)
  have hB7 := (hB5.trans (hb6.mono hB5.size)).trans (hal.mono (Nat.le_trans hB5.size hb6.size))
  have ho7 := ho6.below hal
  have hm7 := (ho5.below hb6).below hal
  have hg10 : w5.heap.size ≤ w6.heap.size := hb6.size
  have hg5 : g8 < w5.heap.size := hl8
  have hW5 : W.heap.size ≤ w5.heap.size := hB5.size
  clear hal u7 ho6 hb6 hB5 hH5 ho5 hl1 hl2 hl3 hl8
  generalize w6.heap.size = g10 at *
  generalize w5.heap.size = b5 at *
  have hl1 := r1.lt
  have hl2 := r2.lt
  have hl3 := r3.lt
  have hl8 := r8.lt
  have hl10 := r10.lt
  go_upto_region 9 with (first | ((with_reducible refine wp_load_g ?_ r8.range Try.underlying97 rfl (rmv_info _ _ _) ?_ ?_); rfl; rfl) | (go_at_call 112; (with_reducible refine (classify (dM ms) A4 c4 _).mono ?_); rintro en wq ⟨rfl, hbq⟩; rw [HCL.out]))
  have r1 := r1.below hbq hl1
  have r2 := r2.below hbq hl2
  have r3 := r3.below hbq hl3
  have r8 := r8.below hbq hl8
  have r10 := r10.below hbq hl10
  have hBq := hB7.trans (hbq.mono hB7.size)
  have hoq := ho7.below hbq
  have hmq := hm7.below hbq
  have hgq : g10 < wq.heap.size := Nat.lt_of_lt_of_le hl10 hbq.size
  clear hbq hB7 ho7 hm7 hl1 hl2 hl3 hl8 hl10
  have hsw : IntKind.i64.wrap (e.se + 1) = e.se + 1 := by rw [IntKind.wrap_i64]; omega
  have hal := (Below.refl wq.heap.size wq).alloc (Nat.le_refl _) (.cells #[.int .i64 (dM ms).n, .int .i64 (dM ms).s, .slice A4 (dM ms).b.length c4] 186)
  have rT := Row.born wq 186 #[.int .i64 (dM ms).n, .int .i64 (dM ms).s, .slice A4 (dM ms).b.length c4]
  go_upto_region 11 with (fail)
  change Code.wp _ _ _ _ (wq.alloc (.cells #[.int .i64 (dM ms).n, .int .i64 (dM ms).s, .slice A4 (dM ms).b.length c4] 186))
  have r1 := r1.below hal r1.lt
  have r2 := r2.below hal r2.lt
  have r3 := r3.below hal r3.lt
  have r8 := r8.below hal r8.lt
  have r10 := r10.below hal r10.lt
  have hBr := hBq.trans (hal.mono hBq.size)
  have hor := hoq.below hal
  have hmr := hmq.below hal
  clear hal hBq hoq hmq
  generalize wq.alloc (.cells #[.int .i64 (dM ms).n, .int .i64 (dM ms).s, .slice A4 (dM ms).b.length c4] 186) = wr at *
  generalize wq.heap.size = gT at *
  have t0 : wr.cell? ⟨gT, 0, none⟩ = some (.int .i64 (dM ms).n) := rT.cell 0
  have q0 : wr.cell? ⟨W.heap.size, 0, none⟩ = some (.int .i64 e.cr) := r1.cell 0
  have q2 : wr.cell? ⟨W.heap.size, 2, none⟩ = some (.int .i64 e.se) := r1.cell 2
  have q4 : wr.cell? ⟨W.heap.size, 4, none⟩ = some (.slice B e.ss.length d) := r1.cell 4
  go_wp2_with (first | ((with_reducible refine wp_row_store (L := ZU) r2 rfl zu_info zu_one ?_ ?_ ?_); rfl; rfl; intro w8 u8 r8; have r3 := r3.upd u8 (by omega)) | ((with_reducible refine wp_row_store (L := ZRm) r3 rfl zrm_info zrm_one ?_ ?_ ?_); rfl; rfl; intro w9 u9 r9; have r8 := r8.upd u9 (by omega)))
  refine bodyPost_ret (results_cc1 rfl rfl rfl r8 r9 Try.underlying112 Try.underlying97 rfl rfl zu_info zrm_info) rfl ?_
  exact rcv_no HC.out (by omega) (Upd.below (Upd.below hBr u8 (by omega)) u9 (by omega))
set_option maxRecDepth 100000 in
set_option maxHeartbeats 8000000 in
theorem rcv_q2 (e : UE) (A B : Option Addr) (c d : Nat) (D : Option Addr) (dc : Nat) (ms : List UInt8) (W : World) (hH : HeldU W e A c B d) (hD : IsB W D ms.length ms) (hDn : ms.length ≤ 1000000) (hDc : ms.length ≤ dc) (hx : uE e = 0) (hv : dOk ms = true) (hk : (dM ms).k = 1) (hn : (dM ms).n = e.se + 1) (hl : (e.ss.length : Int) = e.cr) : Calls Try.prog 78 #[.agg (UEV e A c B d), .slice D ms.length dc] W (RcvP e ms W) := by
  have HC := Lib.hid (show rcvE e ms = 66 by unfold rcvE; rw [if_pos hx, if_pos hv, if_pos hk, if_pos hn, if_pos hl])
  have d1 : ((dM ms).n != e.se + 1) = false := nf hn
  have d2 : ((e.ss.length : Int) == e.cr) = true := et hl
  clear hn hl
  have ta1 := ta_1
  have ta2 := ta_2
  have ta3 := ta_3
  have hok := dOk_ok hv
  have hOk := RM.ok_iff.1 hok
  have HCL := Lib.hid (show ∀ A c, clV (dM ms) A c = .iface 186 (.agg #[.int .i64 (dM ms).n, .int .i64 (dM ms).s, .slice A (dM ms).b.length c]) from fun A c => by
    unfold clV
    rw [if_pos hok, if_pos hk])
  have hn0 := hOk.n0
  have hn1 := hOk.n1
  have hbd := uV_bd (uE_ne hx).1
  have hal0 := hH.al
  have hbl0 := hH.bl
  have HE := Lib.hid hx
  have HV := Lib.hid hv
  have HM := Lib.hid hk
  clear hx hv hk hok hOk
  have hB1 := (((Below.refl W.heap.size W).alloc (Nat.le_refl _) (.cells (UEV e A c B d) 112)).alloc (by simp) (.cells ZU 112)).alloc (by simp; omega) (.cells ZRm 97)
  have r1 := ((Row.born W 112 (UEV e A c B d)).alloc (.cells ZU 112)).alloc (.cells ZRm 97)
  have r2 : Row (((W.alloc (.cells (UEV e A c B d) 112)).alloc (.cells ZU 112)).alloc (.cells ZRm 97)) (W.heap.size + 1) 112 ZU := by
    have h := (Row.born (W.alloc (.cells (UEV e A c B d) 112)) 112 ZU).alloc (.cells ZRm 97)
    have e1 : (W.alloc (.cells (UEV e A c B d) 112)).heap.size = W.heap.size + 1 := by simp
    rwa [e1] at h
  have r3 : Row (((W.alloc (.cells (UEV e A c B d) 112)).alloc (.cells ZU 112)).alloc (.cells ZRm 97)) (W.heap.size + 2) 97 ZRm := by
    have h := Row.born ((W.alloc (.cells (UEV e A c B d) 112)).alloc (.cells ZU 112)) 97 ZRm
    have e1 : ((W.alloc (.cells (UEV e A c B d) 112)).alloc (.cells ZU 112)).heap.size = W.heap.size + 2 := by simp
    rwa [e1] at h
  have hH1 := hH.below hB1
  go_enter Try.func78, Try.ntmps78
  go_upto_region 1 with (fail)
  change Code.wp _ _ _ _ (((W.alloc (.cells (UEV e A c B d) 112)).alloc (.cells ZU 112)).alloc (.cells ZRm 97))
  generalize ((W.alloc (.cells (UEV e A c B d) 112)).alloc (.cells ZU 112)).alloc (.cells ZRm 97) = w1 at *
  have hl1 := r1.lt
  have hl2 := r2.lt
  have hl3 := r3.lt
  go_upto_region 4 with (first | ((with_reducible refine wp_load_g ?_ r1.range Try.underlying112 rfl (uev_info _ _ _ _ _) ?_ ?_); rfl; rfl) | (go_at_call 122; (with_reducible refine (check_is HE.out hH1).mono ?_); rintro en w2 ⟨rfl, hb2⟩; have r1 := r1.below hb2 hl1; have r2 := r2.below hb2 hl2; have r3 := r3.below hb2 hl3; have hB2 := hB1.trans (hb2.mono hB1.size)))
  have hD2 := hD.below hB2
  have hl1 := r1.lt
  have hl2 := r2.lt
  have hl3 := r3.lt
  go_upto_region 5 with (first | (go_at_call 64; (with_reducible refine (decode_y HV.out hD2 hDn hDc).mono ?_); rintro en w4 ⟨A4, c4, rfl, ho4, hb4⟩) | ((with_reducible refine wp_row_store (L := RMV (dM ms) A4 c4) (Row.bornAt' (g := w4.heap.size) rfl 97 _) ?_ (rmv_info _ _ _) (rmv_one _ _ _) ?_ ?_ ?_); rfl; rfl; rfl; intro w5 u5 r5))
  have hal := Upd.below ((Below.refl w4.heap.size w4).alloc (Nat.le_refl _) (.cells ZRm 97)) u5 (Nat.le_refl _)
  have r1 := (r1.below hb4 hl1).below hal (Nat.lt_of_lt_of_le hl1 hb4.size)
  have r2 := (r2.below hb4 hl2).below hal (Nat.lt_of_lt_of_le hl2 hb4.size)
  have r3 := (r3.below hb4 hl3).below hal (Nat.lt_of_lt_of_le hl3 hb4.size)
  have hB5 := (hB2.trans (hb4.mono hB2.size)).trans (hal.mono (Nat.le_trans hB2.size hb4.size))
  have ho5 := (ho4.below hal).lower hB2.size
  have hg8 : W.heap.size + 3 ≤ w4.heap.size := by have := hb4.size; omega
  have r8 := r5
  clear hal u5 r5 ho4 hb4 hb2 hB1 hB2 hH1 hD2
  generalize w4.heap.size = g8 at *
  have hH5 := hH.below hB5
  have hl1 := r1.lt
  have hl2 := r2.lt
  have hl3 := r3.lt
  have hl8 := r8.lt
  go_upto_region 8 with (first | ((with_reducible refine wp_load_g ?_ r1.range Try.underlying112 rfl (uev_info _ _ _ _ _) ?_ ?_); rfl; rfl) | (go_at_call 123; (with_reducible refine (cloneU e A B c d _ hH5).mono ?_); rintro en w6 ⟨A6, c6, B6, d6, rfl, ho6, hb6⟩) | ((with_reducible refine wp_row_store (L := UEV e A6 c6 B6 d6) (Row.bornAt' (g := w6.heap.size) rfl 112 _) ?_ (uev_info _ _ _ _ _) (uev_one _ _ _ _ _) ?_ ?_ ?_); rfl; rfl; rfl; intro w7 u7 r10))
  have hal := Upd.below ((Below.refl w6.heap.size w6).alloc (Nat.le_refl _) (.cells ZU 112)) u7 (Nat.le_refl _)
  have r1 := (r1.below hb6 hl1).below hal (Nat.lt_of_lt_of_le hl1 hb6.size)
  have r2 := (r2.below hb6 hl2).below hal (Nat.lt_of_lt_of_le hl2 hb6.size)
  have r3 := (r3.below hb6 hl3).below hal (Nat.lt_of_lt_of_le hl3 hb6.size)
  have r8 := (r8.below hb6 hl8).below hal (Nat.lt_of_lt_of_le hl8 hb6.size)
  have hB7 := (hB5.trans (hb6.mono hB5.size)).trans (hal.mono (Nat.le_trans hB5.size hb6.size))
  have ho7 := ho6.below hal
  have hm7 := (ho5.below hb6).below hal
  have hg10 : w5.heap.size ≤ w6.heap.size := hb6.size
  have hg5 : g8 < w5.heap.size := hl8
  have hW5 : W.heap.size ≤ w5.heap.size := hB5.size
  clear hal u7 ho6 hb6 hB5 hH5 ho5 hl1 hl2 hl3 hl8
  generalize w6.heap.size = g10 at *
  generalize w5.heap.size = b5 at *
  have hl1 := r1.lt
  have hl2 := r2.lt
  have hl3 := r3.lt
  have hl8 := r8.lt
  have hl10 := r10.lt
  go_upto_region 9 with (first | ((with_reducible refine wp_load_g ?_ r8.range Try.underlying97 rfl (rmv_info _ _ _) ?_ ?_); rfl; rfl) | (go_at_call 112; (with_reducible refine (classify (dM ms) A4 c4 _).mono ?_); rintro en wq ⟨rfl, hbq⟩; rw [HCL.out]))
  have r1 := r1.below hbq hl1
  have r2 := r2.below hbq hl2
  have r3 := r3.below hbq hl3
  have r8 := r8.below hbq hl8
  have r10 := r10.below hbq hl10
  have hBq := hB7.trans (hbq.mono hB7.size)
  have hoq := ho7.below hbq
  have hmq := hm7.below hbq
  have hgq : g10 < wq.heap.size := Nat.lt_of_lt_of_le hl10 hbq.size
  clear hbq hB7 ho7 hm7 hl1 hl2 hl3 hl8 hl10
  have hsw : IntKind.i64.wrap (e.se + 1) = e.se + 1 := by rw [IntKind.wrap_i64]; omega
  have hal := (Below.refl wq.heap.size wq).alloc (Nat.le_refl _) (.cells #[.int .i64 (dM ms).n, .int .i64 (dM ms).s, .slice A4 (dM ms).b.length c4] 186)
  have rT := Row.born wq 186 #[.int .i64 (dM ms).n, .int .i64 (dM ms).s, .slice A4 (dM ms).b.length c4]
  go_upto_region 11 with (fail)
  change Code.wp _ _ _ _ (wq.alloc (.cells #[.int .i64 (dM ms).n, .int .i64 (dM ms).s, .slice A4 (dM ms).b.length c4] 186))
  have r1 := r1.below hal r1.lt
  have r2 := r2.below hal r2.lt
  have r3 := r3.below hal r3.lt
  have r8 := r8.below hal r8.lt
  have r10 := r10.below hal r10.lt
  have hBr := hBq.trans (hal.mono hBq.size)
  have hor := hoq.below hal
  have hmr := hmq.below hal
  clear hal hBq hoq hmq
  generalize wq.alloc (.cells #[.int .i64 (dM ms).n, .int .i64 (dM ms).s, .slice A4 (dM ms).b.length c4] 186) = wr at *
  generalize wq.heap.size = gT at *
  have t0 : wr.cell? ⟨gT, 0, none⟩ = some (.int .i64 (dM ms).n) := rT.cell 0
  have q0 : wr.cell? ⟨W.heap.size, 0, none⟩ = some (.int .i64 e.cr) := r1.cell 0
  have q2 : wr.cell? ⟨W.heap.size, 2, none⟩ = some (.int .i64 e.se) := r1.cell 2
  have q4 : wr.cell? ⟨W.heap.size, 4, none⟩ = some (.slice B e.ss.length d) := r1.cell 4
  go_wp2_with (first | ((with_reducible refine wp_row_store (L := ZU) r2 rfl zu_info zu_one ?_ ?_ ?_); rfl; rfl; intro w8 u8 r8; have r3 := r3.upd u8 (by omega)) | ((with_reducible refine wp_row_store (L := ZRm) r3 rfl zrm_info zrm_one ?_ ?_ ?_); rfl; rfl; intro w9 u9 r9; have r8 := r8.upd u9 (by omega)))
  refine bodyPost_ret (results_cc1 rfl rfl rfl r8 r9 Try.underlying112 Try.underlying97 rfl rfl zu_info zrm_info) rfl ?_
  exact rcv_no HC.out (by omega) (Upd.below (Upd.below hBr u8 (by omega)) u9 (by omega))
set_option maxRecDepth 100000 in
set_option maxHeartbeats 8000000 in
theorem rcv_p1 (e : UE) (A B : Option Addr) (c d : Nat) (D : Option Addr) (dc : Nat) (ms : List UInt8) (W : World) (hH : HeldU W e A c B d) (hD : IsB W D ms.length ms) (hDn : ms.length ≤ 1000000) (hDc : ms.length ≤ dc) (hx : uE e = 0) (hv : dOk ms = true) (hk : (dM ms).k ≠ 1) (hn : (dM ms).n ∉ e.cs) : Calls Try.prog 78 #[.agg (UEV e A c B d), .slice D ms.length dc] W (RcvP e ms W) := by
  have HC := Lib.hid (show rcvE e ms = 66 by unfold rcvE; rw [if_pos hx, if_pos hv, if_neg hk, if_neg hn])
  have HX := Lib.hid hn
  clear hn
  have ta1 := ta_1
  have ta2 := ta_2
  have ta3 := ta_3
  have hok := dOk_ok hv
  have hOk := RM.ok_iff.1 hok
  have HCL := Lib.hid (show ∀ A c, clV (dM ms) A c = .iface 188 (.agg #[.int .i64 (dM ms).n, .int .i64 (dM ms).e, .slice A (dM ms).b.length c]) from fun A c => by
    unfold clV
    rw [if_pos hok, if_neg (by omega)])
  have hn0 := hOk.n0
  have hn1 := hOk.n1
  have hbd := uV_bd (uE_ne hx).1
  have hal0 := hH.al
  have hbl0 := hH.bl
  have HE := Lib.hid hx
  have HV := Lib.hid hv
  have HM := Lib.hid hk
  clear hx hv hk hok hOk
  have hB1 := (((Below.refl W.heap.size W).alloc (Nat.le_refl _) (.cells (UEV e A c B d) 112)).alloc (by simp) (.cells ZU 112)).alloc (by simp; omega) (.cells ZRm 97)
  have r1 := ((Row.born W 112 (UEV e A c B d)).alloc (.cells ZU 112)).alloc (.cells ZRm 97)
  have r2 : Row (((W.alloc (.cells (UEV e A c B d) 112)).alloc (.cells ZU 112)).alloc (.cells ZRm 97)) (W.heap.size + 1) 112 ZU := by
    have h := (Row.born (W.alloc (.cells (UEV e A c B d) 112)) 112 ZU).alloc (.cells ZRm 97)
    have e1 : (W.alloc (.cells (UEV e A c B d) 112)).heap.size = W.heap.size + 1 := by simp
    rwa [e1] at h
  have r3 : Row (((W.alloc (.cells (UEV e A c B d) 112)).alloc (.cells ZU 112)).alloc (.cells ZRm 97)) (W.heap.size + 2) 97 ZRm := by
    have h := Row.born ((W.alloc (.cells (UEV e A c B d) 112)).alloc (.cells ZU 112)) 97 ZRm
    have e1 : ((W.alloc (.cells (UEV e A c B d) 112)).alloc (.cells ZU 112)).heap.size = W.heap.size + 2 := by simp
    rwa [e1] at h
  have hH1 := hH.below hB1
  go_enter Try.func78, Try.ntmps78
  go_upto_region 1 with (fail)
  change Code.wp _ _ _ _ (((W.alloc (.cells (UEV e A c B d) 112)).alloc (.cells ZU 112)).alloc (.cells ZRm 97))
  generalize ((W.alloc (.cells (UEV e A c B d) 112)).alloc (.cells ZU 112)).alloc (.cells ZRm 97) = w1 at *
  have hl1 := r1.lt
  have hl2 := r2.lt
  have hl3 := r3.lt
  go_upto_region 4 with (first | ((with_reducible refine wp_load_g ?_ r1.range Try.underlying112 rfl (uev_info _ _ _ _ _) ?_ ?_); rfl; rfl) | (go_at_call 122; (with_reducible refine (check_is HE.out hH1).mono ?_); rintro en w2 ⟨rfl, hb2⟩; have r1 := r1.below hb2 hl1; have r2 := r2.below hb2 hl2; have r3 := r3.below hb2 hl3; have hB2 := hB1.trans (hb2.mono hB1.size)))
  have hD2 := hD.below hB2
  have hl1 := r1.lt
  have hl2 := r2.lt
  have hl3 := r3.lt
  go_upto_region 5 with (first | (go_at_call 64; (with_reducible refine (decode_y HV.out hD2 hDn hDc).mono ?_); rintro en w4 ⟨A4, c4, rfl, ho4, hb4⟩) | ((with_reducible refine wp_row_store (L := RMV (dM ms) A4 c4) (Row.bornAt' (g := w4.heap.size) rfl 97 _) ?_ (rmv_info _ _ _) (rmv_one _ _ _) ?_ ?_ ?_); rfl; rfl; rfl; intro w5 u5 r5))
  have hal := Upd.below ((Below.refl w4.heap.size w4).alloc (Nat.le_refl _) (.cells ZRm 97)) u5 (Nat.le_refl _)
  have r1 := (r1.below hb4 hl1).below hal (Nat.lt_of_lt_of_le hl1 hb4.size)
  have r2 := (r2.below hb4 hl2).below hal (Nat.lt_of_lt_of_le hl2 hb4.size)
  have r3 := (r3.below hb4 hl3).below hal (Nat.lt_of_lt_of_le hl3 hb4.size)
  have hB5 := (hB2.trans (hb4.mono hB2.size)).trans (hal.mono (Nat.le_trans hB2.size hb4.size))
  have ho5 := (ho4.below hal).lower hB2.size
  have hg8 : W.heap.size + 3 ≤ w4.heap.size := by have := hb4.size; omega
  have r8 := r5
  clear hal u5 r5 ho4 hb4 hb2 hB1 hB2 hH1 hD2
  generalize w4.heap.size = g8 at *
  have hH5 := hH.below hB5
  have hl1 := r1.lt
  have hl2 := r2.lt
  have hl3 := r3.lt
  have hl8 := r8.lt
  go_upto_region 8 with (first | ((with_reducible refine wp_load_g ?_ r1.range Try.underlying112 rfl (uev_info _ _ _ _ _) ?_ ?_); rfl; rfl) | (go_at_call 123; (with_reducible refine (cloneU e A B c d _ hH5).mono ?_); rintro en w6 ⟨A6, c6, B6, d6, rfl, ho6, hb6⟩) | ((with_reducible refine wp_row_store (L := UEV e A6 c6 B6 d6) (Row.bornAt' (g := w6.heap.size) rfl 112 _) ?_ (uev_info _ _ _ _ _) (uev_one _ _ _ _ _) ?_ ?_ ?_); rfl; rfl; rfl; intro w7 u7 r10))
  have hal := Upd.below ((Below.refl w6.heap.size w6).alloc (Nat.le_refl _) (.cells ZU 112)) u7 (Nat.le_refl _)
  have r1 := (r1.below hb6 hl1).below hal (Nat.lt_of_lt_of_le hl1 hb6.size)
  have r2 := (r2.below hb6 hl2).below hal (Nat.lt_of_lt_of_le hl2 hb6.size)
  have r3 := (r3.below hb6 hl3).below hal (Nat.lt_of_lt_of_le hl3 hb6.size)
  have r8 := (r8.below hb6 hl8).below hal (Nat.lt_of_lt_of_le hl8 hb6.size)
  have hB7 := (hB5.trans (hb6.mono hB5.size)).trans (hal.mono (Nat.le_trans hB5.size hb6.size))
  have ho7 := ho6.below hal
  have hm7 := (ho5.below hb6).below hal
  have hg10 : w5.heap.size ≤ w6.heap.size := hb6.size
  have hg5 : g8 < w5.heap.size := hl8
  have hW5 : W.heap.size ≤ w5.heap.size := hB5.size
  clear hal u7 ho6 hb6 hB5 hH5 ho5 hl1 hl2 hl3 hl8
  generalize w6.heap.size = g10 at *
  generalize w5.heap.size = b5 at *
  have hl1 := r1.lt
  have hl2 := r2.lt
  have hl3 := r3.lt
  have hl8 := r8.lt
  have hl10 := r10.lt
  go_upto_region 9 with (first | ((with_reducible refine wp_load_g ?_ r8.range Try.underlying97 rfl (rmv_info _ _ _) ?_ ?_); rfl; rfl) | (go_at_call 112; (with_reducible refine (classify (dM ms) A4 c4 _).mono ?_); rintro en wq ⟨rfl, hbq⟩; rw [HCL.out]))
  have r1 := r1.below hbq hl1
  have r2 := r2.below hbq hl2
  have r3 := r3.below hbq hl3
  have r8 := r8.below hbq hl8
  have r10 := r10.below hbq hl10
  have hBq := hB7.trans (hbq.mono hB7.size)
  have hoq := ho7.below hbq
  have hmq := hm7.below hbq
  have hgq : g10 < wq.heap.size := Nat.lt_of_lt_of_le hl10 hbq.size
  clear hbq hB7 ho7 hm7 hl1 hl2 hl3 hl8 hl10
  have hal := (Below.refl wq.heap.size wq).alloc (Nat.le_refl _) (.cells #[.int .i64 (dM ms).n, .int .i64 (dM ms).e, .slice A4 (dM ms).b.length c4] 188)
  have rT := Row.born wq 188 #[.int .i64 (dM ms).n, .int .i64 (dM ms).e, .slice A4 (dM ms).b.length c4]
  go_upto_region 17 with (fail)
  change Code.wp _ _ _ _ (wq.alloc (.cells #[.int .i64 (dM ms).n, .int .i64 (dM ms).e, .slice A4 (dM ms).b.length c4] 188))
  have r1 := r1.below hal r1.lt
  have r2 := r2.below hal r2.lt
  have r3 := r3.below hal r3.lt
  have r8 := r8.below hal r8.lt
  have r10 := r10.below hal r10.lt
  have hBr := hBq.trans (hal.mono hBq.size)
  have hor := hoq.below hal
  have hmr := hmq.below hal
  clear hal hBq hoq hmq
  generalize wq.alloc (.cells #[.int .i64 (dM ms).n, .int .i64 (dM ms).e, .slice A4 (dM ms).b.length c4] 188) = wr at *
  generalize wq.heap.size = gT at *
  have t0 : wr.cell? ⟨gT, 0, none⟩ = some (.int .i64 (dM ms).n) := rT.cell 0
  have q3 : wr.cell? ⟨g10, 3, none⟩ = some (.slice A6 e.cs.length c6) := r10.cell 3
  go_wp2_with (first | (go_at_call 125; (with_reducible refine (index_not hor.a.isB (by omega) HX.out).mono ?_); rintro en w' ⟨rfl, h9⟩; rw [h9]; clear h9) | ((with_reducible refine wp_row_store (L := ZU) r2 rfl zu_info zu_one ?_ ?_ ?_); rfl; rfl; intro w8 u8 r8; have r3 := r3.upd u8 (by omega)) | ((with_reducible refine wp_row_store (L := ZRm) r3 rfl zrm_info zrm_one ?_ ?_ ?_); rfl; rfl; intro w9 u9 r9; have r8 := r8.upd u9 (by omega)))
  refine bodyPost_ret (results_cc1 rfl rfl rfl r8 r9 Try.underlying112 Try.underlying97 rfl rfl zu_info zrm_info) rfl ?_
  exact rcv_no HC.out (by omega) (Upd.below (Upd.below hBr u8 (by omega)) u9 (by omega))
set_option maxRecDepth 100000 in
set_option maxHeartbeats 8000000 in
theorem rcv_p2 (e : UE) (A B : Option Addr) (c d : Nat) (D : Option Addr) (dc : Nat) (ms : List UInt8) (W : World) (hH : HeldU W e A c B d) (hD : IsB W D ms.length ms) (hDn : ms.length ≤ 1000000) (hDc : ms.length ≤ dc) (hx : uE e = 0) (hv : dOk ms = true) (hk : (dM ms).k ≠ 1) (hn : (dM ms).n ∈ e.cs) : Calls Try.prog 78 #[.agg (UEV e A c B d), .slice D ms.length dc] W (RcvP e ms W) := by
  have HC := Lib.hid (show rcvE e ms = 0 by unfold rcvE; rw [if_pos hx, if_pos hv, if_neg hk, if_pos hn])
  have HX := Lib.hid hn
  obtain ⟨k, hkk⟩ : ∃ k, e.cs.idxOf (dM ms).n = k := ⟨_, rfl⟩
  have hkl : k < e.cs.length := by rw [← hkk]; exact List.idxOf_lt_length_of_mem hn
  have HK := Lib.hid hkk
  have HU := Lib.hid (show rcvU e ms = { e with cs := e.cs.eraseIdx k } by unfold rcvU; rw [if_neg hk, hkk])
  have dk : decide ((k : Int) < 0) = false := df (by omega)
  have hal1 := hH.al
  have hkw : IntKind.i64.wrap ((k : Int) + 1) = (k : Int) + 1 := by rw [IntKind.wrap_i64]; omega
  clear hn hkk
  have ta1 := ta_1
  have ta2 := ta_2
  have ta3 := ta_3
  have hok := dOk_ok hv
  have hOk := RM.ok_iff.1 hok
  have HCL := Lib.hid (show ∀ A c, clV (dM ms) A c = .iface 188 (.agg #[.int .i64 (dM ms).n, .int .i64 (dM ms).e, .slice A (dM ms).b.length c]) from fun A c => by
    unfold clV
    rw [if_pos hok, if_neg (by omega)])
  have hn0 := hOk.n0
  have hn1 := hOk.n1
  have hbd := uV_bd (uE_ne hx).1
  have hal0 := hH.al
  have hbl0 := hH.bl
  have HE := Lib.hid hx
  have HV := Lib.hid hv
  have HM := Lib.hid hk
  clear hx hv hk hok hOk
  have hB1 := (((Below.refl W.heap.size W).alloc (Nat.le_refl _) (.cells (UEV e A c B d) 112)).alloc (by simp) (.cells ZU 112)).alloc (by simp; omega) (.cells ZRm 97)
  have r1 := ((Row.born W 112 (UEV e A c B d)).alloc (.cells ZU 112)).alloc (.cells ZRm 97)
  have r2 : Row (((W.alloc (.cells (UEV e A c B d) 112)).alloc (.cells ZU 112)).alloc (.cells ZRm 97)) (W.heap.size + 1) 112 ZU := by
    have h := (Row.born (W.alloc (.cells (UEV e A c B d) 112)) 112 ZU).alloc (.cells ZRm 97)
    have e1 : (W.alloc (.cells (UEV e A c B d) 112)).heap.size = W.heap.size + 1 := by simp
    rwa [e1] at h
  have r3 : Row (((W.alloc (.cells (UEV e A c B d) 112)).alloc (.cells ZU 112)).alloc (.cells ZRm 97)) (W.heap.size + 2) 97 ZRm := by
    have h := Row.born ((W.alloc (.cells (UEV e A c B d) 112)).alloc (.cells ZU 112)) 97 ZRm
    have e1 : ((W.alloc (.cells (UEV e A c B d) 112)).alloc (.cells ZU 112)).heap.size = W.heap.size + 2 := by simp
    rwa [e1] at h
  have hH1 := hH.below hB1
  go_enter Try.func78, Try.ntmps78
  go_upto_region 1 with (fail)
  change Code.wp _ _ _ _ (((W.alloc (.cells (UEV e A c B d) 112)).alloc (.cells ZU 112)).alloc (.cells ZRm 97))
  generalize ((W.alloc (.cells (UEV e A c B d) 112)).alloc (.cells ZU 112)).alloc (.cells ZRm 97) = w1 at *
  have hl1 := r1.lt
  have hl2 := r2.lt
  have hl3 := r3.lt
  go_upto_region 4 with (first | ((with_reducible refine wp_load_g ?_ r1.range Try.underlying112 rfl (uev_info _ _ _ _ _) ?_ ?_); rfl; rfl) | (go_at_call 122; (with_reducible refine (check_is HE.out hH1).mono ?_); rintro en w2 ⟨rfl, hb2⟩; have r1 := r1.below hb2 hl1; have r2 := r2.below hb2 hl2; have r3 := r3.below hb2 hl3; have hB2 := hB1.trans (hb2.mono hB1.size)))
  have hD2 := hD.below hB2
  have hl1 := r1.lt
  have hl2 := r2.lt
  have hl3 := r3.lt
  go_upto_region 5 with (first | (go_at_call 64; (with_reducible refine (decode_y HV.out hD2 hDn hDc).mono ?_); rintro en w4 ⟨A4, c4, rfl, ho4, hb4⟩) | ((with_reducible refine wp_row_store (L := RMV (dM ms) A4 c4) (Row.bornAt' (g := w4.heap.size) rfl 97 _) ?_ (rmv_info _ _ _) (rmv_one _ _ _) ?_ ?_ ?_); rfl; rfl; rfl; intro w5 u5 r5))
  have hal := Upd.below ((Below.refl w4.heap.size w4).alloc (Nat.le_refl _) (.cells ZRm 97)) u5 (Nat.le_refl _)
  have r1 := (r1.below hb4 hl1).below hal (Nat.lt_of_lt_of_le hl1 hb4.size)
  have r2 := (r2.below hb4 hl2).below hal (Nat.lt_of_lt_of_le hl2 hb4.size)
  have r3 := (r3.below hb4 hl3).below hal (Nat.lt_of_lt_of_le hl3 hb4.size)
  have hB5 := (hB2.trans (hb4.mono hB2.size)).trans (hal.mono (Nat.le_trans hB2.size hb4.size))
  have ho5 := (ho4.below hal).lower hB2.size
  have hg8 : W.heap.size + 3 ≤ w4.heap.size := by have := hb4.size; omega
  have r8 := r5
  clear hal u5 r5 ho4 hb4 hb2 hB1 hB2 hH1 hD2
  generalize w4.heap.size = g8 at *
  have hH5 := hH.below hB5
  have hl1 := r1.lt
  have hl2 := r2.lt
  have hl3 := r3.lt
  have hl8 := r8.lt
  go_upto_region 8 with (first | ((with_reducible refine wp_load_g ?_ r1.range Try.underlying112 rfl (uev_info _ _ _ _ _) ?_ ?_); rfl; rfl) | (go_at_call 123; (with_reducible refine (cloneU e A B c d _ hH5).mono ?_); rintro en w6 ⟨A6, c6, B6, d6, rfl, ho6, hb6⟩) | ((with_reducible refine wp_row_store (L := UEV e A6 c6 B6 d6) (Row.bornAt' (g := w6.heap.size) rfl 112 _) ?_ (uev_info _ _ _ _ _) (uev_one _ _ _ _ _) ?_ ?_ ?_); rfl; rfl; rfl; intro w7 u7 r10))
  have hal := Upd.below ((Below.refl w6.heap.size w6).alloc (Nat.le_refl _) (.cells ZU 112)) u7 (Nat.le_refl _)
  have r1 := (r1.below hb6 hl1).below hal (Nat.lt_of_lt_of_le hl1 hb6.size)
  have r2 := (r2.below hb6 hl2).below hal (Nat.lt_of_lt_of_le hl2 hb6.size)
  have r3 := (r3.below hb6 hl3).below hal (Nat.lt_of_lt_of_le hl3 hb6.size)
  have r8 := (r8.below hb6 hl8).below hal (Nat.lt_of_lt_of_le hl8 hb6.size)
  have hB7 := (hB5.trans (hb6.mono hB5.size)).trans (hal.mono (Nat.le_trans hB5.size hb6.size))
  have ho7 := ho6.below hal
  have hm7 := (ho5.below hb6).below hal
  have hg10 : w5.heap.size ≤ w6.heap.size := hb6.size
  have hg5 : g8 < w5.heap.size := hl8
  have hW5 : W.heap.size ≤ w5.heap.size := hB5.size
  clear hal u7 ho6 hb6 hB5 hH5 ho5 hl1 hl2 hl3 hl8
  generalize w6.heap.size = g10 at *
  generalize w5.heap.size = b5 at *
  have hl1 := r1.lt
  have hl2 := r2.lt
  have hl3 := r3.lt
  have hl8 := r8.lt
  have hl10 := r10.lt
  go_upto_region 9 with (first | ((with_reducible refine wp_load_g ?_ r8.range Try.underlying97 rfl (rmv_info _ _ _) ?_ ?_); rfl; rfl) | (go_at_call 112; (with_reducible refine (classify (dM ms) A4 c4 _).mono ?_); rintro en wq ⟨rfl, hbq⟩; rw [HCL.out]))
  have r1 := r1.below hbq hl1
  have r2 := r2.below hbq hl2
  have r3 := r3.below hbq hl3
  have r8 := r8.below hbq hl8
  have r10 := r10.below hbq hl10
  have hBq := hB7.trans (hbq.mono hB7.size)
  have hoq := ho7.below hbq
  have hmq := hm7.below hbq
  have hgq : g10 < wq.heap.size := Nat.lt_of_lt_of_le hl10 hbq.size
  clear hbq hB7 ho7 hm7 hl1 hl2 hl3 hl8 hl10
  have hal := (Below.refl wq.heap.size wq).alloc (Nat.le_refl _) (.cells #[.int .i64 (dM ms).n, .int .i64 (dM ms).e, .slice A4 (dM ms).b.length c4] 188)
  have rT := Row.born wq 188 #[.int .i64 (dM ms).n, .int .i64 (dM ms).e, .slice A4 (dM ms).b.length c4]
  go_upto_region 17 with (fail)
  change Code.wp _ _ _ _ (wq.alloc (.cells #[.int .i64 (dM ms).n, .int .i64 (dM ms).e, .slice A4 (dM ms).b.length c4] 188))
  have r1 := r1.below hal r1.lt
  have r2 := r2.below hal r2.lt
  have r3 := r3.below hal r3.lt
  have r8 := r8.below hal r8.lt
  have r10 := r10.below hal r10.lt
  have hBr := hBq.trans (hal.mono hBq.size)
  have hor := hoq.below hal
  have hmr := hmq.below hal
  clear hal hBq hoq hmq
  generalize wq.alloc (.cells #[.int .i64 (dM ms).n, .int .i64 (dM ms).e, .slice A4 (dM ms).b.length c4] 188) = wr at *
  generalize wq.heap.size = gT at *
  have t0 : wr.cell? ⟨gT, 0, none⟩ = some (.int .i64 (dM ms).n) := rT.cell 0
  obtain ⟨g7, rfl, hg7, hg7s⟩ := OwnV.form (size := 1) hor.a (by omega)
  have q3 : wr.cell? ⟨g10, 3, none⟩ = some (.slice (some ⟨g7, 0, none⟩) e.cs.length c6) := r10.cell 3
  have HDl := Lib.hid (delete_is hor.a hkl hal1)
  have HIx := Lib.hid hor.a.isB
  go_upto_region 21 with (first | (go_at_call 125; (with_reducible refine (index_mem HIx.out (by omega) HX.out).mono ?_); rintro en w' ⟨rfl, h9⟩; rw [h9, HK.out]; clear h9) | (go_at_call 126; (with_reducible refine HDl.out.mono ?_); rintro en w7 ⟨rfl, ho7, hg⟩; have kp7 := Keeps.grown (ts := [3]) hg (fun k hk => OwnV.typed (size := 1) hor.a k hk); have r7 := kp7.row r10 (by decide); have q3 : w7.cell? ⟨g10, 3, none⟩ = some (.slice (some ⟨g7, 0, none⟩) e.cs.length c6) := r7.cell 3; have f3 := r7.frozen 3))
  have hb7 := OwnN.kept_ap hor.b hg (fun b hb h => hor.ap ⟨g7, 0, none⟩ b rfl hb h.symm)
  have hB7 := hBr.grown hg hBr.size (fun k hk => by injection hk with hk; omega)
  have r2 := kp7.row r2 (by decide)
  have r3 := kp7.row r3 (by decide)
  have r8 := kp7.row r8 (by decide)
  have hm7 := hmr.keeps kp7 (by decide)
  have ho8 : OwnU w7 b5 { e with cs := e.cs.eraseIdx k } (some ⟨g7, 0, none⟩) c6 B6 d6 := ⟨ho7, hb7, hor.ap⟩
  have u8 := Upd.setCell w7 g10 3 (.slice (some ⟨g7, 0, none⟩) (e.cs.eraseIdx k).length c6)
  have r10' := r7.set 3 (.slice (some ⟨g7, 0, none⟩) (e.cs.eraseIdx k).length c6)
  have e8 : (UEV e (some ⟨g7, 0, none⟩) c6 B6 d6).setIfInBounds 3 (.slice (some ⟨g7, 0, none⟩) (e.cs.eraseIdx k).length c6) = UEV { e with cs := e.cs.eraseIdx k } (some ⟨g7, 0, none⟩) c6 B6 d6 := by simp [UEV]
  rw [e8] at r10'
  have k8 := Keeps.upd (ts := [112]) u8 r7 (by simp)
  have ho8 := ho8.keeps k8 (by decide)
  have w8M := hm7.keeps k8 (by decide)
  have w8B := Upd.below hB7 u8 (by omega)
  have r2 := r2.upd u8 (by omega)
  have r3 := r3.upd u8 (by omega)
  have r8 := r8.upd u8 (by omega)
  clear e8 q3 f3 r7 ho7 hb7 kp7 hg HDl HIx hm7 hmr hor hB7 hBr u8 r10 k8 r1 rT t0
  have r10 := r10'
  clear r10'
  generalize w7.setCell ⟨g10, 3, none⟩ (.slice (some ⟨g7, 0, none⟩) (e.cs.eraseIdx k).length c6) = w8 at *
  have hW5 := hW5
  have hB5d := w8B.drew
  have ho5 := ho8.below ((Below.refl _ _).drew)
  have hm5 := w8M.below ((Below.refl _ _).drew)
  have r2 := r2.drew
  have r3 := r3.drew
  have r8 := r8.drew
  have r10 := r10.drew
  refine wp_region_late (n := 85) [2, 3] (fun kst us w' => Below W.heap.size W w' ∧ Row w' g10 112 (UEV { e with cs := e.cs.eraseIdx k } (some ⟨g7, 0, none⟩) c6 B6 d6) ∧ Row w' g8 97 (RMV (dM ms) A4 c4) ∧ (kst = 0 → Row w' (W.heap.size + 1) 112 ZU) ∧ (1 ≤ kst → Row w' (W.heap.size + 1) 112 (UEV { e with cs := e.cs.eraseIdx k } (some ⟨g7, 0, none⟩) c6 B6 d6)) ∧ (kst ≤ 1 → Row w' (W.heap.size + 2) 97 ZRm) ∧ (2 ≤ kst → Row w' (W.heap.size + 2) 97 (RMV (dM ms) A4 c4)) ∧ OwnU w' b5 { e with cs := e.cs.eraseIdx k } (some ⟨g7, 0, none⟩) c6 B6 d6 ∧ OwnB w' W.heap.size 5 A4 (dM ms).b.length c4 (dM ms).b) (fun _ _ => True) (by kernel_rfl) (by kernel_rfl) (by rfl) (fun _ _ _ _ _ h => h) ⟨hB5d, r10, r8, fun _ => r2, fun h => by omega, fun _ => r3, fun h => by omega, ho5, hm5⟩ ?_
  refine late_pure (by simp) (fun w => trivial) (v := .agg (UEV { e with cs := e.cs.eraseIdx k } (some ⟨g7, 0, none⟩) c6 B6 d6)) (fun _ => rfl) ?_ ?_; (focus (intro c9 us w9 hm9 hS9 hF; exact exec_load_g hS9.2.1.range Try.underlying112 rfl (uev_info _ _ _ _ _) rfl)); simp only [Act.put, zA, zB, zC, Nat.reduceAdd]
  refine late_pure (by simp) (fun w => trivial) (v := .agg (RMV (dM ms) A4 c4)) (fun _ => rfl) ?_ ?_; (focus (intro c9 us w9 hm9 hS9 hF; exact exec_load_g hS9.2.2.1.range Try.underlying97 rfl (rmv_info _ _ _) rfl)); simp only [Act.put, zA, zB, zC, Nat.reduceAdd]
  refine late_store rfl ?_ ?_; (focus (intro us w9 hS9 hF K hK; clear hF; obtain ⟨s1, s2, s3, s4, -, s6, -, s8, s9⟩ := hS9; rw [if_pos (by rfl)]; exact step_put (L := UEV { e with cs := e.cs.eraseIdx k } (some ⟨g7, 0, none⟩) c6 B6 d6) (s4 rfl) rfl (uev_info _ _ _ _ _) (uev_one _ _ _ _ _) rfl rfl (fun w9 u9 r9 => hK w9 ⟨Upd.below s1 u9 (by omega), s2.upd u9 (by omega), s3.upd u9 (by omega), fun h => by omega, fun _ => r9, fun _ => (s6 (by omega)).upd u9 (by omega), fun h => by omega, s8.keeps (Keeps.upd (ts := [112]) u9 (s4 rfl) (by simp)) (by decide), s9.keeps (Keeps.upd (ts := [112]) u9 (s4 rfl) (by simp)) (by decide)⟩ trivial))); (try simp only [Nat.reduceAdd])
  refine late_store rfl ?_ ?_; (focus (intro us w9 hS9 hF K hK; clear hF; obtain ⟨s1, s2, s3, -, s5, s6, -, s8, s9⟩ := hS9; rw [if_pos (by rfl)]; exact step_put (L := RMV (dM ms) A4 c4) (s6 (by omega)) rfl (rmv_info _ _ _) (rmv_one _ _ _) rfl rfl (fun w9 u9 r9 => hK w9 ⟨Upd.below s1 u9 (by omega), s2.upd u9 (by omega), s3.upd u9 (by omega), fun h => by omega, fun _ => (s5 (by omega)).upd u9 (by omega), fun h => by omega, fun _ => r9, s8.keeps (Keeps.upd (ts := [97]) u9 (s6 (by omega)) (by simp)) (by decide), s9.keeps (Keeps.upd (ts := [97]) u9 (s6 (by omega)) (by simp)) (by decide)⟩ trivial))); (try simp only [Nat.reduceAdd])
  refine late_pure (by simp) (fun w => trivial) (v := ?_) (fun _ => rfl) ?_ ?_; rotate_left; (focus (intro c9 us w9 hm9 hS9 hF; clear hF hm9 hS9; go_simp; (try with_reducible rfl); done)); simp only [Act.put, zA, zB, zC, Nat.reduceAdd]
  refine late_done fun us wz hSz hF => ?_
  obtain ⟨z1, -, -, -, z5, -, z7, z8, z9⟩ := hSz
  have z5 := z5 (by omega)
  have z7 := z7 (by omega)
  clear hF
  go_wp2
  refine bodyPost_ret (results_cc1 rfl rfl rfl z5 z7 Try.underlying112 Try.underlying97 rfl rfl (uev_info _ _ _ _ _) (rmv_info _ _ _)) rfl ?_
  rw [← HU.out] at z8 ⊢
  exact ⟨z1, .inr ⟨HC.out, _, _, _, _, A4, c4, rfl, ⟨z8.a.lower hW5, z8.b.lower hW5, z8.ap⟩, z9⟩⟩
set_option maxRecDepth 100000 in
set_option maxHeartbeats 8000000 in
theorem rcv_q3 (e : UE) (A B : Option Addr) (c d : Nat) (D : Option Addr) (dc : Nat) (ms : List UInt8) (W : World) (hH : HeldU W e A c B d) (hD : IsB W D ms.length ms) (hDn : ms.length ≤ 1000000) (hDc : ms.length ≤ dc) (hx : uE e = 0) (hv : dOk ms = true) (hk : (dM ms).k = 1) (hn : (dM ms).n = e.se + 1) (hl : (e.ss.length : Int) ≠ e.cr) : Calls Try.prog 78 #[.agg (UEV e A c B d), .slice D ms.length dc] W (RcvP e ms W) := by
  have HC := Lib.hid (show rcvE e ms = 0 by unfold rcvE; rw [if_pos hx, if_pos hv, if_pos hk, if_pos hn, if_neg hl])
  have HU := Lib.hid (show rcvU e ms = { e with se := (dM ms).n, ss := e.ss ++ [(dM ms).n] } by unfold rcvU; rw [if_pos hk])
  have d1 : ((dM ms).n != e.se + 1) = false := nf hn
  have d2 : ((e.ss.length : Int) == e.cr) = false := ef hl
  clear hn hl
  have ta1 := ta_1
  have ta2 := ta_2
  have ta3 := ta_3
  have hok := dOk_ok hv
  have hOk := RM.ok_iff.1 hok
  have HCL := Lib.hid (show ∀ A c, clV (dM ms) A c = .iface 186 (.agg #[.int .i64 (dM ms).n, .int .i64 (dM ms).s, .slice A (dM ms).b.length c]) from fun A c => by
    unfold clV
    rw [if_pos hok, if_pos hk])
  have hn0 := hOk.n0
  have hn1 := hOk.n1
  have hbd := uV_bd (uE_ne hx).1
  have hal0 := hH.al
  have hbl0 := hH.bl
  have HE := Lib.hid hx
  have HV := Lib.hid hv
  have HM := Lib.hid hk
  clear hx hv hk hok hOk
  have hB1 := (((Below.refl W.heap.size W).alloc (Nat.le_refl _) (.cells (UEV e A c B d) 112)).alloc (by simp) (.cells ZU 112)).alloc (by simp; omega) (.cells ZRm 97)
  have r1 := ((Row.born W 112 (UEV e A c B d)).alloc (.cells ZU 112)).alloc (.cells ZRm 97)
  have r2 : Row (((W.alloc (.cells (UEV e A c B d) 112)).alloc (.cells ZU 112)).alloc (.cells ZRm 97)) (W.heap.size + 1) 112 ZU := by
    have h := (Row.born (W.alloc (.cells (UEV e A c B d) 112)) 112 ZU).alloc (.cells ZRm 97)
    have e1 : (W.alloc (.cells (UEV e A c B d) 112)).heap.size = W.heap.size + 1 := by simp
    rwa [e1] at h
  have r3 : Row (((W.alloc (.cells (UEV e A c B d) 112)).alloc (.cells ZU 112)).alloc (.cells ZRm 97)) (W.heap.size + 2) 97 ZRm := by
    have h := Row.born ((W.alloc (.cells (UEV e A c B d) 112)).alloc (.cells ZU 112)) 97 ZRm
    have e1 : ((W.alloc (.cells (UEV e A c B d) 112)).alloc (.cells ZU 112)).heap.size = W.heap.size + 2 := by simp
    rwa [e1] at h
  have hH1 := hH.below hB1
  go_enter Try.func78, Try.ntmps78
  go_upto_region 1 with (fail)
  change Code.wp _ _ _ _ (((W.alloc (.cells (UEV e A c B d) 112)).alloc (.cells ZU 112)).alloc (.cells ZRm 97))
  generalize ((W.alloc (.cells (UEV e A c B d) 112)).alloc (.cells ZU 112)).alloc (.cells ZRm 97) = w1 at *
  have hl1 := r1.lt
  have hl2 := r2.lt
  have hl3 := r3.lt
  go_upto_region 4 with (first | ((with_reducible refine wp_load_g ?_ r1.range Try.underlying112 rfl (uev_info _ _ _ _ _) ?_ ?_); rfl; rfl) | (go_at_call 122; (with_reducible refine (check_is HE.out hH1).mono ?_); rintro en w2 ⟨rfl, hb2⟩; have r1 := r1.below hb2 hl1; have r2 := r2.below hb2 hl2; have r3 := r3.below hb2 hl3; have hB2 := hB1.trans (hb2.mono hB1.size)))
  have hD2 := hD.below hB2
  have hl1 := r1.lt
  have hl2 := r2.lt
  have hl3 := r3.lt
  go_upto_region 5 with (first | (go_at_call 64; (with_reducible refine (decode_y HV.out hD2 hDn hDc).mono ?_); rintro en w4 ⟨A4, c4, rfl, ho4, hb4⟩) | ((with_reducible refine wp_row_store (L := RMV (dM ms) A4 c4) (Row.bornAt' (g := w4.heap.size) rfl 97 _) ?_ (rmv_info _ _ _) (rmv_one _ _ _) ?_ ?_ ?_); rfl; rfl; rfl; intro w5 u5 r5))
  have hal := Upd.below ((Below.refl w4.heap.size w4).alloc (Nat.le_refl _) (.cells ZRm 97)) u5 (Nat.le_refl _)
  have r1 := (r1.below hb4 hl1).below hal (Nat.lt_of_lt_of_le hl1 hb4.size)
  have r2 := (r2.below hb4 hl2).below hal (Nat.lt_of_lt_of_le hl2 hb4.size)
  have r3 := (r3.below hb4 hl3).below hal (Nat.lt_of_lt_of_le hl3 hb4.size)
  have hB5 := (hB2.trans (hb4.mono hB2.size)).trans (hal.mono (Nat.le_trans hB2.size hb4.size))
  have ho5 := (ho4.below hal).lower hB2.size
  have hg8 : W.heap.size + 3 ≤ w4.heap.size := by have := hb4.size; omega
  have r8 := r5
  clear hal u5 r5 ho4 hb4 hb2 hB1 hB2 hH1 hD2
  generalize w4.heap.size = g8 at *
  have hH5 := hH.below hB5
  have hl1 := r1.lt
  have hl2 := r2.lt
  have hl3 := r3.lt
  have hl8 := r8.lt
  go_upto_region 8 with (first | ((with_reducible refine wp_load_g ?_ r1.range Try.underlying112 rfl (uev_info _ _ _ _ _) ?_ ?_); rfl; rfl) | (go_at_call 123; (with_reducible refine (cloneU e A B c d _ hH5).mono ?_); rintro en w6 ⟨A6, c6, B6, d6, rfl, ho6, hb6⟩) | ((with_reducible refine wp_row_store (L := UEV e A6 c6 B6 d6) (Row.bornAt' (g := w6.heap.size) rfl 112 _) ?_ (uev_info _ _ _ _ _) (uev_one _ _ _ _ _) ?_ ?_ ?_); rfl; rfl; rfl; intro w7 u7 r10))
  have hal := Upd.below ((Below.refl w6.heap.size w6).alloc (Nat.le_refl _) (.cells ZU 112)) u7 (Nat.le_refl _)
  have r1 := (r1.below hb6 hl1).below hal (Nat.lt_of_lt_of_le hl1 hb6.size)
  have r2 := (r2.below hb6 hl2).below hal (Nat.lt_of_lt_of_le hl2 hb6.size)
  have r3 := (r3.below hb6 hl3).below hal (Nat.lt_of_lt_of_le hl3 hb6.size)
  have r8 := (r8.below hb6 hl8).below hal (Nat.lt_of_lt_of_le hl8 hb6.size)
  have hB7 := (hB5.trans (hb6.mono hB5.size)).trans (hal.mono (Nat.le_trans hB5.size hb6.size))
  have ho7 := ho6.below hal
  have hm7 := (ho5.below hb6).below hal
  have hg10 : w5.heap.size ≤ w6.heap.size := hb6.size
  have hg5 : g8 < w5.heap.size := hl8
  have hW5 : W.heap.size ≤ w5.heap.size := hB5.size
  clear hal u7 ho6 hb6 hB5 hH5 ho5 hl1 hl2 hl3 hl8
  generalize w6.heap.size = g10 at *
  generalize w5.heap.size = b5 at *
  have hl1 := r1.lt
  have hl2 := r2.lt
  have hl3 := r3.lt
  have hl8 := r8.lt
  have hl10 := r10.lt
  go_upto_region 9 with (first | ((with_reducible refine wp_load_g ?_ r8.range Try.underlying97 rfl (rmv_info _ _ _) ?_ ?_); rfl; rfl) | (go_at_call 112; (with_reducible refine (classify (dM ms) A4 c4 _).mono ?_); rintro en wq ⟨rfl, hbq⟩; rw [HCL.out]))
  have r1 := r1.below hbq hl1
  have r2 := r2.below hbq hl2
  have r3 := r3.below hbq hl3
  have r8 := r8.below hbq hl8
  have r10 := r10.below hbq hl10
  have hBq := hB7.trans (hbq.mono hB7.size)
  have hoq := ho7.below hbq
  have hmq := hm7.below hbq
  have hgq : g10 < wq.heap.size := Nat.lt_of_lt_of_le hl10 hbq.size
  clear hbq hB7 ho7 hm7 hl1 hl2 hl3 hl8 hl10
  have hsw : IntKind.i64.wrap (e.se + 1) = e.se + 1 := by rw [IntKind.wrap_i64]; omega
  have hal := (Below.refl wq.heap.size wq).alloc (Nat.le_refl _) (.cells #[.int .i64 (dM ms).n, .int .i64 (dM ms).s, .slice A4 (dM ms).b.length c4] 186)
  have rT := Row.born wq 186 #[.int .i64 (dM ms).n, .int .i64 (dM ms).s, .slice A4 (dM ms).b.length c4]
  go_upto_region 11 with (fail)
  change Code.wp _ _ _ _ (wq.alloc (.cells #[.int .i64 (dM ms).n, .int .i64 (dM ms).s, .slice A4 (dM ms).b.length c4] 186))
  have r1 := r1.below hal r1.lt
  have r2 := r2.below hal r2.lt
  have r3 := r3.below hal r3.lt
  have r8 := r8.below hal r8.lt
  have r10 := r10.below hal r10.lt
  have hBr := hBq.trans (hal.mono hBq.size)
  have hor := hoq.below hal
  have hmr := hmq.below hal
  clear hal hBq hoq hmq
  generalize wq.alloc (.cells #[.int .i64 (dM ms).n, .int .i64 (dM ms).s, .slice A4 (dM ms).b.length c4] 186) = wr at *
  generalize wq.heap.size = gT at *
  have t0 : wr.cell? ⟨gT, 0, none⟩ = some (.int .i64 (dM ms).n) := rT.cell 0
  have q0 : wr.cell? ⟨W.heap.size, 0, none⟩ = some (.int .i64 e.cr) := r1.cell 0
  have q2 : wr.cell? ⟨W.heap.size, 2, none⟩ = some (.int .i64 e.se) := r1.cell 2
  have q4 : wr.cell? ⟨W.heap.size, 4, none⟩ = some (.slice B e.ss.length d) := r1.cell 4
  have p2 : wr.cell? ⟨g10, 2, none⟩ = some (.int .i64 e.se) := r10.cell 2
  have p2f := r10.frozen 2
  have hTW : Upd wr (wr.setCell ⟨g10, 2, none⟩ (.int .i64 (dM ms).n)) g10 := Upd.setCell wr g10 2 _
  go_upto_region 14 with (fail)
  have r10' := r10.set 2 (.int .i64 (dM ms).n)
  have e7 : (UEV e A6 c6 B6 d6).setIfInBounds 2 (.int .i64 (dM ms).n) = UEV { e with se := (dM ms).n } A6 c6 B6 d6 := by simp [UEV]
  rw [e7] at r10'
  have k7 := Keeps.upd (ts := [112]) hTW r10 (by simp)
  have ho7 := hor.keeps k7 (by decide)
  have hm7 := hmr.keeps k7 (by decide)
  have hB7 := Upd.below hBr hTW (by omega)
  have r2 := r2.upd hTW (by omega)
  have r3 := r3.upd hTW (by omega)
  have r8 := r8.upd hTW (by omega)
  have rT := rT.upd hTW (by omega)
  have hs7 : b5 ≤ (wr.setCell ⟨g10, 2, none⟩ (.int .i64 (dM ms).n)).heap.size := by rw [hTW.size]; have := r10.lt; omega
  clear e7 q0 q2 q4 p2 p2f t0 r1 r10 hor hmr hBr k7 hTW
  generalize wr.setCell ⟨g10, 2, none⟩ (.int .i64 (dM ms).n) = w7 at *
  have t0 : w7.cell? ⟨gT, 0, none⟩ = some (.int .i64 (dM ms).n) := rT.cell 0
  have p4 : w7.cell? ⟨g10, 4, none⟩ = some (.slice B6 e.ss.length d6) := r10'.cell 4
  have hal8 := (Below.refl w7.heap.size w7).alloc (Nat.le_refl _) (.cells #[.int .i64 (dM ms).n] 3)
  have hI8 : IsN (w7.alloc (.cells #[.int .i64 (dM ms).n] 3)) (some ⟨w7.heap.size, 0, none⟩) 1 [(dM ms).n] := IsN.of_row (bs := [(dM ms).n]) (Row.born w7 3 #[.int .i64 (dM ms).n])
  have ho8 := ho7.below hal8
  have hm8 := hm7.below hal8
  have r10 := r10'.below hal8 r10'.lt
  have r2 := r2.below hal8 r2.lt
  have r3 := r3.below hal8 r3.lt
  have r8 := r8.below hal8 r8.lt
  have hB8 := hB7.trans (hal8.mono hB7.size)
  have hs8 : b5 ≤ (w7.alloc (.cells #[.int .i64 (dM ms).n] 3)).heap.size := Nat.le_trans hs7 hal8.size
  have hlen : (e.ss.length + 1) * 8 ≤ 140737488355328 := by have := hH.bl; omega
  go_upto_region 15 with (at_builtin; (refine wp_append_n (P := Try.prog) rfl _ _ 52 rfl Try.underlying52 info_n ho8.b hI8 hlen hs8 rfl rfl ?_); intro A9 n9 c9 w9 hn9 ho9 hb9 hg9 hat9; have kp9 := Keeps.grown (ts := [3]) hg9 (fun k hk => OwnV.typed (size := 1) ho8.b k hk); have r9 := kp9.row r10 (by decide); have p4 : w9.cell? ⟨g10, 4, none⟩ = some (.slice B6 e.ss.length d6) := r9.cell 4; have f4 := r9.frozen 4)
  have hB9 := hB8.trans (hb9.mono hW5)
  have ho10 := OwnU.appB (e' := { e with se := (dM ms).n, ss := e.ss ++ [(dM ms).n] }) ho8 ho9 hg9 hat9 (by rw [hn9.out]; simp) rfl rfl
  have hm10 := hm8.keeps kp9 (by decide)
  have r2 := kp9.row r2 (by decide)
  have r3 := kp9.row r3 (by decide)
  have r8 := kp9.row r8 (by decide)
  have u10 := Upd.setCell w9 g10 4 (.slice A9 n9 c9)
  have r10'' := r9.set 4 (.slice A9 n9 c9)
  have e10 : (UEV { e with se := (dM ms).n } A6 c6 B6 d6).setIfInBounds 4 (.slice A9 n9 c9) = UEV { e with se := (dM ms).n, ss := e.ss ++ [(dM ms).n] } A6 c6 A9 c9 := by simp [UEV, hn9.out]
  rw [e10] at r10''
  have k10 := Keeps.upd (ts := [112]) u10 r9 (by simp)
  have ho10 := ho10.keeps k10 (by decide)
  have w8M := hm10.keeps k10 (by decide)
  have w8B := Upd.below hB9 u10 (by omega)
  have r2 := r2.upd u10 (by omega)
  have r3 := r3.upd u10 (by omega)
  have r8 := r8.upd u10 (by omega)
  clear e10 r9 r10 ho8 ho9 hg9 hat9 hb9 hI8 hal8 hB7 hB8 hB9 f4 p4 ho7 hs7 hs8 u10 hn9 t0 rT r10' hm7 hm8 hm10 k10 kp9
  have r10 := r10''
  clear r10''
  generalize w9.setCell ⟨g10, 4, none⟩ (.slice A9 n9 c9) = w8 at *
  have hW5 := hW5
  have hB5d := w8B.drew
  have ho5 := ho10.below ((Below.refl _ _).drew)
  have hm5 := w8M.below ((Below.refl _ _).drew)
  have r2 := r2.drew
  have r3 := r3.drew
  have r8 := r8.drew
  have r10 := r10.drew
  refine wp_region_late (n := 85) [2, 3] (fun kst us w' => Below W.heap.size W w' ∧ Row w' g10 112 (UEV { e with se := (dM ms).n, ss := e.ss ++ [(dM ms).n] } A6 c6 A9 c9) ∧ Row w' g8 97 (RMV (dM ms) A4 c4) ∧ (kst = 0 → Row w' (W.heap.size + 1) 112 ZU) ∧ (1 ≤ kst → Row w' (W.heap.size + 1) 112 (UEV { e with se := (dM ms).n, ss := e.ss ++ [(dM ms).n] } A6 c6 A9 c9)) ∧ (kst ≤ 1 → Row w' (W.heap.size + 2) 97 ZRm) ∧ (2 ≤ kst → Row w' (W.heap.size + 2) 97 (RMV (dM ms) A4 c4)) ∧ OwnU w' b5 { e with se := (dM ms).n, ss := e.ss ++ [(dM ms).n] } A6 c6 A9 c9 ∧ OwnB w' W.heap.size 5 A4 (dM ms).b.length c4 (dM ms).b) (fun _ _ => True) (by kernel_rfl) (by kernel_rfl) (by rfl) (fun _ _ _ _ _ h => h) ⟨hB5d, r10, r8, fun _ => r2, fun h => by omega, fun _ => r3, fun h => by omega, ho5, hm5⟩ ?_
  refine late_pure (by simp) (fun w => trivial) (v := .agg (UEV { e with se := (dM ms).n, ss := e.ss ++ [(dM ms).n] } A6 c6 A9 c9)) (fun _ => rfl) ?_ ?_; (focus (intro c9 us w9 hm9 hS9 hF; exact exec_load_g hS9.2.1.range Try.underlying112 rfl (uev_info _ _ _ _ _) rfl)); simp only [Act.put, zA, zB, zC, Nat.reduceAdd]
  refine late_pure (by simp) (fun w => trivial) (v := .agg (RMV (dM ms) A4 c4)) (fun _ => rfl) ?_ ?_; (focus (intro c9 us w9 hm9 hS9 hF; exact exec_load_g hS9.2.2.1.range Try.underlying97 rfl (rmv_info _ _ _) rfl)); simp only [Act.put, zA, zB, zC, Nat.reduceAdd]
  refine late_store rfl ?_ ?_; (focus (intro us w9 hS9 hF K hK; clear hF; obtain ⟨s1, s2, s3, s4, -, s6, -, s8, s9⟩ := hS9; rw [if_pos (by rfl)]; exact step_put (L := UEV { e with se := (dM ms).n, ss := e.ss ++ [(dM ms).n] } A6 c6 A9 c9) (s4 rfl) rfl (uev_info _ _ _ _ _) (uev_one _ _ _ _ _) rfl rfl (fun w9 u9 r9 => hK w9 ⟨Upd.below s1 u9 (by omega), s2.upd u9 (by omega), s3.upd u9 (by omega), fun h => by omega, fun _ => r9, fun _ => (s6 (by omega)).upd u9 (by omega), fun h => by omega, s8.keeps (Keeps.upd (ts := [112]) u9 (s4 rfl) (by simp)) (by decide), s9.keeps (Keeps.upd (ts := [112]) u9 (s4 rfl) (by simp)) (by decide)⟩ trivial))); (try simp only [Nat.reduceAdd])
  refine late_store rfl ?_ ?_; (focus (intro us w9 hS9 hF K hK; clear hF; obtain ⟨s1, s2, s3, -, s5, s6, -, s8, s9⟩ := hS9; rw [if_pos (by rfl)]; exact step_put (L := RMV (dM ms) A4 c4) (s6 (by omega)) rfl (rmv_info _ _ _) (rmv_one _ _ _) rfl rfl (fun w9 u9 r9 => hK w9 ⟨Upd.below s1 u9 (by omega), s2.upd u9 (by omega), s3.upd u9 (by omega), fun h => by omega, fun _ => (s5 (by omega)).upd u9 (by omega), fun h => by omega, fun _ => r9, s8.keeps (Keeps.upd (ts := [97]) u9 (s6 (by omega)) (by simp)) (by decide), s9.keeps (Keeps.upd (ts := [97]) u9 (s6 (by omega)) (by simp)) (by decide)⟩ trivial))); (try simp only [Nat.reduceAdd])
  refine late_pure (by simp) (fun w => trivial) (v := ?_) (fun _ => rfl) ?_ ?_; rotate_left; (focus (intro c9 us w9 hm9 hS9 hF; clear hF hm9 hS9; go_simp; (try with_reducible rfl); done)); simp only [Act.put, zA, zB, zC, Nat.reduceAdd]
  refine late_done fun us wz hSz hF => ?_
  obtain ⟨z1, -, -, -, z5, -, z7, z8, z9⟩ := hSz
  have z5 := z5 (by omega)
  have z7 := z7 (by omega)
  clear hF
  go_wp2
  refine bodyPost_ret (results_cc1 rfl rfl rfl z5 z7 Try.underlying112 Try.underlying97 rfl rfl (uev_info _ _ _ _ _) (rmv_info _ _ _)) rfl ?_
  rw [← HU.out] at z8 ⊢
  exact ⟨z1, .inr ⟨HC.out, _, _, _, _, A4, c4, rfl, ⟨z8.a.lower hW5, z8.b.lower hW5, z8.ap⟩, z9⟩⟩
theorem receiveU (e : UE) (A B : Option Addr) (c d : Nat) (D : Option Addr) (dc : Nat) (ms : List UInt8) (W : World) (hH : HeldU W e A c B d) (hD : IsB W D ms.length ms) (hDn : ms.length ≤ 1000000) (hDc : ms.length ≤ dc) : Calls Try.prog 78 #[.agg (UEV e A c B d), .slice D ms.length dc] W (RcvP e ms W) := by
  by_cases hx : uE e = 0
  · cases hv : dOk ms
    · exact rcv_dec e A B c d D dc ms W hH hD hDn hDc hx hv
    · by_cases hk : (dM ms).k = 1
      · by_cases hn : (dM ms).n = e.se + 1
        · by_cases hl : (e.ss.length : Int) = e.cr
          · exact rcv_q2 e A B c d D dc ms W hH hD hDn hDc hx hv hk hn hl
          · exact rcv_q3 e A B c d D dc ms W hH hD hDn hDc hx hv hk hn hl
        · exact rcv_q1 e A B c d D dc ms W hH hD hDn hDc hx hv hk hn
      · by_cases hn : (dM ms).n ∈ e.cs
        · exact rcv_p2 e A B c d D dc ms W hH hD hDn hDc hx hv hk hn
        · exact rcv_p1 e A B c d D dc ms W hH hD hDn hDc hx hv hk hn
  · exact rcv_chk e A B c d D dc ms W hH hD hDn hDc _ rfl hx
end
end Go.Proofs.Ythjkhambmgepdaa
