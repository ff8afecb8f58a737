/- Texts Uj, without what this claim does not use. -/
import Derived.Test.YthjkhambmgepdaaQak
namespace Go.Proofs.Ythjkhambmgepdaa
section
open Go.RowKit
set_option linter.unusedVariables false
set_option linter.unusedSimpArgs false
theorem uB_one {v : Nat} (h : v < 128) : uB v = [UInt8.ofNat v] := by
  rw [← uB_of (show Grp v 1 from ⟨by omega, by omega, .inl rfl⟩)]
  simp [uvB, uvByte, List.range_succ, Nat.mod_eq_of_lt h]
theorem newU_is {n : Int} {e : UE} {W : World} (h : nwK n = true) (hU : nwU n = e) : Calls Try.prog 71 #[.int .i64 n] W (fun en W' => en = .returned (.tuple #[.agg (UEV e none 0 none 0), .int .i64 0]) ∧ Below W.heap.size W W') := by
  refine (newU n W).mono ?_
  rintro en W' ⟨hb, ⟨h1, -⟩ | ⟨-, h2⟩⟩
  · rw [h] at h1
    cases h1
  · rw [← hU]
    exact ⟨h2, hb⟩
theorem call_is {e e' : UE} {A B : Option Addr} {c d : Nat} {s x : Int} {D : Option Addr} {dc : Nat} {b bs : List UInt8} {W : World} (h0 : calE e s b = 0) (hU : calU e = e') (hx : e.la + 1 = x) (hb : (rqM x s b).by = bs) (hH : HeldU W e A c B d) (hD : IsB W D b.length b) :
    Calls Try.prog 76 #[.agg (UEV e A c B d), .int .i64 s, .slice D b.length dc] W (fun en W' => ∃ A c B d g, en = .returned (.tuple #[.agg (UEV e' A c B d), .int .i64 x, .slice (some ⟨g, 0, none⟩) bs.length bs.length, .int .i64 0]) ∧ OwnU W' W.heap.size e' A c B d ∧ W.heap.size ≤ g ∧ IsB W' (some ⟨g, 0, none⟩) bs.length bs ∧ Below W.heap.size W W') := by
  refine (callU e A B c d s D dc b W hH hD).mono ?_
  subst hU hx hb
  rintro en W' ⟨hb, ⟨h1, -⟩ | ⟨-, A', c', B', d', g, l, h2, h3, h4, rfl, h5⟩⟩
  · exact absurd h0 h1
  · exact ⟨A', c', B', d', g, h2, h3, h4, h5, hb⟩
theorem rcv_is {e e' : UE} {m : RM} {A B : Option Addr} {c d : Nat} {D : Option Addr} {n dc : Nat} {ms : List UInt8} {W : World} (h0 : rcvE e ms = 0) (hU : rcvU e ms = e') (hm : dM ms = m) (hH : HeldU W e A c B d) (hD : IsB W D n ms) (hDn : n ≤ 1000000) (hDc : n ≤ dc) :
    Calls Try.prog 78 #[.agg (UEV e A c B d), .slice D n dc] W (fun en W' => ∃ A c B d A' c', en = .returned (.tuple #[.agg (UEV e' A c B d), .agg (RMV m A' c'), .int .i64 0]) ∧ OwnU W' W.heap.size e' A c B d ∧ OwnB W' W.heap.size 5 A' m.b.length c' m.b ∧ Below W.heap.size W W') := by
  obtain rfl := hD.1
  refine (receiveU e A B c d D dc ms W hH hD hDn hDc).mono ?_
  subst hU hm
  rintro en W' ⟨hb, ⟨h1, -⟩ | ⟨-, A', c', B', d', A2, c2, h2, h3, h4⟩⟩
  · exact absurd h0 h1
  · exact ⟨A', c', B', d', A2, c2, h2, h3, h4, hb⟩
theorem rep_is {e e' : UE} {A B : Option Addr} {c d : Nat} {n r : Int} {D : Option Addr} {dc : Nat} {b bs : List UInt8} {W : World} (h0 : repE e n r b = 0) (hU : repU e n = e') (hb : (rpM n r b).by = bs) (hH : HeldU W e A c B d) (hD : IsB W D b.length b) :
    Calls Try.prog 80 #[.agg (UEV e A c B d), .int .i64 n, .int .i64 r, .slice D b.length dc] W (fun en W' => ∃ A c B d g, en = .returned (.tuple #[.agg (UEV e' A c B d), .slice (some ⟨g, 0, none⟩) bs.length bs.length, .int .i64 0]) ∧ OwnU W' W.heap.size e' A c B d ∧ W.heap.size ≤ g ∧ IsB W' (some ⟨g, 0, none⟩) bs.length bs ∧ Below W.heap.size W W') := by
  refine (replyU e A B c d n r D dc b W hH hD).mono ?_
  subst hU hb
  rintro en W' ⟨hb, ⟨h1, -⟩ | ⟨-, A', c', B', d', g, h2, h3, h4, h5⟩⟩
  · exact absurd h0 h1
  · exact ⟨A', c', B', d', g, h2, h3, h4, h5, hb⟩
theorem valid_is32 {e : UE} {A B : Option Addr} {c d : Nat} {W : World} {b : Bool} (hv : uV e = b) (hH : HeldU W e A c B d) : Calls Try.prog 74 #[.agg (UEV e A c B d)] W (fun en W' => en = .returned (.bool b) ∧ Below W.heap.size W W') :=
  (validU e A B c d W hH).mono fun en W' h => by rw [← hv]; exact h
def a32_0 : UE := ⟨2, 0, 0, [], [], false⟩
def a32_1 : UE := ⟨2, 1, 0, [1], [], false⟩
def a32_2 : UE := ⟨2, 1, 0, [], [], false⟩
def b32_1 : UE := ⟨2, 0, 1, [], [1], false⟩
def b32_2 : UE := ⟨2, 0, 1, [], [], false⟩
def m32_1 : List UInt8 := [1, 1, 7, 2, 1, 2]
def m32_2 : List UInt8 := [2, 1, 0, 1, 3]
theorem m32_1_is : (rqM 1 7 [1, 2]).by = m32_1 := by
  unfold RM.by RM.d rqM
  simp only [if_true, List.length_cons, List.length_nil]
  rw [show (1 : Int).toNat = 1 from rfl, show (7 : Int).toNat = 7 from rfl, uB_one (by omega), uB_one (by omega), uB_one (by omega)]
  rfl
theorem m32_2_is : (rpM 1 0 [3]).by = m32_2 := by
  unfold RM.by RM.d rpM
  rw [if_neg (by decide)]
  simp only [List.length_cons, List.length_nil]
  rw [show (2 : Int).toNat = 2 from rfl, show (1 : Int).toNat = 1 from rfl, show (0 : Int).toNat = 0 from rfl, uB_one (by omega), uB_one (by omega), uB_one (by omega)]
  rfl
theorem d32_1 : dOk m32_1 = true ∧ dM m32_1 = rqM 1 7 [1, 2] := by
  rw [← m32_1_is]
  exact rm_dec (by decide)
theorem d32_2 : dOk m32_2 = true ∧ dM m32_2 = rpM 1 0 [3] := by
  rw [← m32_2_is]
  exact rm_dec (by decide)
theorem a32_cal : calE a32_0 7 [1, 2] = 0 := by decide
theorem b32_rcv : rcvE a32_0 m32_1 = 0 := by unfold rcvE; rw [d32_1.1, d32_1.2]; decide
theorem b32_rcvU : rcvU a32_0 m32_1 = b32_1 := by unfold rcvU; rw [d32_1.2]; rfl
theorem b32_rep : repE b32_1 1 0 [3] = 0 := by decide
theorem b32_repU : repU b32_1 1 = b32_2 := by unfold repU b32_1 b32_2; rfl
theorem a32_rcv : rcvE a32_1 m32_2 = 0 := by unfold rcvE; rw [d32_2.1, d32_2.2]; decide
theorem a32_rcvU : rcvU a32_1 m32_2 = a32_2 := by unfold rcvU; rw [d32_2.2]; rfl
theorem OwnU.h {w : World} {base : Nat} {e : UE} {A B : Option Addr} {c d : Nat} (h : OwnU w base e A c B d) (h1 : e.cs.length ≤ 1000 := by decide) (h2 : e.ss.length ≤ 1000 := by decide) : HeldU w e A c B d := h.held h1 h2
set_option maxRecDepth 100000 in
set_option maxHeartbeats 8000000 in
theorem awake32 (W : World) : Calls Try.prog 62 #[] W (True1 W) := by
  go_enter Try.func62, Try.ntmps62
  go_upto_region 2 with (first | (go_at_call 71; refine (newU_is (n := 2) (e := a32_0) rfl rfl).mono ?_; rintro en w0 ⟨rfl, hb0⟩) | ((with_reducible refine wp_row_store (L := UEV a32_0 none 0 none 0) (Row.bornAt' (g := w0.heap.size) rfl 112 _) ?_ (uev_info _ _ _ _ _) (uev_one _ _ _ _ _) ?_ ?_ ?_); rfl; rfl; rfl; intro w1 u1 r1))
  have hB := hb0.trans ((Upd.below ((Below.refl w0.heap.size w0).alloc (Nat.le_refl _) (.cells ZU 112)) u1 (Nat.le_refl _)).mono hb0.size)
  have hg1 : W.heap.size ≤ w0.heap.size := hb0.size
  clear hb0 u1
  generalize w0.heap.size = g1 at *
  have hl1 := r1.lt
  go_upto_region 3 with (first | (go_at_call 71; refine (newU_is (n := 2) (e := a32_0) rfl rfl).mono ?_; rintro en w2 ⟨rfl, hb2⟩) | ((with_reducible refine wp_row_store (L := UEV a32_0 none 0 none 0) (Row.bornAt' (g := w2.heap.size) rfl 112 _) ?_ (uev_info _ _ _ _ _) (uev_one _ _ _ _ _) ?_ ?_ ?_); rfl; rfl; rfl; intro w3 u3 r3))
  have hal := Upd.below ((Below.refl w2.heap.size w2).alloc (Nat.le_refl _) (.cells ZU 112)) u3 (Nat.le_refl _)
  have r1 := (r1.below hb2 hl1).below hal (Nat.lt_of_lt_of_le hl1 hb2.size)
  have hB := (hB.trans (hb2.mono hB.size)).trans (hal.mono (Nat.le_trans hB.size hb2.size))
  have hg13 : g1 < w2.heap.size := Nat.lt_of_lt_of_le hl1 hb2.size
  clear hb2 u3 hal hl1
  generalize w2.heap.size = g3 at *
  -- the call
  have hal4 := (Below.refl w3.heap.size w3).alloc (Nat.le_refl _) (.cells #[.int .u8 1, .int .u8 2] 5)
  have hI4 : IsB (w3.alloc (.cells #[.int .u8 1, .int .u8 2] 5)) (some ⟨w3.heap.size, 0, none⟩) 2 [1, 2] := IsB.of_row (bs := [1, 2]) (Row.born w3 5 #[.int .u8 1, .int .u8 2])
  have r1a := r1
  have r1 := r1.below hal4 r1.lt
  have r3 := r3.below hal4 r3.lt
  have hB := hB.trans (hal4.mono hB.size)
  have hl1 := r1.lt
  have hl3 := r3.lt
  clear hal4
  go_upto_region 4 with (first | ((with_reducible refine wp_load_g ?_ r1a.range Try.underlying112 rfl (uev_info _ _ _ _ _) ?_ ?_); rfl; rfl) | (go_at_call 76; refine (call_is (e := a32_0) (e' := a32_1) (x := 1) (b := [1, 2]) (bs := m32_1) a32_cal rfl rfl m32_1_is ⟨IsN.nil _ _, IsN.nil _ _, by decide, by decide⟩ hI4).mono ?_; rintro en w5 ⟨A5, c5, B5, d5, g5, rfl, ho5, hg5, hI5, hb5⟩; have r1 := r1.below hb5 hl1) | ((with_reducible refine wp_row_store (L := UEV a32_1 A5 c5 B5 d5) r1 rfl (uev_info _ _ _ _ _) (uev_one _ _ _ _ _) ?_ ?_ ?_); rfl; rfl; intro w6 u6 r6))
  have r3 := (r3.below hb5 hl3).upd u6 (by omega)
  have k6 := Keeps.upd (ts := [112]) u6 r1 (by simp)
  have hw5 := hB.size
  have hg53 : g3 < g5 := Nat.lt_of_lt_of_le hl3 hg5
  have ho6 := ho5.keeps k6 (by decide)
  have hI6 := isB_kept hI5 fun b o e h0 => u6.block b (fun h => by injection e with e; injection e with e1 e2; omega)
  have hB := Upd.below (hB.trans (hb5.mono hB.size)) u6 hg1
  have hg5' : m32_1.length ≠ 0 → g5 < w6.heap.size := fun h => by
    obtain ⟨b', o', e', hlt, -⟩ := hI6.at_ (by omega)
    injection e' with e'
    injection e' with e1 e2
    omega
  have hg5l := hg5' (by decide)
  clear hb5 u6 k6 ho5 hI5 hI4 r1 r1a hl1 hl3 hg5' hw5
  have hl6 := r6.lt
  have hl3 := r3.lt
  -- the other end takes it
  go_upto_region 5 with (first | ((with_reducible refine wp_load_g ?_ r3.range Try.underlying112 rfl (uev_info _ _ _ _ _) ?_ ?_); rfl; rfl) | (go_at_call 78; refine (rcv_is (e := a32_0) (e' := b32_1) (m := rqM 1 7 [1, 2]) b32_rcv b32_rcvU d32_1.2 ⟨IsN.nil _ _, IsN.nil _ _, by decide, by decide⟩ hI6 (by decide) (by decide)).mono ?_; rintro en w7 ⟨A7, c7, B7, d7, A8, c8, rfl, ho7, hm7, hb7⟩; have r3 := r3.below hb7 hl3; have h73 := r3.lt) | ((with_reducible refine wp_row_store (L := UEV b32_1 A7 c7 B7 d7) (r3.alloc _) rfl (uev_info _ _ _ _ _) (uev_one _ _ _ _ _) ?_ ?_ ?_); rfl; rfl; intro w8 u8 r8) | ((with_reducible refine wp_row_store (L := RMV (rqM 1 7 [1, 2]) A8 c8) ((Row.bornAt' (w := w7) rfl 97 _).upd u8 (by omega)) rfl (rmv_info _ _ _) (rmv_one _ _ _) ?_ ?_ ?_); rfl; rfl; intro w9 u9 r9))
  have k9 : Keeps [112, 97] w7 w9 := ((Keeps.below ((Below.refl _ _).alloc (Nat.le_refl _) _)).trans (Keeps.upd u8 (r3.alloc _) (by simp))).trans (Keeps.upd u9 ((Row.bornAt' (w := w7) rfl 97 _).upd u8 (by omega)) (by simp))
  have hB7 := hB.trans (hb7.mono hB.size)
  have hB9 := Upd.below (Upd.below (hB7.alloc hB7.size _) u8 (by omega)) u9 hB7.size
  have r8' := r8.upd u9 (by omega)
  have r6' := (((r6.below hb7 hl6).alloc _).upd u8 (by omega)).upd u9 (by have := hb7.size; omega)
  have ho9 := ho7.keeps k9 (by decide)
  have hoa := (ho6.below hb7).keeps k9 (by decide)
  have hI9 : IsB w9 (some ⟨g5, 0, none⟩) m32_1.length m32_1 := isB_kept (hI6.below hb7) fun b o e h0 => by
    injection e with e
    injection e with e1 e2
    have h1 := hb7.size
    rw [u9.block b (by omega), u8.block b (by omega)]
    exact (Below.refl w7.heap.size w7).alloc (Nat.le_refl _) _ |>.block b (by omega)
  have hg9 : w7.heap.size ≤ w9.heap.size := k9.1
  have hg39 : g3 < w7.heap.size := h73
  clear r1 r3 r6 r8 ho6 ho7 hI6 hb7 hB hB7 k9 hl6 hl3 h73 u8 u9
  -- its reply
  generalize w7.heap.size = g9 at *
  have hal := (Below.refl w9.heap.size w9).alloc (Nat.le_refl _) (.cells #[.int .u8 3] 5)
  have hI10 : IsB (w9.alloc (.cells #[.int .u8 3] 5)) (some ⟨w9.heap.size, 0, none⟩) 1 [3] := IsB.of_row (bs := [3]) (Row.born w9 5 #[.int .u8 3])
  have r3 := r8'.below hal r8'.lt
  have r1 := r6'.below hal r6'.lt
  have r8 := r9.below hal r9.lt
  have ho10 := ho9.below hal
  have hoa := hoa.below hal
  have hm9 := hI9.below hal
  have hB := hB9.trans (hal.mono hB9.size)
  have hl1 := r1.lt
  have hl3 := r3.lt
  have hl8 := r8.lt
  have hb10 := (ho10.h (by decide) (by decide))
  go_upto_region 6 with (first | ((with_reducible refine wp_load_g ?_ r8'.range Try.underlying112 rfl (uev_info _ _ _ _ _) ?_ ?_); rfl; rfl) | (go_at_call 80; refine (rep_is (e := b32_1) (e' := b32_2) (b := [3]) (bs := m32_2) b32_rep b32_repU m32_2_is hb10 hI10).mono ?_; rintro en w11 ⟨A11, c11, B11, d11, g11, rfl, ho11, hg11, hI11, hb11⟩; have r3 := r3.below hb11 hl3) | ((with_reducible refine wp_row_store (L := UEV b32_2 A11 c11 B11 d11) r3 rfl (uev_info _ _ _ _ _) (uev_one _ _ _ _ _) ?_ ?_ ?_); rfl; rfl; intro w12 u12 r12))
  have k12 := Keeps.upd (ts := [112]) u12 r3 (by simp)
  have hg311 : g3 < g11 := Nat.lt_of_lt_of_le hl3 hg11
  have r1 := (r1.below hb11 hl1).upd u12 (by omega)
  have r8 := (r8.below hb11 hl8).upd u12 (by omega)
  have hoa := (hoa.below hb11).keeps k12 (by decide)
  have ho12 := ho11.keeps k12 (by decide)
  have hm12 : IsB w12 (some ⟨g5, 0, none⟩) m32_1.length m32_1 := isB_kept (hm9.below hb11) fun b o e h0 => u12.block b (fun h => by injection e with e; injection e with e1 e2; omega)
  have hI12 : IsB w12 (some ⟨g11, 0, none⟩) m32_2.length m32_2 := isB_kept hI11 fun b o e h0 => u12.block b (fun h => by injection e with e; injection e with e1 e2; omega)
  have hB := Upd.below (hB.trans (hb11.mono hB.size)) u12 (by omega)
  have hg5m : g5 < w12.heap.size := by
    obtain ⟨b', o', e', hlt, -⟩ := hm12.at_ (by decide)
    injection e' with e'
    injection e' with e1 e2
    omega
  have hg11l : g11 < w12.heap.size := by
    obtain ⟨b', o', e', hlt, -⟩ := hI12.at_ (by decide)
    injection e' with e'
    injection e' with e1 e2
    omega
  clear r3 hb11 k12 ho10 hb10 ho11 hI11 hI10 hm9 hI9 hal hB9 u12 ho9 r8' r6' r9 hl1 hl3 hl8
  have hba := hoa.h (by decide) (by decide)
  have hl1 := r1.lt
  have hl3 := r12.lt
  have hl8 := r8.lt
  -- the caller takes it
  go_upto_region 7 with (first | ((with_reducible refine wp_load_g ?_ r1.range Try.underlying112 rfl (uev_info _ _ _ _ _) ?_ ?_); rfl; rfl) | (go_at_call 78; refine (rcv_is (e := a32_1) (e' := a32_2) (m := rpM 1 0 [3]) a32_rcv a32_rcvU d32_2.2 hba hI12 (by decide) (by decide)).mono ?_; rintro en w13 ⟨A13, c13, B13, d13, A14, c14, rfl, ho13, hm13, hb13⟩; have r1 := r1.below hb13 hl1; have h73 := r1.lt) | ((with_reducible refine wp_row_store (L := UEV a32_2 A13 c13 B13 d13) (r1.alloc _) rfl (uev_info _ _ _ _ _) (uev_one _ _ _ _ _) ?_ ?_ ?_); rfl; rfl; intro w14 u14 r14) | ((with_reducible refine wp_row_store (L := RMV (rpM 1 0 [3]) A14 c14) ((Row.bornAt' (w := w13) rfl 97 _).upd u14 (by omega)) rfl (rmv_info _ _ _) (rmv_one _ _ _) ?_ ?_ ?_); rfl; rfl; intro w15 u15 r15))
  have k15 : Keeps [112, 97] w13 w15 := ((Keeps.below ((Below.refl _ _).alloc (Nat.le_refl _) _)).trans (Keeps.upd u14 (r1.alloc _) (by simp))).trans (Keeps.upd u15 ((Row.bornAt' (w := w13) rfl 97 _).upd u14 (by omega)) (by simp))
  have hs13 := hb13.size
  have hB13 := hB.trans (hb13.mono hB.size)
  have hB15 := Upd.below (Upd.below (hB13.alloc hB13.size _) u14 (by omega)) u15 hB13.size
  have q1 := r14.upd u15 (by omega)
  have q3 := (((r12.below hb13 hl3).alloc _).upd u14 (by omega)).upd u15 (by omega)
  have q8 := (((r8.below hb13 hl8).alloc _).upd u14 (by omega)).upd u15 (by omega)
  have hob := (ho12.below hb13).keeps k15 (by decide)
  have hbb := hob.h (by decide) (by decide)
  have hm15 := hm13.keeps k15 (by decide)
  have hx5 : IsB w15 (some ⟨g5, 0, none⟩) m32_1.length m32_1 := isB_kept (hm12.below hb13) fun b o e h0 => by
    injection e with e
    injection e with e1 e2
    rw [u15.block b (by omega), u14.block b (by omega)]
    exact (Below.refl w13.heap.size w13).alloc (Nat.le_refl _) _ |>.block b (by omega)
  have s1 : (convert 44 9 (.slice (some ⟨g5, 0, none⟩) m32_1.length m32_1.length)).run Try.prog w15 = .ok (.string ⟨#[1, 1, 7, 2, 1, 2]⟩) w15 := run_str (P := Try.prog) (dst := 9) Try.underlying44 Try.underlying5 Try.underlying9 m32_1.length hx5
  have s2 : (convert 44 9 (.slice A14 1 c14)).run Try.prog w15 = .ok (.string ⟨#[3]⟩) w15 := run_str (P := Try.prog) (dst := 9) Try.underlying44 Try.underlying5 Try.underlying9 c14 hm15.isB
  have p8 : w15.cell? ⟨g9, 2, none⟩ = some (.int .i64 7) := q8.cell 2
  have p15 : w15.cell? ⟨w13.heap.size, 1, none⟩ = some (.int .i64 1) := r15.cell 1
  have p154 : w15.cell? ⟨w13.heap.size, 4, none⟩ = some (.slice A14 1 c14) := r15.cell 4
  have p1 : w15.cell? ⟨g1, 3, none⟩ = some (.slice A13 0 c13) := q1.cell 3
  clear hx5 hm15 hob hm12 hI12 r8 r12 r1 r14 r15 q1 q8 k15 u14 u15 hoa ho12 hba hB13 hm13 ho13 hb13 hB
  go_wp2_with (first | ((with_reducible refine wp_load_g ?_ q3.range Try.underlying112 rfl (uev_info _ _ _ _ _) ?_ ?_); rfl; rfl) | (go_at_call 74; refine (valid_is32 (e := b32_2) (b := true) (by decide) hbb).mono ?_; rintro en w16 ⟨rfl, hb16⟩))
  go_ret
  exact ⟨rfl, hB15.trans (hb16.mono hB15.size)⟩
end
end Go.Proofs.Ythjkhambmgepdaa
