/- urpc's reference: CallRemote, LostRemote. -/
import Derived.Test.YthjkhambmgepdaaEb
import Derived.Test.YthjkhambmgepdaaVk
namespace Go.Proofs.Ythjkhambmgepdaa
open Go.RowKit
set_option linter.unusedVariables false
set_option linter.unusedSimpArgs false
/-- Two lists, each in new memory. -/
structure TwoN (w : World) (base : Nat) (e : UE) (A : Option Addr) (c : Nat) (B : Option Addr) (d : Nat) : Prop where
  a : OwnN w base 3 A e.cs.length c e.cs
  b : OwnN w base 3 B e.ss.length d e.ss
  al : e.cs.length ≤ 1000
  bl : e.ss.length ≤ 1000
theorem TwoN.held {w : World} {base : Nat} {e : UE} {A B : Option Addr} {c d : Nat} (h : TwoN w base e A c B d) : HeldU w e A c B d := ⟨h.a.isB, h.b.isB, h.al, h.bl⟩
theorem TwoN.below {w w' : World} {base : Nat} {e : UE} {A B : Option Addr} {c d : Nat} (h : TwoN w base e A c B d) (hb : Below w.heap.size w w') : TwoN w' base e A c B d := ⟨h.a.below hb, h.b.below hb, h.al, h.bl⟩
theorem TwoN.keeps {ts : List TypeId} {w w' : World} {base : Nat} {e : UE} {A B : Option Addr} {c d : Nat} (h : TwoN w base e A c B d) (k : Keeps ts w w') (h3 : 3 ∉ ts) : TwoN w' base e A c B d := ⟨h.a.keeps k h3, h.b.keeps k h3, h.al, h.bl⟩
theorem uev_no_byte {e : UE} {A B : Option Addr} {c d k : Nat} {x : Int} (h : (UEV e A c B d)[k]? = some (.int .u8 x)) : False := by
  unfold UEV at h
  rcases k with _ | _ | _ | _ | _ | _ | k <;> simp at h
theorem apart_u {w : World} {g : Nat} {e : UE} {P Q : Option Addr} {c d : Nat} {A : Option Addr} {n : Nat} {bs : List UInt8} (hr : Row w g 112 (UEV e P c Q d)) (hI : IsB w A n bs) : ∀ b o, A = some ⟨b, o, none⟩ → 0 < n → b ≠ g := by
  intro b o e h0 hbg
  subst hbg
  obtain ⟨b', o', e', hlt, hc⟩ := hI.at_ h0
  rw [e] at e'
  injection e' with e'
  injection e' with e1 e2
  subst e1 e2
  have h1 := hc 0 (by have := hI.1; omega)
  rw [hr.cell] at h1
  exact uev_no_byte h1
theorem encR_ok (m : RM) (A : Option Addr) (c : Nat) (W : World) (hv : m.ok = true) (hA : IsB W A m.b.length m.b) : Calls Try.prog 84 #[.agg (RMV m A c)] W (fun en W' => ∃ A l c, en = .returned (.tuple #[.slice A l c, .int .i64 0]) ∧ IsB W' A l m.by ∧ Below W.heap.size W W') := by
  refine (encodeR m A c W hA).mono ?_
  rintro en W' ⟨hb, ⟨h, -⟩ | ⟨-, A, l, c, h1, h2⟩⟩
  · rw [hv] at h
    cases h
  · exact ⟨A, l, c, h1, h2, hb⟩
theorem encR_no (m : RM) (A : Option Addr) (c : Nat) (W : World) (hv : m.ok = false) (hA : IsB W A m.b.length m.b) : Calls Try.prog 84 #[.agg (RMV m A c)] W (fun en W' => en = .returned (.tuple #[.slice none 0 0, .int .i64 1]) ∧ Below W.heap.size W W') := by
  refine (encodeR m A c W hA).mono ?_
  rintro en W' ⟨hb, ⟨-, h⟩ | ⟨h, -⟩⟩
  · exact ⟨h, hb⟩
  · rw [hv] at h
    cases h
def CalRP (e : UE) (s : Int) (b : List UInt8) (W : World) (en : Ending) (W' : World) : Prop := Below W.heap.size W W' ∧
  ((calE e s b ≠ 0 ∧ en = .returned (.tuple #[.agg ZU, .int .i64 0, .slice none 0 0, .int .i64 (calE e s b)])) ∨
   (calE e s b = 0 ∧ ∃ A c B d M l mc, en = .returned (.tuple #[.agg (UEV (calU e) A c B d), .int .i64 (e.la + 1), .slice M l mc, .int .i64 0]) ∧ TwoN W' W.heap.size (calU e) A c B d ∧ IsB W' M l (rqM (e.la + 1) s b).by))
theorem calR_no {e : UE} {s : Int} {b : List UInt8} {x : Int} {W W' : World} (h : calE e s b = x) (hx : x ≠ 0) (hb : Below W.heap.size W W') : CalRP e s b W (.returned (.tuple #[.agg ZU, .int .i64 0, .slice none 0 0, .int .i64 x])) W' := ⟨hb, .inl ⟨by rw [h]; exact hx, by rw [h]⟩⟩
set_option maxRecDepth 100000 in
set_option maxHeartbeats 8000000 in
theorem callR_chk (e : UE) (A B : Option Addr) (c d : Nat) (s : Int) (D : Option Addr) (dc : Nat) (b : List UInt8) (W : World) (hH : HeldU W e A c B d) (hD : IsB W D b.length b) (x : Int) (hx : uE e = x) (h0 : x ≠ 0) : Calls Try.prog 77 #[.agg (UEV e A c B d), .int .i64 s, .slice D b.length dc] W (CalRP e s b W) := by
  have HC := Lib.hid (show calE e s b = x by unfold calE; rw [if_neg (by omega), hx])
  have HE := Lib.hid hx
  have H0 := Lib.hid h0
  have dx : (x != 0) = true := nt h0
  clear hx h0
  have hB1 := ((Below.refl W.heap.size W).alloc (Nat.le_refl _) (.cells (UEV e A c B d) 112)).alloc (by simp) (.cells ZU 112)
  have r1 := (Row.born W 112 (UEV e A c B d)).alloc (.cells ZU 112)
  have r2 : Row ((W.alloc (.cells (UEV e A c B d) 112)).alloc (.cells ZU 112)) (W.heap.size + 1) 112 ZU := by
    have h := Row.born (W.alloc (.cells (UEV e A c B d) 112)) 112 ZU
    have e1 : (W.alloc (.cells (UEV e A c B d) 112)).heap.size = W.heap.size + 1 := by simp
    rwa [e1] at h
  have hH1 := hH.below hB1
  go_enter Try.func77, Try.ntmps77
  go_upto_region 1 with (fail)
  change Code.wp _ _ _ _ ((W.alloc (.cells (UEV e A c B d) 112)).alloc (.cells ZU 112))
  generalize (W.alloc (.cells (UEV e A c B d) 112)).alloc (.cells ZU 112) = w1 at *
  have hl1 := r1.lt
  have hl2 := r2.lt
  go_wp2_with (first | ((with_reducible refine wp_load_g ?_ r1.range Try.underlying112 rfl (uev_info _ _ _ _ _) ?_ ?_); rfl; rfl) | (go_at_call 124; (with_reducible refine (usable_is HE.out hH1).mono ?_); rintro en w2 ⟨rfl, hb2⟩; have r1 := r1.below hb2 hl1; have r2 := r2.below hb2 hl2; have hB2 := hB1.trans (hb2.mono hB1.size); have hl1 := r1.lt; have hl2 := r2.lt) | ((with_reducible refine wp_row_store (L := ZU) r2 rfl zu_info zu_one ?_ ?_ ?_); rfl; rfl; intro w9 u9 r9))
  refine bodyPost_ret (results_c3 rfl rfl r9 Try.underlying112 rfl zu_info) rfl ?_
  exact calR_no HC.out H0.out (Upd.below hB2 u9 (by omega))
set_option maxRecDepth 100000 in
set_option maxHeartbeats 8000000 in
theorem callR_inv (e : UE) (A B : Option Addr) (c d : Nat) (s : Int) (D : Option Addr) (dc : Nat) (b : List UInt8) (W : World) (hH : HeldU W e A c B d) (hD : IsB W D b.length b) (hx : uE e = 0) (hv : (rqM 1 s b).ok = false) : Calls Try.prog 77 #[.agg (UEV e A c B d), .int .i64 s, .slice D b.length dc] W (CalRP e s b W) := by
  have HC := Lib.hid (show calE e s b = 1 by unfold calE; rw [if_pos hx, hv]; rfl)
  have HE := Lib.hid hx
  have HV := Lib.hid hv
  clear hx hv
  have hB1 := ((Below.refl W.heap.size W).alloc (Nat.le_refl _) (.cells (UEV e A c B d) 112)).alloc (by simp) (.cells ZU 112)
  have r1 := (Row.born W 112 (UEV e A c B d)).alloc (.cells ZU 112)
  have r2 : Row ((W.alloc (.cells (UEV e A c B d) 112)).alloc (.cells ZU 112)) (W.heap.size + 1) 112 ZU := by
    have h := Row.born (W.alloc (.cells (UEV e A c B d) 112)) 112 ZU
    have e1 : (W.alloc (.cells (UEV e A c B d) 112)).heap.size = W.heap.size + 1 := by simp
    rwa [e1] at h
  have hH1 := hH.below hB1
  go_enter Try.func77, Try.ntmps77
  go_upto_region 1 with (fail)
  change Code.wp _ _ _ _ ((W.alloc (.cells (UEV e A c B d) 112)).alloc (.cells ZU 112))
  generalize (W.alloc (.cells (UEV e A c B d) 112)).alloc (.cells ZU 112) = w1 at *
  have hl1 := r1.lt
  have hl2 := r2.lt
  go_wp2_with (first | ((with_reducible refine wp_load_g ?_ r1.range Try.underlying112 rfl (uev_info _ _ _ _ _) ?_ ?_); rfl; rfl) | (go_at_call 124; (with_reducible refine (usable_is HE.out hH1).mono ?_); rintro en w2 ⟨rfl, hb2⟩; have r1 := r1.below hb2 hl1; have r2 := r2.below hb2 hl2; have hB2 := hB1.trans (hb2.mono hB1.size); have hl1 := r1.lt; have hl2 := r2.lt) | (go_at_call 66; refine (valid_rm (rqM 1 s b) D dc _).mono ?_; rintro en w4 ⟨rfl, hb4⟩; rw [HV.out]; have r1 := r1.below hb4 hl1; have r2 := r2.below hb4 hl2; have hB4 := hB2.trans (hb4.mono hB2.size); obtain ⟨⟨c0, c1, -⟩, c3, -, -⟩ := uev_cells r1) | ((with_reducible refine wp_row_store (L := ZU) r2 rfl zu_info zu_one ?_ ?_ ?_); rfl; rfl; intro w9 u9 r9))
  refine bodyPost_ret (results_c3 rfl rfl r9 Try.underlying112 rfl zu_info) rfl ?_
  exact calR_no HC.out (by omega) (Upd.below hB4 u9 (by omega))
set_option maxRecDepth 100000 in
set_option maxHeartbeats 8000000 in
theorem callR_full (e : UE) (A B : Option Addr) (c d : Nat) (s : Int) (D : Option Addr) (dc : Nat) (b : List UInt8) (W : World) (hH : HeldU W e A c B d) (hD : IsB W D b.length b) (hx : uE e = 0) (hv : (rqM 1 s b).ok = true) (hl : (e.cs.length : Int) = e.cr) : Calls Try.prog 77 #[.agg (UEV e A c B d), .int .i64 s, .slice D b.length dc] W (CalRP e s b W) := by
  have HC := Lib.hid (show calE e s b = 65 by unfold calE; rw [if_pos hx, if_pos hv, if_pos hl])
  have HE := Lib.hid hx
  have HV := Lib.hid hv
  have dl : decide (e.cr ≤ (e.cs.length : Int)) = true := dt (by omega)
  clear hx hv hl 
  have hB1 := ((Below.refl W.heap.size W).alloc (Nat.le_refl _) (.cells (UEV e A c B d) 112)).alloc (by simp) (.cells ZU 112)
  have r1 := (Row.born W 112 (UEV e A c B d)).alloc (.cells ZU 112)
  have r2 : Row ((W.alloc (.cells (UEV e A c B d) 112)).alloc (.cells ZU 112)) (W.heap.size + 1) 112 ZU := by
    have h := Row.born (W.alloc (.cells (UEV e A c B d) 112)) 112 ZU
    have e1 : (W.alloc (.cells (UEV e A c B d) 112)).heap.size = W.heap.size + 1 := by simp
    rwa [e1] at h
  have hH1 := hH.below hB1
  go_enter Try.func77, Try.ntmps77
  go_upto_region 1 with (fail)
  change Code.wp _ _ _ _ ((W.alloc (.cells (UEV e A c B d) 112)).alloc (.cells ZU 112))
  generalize (W.alloc (.cells (UEV e A c B d) 112)).alloc (.cells ZU 112) = w1 at *
  have hl1 := r1.lt
  have hl2 := r2.lt
  go_wp2_with (first | ((with_reducible refine wp_load_g ?_ r1.range Try.underlying112 rfl (uev_info _ _ _ _ _) ?_ ?_); rfl; rfl) | (go_at_call 124; (with_reducible refine (usable_is HE.out hH1).mono ?_); rintro en w2 ⟨rfl, hb2⟩; have r1 := r1.below hb2 hl1; have r2 := r2.below hb2 hl2; have hB2 := hB1.trans (hb2.mono hB1.size); have hl1 := r1.lt; have hl2 := r2.lt) | (go_at_call 66; refine (valid_rm (rqM 1 s b) D dc _).mono ?_; rintro en w4 ⟨rfl, hb4⟩; rw [HV.out]; have r1 := r1.below hb4 hl1; have r2 := r2.below hb4 hl2; have hB4 := hB2.trans (hb4.mono hB2.size); obtain ⟨⟨c0, c1, -⟩, c3, -, -⟩ := uev_cells r1) | ((with_reducible refine wp_row_store (L := ZU) r2 rfl zu_info zu_one ?_ ?_ ?_); rfl; rfl; intro w9 u9 r9))
  refine bodyPost_ret (results_c3 rfl rfl r9 Try.underlying112 rfl zu_info) rfl ?_
  exact calR_no HC.out (by omega) (Upd.below hB4 u9 (by omega))
set_option maxRecDepth 100000 in
set_option maxHeartbeats 8000000 in
theorem callR_lim (e : UE) (A B : Option Addr) (c d : Nat) (s : Int) (D : Option Addr) (dc : Nat) (b : List UInt8) (W : World) (hH : HeldU W e A c B d) (hD : IsB W D b.length b) (hx : uE e = 0) (hv : (rqM 1 s b).ok = true) (hl : (e.cs.length : Int) ≠ e.cr) (hm : e.la = 1099511627776) : Calls Try.prog 77 #[.agg (UEV e A c B d), .int .i64 s, .slice D b.length dc] W (CalRP e s b W) := by
  have HC := Lib.hid (show calE e s b = 15 by unfold calE; rw [if_pos hx, if_pos hv, if_neg hl, if_pos hm])
  have HE := Lib.hid hx
  have HV := Lib.hid hv
  have hbd := uV_bd (uE_ne hx).1
  have dl : decide (e.cr ≤ (e.cs.length : Int)) = false := df (by omega)
  have dm : (e.la == 1099511627776) = true := et hm
  clear hx hv hl hm hbd
  have hB1 := ((Below.refl W.heap.size W).alloc (Nat.le_refl _) (.cells (UEV e A c B d) 112)).alloc (by simp) (.cells ZU 112)
  have r1 := (Row.born W 112 (UEV e A c B d)).alloc (.cells ZU 112)
  have r2 : Row ((W.alloc (.cells (UEV e A c B d) 112)).alloc (.cells ZU 112)) (W.heap.size + 1) 112 ZU := by
    have h := Row.born (W.alloc (.cells (UEV e A c B d) 112)) 112 ZU
    have e1 : (W.alloc (.cells (UEV e A c B d) 112)).heap.size = W.heap.size + 1 := by simp
    rwa [e1] at h
  have hH1 := hH.below hB1
  go_enter Try.func77, Try.ntmps77
  go_upto_region 1 with (fail)
  change Code.wp _ _ _ _ ((W.alloc (.cells (UEV e A c B d) 112)).alloc (.cells ZU 112))
  generalize (W.alloc (.cells (UEV e A c B d) 112)).alloc (.cells ZU 112) = w1 at *
  have hl1 := r1.lt
  have hl2 := r2.lt
  go_wp2_with (first | ((with_reducible refine wp_load_g ?_ r1.range Try.underlying112 rfl (uev_info _ _ _ _ _) ?_ ?_); rfl; rfl) | (go_at_call 124; (with_reducible refine (usable_is HE.out hH1).mono ?_); rintro en w2 ⟨rfl, hb2⟩; have r1 := r1.below hb2 hl1; have r2 := r2.below hb2 hl2; have hB2 := hB1.trans (hb2.mono hB1.size); have hl1 := r1.lt; have hl2 := r2.lt) | (go_at_call 66; refine (valid_rm (rqM 1 s b) D dc _).mono ?_; rintro en w4 ⟨rfl, hb4⟩; rw [HV.out]; have r1 := r1.below hb4 hl1; have r2 := r2.below hb4 hl2; have hB4 := hB2.trans (hb4.mono hB2.size); obtain ⟨⟨c0, c1, -⟩, c3, -, -⟩ := uev_cells r1) | ((with_reducible refine wp_row_store (L := ZU) r2 rfl zu_info zu_one ?_ ?_ ?_); rfl; rfl; intro w9 u9 r9))
  refine bodyPost_ret (results_c3 rfl rfl r9 Try.underlying112 rfl zu_info) rfl ?_
  exact calR_no HC.out (by omega) (Upd.below hB4 u9 (by omega))
set_option maxRecDepth 100000 in
set_option maxHeartbeats 8000000 in
theorem callR_ok (e : UE) (A B : Option Addr) (c d : Nat) (s : Int) (D : Option Addr) (dc : Nat) (b : List UInt8) (W : World) (hH : HeldU W e A c B d) (hD : IsB W D b.length b) (hx : uE e = 0) (hv : (rqM 1 s b).ok = true) (hl : (e.cs.length : Int) ≠ e.cr) (hm : e.la ≠ 1099511627776) : Calls Try.prog 77 #[.agg (UEV e A c B d), .int .i64 s, .slice D b.length dc] W (CalRP e s b W) := by
  have HC := Lib.hid (show calE e s b = 0 by unfold calE; rw [if_pos hx, if_pos hv, if_neg hl, if_neg hm])
  have HE := Lib.hid hx
  have hbd := uV_bd (uE_ne hx).1
  have HV := Lib.hid hv
  have HOK := Lib.hid (ok_req (m := e.la + 1) hv (by omega) (by omega))
  have dl : decide (e.cr ≤ (e.cs.length : Int)) = false := df (by omega)
  have dm : (e.la == 1099511627776) = false := ef hm
  have hla : IntKind.i64.wrap (e.la + 1) = e.la + 1 := by rw [IntKind.wrap_i64]; omega
  have h9c : (calU e).cs.length ≤ 1000 := by simp [calU]; have := hH.al; omega
  have h9s : (calU e).ss.length ≤ 1000 := hH.bl
  clear hx hv hl hm
  have hB1 := ((Below.refl W.heap.size W).alloc (Nat.le_refl _) (.cells (UEV e A c B d) 112)).alloc (by simp) (.cells ZU 112)
  have r1 := (Row.born W 112 (UEV e A c B d)).alloc (.cells ZU 112)
  have r2 : Row ((W.alloc (.cells (UEV e A c B d) 112)).alloc (.cells ZU 112)) (W.heap.size + 1) 112 ZU := by
    have h := Row.born (W.alloc (.cells (UEV e A c B d) 112)) 112 ZU
    have e1 : (W.alloc (.cells (UEV e A c B d) 112)).heap.size = W.heap.size + 1 := by simp
    rwa [e1] at h
  have hH1 := hH.below hB1
  go_enter Try.func77, Try.ntmps77
  go_upto_region 1 with (fail)
  change Code.wp _ _ _ _ ((W.alloc (.cells (UEV e A c B d) 112)).alloc (.cells ZU 112))
  generalize (W.alloc (.cells (UEV e A c B d) 112)).alloc (.cells ZU 112) = w1 at *
  have hl1 := r1.lt
  have hl2 := r2.lt
  go_upto_region 11 with (first | ((with_reducible refine wp_load_g ?_ r1.range Try.underlying112 rfl (uev_info _ _ _ _ _) ?_ ?_); rfl; rfl) | (go_at_call 124; (with_reducible refine (usable_is HE.out hH1).mono ?_); rintro en w2 ⟨rfl, hb2⟩; have r1 := r1.below hb2 hl1; have r2 := r2.below hb2 hl2; have hB2 := hB1.trans (hb2.mono hB1.size); have hl1 := r1.lt; have hl2 := r2.lt) | (go_at_call 66; refine (valid_rm (rqM 1 s b) D dc _).mono ?_; rintro en w4 ⟨rfl, hb4⟩; rw [HV.out]; have r1 := r1.below hb4 hl1; have r2 := r2.below hb4 hl2; have hB4 := hB2.trans (hb4.mono hB2.size); obtain ⟨⟨c0, c1, -⟩, c3, -, -⟩ := uev_cells r1))
  have hl1 := r1.lt
  have hl2 := r2.lt
  have hH4 := hH.below hB4
  clear c0 c1 c3
  go_upto_region 12 with (first | ((with_reducible refine wp_load_g ?_ r1.range Try.underlying112 rfl (uev_info _ _ _ _ _) ?_ ?_); rfl; rfl) | (go_at_call 70; (with_reducible refine (copyU e A B c d _ hH4).mono ?_); rintro en w5 ⟨A5, c5, B5, d5, rfl, ho5, hb5⟩; have r2 := r2.below hb5 hl2) | ((with_reducible refine wp_row_store (L := UEV e A5 c5 B5 d5) (Row.bornAt' (g := w5.heap.size) rfl 112 _) ?_ (uev_info _ _ _ _ _) (uev_one _ _ _ _ _) ?_ ?_ ?_); rfl; rfl; rfl; intro w6 u6 r6))
  have hal6 := Upd.below ((Below.refl w5.heap.size w5).alloc (Nat.le_refl _) (.cells ZU 112)) u6 (Nat.le_refl _)
  have r2 := r2.below hal6 r2.lt
  have ho6 := ho5.below hal6
  have hB6 := (hB4.trans (hb5.mono hB4.size)).trans (hal6.mono (Nat.le_trans hB4.size hb5.size))
  have hg3 : w4.heap.size ≤ w5.heap.size := hb5.size
  have hb46 : w4.heap.size ≤ w6.heap.size := Nat.le_trans hg3 hal6.size
  have hgl : W.heap.size + 2 ≤ w4.heap.size := by omega
  clear r1 u6 hb5 ho5 hB4 hH4 hb4 hb2 hl1 hl2 hal6 hH1 hB1 hB2
  generalize w5.heap.size = g3 at *
  generalize w4.heap.size = b4 at *
  have hW : W.heap.size ≤ b4 := by omega
  have q1 : w6.cell? ⟨g3, 1, none⟩ = some (.int .i64 e.la) := r6.cell 1
  have f1 := r6.frozen 1
  go_upto_region 13 with (fail)
  have u7 := Upd.setCell w6 g3 1 (.int .i64 (e.la + 1))
  have r7 := r6.set 1 (.int .i64 (e.la + 1))
  have e7 : (UEV e A5 c5 B5 d5).setIfInBounds 1 (.int .i64 (e.la + 1)) = UEV { e with la := e.la + 1 } A5 c5 B5 d5 := by simp [UEV]
  rw [e7] at r7
  have r2 := r2.upd u7 (by omega)
  have ho7 := ho6.keeps (Keeps.upd (ts := [112]) u7 r6 (by simp)) (by decide)
  have hB7 := Upd.below hB6 u7 (by omega)
  have hs7 : b4 ≤ (w6.setCell ⟨g3, 1, none⟩ (.int .i64 (e.la + 1))).heap.size := by rw [u7.size]; exact hb46
  clear q1 f1 e7 r6 ho6 hB6 u7 hb46
  generalize w6.setCell ⟨g3, 1, none⟩ (.int .i64 (e.la + 1)) = w7 at *
  have c1 : w7.cell? ⟨g3, 1, none⟩ = some (.int .i64 (e.la + 1)) := r7.cell 1
  have c3 : w7.cell? ⟨g3, 3, none⟩ = some (.slice A5 e.cs.length c5) := r7.cell 3
  have hal8 := (Below.refl w7.heap.size w7).alloc (Nat.le_refl _) (.cells #[.int .i64 (e.la + 1)] 3)
  have hI8 : IsN (w7.alloc (.cells #[.int .i64 (e.la + 1)] 3)) (some ⟨w7.heap.size, 0, none⟩) 1 [e.la + 1] := IsN.of_row (bs := [e.la + 1]) (Row.born w7 3 #[.int .i64 (e.la + 1)])
  have ho8 := ho7.below hal8
  have r8 := r7.below hal8 r7.lt
  have r2 := r2.below hal8 r2.lt
  have hB8 := hB7.trans (hal8.mono hB7.size)
  have hs8 : b4 ≤ (w7.alloc (.cells #[.int .i64 (e.la + 1)] 3)).heap.size := Nat.le_trans hs7 hal8.size
  have hlen : (e.cs.length + 1) * 8 ≤ 140737488355328 := by have := hH.al; omega
  have f3 := r8.frozen 3
  go_upto_region 14 with (at_builtin; (refine wp_append_n (P := Try.prog) rfl _ _ 52 rfl Try.underlying52 info_n ho8.a hI8 hlen hs8 rfl rfl ?_); intro A9 n9 c9 w9 hn9 ho9 hb9 hg9 hat9; have kp9 := Keeps.grown (ts := [3]) hg9 (fun k hk => OwnV.typed (size := 1) ho8.a k hk); have r9 := kp9.row r8 (by decide); have c3 : w9.cell? ⟨g3, 3, none⟩ = some (.slice A5 e.cs.length c5) := r9.cell 3; have f3 := r9.frozen 3)
  have r2 := kp9.row r2 (by decide)
  have hB9 := hB8.trans (hb9.mono hW)
  have ho10 := OwnU.app (e' := calU e) ho8 ho9 hg9 hat9 (by rw [hn9.out]; simp [calU]) rfl rfl
  have u10 := Upd.setCell w9 g3 3 (.slice A9 n9 c9)
  have r10 := r9.set 3 (.slice A9 n9 c9)
  have e10 : (UEV { e with la := e.la + 1 } A5 c5 B5 d5).setIfInBounds 3 (.slice A9 n9 c9) = UEV (calU e) A9 c9 B5 d5 := by simp [UEV, calU, hn9.out]
  rw [e10] at r10
  have r2 := r2.upd u10 (by omega)
  have ho10 := ho10.keeps (Keeps.upd (ts := [112]) u10 r9 (by simp)) (by decide)
  have hB10 := Upd.below hB9 u10 (by omega)
  clear e10 r9 ho8 ho9 hg9 hat9 hb9 r8 r7 hI8 hal8 hB7 hB8 hB9 c1 c3 f3 ho7 hs7 hs8 u10 hn9 kp9
  generalize w9.setCell ⟨g3, 3, none⟩ (.slice A9 n9 c9) = w10 at *
  have c1 : w10.cell? ⟨g3, 1, none⟩ = some (.int .i64 (e.la + 1)) := r10.cell 1
  have hD10 : IsB w10 D (rqM (e.la + 1) s b).b.length (rqM (e.la + 1) s b).b := hD.below hB10
  have hl10 := r10.lt
  have hl2 := r2.lt
  go_upto_region 15 with (go_at_call 84; refine (encR_ok (rqM (e.la + 1) s b) D dc w10 HOK.out hD10).mono ?_; rintro en w12 ⟨Am, lm, cm, rfl, hI12, hb12⟩)
  have r12 := r10.below hb12 hl10
  have r2 := r2.below hb12 hl2
  have hap := apart_u r2 hI12
  have ho12 := ho10.below hb12
  have hB12 := (hB10.trans (hb12.mono hB10.size)).drew
  have r12 : Row w12.drew g3 112 (UEV (calU e) A9 c9 B5 d5) := r12
  have r2 : Row w12.drew (W.heap.size + 1) 112 ZU := r2
  have hI12 : IsB w12.drew Am lm (rqM (e.la + 1) s b).by := hI12
  have ho12 : OwnU w12.drew b4 (calU e) A9 c9 B5 d5 := ho12.below ((Below.refl _ _).drew)
  clear c1 hD10 hl10 hl2 ho10 hB10 hb12 r10
  refine wp_region_late (n := 66) [4] (fun k _ w' => Upd w12.drew w' (W.heap.size + 1) ∧ (k = 0 → Row w' (W.heap.size + 1) 112 ZU) ∧ (1 ≤ k → Row w' (W.heap.size + 1) 112 (UEV (calU e) A9 c9 B5 d5))) (fun _ _ => True) (by kernel_rfl) (by kernel_rfl) (by rfl) (fun _ _ _ _ _ h => h) ⟨Upd.refl _ _, fun _ => r2, fun h => by omega⟩ ?_
  refine late_pure (by simp) (fun w => trivial) (v := .agg (UEV (calU e) A9 c9 B5 d5)) (fun _ => rfl) ?_ ?_; (focus (intro c9 us w9 hm9 hS9 hF; exact exec_load_g (Row.range (r12.upd hS9.1 (by omega))) Try.underlying112 rfl (uev_info _ _ _ _ _) rfl)); simp only [Act.put, List.setIfInBounds_toArray, List.set_cons_zero, List.set_cons_succ, Nat.reduceAdd]
  refine late_pure (by simp) (fun w => trivial) (v := ?_) (fun _ => rfl) ?_ ?_; rotate_left; (focus (intro c9 us w9 hm9 hS9 hF; clear hF hm9 hS9; go_simp; (try with_reducible rfl); done)); simp only [Act.put, List.setIfInBounds_toArray, List.set_cons_zero, List.set_cons_succ, Nat.reduceAdd]
  refine late_pure (by simp) (fun w => trivial) (v := ?_) (fun _ => rfl) ?_ ?_; rotate_left; (focus (intro c9 us w9 hm9 hS9 hF; have q1 : w9.cell? ⟨g3, 1, none⟩ = some (.int .i64 (e.la + 1)) := (r12.upd hS9.1 (by omega)).cell 1; clear hF hm9 hS9; go_simp; (try with_reducible rfl); done)); simp only [Act.put, List.setIfInBounds_toArray, List.set_cons_zero, List.set_cons_succ, Nat.reduceAdd]
  refine late_pure (by simp) (fun w => trivial) (v := ?_) (fun _ => rfl) ?_ ?_; rotate_left; (focus (intro c9 us w9 hm9 hS9 hF; clear hF hm9 hS9; go_simp; (try with_reducible rfl); done)); simp only [Act.put, List.setIfInBounds_toArray, List.set_cons_zero, List.set_cons_succ, Nat.reduceAdd]
  refine late_store rfl ?_ ?_; (focus (intro us w9 hS9 hF K hK; clear hF; rw [if_pos (by rfl)]; exact step_put (L := UEV (calU e) A9 c9 B5 d5) (hS9.2.1 rfl) rfl (uev_info _ _ _ _ _) (uev_one _ _ _ _ _) rfl rfl (fun w9 u9 r9 => hK w9 ⟨hS9.1.trans u9, fun h => by omega, fun _ => r9⟩ trivial))); (try simp only [Nat.reduceAdd])
  refine late_pure (by simp) (fun w => trivial) (v := ?_) (fun _ => rfl) ?_ ?_; rotate_left; (focus (intro c9 us w9 hm9 hS9 hF; clear hF hm9 hS9; go_simp; (try with_reducible rfl); done)); simp only [Act.put, List.setIfInBounds_toArray, List.set_cons_zero, List.set_cons_succ, Nat.reduceAdd]
  refine late_pure (by simp) (fun w => trivial) (v := ?_) (fun _ => rfl) ?_ ?_; rotate_left; (focus (intro c9 us w9 hm9 hS9 hF; clear hF hm9 hS9; go_simp; (try with_reducible rfl); done)); simp only [Act.put, List.setIfInBounds_toArray, List.set_cons_zero, List.set_cons_succ, Nat.reduceAdd]
  refine late_pure (by simp) (fun w => trivial) (v := ?_) (fun _ => rfl) ?_ ?_; rotate_left; (focus (intro c9 us w9 hm9 hS9 hF; clear hF hm9 hS9; go_simp; (try with_reducible rfl); done)); simp only [Act.put, List.setIfInBounds_toArray, List.set_cons_zero, List.set_cons_succ, Nat.reduceAdd]
  refine late_done fun us wz hSz hF => ?_
  obtain ⟨uz, -, rz⟩ := hSz
  have rz := rz (by omega)
  clear hF
  go_wp2
  refine bodyPost_ret (results_c3 rfl rfl rz Try.underlying112 rfl (uev_info _ _ _ _ _)) rfl ?_
  have hoz := ho12.keeps (Keeps.upd (ts := [112]) uz r2 (by simp)) (by decide)
  exact ⟨Upd.below hB12 uz (by omega), .inr ⟨HC.out, A9, c9, B5, d5, Am, lm, cm, rfl, ⟨(hoz.lower hW).a, (hoz.lower hW).b, h9c, h9s⟩, isB_kept hI12 fun b o e h0 => uz.block b (hap b o e h0)⟩⟩
theorem callR (e : UE) (A B : Option Addr) (c d : Nat) (s : Int) (D : Option Addr) (dc : Nat) (b : List UInt8) (W : World) (hH : HeldU W e A c B d) (hD : IsB W D b.length b) : Calls Try.prog 77 #[.agg (UEV e A c B d), .int .i64 s, .slice D b.length dc] W (CalRP e s b W) := by
  by_cases hx : uE e = 0
  · cases hv : (rqM 1 s b).ok
    · exact callR_inv e A B c d s D dc b W hH hD hx hv
    · by_cases hl : (e.cs.length : Int) = e.cr
      · exact callR_full e A B c d s D dc b W hH hD hx hv hl
      · by_cases hm : e.la = 1099511627776
        · exact callR_lim e A B c d s D dc b W hH hD hx hv hl hm
        · exact callR_ok e A B c d s D dc b W hH hD hx hv hl hm
  · exact callR_chk e A B c d s D dc b W hH hD _ rfl hx
def LstRP (e : UE) (W : World) (en : Ending) (W' : World) : Prop := Below W.heap.size W W' ∧
  ((uE e ≠ 0 ∧ en = .returned (.tuple #[.agg ZU, .slice none 0 0, .int .i64 (uE e)])) ∨
   (uE e = 0 ∧ ∃ A c, en = .returned (.tuple #[.agg (UEV (lstU e) none 0 none 0), .slice A e.cs.length c, .int .i64 0]) ∧ OwnN W' W.heap.size 3 A e.cs.length c e.cs))
def NsV (base : Nat) (l : List Int) (u : Value) (w : World) : Prop := ∃ A c, u = .slice A l.length c ∧ OwnN w base 3 A l.length c l
theorem NsV.mono {base : Nat} {l : List Int} (u : Value) (w w' : World) (hg : G7 w w') (h : NsV base l u w) : NsV base l u w' := by
  obtain ⟨A, c, h1, h2⟩ := h
  exact ⟨A, c, h1, h2.keeps hg.k (by decide)⟩
set_option maxRecDepth 100000 in
set_option maxHeartbeats 8000000 in
theorem lostR_no (e : UE) (A B : Option Addr) (c d : Nat) (W : World) (hH : HeldU W e A c B d) (x : Int) (hx : uE e = x) (h0 : x ≠ 0) : Calls Try.prog 83 #[.agg (UEV e A c B d)] W (LstRP e W) := by
  have HE := Lib.hid hx
  have H0 := Lib.hid h0
  have dx : (x != 0) = true := nt h0
  clear hx h0
  have hB1 := ((Below.refl W.heap.size W).alloc (Nat.le_refl _) (.cells (UEV e A c B d) 112)).alloc (by simp) (.cells ZU 112)
  have r1 := (Row.born W 112 (UEV e A c B d)).alloc (.cells ZU 112)
  have r2 : Row ((W.alloc (.cells (UEV e A c B d) 112)).alloc (.cells ZU 112)) (W.heap.size + 1) 112 ZU := by
    have h := Row.born (W.alloc (.cells (UEV e A c B d) 112)) 112 ZU
    have e1 : (W.alloc (.cells (UEV e A c B d) 112)).heap.size = W.heap.size + 1 := by simp
    rwa [e1] at h
  have hH1 := hH.below hB1
  go_enter Try.func83, Try.ntmps83
  go_upto_region 1 with (fail)
  change Code.wp _ _ _ _ ((W.alloc (.cells (UEV e A c B d) 112)).alloc (.cells ZU 112))
  generalize (W.alloc (.cells (UEV e A c B d) 112)).alloc (.cells ZU 112) = w1 at *
  have hl1 := r1.lt
  have hl2 := r2.lt
  go_wp2_with (first | ((with_reducible refine wp_load_g ?_ r1.range Try.underlying112 rfl (uev_info _ _ _ _ _) ?_ ?_); rfl; rfl) | (go_at_call 124; (with_reducible refine (usable_is HE.out hH1).mono ?_); rintro en w2 ⟨rfl, hb2⟩; have r1 := r1.below hb2 hl1; have r2 := r2.below hb2 hl2; have hB2 := hB1.trans (hb2.mono hB1.size); have hl1 := r1.lt; have hl2 := r2.lt) | ((with_reducible refine wp_row_store (L := ZU) r2 rfl zu_info zu_one ?_ ?_ ?_); rfl; rfl; intro w9 u9 r9))
  refine bodyPost_ret (results_c2 rfl rfl r9 Try.underlying112 rfl zu_info) rfl ?_
  exact ⟨Upd.below hB2 u9 (by omega), .inl ⟨by rw [HE.out]; exact H0.out, by rw [HE.out]; rfl⟩⟩
set_option maxRecDepth 100000 in
set_option maxHeartbeats 8000000 in
theorem lostR_ok (e : UE) (A B : Option Addr) (c d : Nat) (W : World) (hH : HeldU W e A c B d) (hx : uE e = 0) : Calls Try.prog 83 #[.agg (UEV e A c B d)] W (LstRP e W) := by
  have HE := Lib.hid hx
  have hal := hH.al
  clear hx
  have hB1 := ((Below.refl W.heap.size W).alloc (Nat.le_refl _) (.cells (UEV e A c B d) 112)).alloc (by simp) (.cells ZU 112)
  have r1 := (Row.born W 112 (UEV e A c B d)).alloc (.cells ZU 112)
  have r2 : Row ((W.alloc (.cells (UEV e A c B d) 112)).alloc (.cells ZU 112)) (W.heap.size + 1) 112 ZU := by
    have h := Row.born (W.alloc (.cells (UEV e A c B d) 112)) 112 ZU
    have e1 : (W.alloc (.cells (UEV e A c B d) 112)).heap.size = W.heap.size + 1 := by simp
    rwa [e1] at h
  have hH1 := hH.below hB1
  go_enter Try.func83, Try.ntmps83
  go_upto_region 1 with (fail)
  change Code.wp _ _ _ _ ((W.alloc (.cells (UEV e A c B d) 112)).alloc (.cells ZU 112))
  generalize (W.alloc (.cells (UEV e A c B d) 112)).alloc (.cells ZU 112) = w1 at *
  have hl1 := r1.lt
  have hl2 := r2.lt
  go_upto_region 4 with (first | ((with_reducible refine wp_load_g ?_ r1.range Try.underlying112 rfl (uev_info _ _ _ _ _) ?_ ?_); rfl; rfl) | (go_at_call 124; (with_reducible refine (usable_is HE.out hH1).mono ?_); rintro en w2 ⟨rfl, hb2⟩; have r1 := r1.below hb2 hl1; have r2 := r2.below hb2 hl2; have hB2 := hB1.trans (hb2.mono hB1.size); have hl1 := r1.lt; have hl2 := r2.lt))
  have hl1 := r1.lt
  have hl2 := r2.lt
  go_upto_region 5 with (first | ((with_reducible refine wp_load_g ?_ r1.range Try.underlying112 rfl (uev_info _ _ _ _ _) ?_ ?_); rfl; rfl) | ((with_reducible refine wp_row_store (L := UEV e A c B d) (Row.bornAt' (g := w2.heap.size) rfl 112 _) ?_ (uev_info _ _ _ _ _) (uev_one _ _ _ _ _) ?_ ?_ ?_); rfl; rfl; rfl; intro w6 u6 r6))
  have hal6 := Upd.below ((Below.refl w2.heap.size w2).alloc (Nat.le_refl _) (.cells ZU 112)) u6 (Nat.le_refl _)
  have r1 := r1.below hal6 hl1
  have r2 := r2.below hal6 hl2
  have hB6 := hB2.trans (hal6.mono hB2.size)
  have hg6 : W.heap.size + 2 ≤ w2.heap.size := by omega
  clear u6 hal6 hb2 hB1 hB2 hH1 hl1 hl2
  generalize w2.heap.size = g6 at *
  have q5 : w6.cell? ⟨g6, 5, none⟩ = some (.bool e.dd) := r6.cell 5
  have q3 : w6.cell? ⟨g6, 3, none⟩ = some (.slice A e.cs.length c) := r6.cell 3
  have q4 : w6.cell? ⟨g6, 4, none⟩ = some (.slice B e.ss.length d) := r6.cell 4
  have f5 := r6.frozen 5
  go_upto_region 6 with (fail)
  have u7 := Upd.setCell w6 g6 5 (.bool true)
  have r7 := r6.set 5 (.bool true)
  generalize w6.setCell ⟨g6, 5, none⟩ (.bool true) = w7 at *
  have q3 : w7.cell? ⟨g6, 3, none⟩ = some (.slice A e.cs.length c) := r7.cell 3
  have f3 := r7.frozen 3
  clear q5 q4 f5
  go_upto_region 7 with (fail)
  have u8 := Upd.setCell w7 g6 3 (.slice none 0 0)
  have r8 := r7.set 3 (.slice none 0 0)
  generalize w7.setCell ⟨g6, 3, none⟩ (.slice none 0 0) = w8 at *
  have q4 : w8.cell? ⟨g6, 4, none⟩ = some (.slice B e.ss.length d) := r8.cell 4
  have f4 := r8.frozen 4
  clear q3 f3
  go_upto_region 8 with (fail)
  have u9 := Upd.setCell w8 g6 4 (.slice none 0 0)
  have r9 := r8.set 4 (.slice none 0 0)
  have e9 : (((UEV e A c B d).setIfInBounds 5 (.bool true)).setIfInBounds 3 (.slice none 0 0)).setIfInBounds 4 (.slice none 0 0) = UEV (lstU e) none 0 none 0 := by simp [UEV, lstU]
  rw [e9] at r9
  have r1 := ((r1.upd u7 (by omega)).upd u8 (by omega)).upd u9 (by omega)
  have r2 := ((r2.upd u7 (by omega)).upd u8 (by omega)).upd u9 (by omega)
  have hB9 := (Upd.below (Upd.below (Upd.below hB6 u7 (by omega)) u8 (by omega)) u9 (by omega)).drew
  clear q4 f4 u7 u8 u9 r6 r7 r8 e9 hB6
  generalize w8.setCell ⟨g6, 4, none⟩ (.slice none 0 0) = wa at *
  have r1 : Row wa.drew W.heap.size 112 (UEV e A c B d) := r1
  have r2 : Row wa.drew (W.heap.size + 1) 112 ZU := r2
  have r9 : Row wa.drew g6 112 (UEV (lstU e) none 0 none 0) := r9
  refine wp_region_late (n := 21) [4] (fun k _ w' => Below W.heap.size W w' ∧ Row w' g6 112 (UEV (lstU e) none 0 none 0) ∧ Row w' W.heap.size 112 (UEV e A c B d) ∧ (k = 0 → Row w' (W.heap.size + 1) 112 ZU) ∧ (1 ≤ k → Row w' (W.heap.size + 1) 112 (UEV (lstU e) none 0 none 0))) G7 (by kernel_rfl) (by kernel_rfl) (by rfl) (fun _ _ _ _ _ h => h) ⟨hB9, r9, r1, fun _ => r2, fun h => by omega⟩ ?_
  refine late_pure (by simp) (fun w => G7.refl _) (v := .agg (UEV (lstU e) none 0 none 0)) (fun _ => rfl) ?_ ?_; (focus (intro c9 us w9 hm9 hS9 hF; exact exec_load_g hS9.2.1.range Try.underlying112 rfl (uev_info _ _ _ _ _) rfl)); simp only [Act.put, List.setIfInBounds_toArray, List.set_cons_zero, List.set_cons_succ, Nat.reduceAdd]
  refine late_pure (by simp) (fun w => G7.refl _) (v := ?_) (fun _ => rfl) ?_ ?_; rotate_left; (focus (intro c9 us w9 hm9 hS9 hF; clear hF hm9 hS9; go_simp; (try with_reducible rfl); done)); simp only [Act.put, List.setIfInBounds_toArray, List.set_cons_zero, List.set_cons_succ, Nat.reduceAdd]
  refine late_pure (by simp) (fun w => G7.refl _) (v := ?_) (fun _ => rfl) ?_ ?_; rotate_left; (focus (intro c9 us w9 hm9 hS9 hF; have q3 : w9.cell? ⟨W.heap.size, 3, none⟩ = some (.slice A e.cs.length c) := hS9.2.2.1.cell 3; clear hF hm9 hS9; go_simp; (try with_reducible rfl); done)); simp only [Act.put, List.setIfInBounds_toArray, List.set_cons_zero, List.set_cons_succ, Nat.reduceAdd]
  refine late_free (by simp) (NsV W.heap.size e.cs) (NsV.mono) ?_ ?_; (focus (intro c9 us w9 hm9 hS9 hF K hK; have hc9 : c9 < 1 := (by rcases Nat.lt_or_ge c9 1 with h9 | h9; exact h9; exact absurd hm9 (by rw [mayAt_no (d := 0) (by kernel_rfl) (by omega) (by decide)]; decide)); clear hF; rw [if_pos (by rfl)]; obtain ⟨s1, s2, s3, s4, -⟩ := hS9; exact step_copy_n (P := Try.prog) Try.underlying52 info_n (hH.a.below s1) (by omega) rfl rfl (fun A' c'' w' h1 h2 => hK _ w' ⟨s1.trans (h2.mono s1.size), s2.below h2 s2.lt, s3.below h2 s3.lt, fun h => (s4 h).below h2 (s4 h).lt, fun h => by omega⟩ (G7.below h2) ⟨A', c'', rfl, h1.lower s1.size⟩))); simp only [Act.put, List.setIfInBounds_toArray, List.set_cons_zero, List.set_cons_succ, Nat.reduceAdd]
  refine late_store rfl ?_ ?_; (focus (intro us w9 hS9 hF K hK; clear hF; obtain ⟨s1, s2, s3, s4, -⟩ := hS9; rw [if_pos (by rfl)]; exact step_put (L := UEV (lstU e) none 0 none 0) (s4 rfl) rfl (uev_info _ _ _ _ _) (uev_one _ _ _ _ _) rfl rfl (fun w' u' r' => hK w' ⟨Upd.below s1 u' (by omega), s2.upd u' (by omega), s3.upd u' (by omega), fun h => by omega, fun _ => r'⟩ (G7.put (e := lstU e) (A := none) (c := 0) (B := none) (d := 0) ⟨ue0, none, 0, none, 0, s4 rfl⟩ u' r')))); (try simp only [Nat.reduceAdd])
  refine late_free (by simp) (NsV W.heap.size e.cs) (NsV.mono) ?_ ?_; (focus (intro c9 us w9 hm9 hS9 hF K hK; obtain ⟨A', c', hu, h1⟩ := hF (3, NsV W.heap.size e.cs) (by simp) (by kernel_rfl); clear hF; dsimp only at hu; simp only [hu] at hK ⊢; go_simp; exact hK _ w9 hS9 (G7.refl _) ⟨A', c', rfl, h1⟩)); simp only [Act.put, List.setIfInBounds_toArray, List.set_cons_zero, List.set_cons_succ, Nat.reduceAdd]
  refine late_pure (by simp) (fun w => G7.refl _) (v := ?_) (fun _ => rfl) ?_ ?_; rotate_left; (focus (intro c9 us w9 hm9 hS9 hF; clear hF hm9 hS9; go_simp; (try with_reducible rfl); done)); simp only [Act.put, List.setIfInBounds_toArray, List.set_cons_zero, List.set_cons_succ, Nat.reduceAdd]
  refine late_done fun us wz hSz hF => ?_
  obtain ⟨A', c', hu, h1⟩ := hF (5, NsV W.heap.size e.cs) (by simp)
  obtain ⟨z1, -, -, -, z5⟩ := hSz
  have z5 := z5 (by omega)
  clear hF
  dsimp only at hu
  simp only [hu]
  go_wp2
  refine bodyPost_ret (results_c2 rfl rfl z5 Try.underlying112 rfl (uev_info _ _ _ _ _)) rfl ?_
  exact ⟨z1, .inr ⟨HE.out, A', c', rfl, h1⟩⟩
theorem lostR (e : UE) (A B : Option Addr) (c d : Nat) (W : World) (hH : HeldU W e A c B d) : Calls Try.prog 83 #[.agg (UEV e A c B d)] W (LstRP e W) := by
  by_cases hx : uE e = 0
  · exact lostR_ok e A B c d W hH hx
  · exact lostR_no e A B c d W hH _ rfl hx
theorem drop_y {A : Option Addr} {n c : Nat} {l : List Int} {x : Int} {W : World} (hx : x ∈ l) (hA : IsN W A n l) (hn : n ≤ 1000000) (hc : n ≤ c) : Calls Try.prog 127 #[.slice A n c, .int .i64 x] W (fun en W' => ∃ A' c', en = .returned (.tuple #[.slice A' (n - 1) c', .bool true]) ∧ OwnN W' W.heap.size 3 A' (n - 1) c' (l.eraseIdx (l.idxOf x)) ∧ Below W.heap.size W W') := by
  refine (drop_n A n c l x W hA hn hc).mono ?_
  rintro en W' ⟨hb, ⟨h, -⟩ | ⟨-, A', c', h1, h2⟩⟩
  · exact absurd hx h
  · exact ⟨A', c', h1, h2, hb⟩
theorem drop_no {A : Option Addr} {n c : Nat} {l : List Int} {x : Int} {W : World} (hx : x ∉ l) (hA : IsN W A n l) (hn : n ≤ 1000000) (hc : n ≤ c) : Calls Try.prog 127 #[.slice A n c, .int .i64 x] W (fun en W' => en = .returned (.tuple #[.slice A n c, .bool false]) ∧ Below W.heap.size W W') := by
  refine (drop_n A n c l x W hA hn hc).mono ?_
  rintro en W' ⟨hb, ⟨-, h⟩ | ⟨h, -⟩⟩
  · exact ⟨h, hb⟩
  · exact absurd h hx
def RepRP (e : UE) (n r : Int) (b : List UInt8) (W : World) (en : Ending) (W' : World) : Prop := Below W.heap.size W W' ∧
  ((repE e n r b ≠ 0 ∧ en = .returned (.tuple #[.agg ZU, .slice none 0 0, .int .i64 (repE e n r b)])) ∨
   (repE e n r b = 0 ∧ ∃ A c B d M l mc, en = .returned (.tuple #[.agg (UEV (repU e n) A c B d), .slice M l mc, .int .i64 0]) ∧ TwoN W' W.heap.size (repU e n) A c B d ∧ IsB W' M l (rpM n r b).by))
theorem repR_mk {e : UE} {n r : Int} {b : List UInt8} {x : Int} {W W' : World} (h : repE e n r b = x) (hx : x ≠ 0) (hb : Below W.heap.size W W') : RepRP e n r b W (.returned (.tuple #[.agg ZU, .slice none 0 0, .int .i64 x])) W' := ⟨hb, .inl ⟨by rw [h]; exact hx, by rw [h]⟩⟩
set_option maxRecDepth 100000 in
set_option maxHeartbeats 8000000 in
theorem repR_chk (e : UE) (A B : Option Addr) (c d : Nat) (n r : Int) (D : Option Addr) (dc : Nat) (b : List UInt8) (W : World) (hH : HeldU W e A c B d) (hd : e.ss.length ≤ d) (hD : IsB W D b.length b) (x : Int) (hx : uE e = x) (h0 : x ≠ 0) : Calls Try.prog 81 #[.agg (UEV e A c B d), .int .i64 n, .int .i64 r, .slice D b.length dc] W (RepRP e n r b W) := by
  have HC := Lib.hid (show repE e n r b = x by unfold repE; rw [if_neg (by omega), hx])
  have HE := Lib.hid hx
  have H0 := Lib.hid h0
  have dx : (x != 0) = true := nt h0
  clear hx h0
  have hB1 := ((Below.refl W.heap.size W).alloc (Nat.le_refl _) (.cells (UEV e A c B d) 112)).alloc (by simp) (.cells ZU 112)
  have r1 := (Row.born W 112 (UEV e A c B d)).alloc (.cells ZU 112)
  have r2 : Row ((W.alloc (.cells (UEV e A c B d) 112)).alloc (.cells ZU 112)) (W.heap.size + 1) 112 ZU := by
    have h := Row.born (W.alloc (.cells (UEV e A c B d) 112)) 112 ZU
    have e1 : (W.alloc (.cells (UEV e A c B d) 112)).heap.size = W.heap.size + 1 := by simp
    rwa [e1] at h
  have hH1 := hH.below hB1
  go_enter Try.func81, Try.ntmps81
  go_upto_region 1 with (fail)
  change Code.wp _ _ _ _ ((W.alloc (.cells (UEV e A c B d) 112)).alloc (.cells ZU 112))
  generalize (W.alloc (.cells (UEV e A c B d) 112)).alloc (.cells ZU 112) = w1 at *
  have hl1 := r1.lt
  have hl2 := r2.lt
  go_wp2_with (first | ((with_reducible refine wp_load_g ?_ r1.range Try.underlying112 rfl (uev_info _ _ _ _ _) ?_ ?_); rfl; rfl) | (go_at_call 124; (with_reducible refine (usable_is HE.out hH1).mono ?_); rintro en w2 ⟨rfl, hb2⟩; have r1 := r1.below hb2 hl1; have r2 := r2.below hb2 hl2; have hB2 := hB1.trans (hb2.mono hB1.size); have hl1 := r1.lt; have hl2 := r2.lt) | ((with_reducible refine wp_row_store (L := ZU) r2 rfl zu_info zu_one ?_ ?_ ?_); rfl; rfl; intro w9 u9 r9))
  refine bodyPost_ret (results_c2 rfl rfl r9 Try.underlying112 rfl zu_info) rfl ?_
  exact repR_mk HC.out H0.out (Upd.below hB2 u9 (by omega))
set_option maxRecDepth 100000 in
set_option maxHeartbeats 8000000 in
theorem repR_none (e : UE) (A B : Option Addr) (c d : Nat) (n r : Int) (D : Option Addr) (dc : Nat) (b : List UInt8) (W : World) (hH : HeldU W e A c B d) (hd : e.ss.length ≤ d) (hD : IsB W D b.length b) (hx : uE e = 0) (hm : n ∉ e.ss) : Calls Try.prog 81 #[.agg (UEV e A c B d), .int .i64 n, .int .i64 r, .slice D b.length dc] W (RepRP e n r b W) := by
  have HC := Lib.hid (show repE e n r b = 17 by unfold repE; rw [if_pos hx, if_neg hm])
  have HE := Lib.hid hx
  have HM := Lib.hid hm
  have hbl := hH.bl
  clear hx hm
  have hB1 := ((Below.refl W.heap.size W).alloc (Nat.le_refl _) (.cells (UEV e A c B d) 112)).alloc (by simp) (.cells ZU 112)
  have r1 := (Row.born W 112 (UEV e A c B d)).alloc (.cells ZU 112)
  have r2 : Row ((W.alloc (.cells (UEV e A c B d) 112)).alloc (.cells ZU 112)) (W.heap.size + 1) 112 ZU := by
    have h := Row.born (W.alloc (.cells (UEV e A c B d) 112)) 112 ZU
    have e1 : (W.alloc (.cells (UEV e A c B d) 112)).heap.size = W.heap.size + 1 := by simp
    rwa [e1] at h
  have hH1 := hH.below hB1
  go_enter Try.func81, Try.ntmps81
  go_upto_region 1 with (fail)
  change Code.wp _ _ _ _ ((W.alloc (.cells (UEV e A c B d) 112)).alloc (.cells ZU 112))
  generalize (W.alloc (.cells (UEV e A c B d) 112)).alloc (.cells ZU 112) = w1 at *
  have hl1 := r1.lt
  have hl2 := r2.lt
  go_upto_region 4 with (first | ((with_reducible refine wp_load_g ?_ r1.range Try.underlying112 rfl (uev_info _ _ _ _ _) ?_ ?_); rfl; rfl) | (go_at_call 124; (with_reducible refine (usable_is HE.out hH1).mono ?_); rintro en w2 ⟨rfl, hb2⟩; have r1 := r1.below hb2 hl1; have r2 := r2.below hb2 hl2; have hB2 := hB1.trans (hb2.mono hB1.size); have hl1 := r1.lt; have hl2 := r2.lt))
  obtain ⟨-, -, c4, -⟩ := uev_cells r1
  have hH2 := hH.below hB2
  go_wp2_with (first | (go_at_call 127; (with_reducible refine (drop_no HM.out hH2.b (by omega) hd).mono ?_); rintro en w4 ⟨rfl, hb4⟩; have r1 := r1.below hb4 hl1; have r2 := r2.below hb4 hl2; have hB4 := hB2.trans (hb4.mono hB2.size); have hl1 := r1.lt; have hl2 := r2.lt) | ((with_reducible refine wp_row_store (L := ZU) r2 rfl zu_info zu_one ?_ ?_ ?_); rfl; rfl; intro w9 u9 r9))
  refine bodyPost_ret (results_c2 rfl rfl r9 Try.underlying112 rfl zu_info) rfl ?_
  exact repR_mk HC.out (by omega) (Upd.below hB4 u9 (by omega))
set_option maxRecDepth 100000 in
set_option maxHeartbeats 8000000 in
theorem repR_inv (e : UE) (A B : Option Addr) (c d : Nat) (n r : Int) (D : Option Addr) (dc : Nat) (b : List UInt8) (W : World) (hH : HeldU W e A c B d) (hd : e.ss.length ≤ d) (hD : IsB W D b.length b) (hx : uE e = 0) (hm : n ∈ e.ss) (hv : (rpM n r b).ok = false) : Calls Try.prog 81 #[.agg (UEV e A c B d), .int .i64 n, .int .i64 r, .slice D b.length dc] W (RepRP e n r b W) := by
  have HC := Lib.hid (show repE e n r b = 1 by unfold repE; rw [if_pos hx, if_pos hm, hv]; rfl)
  have HE := Lib.hid hx
  have HM := Lib.hid hm
  have HV := Lib.hid hv
  have hbl := hH.bl
  clear hx hm hv
  have hB1 := ((Below.refl W.heap.size W).alloc (Nat.le_refl _) (.cells (UEV e A c B d) 112)).alloc (by simp) (.cells ZU 112)
  have r1 := (Row.born W 112 (UEV e A c B d)).alloc (.cells ZU 112)
  have r2 : Row ((W.alloc (.cells (UEV e A c B d) 112)).alloc (.cells ZU 112)) (W.heap.size + 1) 112 ZU := by
    have h := Row.born (W.alloc (.cells (UEV e A c B d) 112)) 112 ZU
    have e1 : (W.alloc (.cells (UEV e A c B d) 112)).heap.size = W.heap.size + 1 := by simp
    rwa [e1] at h
  have hH1 := hH.below hB1
  go_enter Try.func81, Try.ntmps81
  go_upto_region 1 with (fail)
  change Code.wp _ _ _ _ ((W.alloc (.cells (UEV e A c B d) 112)).alloc (.cells ZU 112))
  generalize (W.alloc (.cells (UEV e A c B d) 112)).alloc (.cells ZU 112) = w1 at *
  have hl1 := r1.lt
  have hl2 := r2.lt
  go_upto_region 4 with (first | ((with_reducible refine wp_load_g ?_ r1.range Try.underlying112 rfl (uev_info _ _ _ _ _) ?_ ?_); rfl; rfl) | (go_at_call 124; (with_reducible refine (usable_is HE.out hH1).mono ?_); rintro en w2 ⟨rfl, hb2⟩; have r1 := r1.below hb2 hl1; have r2 := r2.below hb2 hl2; have hB2 := hB1.trans (hb2.mono hB1.size); have hl1 := r1.lt; have hl2 := r2.lt))
  obtain ⟨-, -, c4, -⟩ := uev_cells r1
  have hH2 := hH.below hB2
  go_upto_region 7 with (go_at_call 127; (with_reducible refine (drop_y HM.out hH2.b (by omega) hd).mono ?_); rintro en w4 ⟨A4, c4x, rfl, ho4, hb4⟩; have r1 := r1.below hb4 hl1; have r2 := r2.below hb4 hl2; have hB4 := hB2.trans (hb4.mono hB2.size); have hl1 := r1.lt; have hl2 := r2.lt)
  have hD4 : IsB w4 D (rpM n r b).b.length (rpM n r b).b := hD.below hB4
  clear c4
  go_wp2_with (first | (go_at_call 84; refine (encR_no (rpM n r b) D dc w4 HV.out hD4).mono ?_; rintro en w6 ⟨rfl, hb6⟩; have r2 := r2.below hb6 hl2; have hB6 := hB4.trans (hb6.mono hB4.size)) | ((with_reducible refine wp_row_store (L := ZU) r2 rfl zu_info zu_one ?_ ?_ ?_); rfl; rfl; intro w9 u9 r9))
  refine bodyPost_ret (results_c2 rfl rfl r9 Try.underlying112 rfl zu_info) rfl ?_
  exact repR_mk HC.out (by omega) (Upd.below hB6 u9 (by omega))
set_option maxRecDepth 100000 in
set_option maxHeartbeats 8000000 in
theorem repR_ok (e : UE) (A B : Option Addr) (c d : Nat) (n r : Int) (D : Option Addr) (dc : Nat) (b : List UInt8) (W : World) (hH : HeldU W e A c B d) (hd : e.ss.length ≤ d) (hD : IsB W D b.length b) (hx : uE e = 0) (hm : n ∈ e.ss) (hv : (rpM n r b).ok = true) : Calls Try.prog 81 #[.agg (UEV e A c B d), .int .i64 n, .int .i64 r, .slice D b.length dc] W (RepRP e n r b W) := by
  have HC := Lib.hid (show repE e n r b = 0 by unfold repE; rw [if_pos hx, if_pos hm, if_pos hv])
  have HE := Lib.hid hx
  have HM := Lib.hid hm
  have HV := Lib.hid hv
  have hal := hH.al
  have hbl := hH.bl
  have hlm : (e.ss.eraseIdx (e.ss.idxOf n)).length = e.ss.length - 1 := by
    rw [List.length_eraseIdx, if_pos (List.idxOf_lt_length_of_mem hm)]
  have HLM := Lib.hid hlm
  clear hx hm hv hlm
  have hB1 := ((Below.refl W.heap.size W).alloc (Nat.le_refl _) (.cells (UEV e A c B d) 112)).alloc (by simp) (.cells ZU 112)
  have r1 := (Row.born W 112 (UEV e A c B d)).alloc (.cells ZU 112)
  have r2 : Row ((W.alloc (.cells (UEV e A c B d) 112)).alloc (.cells ZU 112)) (W.heap.size + 1) 112 ZU := by
    have h := Row.born (W.alloc (.cells (UEV e A c B d) 112)) 112 ZU
    have e1 : (W.alloc (.cells (UEV e A c B d) 112)).heap.size = W.heap.size + 1 := by simp
    rwa [e1] at h
  have hH1 := hH.below hB1
  go_enter Try.func81, Try.ntmps81
  go_upto_region 1 with (fail)
  change Code.wp _ _ _ _ ((W.alloc (.cells (UEV e A c B d) 112)).alloc (.cells ZU 112))
  generalize (W.alloc (.cells (UEV e A c B d) 112)).alloc (.cells ZU 112) = w1 at *
  have hl1 := r1.lt
  have hl2 := r2.lt
  go_upto_region 4 with (first | ((with_reducible refine wp_load_g ?_ r1.range Try.underlying112 rfl (uev_info _ _ _ _ _) ?_ ?_); rfl; rfl) | (go_at_call 124; (with_reducible refine (usable_is HE.out hH1).mono ?_); rintro en w2 ⟨rfl, hb2⟩; have r1 := r1.below hb2 hl1; have r2 := r2.below hb2 hl2; have hB2 := hB1.trans (hb2.mono hB1.size); have hl1 := r1.lt; have hl2 := r2.lt))
  obtain ⟨-, -, c4, -⟩ := uev_cells r1
  have hH2 := hH.below hB2
  go_upto_region 7 with (go_at_call 127; (with_reducible refine (drop_y HM.out hH2.b (by omega) hd).mono ?_); rintro en w4 ⟨A4, c4x, rfl, ho4, hb4⟩; have r1 := r1.below hb4 hl1; have r2 := r2.below hb4 hl2; have hB4 := hB2.trans (hb4.mono hB2.size); have hl1 := r1.lt; have hl2 := r2.lt)
  have hD4 : IsB w4 D (rpM n r b).b.length (rpM n r b).b := hD.below hB4
  clear c4
  go_upto_region 10 with (go_at_call 84; refine (encR_ok (rpM n r b) D dc w4 HV.out hD4).mono ?_; rintro en w6 ⟨Am, lm, cm, rfl, hIm, hb6⟩; have r1 := r1.below hb6 hl1; have r2 := r2.below hb6 hl2; have hB6 := hB4.trans (hb6.mono hB4.size); have hl1 := r1.lt; have hl2 := r2.lt)
  have ho6 := ho4.isB.below hb6
  have hH6 := hH.below hB6
  clear hD4 ho4 hb4 hB4 hb2 hB2 hH2 hH1
  go_upto_region 11 with (first | ((with_reducible refine wp_load_g ?_ r1.range Try.underlying112 rfl (uev_info _ _ _ _ _) ?_ ?_); rfl; rfl) | (go_at_call 70; (with_reducible refine (copyU e A B c d _ hH6).mono ?_); rintro en w7 ⟨A5, c5, B5, d5, rfl, ho7, hb7⟩) | ((with_reducible refine wp_row_store (L := UEV e A5 c5 B5 d5) (Row.bornAt' (g := w7.heap.size) rfl 112 _) ?_ (uev_info _ _ _ _ _) (uev_one _ _ _ _ _) ?_ ?_ ?_); rfl; rfl; rfl; intro w8 u8 r8))
  have hal8 := Upd.below ((Below.refl w7.heap.size w7).alloc (Nat.le_refl _) (.cells ZU 112)) u8 (Nat.le_refl _)
  have r2 := (r2.below hb7 hl2).below hal8 (Nat.lt_of_lt_of_le hl2 hb7.size)
  have hIm := (hIm.below hb7).below hal8
  have ho6 := (ho6.below hb7).below hal8
  have ho7 := (ho7.below hal8).lower hB6.size
  have hB8 := (hB6.trans (hb7.mono hB6.size)).trans (hal8.mono (Nat.le_trans hB6.size hb7.size))
  have hg8 : W.heap.size + 2 ≤ w7.heap.size := by have := hb7.size; omega
  clear r1 hl1 hl2 hb7 hal8 u8 hB6 hH6 hb6
  generalize w7.heap.size = g8 at *
  have q4 : w8.cell? ⟨g8, 4, none⟩ = some (.slice B5 e.ss.length d5) := r8.cell 4
  have hoz := OwnN.nil w8 w8.heap.size 3
  have hln : (0 + (e.ss.length - 1)) * 8 ≤ 140737488355328 := by omega
  have hl8 := r8.lt
  have hl2 := r2.lt
  go_upto_region 12 with (at_builtin; (refine wp_append_n (P := Try.prog) rfl _ _ 52 rfl Try.underlying52 info_n hoz ho6 hln (Nat.le_refl _) rfl rfl ?_); intro A9 n9 c9 w9 hn9 ho9 hb9 hg9 hat9; have r9 := r8.below hb9 hl8; have q4 : w9.cell? ⟨g8, 4, none⟩ = some (.slice B5 e.ss.length d5) := r9.cell 4; have f4 := r9.frozen 4)
  rw [List.nil_append] at ho9
  have ho9 := ho9.lower hB8.size
  have r2 := r2.below hb9 hl2
  have hIm := hIm.below hb9
  have ho7 := ho7.a.below hb9
  have hB9 := hB8.trans (hb9.mono hB8.size)
  have ua := Upd.setCell w9 g8 4 (.slice A9 n9 c9)
  have ra := r9.set 4 (.slice A9 n9 c9)
  have en9 : n9 = (e.ss.eraseIdx (e.ss.idxOf n)).length := by rw [hn9.out, HLM.out]; omega
  have ea : (UEV e A5 c5 B5 d5).setIfInBounds 4 (.slice A9 n9 c9) = UEV (repU e n) A5 c5 A9 c9 := by simp [UEV, repU, en9]
  rw [ea] at ra
  have hIm : IsB (w9.setCell ⟨g8, 4, none⟩ (.slice A9 n9 c9)) Am lm (rpM n r b).by := isB_kept hIm fun b o e h0 => ua.block b (apart_u r9 hIm b o e h0)
  have kpa := Keeps.upd (ts := [112]) ua r9 (by simp)
  have ho7 := ho7.keeps kpa (by decide)
  have ho9 := ho9.keeps kpa (by decide)
  have r2 := r2.upd ua (by omega)
  have hBa := Upd.below hB9 ua (by omega)
  clear q4 f4 hoz r8 r9 ua kpa hB8 hB9 hb9 hg9 hat9 ho6 ea hn9 hl8 hl2
  generalize w9.setCell ⟨g8, 4, none⟩ (.slice A9 n9 c9) = wa at *
  rw [en9] at ho9
  clear en9
  go_wp2_with (first | ((with_reducible refine wp_load_g ?_ ra.range Try.underlying112 rfl (uev_info _ _ _ _ _) ?_ ?_); rfl; rfl) | ((with_reducible refine wp_row_store (L := UEV (repU e n) A5 c5 A9 c9) r2 rfl (uev_info _ _ _ _ _) (uev_one _ _ _ _ _) ?_ ?_ ?_); rfl; rfl; intro wb ub rb))
  refine bodyPost_ret (results_c2 rfl rfl rb Try.underlying112 rfl (uev_info _ _ _ _ _)) rfl ?_
  have kpb := Keeps.upd (ts := [112]) ub r2 (by simp)
  exact ⟨Upd.below hBa ub (by omega), .inr ⟨HC.out, A5, c5, A9, c9, Am, lm, cm, rfl, ⟨ho7.keeps kpb (by decide), by have h9 := ho9.keeps kpb (by decide); exact h9, hal, by show (e.ss.eraseIdx _).length ≤ 1000; rw [HLM.out]; omega⟩, isB_kept hIm fun b o e h0 => ub.block b (apart_u r2 hIm b o e h0)⟩⟩
theorem replyR (e : UE) (A B : Option Addr) (c d : Nat) (n r : Int) (D : Option Addr) (dc : Nat) (b : List UInt8) (W : World) (hH : HeldU W e A c B d) (hd : e.ss.length ≤ d) (hD : IsB W D b.length b) : Calls Try.prog 81 #[.agg (UEV e A c B d), .int .i64 n, .int .i64 r, .slice D b.length dc] W (RepRP e n r b W) := by
  by_cases hx : uE e = 0
  · by_cases hm : n ∈ e.ss
    · cases hv : (rpM n r b).ok
      · exact repR_inv e A B c d n r D dc b W hH hd hD hx hm hv
      · exact repR_ok e A B c d n r D dc b W hH hd hD hx hm hv
    · exact repR_none e A B c d n r D dc b W hH hd hD hx hm
  · exact repR_chk e A B c d n r D dc b W hH hd hD _ rfl hx
end Go.Proofs.Ythjkhambmgepdaa
