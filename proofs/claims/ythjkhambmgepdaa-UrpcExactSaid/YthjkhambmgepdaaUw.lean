/- The law UrpcEncoding: decoding an encoded message yields it, and bytes which are decoded are the encoding of what they yield. -/
import Derived.Test.YthjkhambmgepdaaUo
namespace Go.Proofs.Ythjkhambmgepdaa
open Go.RowKit
set_option linter.unusedVariables false
set_option linter.unusedSimpArgs false
theorem sameR {m m' : RM} (h : m = m') {A A' : Option Addr} {c c' : Nat} {W : World} (hA : IsB W A m.b.length m.b) (hA' : IsB W A' m'.b.length m'.b) : Calls Try.prog 65 #[.agg (RMV m A c), .agg (RMV m' A' c')] W (fun en W' => en = .returned (.bool true) ∧ Below W.heap.size W W') := by
  subst h
  exact same_rm m A A' c c' W hA hA'
set_option maxRecDepth 100000 in
set_option maxHeartbeats 8000000 in
theorem enc_big1 (W : World) (m : RM) (A : Option Addr) (c : Nat) (B : Option Addr) (cap : Nat) (bs : List UInt8) (hm : IsB W A m.b.length m.b ∧ m.b.length ≤ c) (hb : IsB W B bs.length bs) (hbc : bs.length ≤ cap) (h : 1000 < m.b.length) : Calls Try.prog 15 #[.agg (RMV m A c), .slice B bs.length cap] W (True1 W) := by
  have e1 : decide (1000 < m.b.length) = true := dt (by omega)
  have e1i : decide ((1000 : Int) < (m.b.length : Int)) = true := dt (by omega)
  have hB1 := (Below.refl W.heap.size W).alloc (Nat.le_refl _) (.cells (RMV m A c) 97)
  have r1 := Row.born W 97 (RMV m A c)
  go_enter Try.func15, Try.ntmps15
  go_upto_region 1 with (fail)
  generalize W.alloc (.cells (RMV m A c) 97) = w1 at *
  have hl1 := r1.lt
  have c4 : w1.cell? ⟨W.heap.size, 4, none⟩ = some (.slice A m.b.length c) := r1.cell 4
  go_wp2_with (go_at_call 62; refine (awake32 _).mono ?_; rintro en wz ⟨rfl, hbz⟩)
  go_ret
  exact ⟨rfl, hB1.trans (hbz.mono hB1.size)⟩
set_option maxRecDepth 100000 in
set_option maxHeartbeats 8000000 in
theorem enc_big2 (W : World) (m : RM) (A : Option Addr) (c : Nat) (B : Option Addr) (cap : Nat) (bs : List UInt8) (hm : IsB W A m.b.length m.b ∧ m.b.length ≤ c) (hb : IsB W B bs.length bs) (hbc : bs.length ≤ cap) (h1 : m.b.length ≤ 1000) (h : 1000 < bs.length) : Calls Try.prog 15 #[.agg (RMV m A c), .slice B bs.length cap] W (True1 W) := by
  have e1 : decide (1000 < m.b.length) = false := df (by omega)
  have e1i : decide ((1000 : Int) < (m.b.length : Int)) = false := df (by omega)
  have e2 : decide (1000 < bs.length) = true := dt (by omega)
  have e2i : decide ((1000 : Int) < (bs.length : Int)) = true := dt (by omega)
  have hB1 := (Below.refl W.heap.size W).alloc (Nat.le_refl _) (.cells (RMV m A c) 97)
  have r1 := Row.born W 97 (RMV m A c)
  go_enter Try.func15, Try.ntmps15
  go_upto_region 1 with (fail)
  generalize W.alloc (.cells (RMV m A c) 97) = w1 at *
  have hl1 := r1.lt
  have c4 : w1.cell? ⟨W.heap.size, 4, none⟩ = some (.slice A m.b.length c) := r1.cell 4
  go_wp2_with (go_at_call 62; refine (awake32 _).mono ?_; rintro en wz ⟨rfl, hbz⟩)
  go_ret
  exact ⟨rfl, hB1.trans (hbz.mono hB1.size)⟩
set_option maxRecDepth 100000 in
set_option maxHeartbeats 8000000 in
theorem enc_yes (W : World) (m : RM) (A : Option Addr) (c : Nat) (B : Option Addr) (cap : Nat) (bs : List UInt8) (hm : IsB W A m.b.length m.b ∧ m.b.length ≤ c) (hb : IsB W B bs.length bs) (hbc : bs.length ≤ cap) (h1 : m.b.length ≤ 1000) (h2 : bs.length ≤ 1000) (hv : m.ok = true) : Calls Try.prog 15 #[.agg (RMV m A c), .slice B bs.length cap] W (True1 W) := by
  have e1 : decide (1000 < m.b.length) = false := df (by omega)
  have e1i : decide ((1000 : Int) < (m.b.length : Int)) = false := df (by omega)
  have e2 : decide (1000 < bs.length) = false := df (by omega)
  have e2i : decide ((1000 : Int) < (bs.length : Int)) = false := df (by omega)
  have HV := Lib.hid hv
  have HD1 := Lib.hid (rm_dec hv)
  clear hv
  have hB1 := (Below.refl W.heap.size W).alloc (Nat.le_refl _) (.cells (RMV m A c) 97)
  have r1 := Row.born W 97 (RMV m A c)
  go_enter Try.func15, Try.ntmps15
  go_upto_region 1 with (fail)
  generalize W.alloc (.cells (RMV m A c) 97) = w1 at *
  have hl1 := r1.lt
  have c4 : w1.cell? ⟨W.heap.size, 4, none⟩ = some (.slice A m.b.length c) := r1.cell 4
  have hm1 := hm.1.below hB1
  go_upto_region 4 with (first | ((with_reducible refine wp_load_g ?_ r1.range Try.underlying97 rfl (rmv_info _ _ _) ?_ ?_); rfl; rfl) | (go_at_call 63; (with_reducible refine (encode_ok m A c _ HV.out hm1).mono ?_); rintro en w2 ⟨g2, l2, rfl, hg2, rfl, hI2, hb2⟩))
  have r1 := r1.below hb2 hl1
  have hB2 := hB1.trans (hb2.mono hB1.size)
  have hl2 := r1.lt
  have hlen : m.by.length ≤ 1000000 := by
    unfold RM.by
    have hk := RM.ok_iff.1 HV.out
    have k1 := uB_small m.k.toNat (by have := hk.k; omega)
    have k2 := uB_small m.n.toNat (by have := hk.n1; omega)
    have k3 := uB_small m.d.toNat (by have := hk.d; omega)
    have k4 := uB_small m.b.length (by omega)
    simp only [List.length_append]
    omega
  clear c4 hb2 hB1 hm1 hl1
  go_upto_region 6 with (first | (go_at_call 64; (with_reducible refine (decode_y HD1.out.1 hI2 hlen (Nat.le_refl _)).mono ?_); rintro en w3 ⟨A3, c3, rfl, ho3, hb3⟩) | ((with_reducible refine wp_row_store (L := RMV (dM m.by) A3 c3) (Row.bornAt' (g := w3.heap.size) rfl 97 _) ?_ (rmv_info _ _ _) (rmv_one _ _ _) ?_ ?_ ?_); rfl; rfl; rfl; intro w4 u4 r4))
  have hal := Upd.below ((Below.refl w3.heap.size w3).alloc (Nat.le_refl _) (.cells ZRm 97)) u4 (Nat.le_refl _)
  have r1 := (r1.below hb3 hl2).below hal (Nat.lt_of_lt_of_le hl2 hb3.size)
  have hB4 := (hB2.trans (hb3.mono hB2.size)).trans (hal.mono (Nat.le_trans hB2.size hb3.size))
  have ho4 := (ho3.below hal).isB
  have hm4 := hm.1.below hB4
  clear hal u4 ho3 hb3 hB2 hI2 hl2
  go_upto_region 10 with (first | ((with_reducible refine wp_load_g ?_ r4.range Try.underlying97 rfl (rmv_info _ _ _) ?_ ?_); rfl; rfl) | ((with_reducible refine wp_load_g ?_ r1.range Try.underlying97 rfl (rmv_info _ _ _) ?_ ?_); rfl; rfl) | (go_at_call 65; (with_reducible refine (sameR HD1.out.2 ho4 hm4).mono ?_); rintro en w5 ⟨rfl, hb5⟩))
  have hB5 := hB4.trans (hb5.mono hB4.size)
  clear hb5 hB4 ho4 hm4 r1 r4
  have hI := hb.below hB5
  cases hd : dOk bs
  · have HDk := Lib.hid hd
    clear hd
    go_wp2_with (first | (go_at_call 64; (with_reducible refine (decode_n HDk.out hI (by omega) hbc).mono ?_); rintro en wd ⟨rfl, hbd⟩) | ((with_reducible refine wp_row_store (L := ZRm) (Row.bornAt' (g := wd.heap.size) rfl 97 _) ?_ zrm_info zrm_one ?_ ?_ ?_); rfl; rfl; rfl; intro we ue re) | (go_at_call 62; refine (awake32 _).mono ?_; rintro en wz ⟨rfl, hbz⟩))
    go_ret
    have hal := Upd.below ((Below.refl wd.heap.size wd).alloc (Nat.le_refl _) (.cells ZRm 97)) ue (Nat.le_refl _)
    have hx := (hB5.trans (hbd.mono hB5.size)).trans (hal.mono (Nat.le_trans hB5.size hbd.size))
    exact ⟨rfl, hx.trans (hbz.mono hx.size)⟩
  · have HDk := Lib.hid hd
    have HOK := Lib.hid (dOk_ok hd)
    have HBY := Lib.hid (rm_enc hd)
    clear hd
    go_upto_region 11 with (first | (go_at_call 64; (with_reducible refine (decode_y HDk.out hI (by omega) hbc).mono ?_); rintro en wd ⟨Ad, cd, rfl, hod, hbd⟩) | ((with_reducible refine wp_row_store (L := RMV (dM bs) Ad cd) (Row.bornAt' (g := wd.heap.size) rfl 97 _) ?_ (rmv_info _ _ _) (rmv_one _ _ _) ?_ ?_ ?_); rfl; rfl; rfl; intro we ue re))
    have hal := Upd.below ((Below.refl wd.heap.size wd).alloc (Nat.le_refl _) (.cells ZRm 97)) ue (Nat.le_refl _)
    have hx := (hB5.trans (hbd.mono hB5.size)).trans (hal.mono (Nat.le_trans hB5.size hbd.size))
    have hoe := (hod.below hal).isB
    clear hal ue hod hbd
    go_upto_region 14 with (first | ((with_reducible refine wp_load_g ?_ re.range Try.underlying97 rfl (rmv_info _ _ _) ?_ ?_); rfl; rfl) | (go_at_call 63; (with_reducible refine (encode_ok (dM bs) Ad cd _ HOK.out hoe).mono ?_); rintro en wf ⟨gf, lf, rfl, hgf, rfl, hIf, hbf⟩))
    have hy := hx.trans (hbf.mono hx.size)
    have hIg : ∀ b, (dM bs).by = b → IsB wf (some ⟨gf, 0, none⟩) (dM bs).by.length b := fun b h => by rw [← h]; exact hIf
    have s1 := run_str (P := Try.prog) (w := wf) (dst := 9) Try.underlying44 Try.underlying5 Try.underlying9 (dM bs).by.length (hIg bs HBY.out)
    have s2 := run_str (P := Try.prog) (w := wf) (dst := 9) Try.underlying44 Try.underlying5 Try.underlying9 cap (hb.below hy)
    go_wp2_with (go_at_call 62; refine (awake32 _).mono ?_; rintro en wz ⟨rfl, hbz⟩)
    go_ret
    exact ⟨rfl, hy.trans (hbz.mono hy.size)⟩
set_option maxRecDepth 100000 in
set_option maxHeartbeats 8000000 in
theorem enc_no (W : World) (m : RM) (A : Option Addr) (c : Nat) (B : Option Addr) (cap : Nat) (bs : List UInt8) (hm : IsB W A m.b.length m.b ∧ m.b.length ≤ c) (hb : IsB W B bs.length bs) (hbc : bs.length ≤ cap) (h1 : m.b.length ≤ 1000) (h2 : bs.length ≤ 1000) (hv : m.ok = false) : Calls Try.prog 15 #[.agg (RMV m A c), .slice B bs.length cap] W (True1 W) := by
  have e1 : decide (1000 < m.b.length) = false := df (by omega)
  have e1i : decide ((1000 : Int) < (m.b.length : Int)) = false := df (by omega)
  have e2 : decide (1000 < bs.length) = false := df (by omega)
  have e2i : decide ((1000 : Int) < (bs.length : Int)) = false := df (by omega)
  have HV := Lib.hid hv
  clear hv
  have hB1 := (Below.refl W.heap.size W).alloc (Nat.le_refl _) (.cells (RMV m A c) 97)
  have r1 := Row.born W 97 (RMV m A c)
  go_enter Try.func15, Try.ntmps15
  go_upto_region 1 with (fail)
  generalize W.alloc (.cells (RMV m A c) 97) = w1 at *
  have hl1 := r1.lt
  have c4 : w1.cell? ⟨W.heap.size, 4, none⟩ = some (.slice A m.b.length c) := r1.cell 4
  have hm1 := hm.1.below hB1
  go_upto_region 4 with (first | ((with_reducible refine wp_load_g ?_ r1.range Try.underlying97 rfl (rmv_info _ _ _) ?_ ?_); rfl; rfl) | (go_at_call 63; (with_reducible refine (enc_none m A c _ HV.out hm1).mono ?_); rintro en w2 ⟨rfl, hb2⟩))
  have r1 := r1.below hb2 hl1
  have hB2 := hB1.trans (hb2.mono hB1.size)
  have hm2 := hm.1.below hB2
  clear c4 hb2 hB1 hm1 hl1
  go_upto_region 10 with (first | ((with_reducible refine wp_load_g ?_ r1.range Try.underlying97 rfl (rmv_info _ _ _) ?_ ?_); rfl; rfl) | (go_at_call 66; (with_reducible refine (valid_rm m A c _).mono ?_); rintro en w5 ⟨rfl, hb5⟩; rw [HV.out]))
  have hB5 := hB2.trans (hb5.mono hB2.size)
  clear hb5 hB2 hm2 r1
  have hI := hb.below hB5
  cases hd : dOk bs
  · have HDk := Lib.hid hd
    clear hd
    go_wp2_with (first | (go_at_call 64; (with_reducible refine (decode_n HDk.out hI (by omega) hbc).mono ?_); rintro en wd ⟨rfl, hbd⟩) | ((with_reducible refine wp_row_store (L := ZRm) (Row.bornAt' (g := wd.heap.size) rfl 97 _) ?_ zrm_info zrm_one ?_ ?_ ?_); rfl; rfl; rfl; intro we ue re) | (go_at_call 62; refine (awake32 _).mono ?_; rintro en wz ⟨rfl, hbz⟩))
    go_ret
    have hal := Upd.below ((Below.refl wd.heap.size wd).alloc (Nat.le_refl _) (.cells ZRm 97)) ue (Nat.le_refl _)
    have hx := (hB5.trans (hbd.mono hB5.size)).trans (hal.mono (Nat.le_trans hB5.size hbd.size))
    exact ⟨rfl, hx.trans (hbz.mono hx.size)⟩
  · have HDk := Lib.hid hd
    have HOK := Lib.hid (dOk_ok hd)
    have HBY := Lib.hid (rm_enc hd)
    clear hd
    go_upto_region 11 with (first | (go_at_call 64; (with_reducible refine (decode_y HDk.out hI (by omega) hbc).mono ?_); rintro en wd ⟨Ad, cd, rfl, hod, hbd⟩) | ((with_reducible refine wp_row_store (L := RMV (dM bs) Ad cd) (Row.bornAt' (g := wd.heap.size) rfl 97 _) ?_ (rmv_info _ _ _) (rmv_one _ _ _) ?_ ?_ ?_); rfl; rfl; rfl; intro we ue re))
    have hal := Upd.below ((Below.refl wd.heap.size wd).alloc (Nat.le_refl _) (.cells ZRm 97)) ue (Nat.le_refl _)
    have hx := (hB5.trans (hbd.mono hB5.size)).trans (hal.mono (Nat.le_trans hB5.size hbd.size))
    have hoe := (hod.below hal).isB
    clear hal ue hod hbd
    go_upto_region 14 with (first | ((with_reducible refine wp_load_g ?_ re.range Try.underlying97 rfl (rmv_info _ _ _) ?_ ?_); rfl; rfl) | (go_at_call 63; (with_reducible refine (encode_ok (dM bs) Ad cd _ HOK.out hoe).mono ?_); rintro en wf ⟨gf, lf, rfl, hgf, rfl, hIf, hbf⟩))
    have hy := hx.trans (hbf.mono hx.size)
    have hIg : ∀ b, (dM bs).by = b → IsB wf (some ⟨gf, 0, none⟩) (dM bs).by.length b := fun b h => by rw [← h]; exact hIf
    have s1 := run_str (P := Try.prog) (w := wf) (dst := 9) Try.underlying44 Try.underlying5 Try.underlying9 (dM bs).by.length (hIg bs HBY.out)
    have s2 := run_str (P := Try.prog) (w := wf) (dst := 9) Try.underlying44 Try.underlying5 Try.underlying9 cap (hb.below hy)
    go_wp2_with (go_at_call 62; refine (awake32 _).mono ?_; rintro en wz ⟨rfl, hbz⟩)
    go_ret
    exact ⟨rfl, hy.trans (hbz.mono hy.size)⟩
theorem walk_encoding (W : World) (m : RM) (A : Option Addr) (c : Nat) (B : Option Addr) (n cap : Nat) (zs : List Int) (hm : IsB W A m.b.length m.b ∧ m.b.length ≤ c) (hb : IsRow .u8 W B n cap zs) : Calls Try.prog 15 #[.agg (RMV m A c), .slice B n cap] W (True1 W) := by
  have hcap := hb.cap
  obtain ⟨bs, hI, -⟩ := hb.isB
  obtain rfl := hI.1
  rcases Nat.lt_or_ge 1000 m.b.length with h1 | h1
  · exact enc_big1 W m A c B cap bs hm hI hcap h1
  rcases Nat.lt_or_ge 1000 bs.length with h2 | h2
  · exact enc_big2 W m A c B cap bs hm hI hcap h1 h2
  cases hv : m.ok
  · exact enc_no W m A c B cap bs hm hI hcap h1 h2 hv
  · exact enc_yes W m A c B cap bs hm hI hcap h1 h2 hv
end Go.Proofs.Ythjkhambmgepdaa
