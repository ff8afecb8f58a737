/- Image: the law ImageExact. -/
import Derived.Test.YtigbmlgllgcbhaaDoorKh
import Derived.Test.YtigbmlgllgcbhaaDoorKb
import Derived.Test.YtigbmlgllgcbhaaDoorKj
import Derived.Test.YtigbmlgllgcbhaaDoorIl
import Derived.Test.YtigbmlgllgcbhaaDoorIv
namespace Go.Proofs.YtigbmlgllgcbhaaDoor
open Go.RowKit
set_option linter.unusedVariables false
set_option linter.unusedSimpArgs false
def imX (ms : List Md) : List UInt8 := if bldE ms = 0 then imImg ms else []
noncomputable def paX (bs : List UInt8) : List Md := if parE bs = 0 then rdMs bs (cntN bs) else []
/-- What both Builds hand back. -/
def BuX (ms : List Md) (W : World) (en : Ending) (W' : World) : Prop := ∃ A' c', en = .returned (.tuple #[.slice A' (imX ms).length c', .int .i64 (bldE ms)]) ∧ IsB W' A' (imX ms).length (imX ms) ∧ Below W.heap.size W W'
/-- What both Parses hand back. -/
def PaX (bs : List UInt8) (W : World) (en : Ending) (W' : World) : Prop := ∃ A' c', en = .returned (.tuple #[.slice A' (paX bs).length c', .int .i64 (parE bs)]) ∧ IsMs W' A' (paX bs).length (paX bs) ∧ (paX bs).length ≤ c' ∧ Below W.heap.size W W'
theorem bld_x {ms : List Md} {W W' : World} {en : Ending} (h : BldP ms W en W') : BuX ms W en W' := by
  rcases h with ⟨h0, rfl, hb⟩ | ⟨h0, g, rfl, hg, hr, hb⟩
  · have e : imX ms = [] := by unfold imX; rw [if_neg h0]
    unfold BuX
    rw [e]
    exact ⟨none, 0, rfl, IsB.nil _ _, hb⟩
  · have e : imX ms = imImg ms := by unfold imX; rw [if_pos h0]
    unfold BuX
    rw [e, h0]
    exact ⟨_, _, rfl, IsB.of_row hr, hb⟩
theorem rbl_x {ms : List Md} {W W' : World} {en : Ending} (h : RBl ms W en W') : BuX ms W en W' := by
  rcases h with ⟨h0, rfl, hb⟩ | ⟨h0, A', c', rfl, hr, hb⟩
  · have e : imX ms = [] := by unfold imX; rw [if_neg h0]
    unfold BuX
    rw [e]
    exact ⟨none, 0, rfl, IsB.nil _ _, hb⟩
  · have e : imX ms = imImg ms := by unfold imX; rw [if_pos h0]
    unfold BuX
    rw [e, h0]
    exact ⟨_, _, rfl, hr.isB, hb⟩
theorem par_x {bs : List UInt8} {W W' : World} {en : Ending} (h : ParP bs W en W') : PaX bs W en W' := by
  rcases h with ⟨h0, rfl, hb⟩ | ⟨h0, A, c, qs, rfl, ho, hb⟩
  · have e : paX bs = [] := by unfold paX; rw [if_neg h0]
    unfold PaX
    rw [e]
    exact ⟨none, 0, rfl, IsMs.nil _ _, Nat.le_refl _, hb⟩
  · have e : paX bs = rdMs bs (cntN bs) := by unfold paX; rw [if_pos h0]
    unfold PaX
    rw [e, h0, rdMs_len]
    exact ⟨_, _, rfl, ho.isMs, ho.cap, hb⟩
theorem paX_len (bs : List UInt8) : (paX bs).length ≤ 65535 := by
  unfold paX
  split
  · rw [rdMs_len]
    have := leN2 bs 6
    unfold cntN
    omega
  · simp
theorem selM_le (wd : Int) : ∀ ms : List Md, (selM wd ms).length ≤ ms.length := fun ms => by
  unfold selM
  exact List.length_filter_le _ _
set_option maxRecDepth 100000 in
set_option maxHeartbeats 8000000 in
theorem walk_exact (W : World) (a0 : Option Addr) (len0 cap0 : Nat) (z0 : List Md) (a1 : Option Addr) (len1 cap1 : Nat) (z1 : List Int) (a2 : ByteArray) (a3 : Int) (w0 : IsMs W a0 len0 z0 ∧ len0 ≤ cap0) (w1 : IsRow .u8 W a1 len1 cap1 z1) (w2 : a2.size ≤ maxLen) (w3 : (Lit.int .i64 a3).wf = true) : Calls Tryd.prog 8 #[.slice a0 len0 cap0, .slice a1 len1 cap1, .string a2, .int .i64 a3] W (True1 W) := by
  obtain ⟨hM, hc0⟩ := w0
  obtain ⟨bs, hbs, hb9⟩ := w1.isB
  have hc1 := w1.cap
  obtain rfl := hbs.1
  obtain rfl := hM.1
  clear w1
  obtain ⟨nm, rfl⟩ : ∃ nm, a2 = sv nm := ⟨a2.data.toList, rfl⟩
  have hs0 := sv_size nm
  have AW := Lib.hid (fun (w : World) (hB : Below W.heap.size W w) => (awake w).mono (R' := fun en w' => en = .returned (.bool true) ∧ Below W.heap.size W w') (fun en w' h => ⟨h.1, hB.trans (h.2.mono hB.size)⟩))
  have FW := few17 z0 a0 cap0 W hM
  unfold FewR at FW
  have FW := Lib.hid FW
  by_cases hF : FewP z0
  case neg =>
    have FW2 := Lib.hid (FW.out.mono (R' := fun en w' => en = .returned (.bool false) ∧ Below W.heap.size W w') (fun en w' h => by
      obtain ⟨b, h1, h2, h3⟩ := h
      cases b with
      | false => exact ⟨h1, h3⟩
      | true => exact absurd (h2.1 rfl) hF))
    clear hF FW
    go_enter Tryd.func8, Tryd.ntmps8
    go_wp2_with (first | (go_at_call 17; (with_reducible refine FW2.out.mono ?_); rintro en w1 ⟨rfl, hB⟩) | (go_at_call 10; (with_reducible refine (AW.out _ hB).mono ?_); rintro en w9 ⟨rfl, hB9⟩))
    go_ret
    exact ⟨rfl, hB9⟩
  have FW2 := Lib.hid (FW.out.mono (R' := fun en w' => en = .returned (.bool true) ∧ Below W.heap.size W w') (fun en w' h => by
    obtain ⟨b, h1, h2, h3⟩ := h
    obtain rfl := h2.2 hF
    exact ⟨h1, h3⟩))
  obtain ⟨f1, f2, f3⟩ := hF
  clear FW f3
  have hdl : ∀ m ∈ z0, m.data.length ≤ 1000000000 := fun m hm => by have := (f2 m hm).2; omega
  have hnl : ∀ m ∈ z0, m.name.length ≤ 1000000000 := fun m hm => by have := (f2 m hm).1; omega
  clear f2
  have HDL := Lib.hid hdl
  have HNL := Lib.hid hnl
  clear hdl hnl
  by_cases hb : 6000 < bs.length
  · have d1 : decide (6000 < bs.length) = true := decide_eq_true hb
    have d1i : decide ((6000 : Int) < (bs.length : Int)) = true := decide_eq_true (by omega)
    clear hb
    go_enter Tryd.func8, Tryd.ntmps8
    go_wp2_with (first | (go_at_call 17; (with_reducible refine FW2.out.mono ?_); rintro en w1 ⟨rfl, hB⟩) | (go_at_call 10; (with_reducible refine (AW.out _ hB).mono ?_); rintro en w9 ⟨rfl, hB9⟩))
    go_ret
    exact ⟨rfl, hB9⟩
  have d1 : decide (6000 < bs.length) = false := decide_eq_false hb
  have d1i : decide ((6000 : Int) < (bs.length : Int)) = false := decide_eq_false (by omega)
  by_cases hn6 : 60 < nm.length
  · have d2 : decide (60 < nm.length) = true := decide_eq_true hn6
    have d2i : decide ((60 : Int) < (nm.length : Int)) = true := decide_eq_true (by omega)
    clear hb hn6
    go_enter Tryd.func8, Tryd.ntmps8
    go_wp2_with (first | (go_at_call 17; (with_reducible refine FW2.out.mono ?_); rintro en w1 ⟨rfl, hB⟩) | (go_at_call 10; (with_reducible refine (AW.out _ hB).mono ?_); rintro en w9 ⟨rfl, hB9⟩))
    go_ret
    exact ⟨rfl, hB9⟩
  have d2 : decide (60 < nm.length) = false := decide_eq_false hn6
  have d2i : decide ((60 : Int) < (nm.length : Int)) = false := decide_eq_false (by omega)
  go_enter Tryd.func8, Tryd.ntmps8
  go_upto_region 3 with (go_at_call 17; (with_reducible refine FW2.out.mono ?_); rintro en w1 ⟨rfl, hB⟩)
  clear d1 d1i d2 d2i FW2
  have CP := copied16 z0 a0 cap0 w1 (hM.below hB) hc0 (by omega) HDL.out
  unfold NewMs at CP
  have CP := Lib.hid CP
  go_upto_region 4 with (go_at_call 16; (with_reducible refine CP.out.mono ?_); rintro en w2 ⟨A2, c2, qs2, rfl, ho2, hb2⟩)
  have hB := hB.trans (hb2.mono hB.size)
  have HM2 := Lib.hid (fun (w : World) (hb : Below w2.heap.size w2 w) => ho2.isMs.below hb)
  have hc2 := ho2.cap
  have BB := (build z0 A2 c2 w2 ho2.isMs hc2 HNL.out HDL.out).mono (R' := BuX z0 w2) (fun en w' h => bld_x h)
  unfold BuX at BB
  have BB := Lib.hid BB
  clear CP ho2 hb2
  obtain ⟨im, him⟩ : ∃ im, imX z0 = im := ⟨_, rfl⟩
  obtain ⟨E, hE⟩ : ∃ E, bldE z0 = E := ⟨_, rfl⟩
  rw [him, hE] at BB
  go_upto_region 5 with (go_at_call 12; (with_reducible refine BB.out.mono ?_); rintro en w3 ⟨A3, c3, rfl, hI3, hb3⟩)
  have hB := hB.trans (hb3.mono hB.size)
  have hB2 := hb3
  have RB1 := (rbuild z0 a0 cap0 w3 (hM.below hB) hc0 HNL.out HDL.out).mono (R' := BuX z0 w3) (fun en w' h => rbl_x h)
  unfold BuX at RB1
  rw [him, hE] at RB1
  have RB1 := Lib.hid RB1
  clear him hE BB hb3
  go_upto_region 6 with (go_at_call 18; (with_reducible refine RB1.out.mono ?_); rintro en w4 ⟨A4, c4, rfl, hI4, hb4⟩)
  have hB := hB.trans (hb4.mono hB.size)
  have hB2 := hB2.trans (hb4.mono hB2.size)
  have hI3 := hI3.below hb4
  clear RB1 hb4
  have hI5 := hbs.below hB
  have HPA := Lib.hid (fun (A : Option Addr) (c : Nat) (w : World) (hA : IsB w A bs.length bs) (hc : bs.length ≤ c) => (parse A c bs w hA hc (by omega)).mono (R' := PaX bs w) (fun en w' h => par_x h))
  have HRP := Lib.hid (fun (A : Option Addr) (c : Nat) (w : World) (hA : IsB w A bs.length bs) (hc : bs.length ≤ c) => (rparse A c bs w hA hc (by omega)).mono (R' := PaX bs w) (fun en w' h => par_x h))
  unfold PaX at HPA HRP
  have hpl := paX_len bs
  obtain ⟨ps, hps⟩ : ∃ ps, paX bs = ps := ⟨_, rfl⟩
  obtain ⟨PE, hPE⟩ : ∃ PE, parE bs = PE := ⟨_, rfl⟩
  rw [hps, hPE] at HPA HRP
  rw [hps] at hpl
  clear hps hPE
  have HPA := Lib.hid HPA.out
  have HRP := Lib.hid HRP.out
  go_upto_region 7 with (first | (at_builtin; (refine wp_append_b (P := Tryd.prog) rfl _ _ 23 rfl Tryd.underlying23 info_u8 (OwnB.nil w4 w4.heap.size 5) hI5 (by omega) (Nat.le_refl _) rfl rfl ?_); intro A5 n5 c5 w5 hn5 ho5 hb5 hg5 hat5; have e5 : bs.length = n5 := (by have := hn5.out; omega); clear hn5; subst e5; rw [List.nil_append] at ho5) | (go_at_call 13; (with_reducible refine (HPA.out _ _ _ ho5.isB ho5.capM).mono ?_); rintro en w6 ⟨A6, c6, rfl, hI6, hc6, hb6⟩))
  have hB5 := hb5.trans (hb6.mono hb5.size)
  have hI3 := hI3.below hB5
  have hI4 := hI4.below hB5
  have hB := hB.trans (hB5.mono hB.size)
  have hB2 := hB2.trans (hB5.mono hB2.size)
  clear hB5 hb5 hb6 hg5 hat5 ho5 hI5 HPA
  have RP := Lib.hid (HRP.out _ _ w6 (hbs.below hB) hc1)
  clear HRP
  go_upto_region 8 with (go_at_call 19; (with_reducible refine RP.out.mono ?_); rintro en w7 ⟨A7, c7, rfl, hI7, hc7, hb7⟩)
  have hI3 := hI3.below hb7
  have hI4 := hI4.below hb7
  have hI6 := hI6.below hb7
  have hB := hB.trans (hb7.mono hB.size)
  have hB2 := hB2.trans (hb7.mono hB2.size)
  clear RP hb7
  have F1 := find20 z0 A2 c2 nm a3 w7 (HM2.out _ hB2) (by omega)
  have F2 := Lib.hid (fun (w : World) (hb : Below W.heap.size W w) => rfind21 z0 a0 cap0 nm a3 w (hM.below hb) (by omega))
  unfold FndP at F1 F2
  obtain ⟨k8, hk8⟩ : ∃ k8, fndK z0 nm a3 = k8 := ⟨_, rfl⟩
  obtain ⟨t8, ht8⟩ : ∃ t8, fndB z0 nm a3 = t8 := ⟨_, rfl⟩
  rw [hk8, ht8] at F1 F2
  clear hk8 ht8
  have F1 := Lib.hid F1
  have F2 := Lib.hid F2.out
  go_upto_region 9 with (go_at_call 20; (with_reducible refine F1.out.mono ?_); rintro en w8 ⟨rfl, hb8⟩)
  have hI3 := hI3.below hb8
  have hI4 := hI4.below hb8
  have hI6 := hI6.below hb8
  have hI7 := hI7.below hb8
  have hB := hB.trans (hb8.mono hB.size)
  have hB2 := hB2.trans (hb8.mono hB2.size)
  clear F1 hb8
  go_upto_region 10 with (go_at_call 21; (with_reducible refine (F2.out _ hB).mono ?_); rintro en w9 ⟨rfl, hb9'⟩)
  have hI3 := hI3.below hb9'
  have hI4 := hI4.below hb9'
  have hI6 := hI6.below hb9'
  have hI7 := hI7.below hb9'
  have hB := hB.trans (hb9'.mono hB.size)
  have hB2 := hB2.trans (hb9'.mono hB2.size)
  clear F2 hb9'
  have hs1 := run_str (P := Tryd.prog) (w := w9) (dst := 9) Tryd.underlying23 Tryd.underlying5 Tryd.underlying9 c3 hI3
  have hs2 := run_str (P := Tryd.prog) (w := w9) (dst := 9) Tryd.underlying23 Tryd.underlying5 Tryd.underlying9 c4 hI4
  have S1 := Lib.hid (same14 ps A6 A7 c6 c7 w9 hI6 hc6 hI7 hc7 (by omega))
  clear hI3 hI4 hI6 hI7 hc6 hc7
  have hsl := selM_le a3 z0
  have SE1 := Lib.hid (fun (w : World) (hb : Below w2.heap.size w2 w) => select22 z0 a3 A2 c2 w (HM2.out _ hb) hc2 (by omega) HDL.out)
  have SE2 := Lib.hid (fun (w : World) (hb : Below W.heap.size W w) => rselect23 z0 a3 a0 cap0 w (hM.below hb) (by omega))
  unfold NewMs at SE1
  unfold ShrR at SE2
  have S3 := Lib.hid (fun (w : World) (hb2 : Below w2.heap.size w2 w) (hb : Below W.heap.size W w) => same14 z0 A2 a0 c2 cap0 w (HM2.out _ hb2) hc2 (hM.below hb) hc0 (by omega))
  obtain ⟨sl, hsel⟩ : ∃ sl, selM a3 z0 = sl := ⟨_, rfl⟩
  rw [hsel] at SE1 SE2 hsl
  clear hsel
  have SE1 := Lib.hid SE1.out
  have SE2 := Lib.hid SE2.out
  have S2 := Lib.hid (fun (A A' : Option Addr) (c c' : Nat) (w : World) (h1 : IsMs w A sl.length sl) (h2 : sl.length ≤ c) (h3 : IsMs w A' sl.length sl) (h4 : sl.length ≤ c') => same14 sl A A' c c' w h1 h2 h3 h4 (by omega))
  go_wp2_with (first
    | (go_at_call 14; (with_reducible refine S1.out.mono ?_); rintro en wa ⟨rfl, hba⟩; have hBa := hB.trans (hba.mono hB.size); have hBa2 := hB2.trans (hba.mono hB2.size))
    | (go_at_call 22; (with_reducible refine (SE1.out _ hBa2).mono ?_); rintro en wb ⟨Ab, cb, qb, rfl, hob, hbb⟩; have hBb := hBa.trans (hbb.mono hBa.size); have hBb2 := hBa2.trans (hbb.mono hBa2.size))
    | (go_at_call 23; (with_reducible refine (SE2.out _ hBb).mono ?_); rintro en wc ⟨Ac, cc, rfl, hoc, hcc, hbc⟩; have hBc := hBb.trans (hbc.mono hBb.size); have hBc2 := hBb2.trans (hbc.mono hBb2.size))
    | (go_at_call 14; (with_reducible refine (S2.out _ _ _ _ _ (hob.isMs.below hbc) hob.cap hoc hcc).mono ?_); rintro en wd ⟨rfl, hbd⟩; have hBd := hBc.trans (hbd.mono hBc.size); have hBd2 := hBc2.trans (hbd.mono hBc2.size))
    | (go_at_call 14; (with_reducible refine (S3.out _ hBd2 hBd).mono ?_); rintro en we ⟨rfl, hbe⟩; have hBe := hBd.trans (hbe.mono hBd.size))
    | (go_at_call 10; (with_reducible refine (AW.out _ hBe).mono ?_); rintro en wf ⟨rfl, hBf⟩))
  go_ret
  exact ⟨rfl, hBf⟩
end Go.Proofs.YtigbmlgllgcbhaaDoor
