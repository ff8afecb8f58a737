/- Image: the reference's check. -/
import Derived.Test.YtigbmlgllgcbhaaDoorId
import Derived.Test.YtigbmlgllgcbhaaDoorIv
import Derived.Test.YtigbmlgllgcbhaaDoorTold
namespace Go.Proofs.YtigbmlgllgcbhaaDoor
open Go.RowKit
set_option linter.unusedVariables false
set_option linter.unusedSimpArgs false
theorem dup_at {m : Md} {ms : List Md} {j : Nat} (hj : j < ms.length) (h : mdIs m.name m.width ms[j] = true) : fndB ms m.name m.width = true := by
  unfold fndB
  rw [List.any_eq_true]
  exact ⟨ms[j], List.getElem_mem hj, h⟩
theorem dup_no {m : Md} {ms : List Md} (h : ∀ i (hi : i < ms.length), mdIs m.name m.width ms[i] = false) : fndB ms m.name m.width = false := by
  unfold fndB
  rw [List.any_eq_false]
  intro x hx
  obtain ⟨i, hi, rfl⟩ := List.mem_iff_getElem.1 hx
  simpa using h i hi
theorem rname_is {bs : List UInt8} {b : Bool} (h : nameB bs = b) (hl : bs.length ≤ 1000000000) (W : World) : Calls Tryd.prog 49 #[.string (sv bs)] W (fun en W' => en = .returned (.bool b) ∧ W' = W) := by
  subst h
  exact rname49 bs W hl
set_option maxRecDepth 100000 in
set_option maxHeartbeats 8000000 in
theorem rchk_klow32 (m : Md) (D : Option Addr) (dc : Nat) (ms : List Md) (A : Option Addr) (c : Nat) (W : World) (hM : IsMs W A ms.length ms) (hl : ms.length ≤ 1000000) (hnm : m.name.length ≤ 1000000000) (hdm : m.data.length ≤ 1000000000) (hkd : m.kind < 1) (hwd : m.width = 32) : Calls Tryd.prog 36 #[.agg (mdV m D dc).toArray, .slice A ms.length c] W (ChkP m ms W) := by
  have k1 : (m.kind == 1) = false := by rw [beq_eq_false_iff_ne]; omega
  have k3 : (m.kind == 3) = false := by rw [beq_eq_false_iff_ne]; omega
  have k3n : (m.kind != 3) = true := by rw [bne_iff_ne]; omega
  have kl : decide (m.kind < 1) = true := decide_eq_true (by omega)
  have kh : decide (3 < m.kind) = false := decide_eq_false (by omega)
  have w32 : (m.width == 32) = true := by rw [beq_iff_eq]; omega
  have w39 : (m.width == 39) = false := by rw [beq_eq_false_iff_ne]; omega
  have w0 : (m.width != 0) = true := by rw [bne_iff_ne]; omega
  have HK0 := Lib.hid hkd
  have HW0 := Lib.hid hwd
  have rm : Row (W.alloc (.cells (mdV m D dc).toArray 35)) W.heap.size 35 (mdV m D dc).toArray := Row.born W 35 _
  have hBB := (Below.refl W.heap.size W).alloc (Nat.le_refl _) (.cells (mdV m D dc).toArray 35)
  have hB := hBB
  clear hkd hwd
  go_enter Tryd.func36, Tryd.ntmps36
  go_upto_region 1 with (fail)
  obtain ⟨g0, hg0⟩ : ∃ g0, W.heap.size = g0 := ⟨_, rfl⟩
  rw [hg0] at rm
  simp only [hg0]
  obtain ⟨w0', hw0'⟩ : ∃ w0', W.alloc (.cells (mdV m D dc).toArray 35) = w0' := ⟨_, rfl⟩
  rw [hw0'] at rm hB hBB
  rw [hw0']
  clear hw0'
  obtain ⟨c0, c1, c2, c3, c4⟩ := md_cells rm
  cases hnb : nameB m.name
  · have HNB := Lib.hid hnb
    have HE := Lib.hid (show chkE m ms = 63 by unfold chkE; rw [hnb]; rfl)
    clear hnb
    go_wp2_with ((go_at_call 49; refine (rname_is HNB.out hnm _).mono ?_; rintro en w4 ⟨rfl, hw4⟩; subst w4))
    go_ret
    exact chk_mk HE.out hB
  have HNB := Lib.hid hnb
  have HE := Lib.hid (show chkE m ms = 6 by unfold chkE; rw [if_pos hnb, if_pos]; have h1 := HK0.out; have h2 := HW0.out; exact .inl h1)
  clear hnb
  go_wp2_with ((go_at_call 49; refine (rname_is HNB.out hnm _).mono ?_; rintro en w4 ⟨rfl, hw4⟩; subst w4))
  go_ret
  exact chk_mk HE.out hB
set_option maxRecDepth 100000 in
set_option maxHeartbeats 8000000 in
theorem rchk_klow39 (m : Md) (D : Option Addr) (dc : Nat) (ms : List Md) (A : Option Addr) (c : Nat) (W : World) (hM : IsMs W A ms.length ms) (hl : ms.length ≤ 1000000) (hnm : m.name.length ≤ 1000000000) (hdm : m.data.length ≤ 1000000000) (hkd : m.kind < 1) (hwd : m.width = 39) : Calls Tryd.prog 36 #[.agg (mdV m D dc).toArray, .slice A ms.length c] W (ChkP m ms W) := by
  have k1 : (m.kind == 1) = false := by rw [beq_eq_false_iff_ne]; omega
  have k3 : (m.kind == 3) = false := by rw [beq_eq_false_iff_ne]; omega
  have k3n : (m.kind != 3) = true := by rw [bne_iff_ne]; omega
  have kl : decide (m.kind < 1) = true := decide_eq_true (by omega)
  have kh : decide (3 < m.kind) = false := decide_eq_false (by omega)
  have w32 : (m.width == 32) = false := by rw [beq_eq_false_iff_ne]; omega
  have w39 : (m.width == 39) = true := by rw [beq_iff_eq]; omega
  have w0 : (m.width != 0) = true := by rw [bne_iff_ne]; omega
  have HK0 := Lib.hid hkd
  have HW0 := Lib.hid hwd
  have rm : Row (W.alloc (.cells (mdV m D dc).toArray 35)) W.heap.size 35 (mdV m D dc).toArray := Row.born W 35 _
  have hBB := (Below.refl W.heap.size W).alloc (Nat.le_refl _) (.cells (mdV m D dc).toArray 35)
  have hB := hBB
  clear hkd hwd
  go_enter Tryd.func36, Tryd.ntmps36
  go_upto_region 1 with (fail)
  obtain ⟨g0, hg0⟩ : ∃ g0, W.heap.size = g0 := ⟨_, rfl⟩
  rw [hg0] at rm
  simp only [hg0]
  obtain ⟨w0', hw0'⟩ : ∃ w0', W.alloc (.cells (mdV m D dc).toArray 35) = w0' := ⟨_, rfl⟩
  rw [hw0'] at rm hB hBB
  rw [hw0']
  clear hw0'
  obtain ⟨c0, c1, c2, c3, c4⟩ := md_cells rm
  cases hnb : nameB m.name
  · have HNB := Lib.hid hnb
    have HE := Lib.hid (show chkE m ms = 63 by unfold chkE; rw [hnb]; rfl)
    clear hnb
    go_wp2_with ((go_at_call 49; refine (rname_is HNB.out hnm _).mono ?_; rintro en w4 ⟨rfl, hw4⟩; subst w4))
    go_ret
    exact chk_mk HE.out hB
  have HNB := Lib.hid hnb
  have HE := Lib.hid (show chkE m ms = 6 by unfold chkE; rw [if_pos hnb, if_pos]; have h1 := HK0.out; have h2 := HW0.out; exact .inl h1)
  clear hnb
  go_wp2_with ((go_at_call 49; refine (rname_is HNB.out hnm _).mono ?_; rintro en w4 ⟨rfl, hw4⟩; subst w4))
  go_ret
  exact chk_mk HE.out hB
set_option maxRecDepth 100000 in
set_option maxHeartbeats 8000000 in
theorem rchk_klow0 (m : Md) (D : Option Addr) (dc : Nat) (ms : List Md) (A : Option Addr) (c : Nat) (W : World) (hM : IsMs W A ms.length ms) (hl : ms.length ≤ 1000000) (hnm : m.name.length ≤ 1000000000) (hdm : m.data.length ≤ 1000000000) (hkd : m.kind < 1) (hwd : m.width = 0) : Calls Tryd.prog 36 #[.agg (mdV m D dc).toArray, .slice A ms.length c] W (ChkP m ms W) := by
  have k1 : (m.kind == 1) = false := by rw [beq_eq_false_iff_ne]; omega
  have k3 : (m.kind == 3) = false := by rw [beq_eq_false_iff_ne]; omega
  have k3n : (m.kind != 3) = true := by rw [bne_iff_ne]; omega
  have kl : decide (m.kind < 1) = true := decide_eq_true (by omega)
  have kh : decide (3 < m.kind) = false := decide_eq_false (by omega)
  have w32 : (m.width == 32) = false := by rw [beq_eq_false_iff_ne]; omega
  have w39 : (m.width == 39) = false := by rw [beq_eq_false_iff_ne]; omega
  have w0 : (m.width != 0) = false := by rw [bne_eq_false_iff_eq]; omega
  have HK0 := Lib.hid hkd
  have HW0 := Lib.hid hwd
  have rm : Row (W.alloc (.cells (mdV m D dc).toArray 35)) W.heap.size 35 (mdV m D dc).toArray := Row.born W 35 _
  have hBB := (Below.refl W.heap.size W).alloc (Nat.le_refl _) (.cells (mdV m D dc).toArray 35)
  have hB := hBB
  clear hkd hwd
  go_enter Tryd.func36, Tryd.ntmps36
  go_upto_region 1 with (fail)
  obtain ⟨g0, hg0⟩ : ∃ g0, W.heap.size = g0 := ⟨_, rfl⟩
  rw [hg0] at rm
  simp only [hg0]
  obtain ⟨w0', hw0'⟩ : ∃ w0', W.alloc (.cells (mdV m D dc).toArray 35) = w0' := ⟨_, rfl⟩
  rw [hw0'] at rm hB hBB
  rw [hw0']
  clear hw0'
  obtain ⟨c0, c1, c2, c3, c4⟩ := md_cells rm
  cases hnb : nameB m.name
  · have HNB := Lib.hid hnb
    have HE := Lib.hid (show chkE m ms = 63 by unfold chkE; rw [hnb]; rfl)
    clear hnb
    go_wp2_with ((go_at_call 49; refine (rname_is HNB.out hnm _).mono ?_; rintro en w4 ⟨rfl, hw4⟩; subst w4))
    go_ret
    exact chk_mk HE.out hB
  have HNB := Lib.hid hnb
  have HE := Lib.hid (show chkE m ms = 6 by unfold chkE; rw [if_pos hnb, if_pos]; have h1 := HK0.out; have h2 := HW0.out; exact .inl h1)
  clear hnb
  go_wp2_with ((go_at_call 49; refine (rname_is HNB.out hnm _).mono ?_; rintro en w4 ⟨rfl, hw4⟩; subst w4))
  go_ret
  exact chk_mk HE.out hB
set_option maxRecDepth 100000 in
set_option maxHeartbeats 8000000 in
theorem rchk_klowx (m : Md) (D : Option Addr) (dc : Nat) (ms : List Md) (A : Option Addr) (c : Nat) (W : World) (hM : IsMs W A ms.length ms) (hl : ms.length ≤ 1000000) (hnm : m.name.length ≤ 1000000000) (hdm : m.data.length ≤ 1000000000) (hkd : m.kind < 1) (hwd : (m.width ≠ 32 ∧ m.width ≠ 39 ∧ m.width ≠ 0)) : Calls Tryd.prog 36 #[.agg (mdV m D dc).toArray, .slice A ms.length c] W (ChkP m ms W) := by
  have k1 : (m.kind == 1) = false := by rw [beq_eq_false_iff_ne]; omega
  have k3 : (m.kind == 3) = false := by rw [beq_eq_false_iff_ne]; omega
  have k3n : (m.kind != 3) = true := by rw [bne_iff_ne]; omega
  have kl : decide (m.kind < 1) = true := decide_eq_true (by omega)
  have kh : decide (3 < m.kind) = false := decide_eq_false (by omega)
  have w32 : (m.width == 32) = false := by rw [beq_eq_false_iff_ne]; omega
  have w39 : (m.width == 39) = false := by rw [beq_eq_false_iff_ne]; omega
  have w0 : (m.width != 0) = true := by rw [bne_iff_ne]; omega
  have HK0 := Lib.hid hkd
  have HW0 := Lib.hid hwd
  have rm : Row (W.alloc (.cells (mdV m D dc).toArray 35)) W.heap.size 35 (mdV m D dc).toArray := Row.born W 35 _
  have hBB := (Below.refl W.heap.size W).alloc (Nat.le_refl _) (.cells (mdV m D dc).toArray 35)
  have hB := hBB
  clear hkd hwd
  go_enter Tryd.func36, Tryd.ntmps36
  go_upto_region 1 with (fail)
  obtain ⟨g0, hg0⟩ : ∃ g0, W.heap.size = g0 := ⟨_, rfl⟩
  rw [hg0] at rm
  simp only [hg0]
  obtain ⟨w0', hw0'⟩ : ∃ w0', W.alloc (.cells (mdV m D dc).toArray 35) = w0' := ⟨_, rfl⟩
  rw [hw0'] at rm hB hBB
  rw [hw0']
  clear hw0'
  obtain ⟨c0, c1, c2, c3, c4⟩ := md_cells rm
  cases hnb : nameB m.name
  · have HNB := Lib.hid hnb
    have HE := Lib.hid (show chkE m ms = 63 by unfold chkE; rw [hnb]; rfl)
    clear hnb
    go_wp2_with ((go_at_call 49; refine (rname_is HNB.out hnm _).mono ?_; rintro en w4 ⟨rfl, hw4⟩; subst w4))
    go_ret
    exact chk_mk HE.out hB
  have HNB := Lib.hid hnb
  have HE := Lib.hid (show chkE m ms = 6 by unfold chkE; rw [if_pos hnb, if_pos]; have h1 := HK0.out; have h2 := HW0.out; exact .inl h1)
  clear hnb
  go_wp2_with ((go_at_call 49; refine (rname_is HNB.out hnm _).mono ?_; rintro en w4 ⟨rfl, hw4⟩; subst w4))
  go_ret
  exact chk_mk HE.out hB
set_option maxRecDepth 100000 in
set_option maxHeartbeats 8000000 in
theorem rchk_k1w32 (m : Md) (D : Option Addr) (dc : Nat) (ms : List Md) (A : Option Addr) (c : Nat) (W : World) (hM : IsMs W A ms.length ms) (hl : ms.length ≤ 1000000) (hnm : m.name.length ≤ 1000000000) (hdm : m.data.length ≤ 1000000000) (hkd : m.kind = 1) (hwd : m.width = 32) : Calls Tryd.prog 36 #[.agg (mdV m D dc).toArray, .slice A ms.length c] W (ChkP m ms W) := by
  have k1 : (m.kind == 1) = true := by rw [beq_iff_eq]; omega
  have k3 : (m.kind == 3) = false := by rw [beq_eq_false_iff_ne]; omega
  have k3n : (m.kind != 3) = true := by rw [bne_iff_ne]; omega
  have kl : decide (m.kind < 1) = false := decide_eq_false (by omega)
  have kh : decide (3 < m.kind) = false := decide_eq_false (by omega)
  have w32 : (m.width == 32) = true := by rw [beq_iff_eq]; omega
  have w39 : (m.width == 39) = false := by rw [beq_eq_false_iff_ne]; omega
  have w0 : (m.width != 0) = true := by rw [bne_iff_ne]; omega
  have HK0 := Lib.hid hkd
  have HW0 := Lib.hid hwd
  have rm : Row (W.alloc (.cells (mdV m D dc).toArray 35)) W.heap.size 35 (mdV m D dc).toArray := Row.born W 35 _
  have hBB := (Below.refl W.heap.size W).alloc (Nat.le_refl _) (.cells (mdV m D dc).toArray 35)
  have hB := hBB
  clear hkd hwd
  go_enter Tryd.func36, Tryd.ntmps36
  go_upto_region 1 with (fail)
  obtain ⟨g0, hg0⟩ : ∃ g0, W.heap.size = g0 := ⟨_, rfl⟩
  rw [hg0] at rm
  simp only [hg0]
  obtain ⟨w0', hw0'⟩ : ∃ w0', W.alloc (.cells (mdV m D dc).toArray 35) = w0' := ⟨_, rfl⟩
  rw [hw0'] at rm hB hBB
  rw [hw0']
  clear hw0'
  obtain ⟨c0, c1, c2, c3, c4⟩ := md_cells rm
  obtain ⟨q8, hq8⟩ : ∃ q8, m.data.length / 8 = q8 := ⟨_, rfl⟩
  have hdv := tdiv8 m.data.length
  rw [hq8] at hdv
  have HQ8 := Lib.hid hq8
  have hwq : IntKind.i64.wrap (q8 : Int) = (q8 : Int) := by rw [IntKind.wrap_i64]; omega
  clear hq8
  cases hnb : nameB m.name
  · have HNB := Lib.hid hnb
    have HE := Lib.hid (show chkE m ms = 63 by unfold chkE; rw [hnb]; rfl)
    clear hnb
    go_wp2_with ((go_at_call 49; refine (rname_is HNB.out hnm _).mono ?_; rintro en w4 ⟨rfl, hw4⟩; subst w4))
    go_ret
    exact chk_mk HE.out hB
  have HNB := Lib.hid hnb
  have HR := Lib.hid (show ¬ (m.kind < 1 ∨ 3 < m.kind ∨ badW m = true) by have h1 := HK0.out; have h2 := HW0.out; unfold badW; simp [h1, h2])
  have HEN := Lib.hid (show entN m = (q8 : Int) by unfold entN; rw [if_pos HK0.out, HQ8.out])
  have HNE := Lib.hid hnb
  clear hnb
  have hmd := tmod8 m.data.length
  obtain ⟨r8, hr8⟩ : ∃ r8, m.data.length % 8 = r8 := ⟨_, rfl⟩
  rw [hr8] at hmd
  have hr88 : r8 < 8 := by omega
  have hwr : IntKind.i64.wrap (r8 : Int) = (r8 : Int) := by rw [IntKind.wrap_i64]; omega
  have HR8 := Lib.hid hr8
  by_cases hz : m.data.length = 0
  · have HE := Lib.hid (show chkE m ms = 59 by unfold chkE; rw [if_pos HNE.out, if_neg HR.out, if_pos ⟨HK0.out, .inl hz⟩])
    have z0 : ((m.data.length : Int) == 0) = true := by rw [beq_iff_eq]; omega
    have z0n : (m.data.length == 0) = true := by rw [beq_iff_eq]; exact hz
    clear hz hr8
    go_wp2_with ((go_at_call 49; refine (rname_is HNB.out hnm _).mono ?_; rintro en w4 ⟨rfl, hw4⟩; subst w4))
    go_ret
    exact chk_mk HE.out hB
  have z0 : ((m.data.length : Int) == 0) = false := by rw [beq_eq_false_iff_ne]; omega
  have z0n : (m.data.length == 0) = false := by rw [beq_eq_false_iff_ne]; exact hz
  by_cases hz8 : r8 = 0
  case neg =>
    have HE := Lib.hid (show chkE m ms = 59 by unfold chkE; rw [if_pos HNE.out, if_neg HR.out, if_pos ⟨HK0.out, .inr (by rw [HR8.out]; exact hz8)⟩])
    have z1 : ((r8 : Int) != 0) = true := by rw [bne_iff_ne]; omega
    have z1n : (r8 != 0) = true := by rw [bne_iff_ne]; exact hz8
    clear hz hr8 hz8
    go_wp2_with ((go_at_call 49; refine (rname_is HNB.out hnm _).mono ?_; rintro en w4 ⟨rfl, hw4⟩; subst w4))
    go_ret
    exact chk_mk HE.out hB
  have z1 : ((r8 : Int) != 0) = false := by rw [bne_eq_false_iff_eq]; omega
  have z1n : (r8 != 0) = false := by rw [bne_eq_false_iff_eq]; exact hz8
  have HNA := Lib.hid (show ¬ (m.kind = 1 ∧ (m.data.length = 0 ∨ m.data.length % 8 ≠ 0)) from fun h => by rcases h.2 with h | h <;> omega)
  clear hz hr8 hz8
  by_cases he : m.entry < 0 ∨ (q8 : Int) ≤ m.entry
  · have HE := Lib.hid (show chkE m ms = 6 by unfold chkE; rw [if_pos HNE.out, if_neg HR.out, if_neg HNA.out, if_pos (by rw [HEN.out]; exact he)])
    rcases Int.lt_or_le m.entry 0 with h0 | h0
    · have y0 : decide (m.entry < 0) = true := decide_eq_true h0
      clear he h0
      go_wp2_with ((go_at_call 49; refine (rname_is HNB.out hnm _).mono ?_; rintro en w4 ⟨rfl, hw4⟩; subst w4))
      go_ret
      exact chk_mk HE.out hB
    · have y0 : decide (m.entry < 0) = false := decide_eq_false (by omega)
      have y1 : decide ((q8 : Int) ≤ m.entry) = true := decide_eq_true (by omega)
      clear he h0
      go_wp2_with ((go_at_call 49; refine (rname_is HNB.out hnm _).mono ?_; rintro en w4 ⟨rfl, hw4⟩; subst w4))
      go_ret
      exact chk_mk HE.out hB
  have y0 : decide (m.entry < 0) = false := decide_eq_false (by omega)
  have y1 : decide ((q8 : Int) ≤ m.entry) = false := decide_eq_false (by omega)
  have HCH := Lib.hid (show (fndB ms m.name m.width = true → chkE m ms = 56) ∧ (fndB ms m.name m.width = false → chkE m ms = 0) from ⟨fun h => by unfold chkE; rw [if_pos HNE.out, if_neg HR.out, if_neg HNA.out, if_neg (by rw [HEN.out]; exact he), if_pos h], fun h => by unfold chkE; rw [if_pos HNE.out, if_neg HR.out, if_neg HNA.out, if_neg (by rw [HEN.out]; exact he), if_neg (by rw [h]; simp)]⟩)
  clear he
  go_upto_region 12 with (go_at_call 49; refine (rname_is HNB.out hnm _).mono ?_; rintro en w4 ⟨rfl, hw4⟩; subst w4)
  clear k1 k3 k3n kl kh w32 w39 w0
  go_loopw [7] (fun i wr => ∃ j : Nat, j ≤ ms.length ∧ i = .int .i64 j ∧ Below w0'.heap.size w0' wr ∧ ∀ i (hi : i < ms.length), i < j → mdIs m.name m.width ms[i] = false) (fun i _ => ms.length - (intOf i).toNat)
  case atStart => exact ⟨0, by omega, rfl, Below.refl _ _, fun i hi h => by omega⟩
  case round =>
    obtain ⟨j, hj, rfl, hbr, hall⟩ := hrel
    have HAL := Lib.hid hall
    clear hall
    rcases Nat.lt_or_ge j ms.length with hjl | hjl
    · have d1 : decide (j < ms.length) = true := decide_eq_true hjl
      have hji : (j : Int) < ms.length := by omega
      have hj0 : (0 : Int) ≤ (j : Int) := by omega
      obtain ⟨b0, o0, rfl, -⟩ := hM.2 (by omega)
      obtain ⟨Dj, dcj, q0, -, q2, -, -, -, -⟩ := hM.cell j hjl
      obtain ⟨x, hx⟩ : ∃ x, ms[j] = x := ⟨_, rfl⟩
      rw [hx] at q0 q2
      have HX := Lib.hid hx
      clear hx
      have HK := Lib.hid (fun (w : World) (hb : Below wr.heap.size wr w) => (show w.cell? ⟨b0, o0 + j * 5, none⟩ = some (.string (sv x.name)) ∧ w.cell? ⟨b0, o0 + j * 5 + 2, none⟩ = some (.int .i64 x.width) ∧ w.cell? ⟨g0, 0, none⟩ = some (.string (sv m.name)) ∧ w.cell? ⟨g0, 2, none⟩ = some (.int .i64 m.width) from
        ⟨(((hBB.trans (hbr.mono hBB.size)).trans (hb.mono (hBB.trans (hbr.mono hBB.size)).size)).cell (p := ⟨b0, o0 + j * 5, none⟩) (block_lt_of_cell q0)).trans q0, (((hBB.trans (hbr.mono hBB.size)).trans (hb.mono (hBB.trans (hbr.mono hBB.size)).size)).cell (p := ⟨b0, o0 + j * 5 + 2, none⟩) (block_lt_of_cell q2)).trans q2, (((hbr.trans (hb.mono hbr.size))).cell (p := ⟨g0, 0, none⟩) rm.lt).trans (rm.cell 0), (((hbr.trans (hb.mono hbr.size))).cell (p := ⟨g0, 2, none⟩) rm.lt).trans (rm.cell 2)⟩))
      go_upto_region 14 with (fail)
      by_cases hn : x.name = m.name
      · have hnb : (x.name == m.name) = true := by simpa using hn
        have hs1 : (sv x.name).toList = (sv m.name).toList := by rw [sv_list, sv_list, hn]
        by_cases hw : x.width = m.width
        · have HE := Lib.hid (HCH.out.1 (dup_at hjl (by rw [HX.out]; unfold mdIs; rw [hnb, hw]; simp)))
          have hwb : (x.width == m.width) = true := by simpa using hw
          clear hn hw
          refine wp_region_told (n := 116) (fun w9 => Below wr.heap.size wr w9) (fun _ _ => True) (by kernel_rfl) (by kernel_rfl) (by rfl) (Below.refl _ _).drew ?_
          refine walk_pure (v := ?_) (fun w => trivial) (fun _ => rfl) ?_ ?_; rotate_left; (focus (intro us w9 hS9 hF; clear hF; obtain ⟨h1, h2, h3, h4⟩ := HK.out w9 hS9; clear hS9; go_simp; (try with_reducible rfl); done)); simp only [Act.put, List.setIfInBounds_toArray, List.set_cons_zero, List.set_cons_succ, Nat.reduceAdd]
          refine walk_pure (v := ?_) (fun w => trivial) (fun _ => rfl) ?_ ?_; rotate_left; (focus (intro us w9 hS9 hF; clear hF; obtain ⟨h1, h2, h3, h4⟩ := HK.out w9 hS9; clear hS9; go_simp; (try with_reducible rfl); done)); simp only [Act.put, List.setIfInBounds_toArray, List.set_cons_zero, List.set_cons_succ, Nat.reduceAdd]
          refine walk_pure (v := ?_) (fun w => trivial) (fun _ => rfl) ?_ ?_; rotate_left; (focus (intro us w9 hS9 hF; clear hF; obtain ⟨h1, h2, h3, h4⟩ := HK.out w9 hS9; clear hS9; go_simp; (try with_reducible rfl); done)); simp only [Act.put, List.setIfInBounds_toArray, List.set_cons_zero, List.set_cons_succ, Nat.reduceAdd]
          refine walk_pure (v := ?_) (fun w => trivial) (fun _ => rfl) ?_ ?_; rotate_left; (focus (intro us w9 hS9 hF; clear hF; obtain ⟨h1, h2, h3, h4⟩ := HK.out w9 hS9; clear hS9; go_simp; (try with_reducible rfl); done)); simp only [Act.put, List.setIfInBounds_toArray, List.set_cons_zero, List.set_cons_succ, Nat.reduceAdd]
          refine walk_pure (v := ?_) (fun w => trivial) (fun _ => rfl) ?_ ?_; rotate_left; (focus (intro us w9 hS9 hF; clear hF; obtain ⟨h1, h2, h3, h4⟩ := HK.out w9 hS9; clear hS9; go_simp; (try with_reducible rfl); done)); simp only [Act.put, List.setIfInBounds_toArray, List.set_cons_zero, List.set_cons_succ, Nat.reduceAdd]
          refine walk_pure (v := ?_) (fun w => trivial) (fun _ => rfl) ?_ ?_; rotate_left; (focus (intro us w9 hS9 hF; clear hF; obtain ⟨h1, h2, h3, h4⟩ := HK.out w9 hS9; clear hS9; go_simp; (try with_reducible rfl); done)); simp only [Act.put, List.setIfInBounds_toArray, List.set_cons_zero, List.set_cons_succ, Nat.reduceAdd]
          refine walk_pure (v := ?_) (fun w => trivial) (fun _ => rfl) ?_ ?_; rotate_left; (focus (intro us w9 hS9 hF; clear hF; obtain ⟨h1, h2, h3, h4⟩ := HK.out w9 hS9; clear hS9; go_simp; (try with_reducible rfl); done)); simp only [Act.put, List.setIfInBounds_toArray, List.set_cons_zero, List.set_cons_succ, Nat.reduceAdd]
          refine walk_pure (v := .bool true) (fun w => trivial) (fun _ => rfl) ?_ ?_; (focus (intro us w9 hS9 hF; clear hF; obtain ⟨h1, h2, h3, h4⟩ := HK.out w9 hS9; clear hS9; go_simp; (try with_reducible rfl); done)); simp only [Act.put, List.setIfInBounds_toArray, List.set_cons_zero, List.set_cons_succ, Nat.reduceAdd]
          refine walk_pure (v := .bool true) (fun w => trivial) (fun _ => rfl) ?_ ?_; (focus (intro us w9 hS9 hF; clear hF; obtain ⟨h1, h2, h3, h4⟩ := HK.out w9 hS9; clear hS9; go_simp; (try with_reducible rfl); done)); simp only [Act.put, List.setIfInBounds_toArray, List.set_cons_zero, List.set_cons_succ, Nat.reduceAdd]
          refine walk_pure (v := ?_) (fun w => trivial) (fun _ => rfl) ?_ ?_; rotate_left; (focus (intro us w9 hS9 hF; clear hF; obtain ⟨h1, h2, h3, h4⟩ := HK.out w9 hS9; clear hS9; go_simp; (try with_reducible rfl); done)); simp only [Act.put, List.setIfInBounds_toArray, List.set_cons_zero, List.set_cons_succ, Nat.reduceAdd]
          refine walk_pure (v := ?_) (fun w => trivial) (fun _ => rfl) ?_ ?_; rotate_left; (focus (intro us w9 hS9 hF; clear hF; obtain ⟨h1, h2, h3, h4⟩ := HK.out w9 hS9; clear hS9; go_simp; (try with_reducible rfl); done)); simp only [Act.put, List.setIfInBounds_toArray, List.set_cons_zero, List.set_cons_succ, Nat.reduceAdd]
          refine walk_pure (v := ?_) (fun w => trivial) (fun _ => rfl) ?_ ?_; rotate_left; (focus (intro us w9 hS9 hF; clear hF; obtain ⟨h1, h2, h3, h4⟩ := HK.out w9 hS9; clear hS9; go_simp; (try with_reducible rfl); done)); simp only [Act.put, List.setIfInBounds_toArray, List.set_cons_zero, List.set_cons_succ, Nat.reduceAdd]
          refine walk_pure (v := ?_) (fun w => trivial) (fun _ => rfl) ?_ ?_; rotate_left; (focus (intro us w9 hS9 hF; clear hF; obtain ⟨h1, h2, h3, h4⟩ := HK.out w9 hS9; clear hS9; go_simp; (try with_reducible rfl); done)); simp only [Act.put, List.setIfInBounds_toArray, List.set_cons_zero, List.set_cons_succ, Nat.reduceAdd]
          refine walk_pure (v := ?_) (fun w => trivial) (fun _ => rfl) ?_ ?_; rotate_left; (focus (intro us w9 hS9 hF; clear hF; obtain ⟨h1, h2, h3, h4⟩ := HK.out w9 hS9; clear hS9; go_simp; (try with_reducible rfl); done)); simp only [Act.put, List.setIfInBounds_toArray, List.set_cons_zero, List.set_cons_succ, Nat.reduceAdd]
          refine walk_pure (v := ?_) (fun w => trivial) (fun _ => rfl) ?_ ?_; rotate_left; (focus (intro us w9 hS9 hF; clear hF; obtain ⟨h1, h2, h3, h4⟩ := HK.out w9 hS9; clear hS9; go_simp; (try with_reducible rfl); done)); simp only [Act.put, List.setIfInBounds_toArray, List.set_cons_zero, List.set_cons_succ, Nat.reduceAdd]
          refine walk_pure (v := ?_) (fun w => trivial) (fun _ => rfl) ?_ ?_; rotate_left; (focus (intro us w9 hS9 hF; clear hF; obtain ⟨h1, h2, h3, h4⟩ := HK.out w9 hS9; clear hS9; go_simp; (try with_reducible rfl); done)); simp only [Act.put, List.setIfInBounds_toArray, List.set_cons_zero, List.set_cons_succ, Nat.reduceAdd]
          refine walk_pure (v := .bool true) (fun w => trivial) (fun _ => rfl) ?_ ?_; (focus (intro us w9 hS9 hF; clear hF; obtain ⟨h1, h2, h3, h4⟩ := HK.out w9 hS9; clear hS9; go_simp; (try with_reducible rfl); done)); simp only [Act.put, List.setIfInBounds_toArray, List.set_cons_zero, List.set_cons_succ, Nat.reduceAdd]
          refine walk_pure (v := .bool true) (fun w => trivial) (fun _ => rfl) ?_ ?_; (focus (intro us w9 hS9 hF; clear hF; obtain ⟨h1, h2, h3, h4⟩ := HK.out w9 hS9; clear hS9; go_simp; (try with_reducible rfl); done)); simp only [Act.put, List.setIfInBounds_toArray, List.set_cons_zero, List.set_cons_succ, Nat.reduceAdd]
          refine walk_done fun us w9 hS9 hF => ?_
          clear hF
          have hB9 := hB.trans ((hbr.trans (hS9.mono hbr.size)).mono hB.size)
          go_wp2
          go_ret
          exact chk_mk HE.out hB9
        · have hwb : (x.width == m.width) = false := by simpa using hw
          have HNF := Lib.hid (show mdIs m.name m.width ms[j] = false by rw [HX.out]; unfold mdIs; rw [hwb]; simp)
          clear hn hw
          refine wp_region_told (n := 116) (fun w9 => Below wr.heap.size wr w9) (fun _ _ => True) (by kernel_rfl) (by kernel_rfl) (by rfl) (Below.refl _ _).drew ?_
          refine walk_pure (v := ?_) (fun w => trivial) (fun _ => rfl) ?_ ?_; rotate_left; (focus (intro us w9 hS9 hF; clear hF; obtain ⟨h1, h2, h3, h4⟩ := HK.out w9 hS9; clear hS9; go_simp; (try with_reducible rfl); done)); simp only [Act.put, List.setIfInBounds_toArray, List.set_cons_zero, List.set_cons_succ, Nat.reduceAdd]
          refine walk_pure (v := ?_) (fun w => trivial) (fun _ => rfl) ?_ ?_; rotate_left; (focus (intro us w9 hS9 hF; clear hF; obtain ⟨h1, h2, h3, h4⟩ := HK.out w9 hS9; clear hS9; go_simp; (try with_reducible rfl); done)); simp only [Act.put, List.setIfInBounds_toArray, List.set_cons_zero, List.set_cons_succ, Nat.reduceAdd]
          refine walk_pure (v := ?_) (fun w => trivial) (fun _ => rfl) ?_ ?_; rotate_left; (focus (intro us w9 hS9 hF; clear hF; obtain ⟨h1, h2, h3, h4⟩ := HK.out w9 hS9; clear hS9; go_simp; (try with_reducible rfl); done)); simp only [Act.put, List.setIfInBounds_toArray, List.set_cons_zero, List.set_cons_succ, Nat.reduceAdd]
          refine walk_pure (v := ?_) (fun w => trivial) (fun _ => rfl) ?_ ?_; rotate_left; (focus (intro us w9 hS9 hF; clear hF; obtain ⟨h1, h2, h3, h4⟩ := HK.out w9 hS9; clear hS9; go_simp; (try with_reducible rfl); done)); simp only [Act.put, List.setIfInBounds_toArray, List.set_cons_zero, List.set_cons_succ, Nat.reduceAdd]
          refine walk_pure (v := ?_) (fun w => trivial) (fun _ => rfl) ?_ ?_; rotate_left; (focus (intro us w9 hS9 hF; clear hF; obtain ⟨h1, h2, h3, h4⟩ := HK.out w9 hS9; clear hS9; go_simp; (try with_reducible rfl); done)); simp only [Act.put, List.setIfInBounds_toArray, List.set_cons_zero, List.set_cons_succ, Nat.reduceAdd]
          refine walk_pure (v := ?_) (fun w => trivial) (fun _ => rfl) ?_ ?_; rotate_left; (focus (intro us w9 hS9 hF; clear hF; obtain ⟨h1, h2, h3, h4⟩ := HK.out w9 hS9; clear hS9; go_simp; (try with_reducible rfl); done)); simp only [Act.put, List.setIfInBounds_toArray, List.set_cons_zero, List.set_cons_succ, Nat.reduceAdd]
          refine walk_pure (v := ?_) (fun w => trivial) (fun _ => rfl) ?_ ?_; rotate_left; (focus (intro us w9 hS9 hF; clear hF; obtain ⟨h1, h2, h3, h4⟩ := HK.out w9 hS9; clear hS9; go_simp; (try with_reducible rfl); done)); simp only [Act.put, List.setIfInBounds_toArray, List.set_cons_zero, List.set_cons_succ, Nat.reduceAdd]
          refine walk_pure (v := .bool true) (fun w => trivial) (fun _ => rfl) ?_ ?_; (focus (intro us w9 hS9 hF; clear hF; obtain ⟨h1, h2, h3, h4⟩ := HK.out w9 hS9; clear hS9; go_simp; (try with_reducible rfl); done)); simp only [Act.put, List.setIfInBounds_toArray, List.set_cons_zero, List.set_cons_succ, Nat.reduceAdd]
          refine walk_pure (v := .bool true) (fun w => trivial) (fun _ => rfl) ?_ ?_; (focus (intro us w9 hS9 hF; clear hF; obtain ⟨h1, h2, h3, h4⟩ := HK.out w9 hS9; clear hS9; go_simp; (try with_reducible rfl); done)); simp only [Act.put, List.setIfInBounds_toArray, List.set_cons_zero, List.set_cons_succ, Nat.reduceAdd]
          refine walk_pure (v := ?_) (fun w => trivial) (fun _ => rfl) ?_ ?_; rotate_left; (focus (intro us w9 hS9 hF; clear hF; obtain ⟨h1, h2, h3, h4⟩ := HK.out w9 hS9; clear hS9; go_simp; (try with_reducible rfl); done)); simp only [Act.put, List.setIfInBounds_toArray, List.set_cons_zero, List.set_cons_succ, Nat.reduceAdd]
          refine walk_pure (v := ?_) (fun w => trivial) (fun _ => rfl) ?_ ?_; rotate_left; (focus (intro us w9 hS9 hF; clear hF; obtain ⟨h1, h2, h3, h4⟩ := HK.out w9 hS9; clear hS9; go_simp; (try with_reducible rfl); done)); simp only [Act.put, List.setIfInBounds_toArray, List.set_cons_zero, List.set_cons_succ, Nat.reduceAdd]
          refine walk_pure (v := ?_) (fun w => trivial) (fun _ => rfl) ?_ ?_; rotate_left; (focus (intro us w9 hS9 hF; clear hF; obtain ⟨h1, h2, h3, h4⟩ := HK.out w9 hS9; clear hS9; go_simp; (try with_reducible rfl); done)); simp only [Act.put, List.setIfInBounds_toArray, List.set_cons_zero, List.set_cons_succ, Nat.reduceAdd]
          refine walk_pure (v := ?_) (fun w => trivial) (fun _ => rfl) ?_ ?_; rotate_left; (focus (intro us w9 hS9 hF; clear hF; obtain ⟨h1, h2, h3, h4⟩ := HK.out w9 hS9; clear hS9; go_simp; (try with_reducible rfl); done)); simp only [Act.put, List.setIfInBounds_toArray, List.set_cons_zero, List.set_cons_succ, Nat.reduceAdd]
          refine walk_pure (v := ?_) (fun w => trivial) (fun _ => rfl) ?_ ?_; rotate_left; (focus (intro us w9 hS9 hF; clear hF; obtain ⟨h1, h2, h3, h4⟩ := HK.out w9 hS9; clear hS9; go_simp; (try with_reducible rfl); done)); simp only [Act.put, List.setIfInBounds_toArray, List.set_cons_zero, List.set_cons_succ, Nat.reduceAdd]
          refine walk_pure (v := ?_) (fun w => trivial) (fun _ => rfl) ?_ ?_; rotate_left; (focus (intro us w9 hS9 hF; clear hF; obtain ⟨h1, h2, h3, h4⟩ := HK.out w9 hS9; clear hS9; go_simp; (try with_reducible rfl); done)); simp only [Act.put, List.setIfInBounds_toArray, List.set_cons_zero, List.set_cons_succ, Nat.reduceAdd]
          refine walk_pure (v := ?_) (fun w => trivial) (fun _ => rfl) ?_ ?_; rotate_left; (focus (intro us w9 hS9 hF; clear hF; obtain ⟨h1, h2, h3, h4⟩ := HK.out w9 hS9; clear hS9; go_simp; (try with_reducible rfl); done)); simp only [Act.put, List.setIfInBounds_toArray, List.set_cons_zero, List.set_cons_succ, Nat.reduceAdd]
          refine walk_pure (v := .bool false) (fun w => trivial) (fun _ => rfl) ?_ ?_; (focus (intro us w9 hS9 hF; clear hF; obtain ⟨h1, h2, h3, h4⟩ := HK.out w9 hS9; clear hS9; go_simp; (try with_reducible rfl); done)); simp only [Act.put, List.setIfInBounds_toArray, List.set_cons_zero, List.set_cons_succ, Nat.reduceAdd]
          refine walk_pure (v := .bool false) (fun w => trivial) (fun _ => rfl) ?_ ?_; (focus (intro us w9 hS9 hF; clear hF; obtain ⟨h1, h2, h3, h4⟩ := HK.out w9 hS9; clear hS9; go_simp; (try with_reducible rfl); done)); simp only [Act.put, List.setIfInBounds_toArray, List.set_cons_zero, List.set_cons_succ, Nat.reduceAdd]
          refine walk_done fun us w9 hS9 hF => ?_
          clear hF
          have hb9 := hbr.trans (hS9.mono hbr.size)
          go_wp2
          exact ⟨⟨j + 1, by omega, by go_num, hb9, fun i hi h => by rcases Nat.lt_or_ge i j with h9 | h9; exact HAL.out i hi h9; obtain rfl : i = j := (by omega); exact HNF.out⟩, by simp [intOf]; omega⟩
      · have hnb : (x.name == m.name) = false := by simpa using hn
        have hs1 : ((sv x.name).toList = (sv m.name).toList) = False := by rw [sv_list, sv_list]; exact eq_false hn
        have HNF := Lib.hid (show mdIs m.name m.width ms[j] = false by rw [HX.out]; unfold mdIs; rw [hnb]; rfl)
        clear hn
        refine wp_region_told (n := 116) (fun w9 => Below wr.heap.size wr w9) (fun _ _ => True) (by kernel_rfl) (by kernel_rfl) (by rfl) (Below.refl _ _).drew ?_
        refine walk_pure (v := ?_) (fun w => trivial) (fun _ => rfl) ?_ ?_; rotate_left; (focus (intro us w9 hS9 hF; clear hF; obtain ⟨h1, h2, h3, h4⟩ := HK.out w9 hS9; clear hS9; go_simp; (try with_reducible rfl); done)); simp only [Act.put, List.setIfInBounds_toArray, List.set_cons_zero, List.set_cons_succ, Nat.reduceAdd]
        refine walk_pure (v := ?_) (fun w => trivial) (fun _ => rfl) ?_ ?_; rotate_left; (focus (intro us w9 hS9 hF; clear hF; obtain ⟨h1, h2, h3, h4⟩ := HK.out w9 hS9; clear hS9; go_simp; (try with_reducible rfl); done)); simp only [Act.put, List.setIfInBounds_toArray, List.set_cons_zero, List.set_cons_succ, Nat.reduceAdd]
        refine walk_pure (v := ?_) (fun w => trivial) (fun _ => rfl) ?_ ?_; rotate_left; (focus (intro us w9 hS9 hF; clear hF; obtain ⟨h1, h2, h3, h4⟩ := HK.out w9 hS9; clear hS9; go_simp; (try with_reducible rfl); done)); simp only [Act.put, List.setIfInBounds_toArray, List.set_cons_zero, List.set_cons_succ, Nat.reduceAdd]
        refine walk_pure (v := ?_) (fun w => trivial) (fun _ => rfl) ?_ ?_; rotate_left; (focus (intro us w9 hS9 hF; clear hF; obtain ⟨h1, h2, h3, h4⟩ := HK.out w9 hS9; clear hS9; go_simp; (try with_reducible rfl); done)); simp only [Act.put, List.setIfInBounds_toArray, List.set_cons_zero, List.set_cons_succ, Nat.reduceAdd]
        refine walk_pure (v := ?_) (fun w => trivial) (fun _ => rfl) ?_ ?_; rotate_left; (focus (intro us w9 hS9 hF; clear hF; obtain ⟨h1, h2, h3, h4⟩ := HK.out w9 hS9; clear hS9; go_simp; (try with_reducible rfl); done)); simp only [Act.put, List.setIfInBounds_toArray, List.set_cons_zero, List.set_cons_succ, Nat.reduceAdd]
        refine walk_pure (v := ?_) (fun w => trivial) (fun _ => rfl) ?_ ?_; rotate_left; (focus (intro us w9 hS9 hF; clear hF; obtain ⟨h1, h2, h3, h4⟩ := HK.out w9 hS9; clear hS9; go_simp; (try with_reducible rfl); done)); simp only [Act.put, List.setIfInBounds_toArray, List.set_cons_zero, List.set_cons_succ, Nat.reduceAdd]
        refine walk_pure (v := ?_) (fun w => trivial) (fun _ => rfl) ?_ ?_; rotate_left; (focus (intro us w9 hS9 hF; clear hF; obtain ⟨h1, h2, h3, h4⟩ := HK.out w9 hS9; clear hS9; go_simp; (try with_reducible rfl); done)); simp only [Act.put, List.setIfInBounds_toArray, List.set_cons_zero, List.set_cons_succ, Nat.reduceAdd]
        refine walk_pure (v := .bool false) (fun w => trivial) (fun _ => rfl) ?_ ?_; (focus (intro us w9 hS9 hF; clear hF; obtain ⟨h1, h2, h3, h4⟩ := HK.out w9 hS9; clear hS9; go_simp; (try with_reducible rfl); done)); simp only [Act.put, List.setIfInBounds_toArray, List.set_cons_zero, List.set_cons_succ, Nat.reduceAdd]
        refine walk_pure (v := .bool false) (fun w => trivial) (fun _ => rfl) ?_ ?_; (focus (intro us w9 hS9 hF; clear hF; obtain ⟨h1, h2, h3, h4⟩ := HK.out w9 hS9; clear hS9; go_simp; (try with_reducible rfl); done)); simp only [Act.put, List.setIfInBounds_toArray, List.set_cons_zero, List.set_cons_succ, Nat.reduceAdd]
        refine walk_skip (fun w => trivial) (fun _ => rfl) ?_; simp only [Act.put, List.setIfInBounds_toArray, List.set_cons_zero, List.set_cons_succ, Nat.reduceAdd]
        refine walk_skip (fun w => trivial) (fun _ => rfl) ?_; simp only [Act.put, List.setIfInBounds_toArray, List.set_cons_zero, List.set_cons_succ, Nat.reduceAdd]
        refine walk_skip (fun w => trivial) (fun _ => rfl) ?_; simp only [Act.put, List.setIfInBounds_toArray, List.set_cons_zero, List.set_cons_succ, Nat.reduceAdd]
        refine walk_skip (fun w => trivial) (fun _ => rfl) ?_; simp only [Act.put, List.setIfInBounds_toArray, List.set_cons_zero, List.set_cons_succ, Nat.reduceAdd]
        refine walk_skip (fun w => trivial) (fun _ => rfl) ?_; simp only [Act.put, List.setIfInBounds_toArray, List.set_cons_zero, List.set_cons_succ, Nat.reduceAdd]
        refine walk_skip (fun w => trivial) (fun _ => rfl) ?_; simp only [Act.put, List.setIfInBounds_toArray, List.set_cons_zero, List.set_cons_succ, Nat.reduceAdd]
        refine walk_skip (fun w => trivial) (fun _ => rfl) ?_; simp only [Act.put, List.setIfInBounds_toArray, List.set_cons_zero, List.set_cons_succ, Nat.reduceAdd]
        refine walk_skip (fun w => trivial) (fun _ => rfl) ?_; simp only [Act.put, List.setIfInBounds_toArray, List.set_cons_zero, List.set_cons_succ, Nat.reduceAdd]
        refine walk_pure (v := .bool false) (fun w => trivial) (fun _ => rfl) ?_ ?_; (focus (intro us w9 hS9 hF; clear hF; obtain ⟨h1, h2, h3, h4⟩ := HK.out w9 hS9; clear hS9; go_simp; (try with_reducible rfl); done)); simp only [Act.put, List.setIfInBounds_toArray, List.set_cons_zero, List.set_cons_succ, Nat.reduceAdd]
        refine walk_done fun us w9 hS9 hF => ?_
        clear hF
        have hb9 := hbr.trans (hS9.mono hbr.size)
        go_wp2
        exact ⟨⟨j + 1, by omega, by go_num, hb9, fun i hi h => by rcases Nat.lt_or_ge i j with h9 | h9; exact HAL.out i hi h9; obtain rfl : i = j := (by omega); exact HNF.out⟩, by simp [intOf]; omega⟩
    · obtain rfl : j = ms.length := by omega
      have d1 : decide (ms.length < ms.length) = false := by simp
      have HE := Lib.hid (HCH.out.2 (dup_no fun i hi => HAL.out i hi hi))
      go_wp2
      go_ret
      exact chk_mk HE.out (hB.trans (hbr.mono hB.size))
set_option maxRecDepth 100000 in
set_option maxHeartbeats 8000000 in
theorem rchk_k1w39 (m : Md) (D : Option Addr) (dc : Nat) (ms : List Md) (A : Option Addr) (c : Nat) (W : World) (hM : IsMs W A ms.length ms) (hl : ms.length ≤ 1000000) (hnm : m.name.length ≤ 1000000000) (hdm : m.data.length ≤ 1000000000) (hkd : m.kind = 1) (hwd : m.width = 39) : Calls Tryd.prog 36 #[.agg (mdV m D dc).toArray, .slice A ms.length c] W (ChkP m ms W) := by
  have k1 : (m.kind == 1) = true := by rw [beq_iff_eq]; omega
  have k3 : (m.kind == 3) = false := by rw [beq_eq_false_iff_ne]; omega
  have k3n : (m.kind != 3) = true := by rw [bne_iff_ne]; omega
  have kl : decide (m.kind < 1) = false := decide_eq_false (by omega)
  have kh : decide (3 < m.kind) = false := decide_eq_false (by omega)
  have w32 : (m.width == 32) = false := by rw [beq_eq_false_iff_ne]; omega
  have w39 : (m.width == 39) = true := by rw [beq_iff_eq]; omega
  have w0 : (m.width != 0) = true := by rw [bne_iff_ne]; omega
  have HK0 := Lib.hid hkd
  have HW0 := Lib.hid hwd
  have rm : Row (W.alloc (.cells (mdV m D dc).toArray 35)) W.heap.size 35 (mdV m D dc).toArray := Row.born W 35 _
  have hBB := (Below.refl W.heap.size W).alloc (Nat.le_refl _) (.cells (mdV m D dc).toArray 35)
  have hB := hBB
  clear hkd hwd
  go_enter Tryd.func36, Tryd.ntmps36
  go_upto_region 1 with (fail)
  obtain ⟨g0, hg0⟩ : ∃ g0, W.heap.size = g0 := ⟨_, rfl⟩
  rw [hg0] at rm
  simp only [hg0]
  obtain ⟨w0', hw0'⟩ : ∃ w0', W.alloc (.cells (mdV m D dc).toArray 35) = w0' := ⟨_, rfl⟩
  rw [hw0'] at rm hB hBB
  rw [hw0']
  clear hw0'
  obtain ⟨c0, c1, c2, c3, c4⟩ := md_cells rm
  obtain ⟨q8, hq8⟩ : ∃ q8, m.data.length / 8 = q8 := ⟨_, rfl⟩
  have hdv := tdiv8 m.data.length
  rw [hq8] at hdv
  have HQ8 := Lib.hid hq8
  have hwq : IntKind.i64.wrap (q8 : Int) = (q8 : Int) := by rw [IntKind.wrap_i64]; omega
  clear hq8
  cases hnb : nameB m.name
  · have HNB := Lib.hid hnb
    have HE := Lib.hid (show chkE m ms = 63 by unfold chkE; rw [hnb]; rfl)
    clear hnb
    go_wp2_with ((go_at_call 49; refine (rname_is HNB.out hnm _).mono ?_; rintro en w4 ⟨rfl, hw4⟩; subst w4))
    go_ret
    exact chk_mk HE.out hB
  have HNB := Lib.hid hnb
  have HR := Lib.hid (show ¬ (m.kind < 1 ∨ 3 < m.kind ∨ badW m = true) by have h1 := HK0.out; have h2 := HW0.out; unfold badW; simp [h1, h2])
  have HEN := Lib.hid (show entN m = (q8 : Int) by unfold entN; rw [if_pos HK0.out, HQ8.out])
  have HNE := Lib.hid hnb
  clear hnb
  have hmd := tmod8 m.data.length
  obtain ⟨r8, hr8⟩ : ∃ r8, m.data.length % 8 = r8 := ⟨_, rfl⟩
  rw [hr8] at hmd
  have hr88 : r8 < 8 := by omega
  have hwr : IntKind.i64.wrap (r8 : Int) = (r8 : Int) := by rw [IntKind.wrap_i64]; omega
  have HR8 := Lib.hid hr8
  by_cases hz : m.data.length = 0
  · have HE := Lib.hid (show chkE m ms = 59 by unfold chkE; rw [if_pos HNE.out, if_neg HR.out, if_pos ⟨HK0.out, .inl hz⟩])
    have z0 : ((m.data.length : Int) == 0) = true := by rw [beq_iff_eq]; omega
    have z0n : (m.data.length == 0) = true := by rw [beq_iff_eq]; exact hz
    clear hz hr8
    go_wp2_with ((go_at_call 49; refine (rname_is HNB.out hnm _).mono ?_; rintro en w4 ⟨rfl, hw4⟩; subst w4))
    go_ret
    exact chk_mk HE.out hB
  have z0 : ((m.data.length : Int) == 0) = false := by rw [beq_eq_false_iff_ne]; omega
  have z0n : (m.data.length == 0) = false := by rw [beq_eq_false_iff_ne]; exact hz
  by_cases hz8 : r8 = 0
  case neg =>
    have HE := Lib.hid (show chkE m ms = 59 by unfold chkE; rw [if_pos HNE.out, if_neg HR.out, if_pos ⟨HK0.out, .inr (by rw [HR8.out]; exact hz8)⟩])
    have z1 : ((r8 : Int) != 0) = true := by rw [bne_iff_ne]; omega
    have z1n : (r8 != 0) = true := by rw [bne_iff_ne]; exact hz8
    clear hz hr8 hz8
    go_wp2_with ((go_at_call 49; refine (rname_is HNB.out hnm _).mono ?_; rintro en w4 ⟨rfl, hw4⟩; subst w4))
    go_ret
    exact chk_mk HE.out hB
  have z1 : ((r8 : Int) != 0) = false := by rw [bne_eq_false_iff_eq]; omega
  have z1n : (r8 != 0) = false := by rw [bne_eq_false_iff_eq]; exact hz8
  have HNA := Lib.hid (show ¬ (m.kind = 1 ∧ (m.data.length = 0 ∨ m.data.length % 8 ≠ 0)) from fun h => by rcases h.2 with h | h <;> omega)
  clear hz hr8 hz8
  by_cases he : m.entry < 0 ∨ (q8 : Int) ≤ m.entry
  · have HE := Lib.hid (show chkE m ms = 6 by unfold chkE; rw [if_pos HNE.out, if_neg HR.out, if_neg HNA.out, if_pos (by rw [HEN.out]; exact he)])
    rcases Int.lt_or_le m.entry 0 with h0 | h0
    · have y0 : decide (m.entry < 0) = true := decide_eq_true h0
      clear he h0
      go_wp2_with ((go_at_call 49; refine (rname_is HNB.out hnm _).mono ?_; rintro en w4 ⟨rfl, hw4⟩; subst w4))
      go_ret
      exact chk_mk HE.out hB
    · have y0 : decide (m.entry < 0) = false := decide_eq_false (by omega)
      have y1 : decide ((q8 : Int) ≤ m.entry) = true := decide_eq_true (by omega)
      clear he h0
      go_wp2_with ((go_at_call 49; refine (rname_is HNB.out hnm _).mono ?_; rintro en w4 ⟨rfl, hw4⟩; subst w4))
      go_ret
      exact chk_mk HE.out hB
  have y0 : decide (m.entry < 0) = false := decide_eq_false (by omega)
  have y1 : decide ((q8 : Int) ≤ m.entry) = false := decide_eq_false (by omega)
  have HCH := Lib.hid (show (fndB ms m.name m.width = true → chkE m ms = 56) ∧ (fndB ms m.name m.width = false → chkE m ms = 0) from ⟨fun h => by unfold chkE; rw [if_pos HNE.out, if_neg HR.out, if_neg HNA.out, if_neg (by rw [HEN.out]; exact he), if_pos h], fun h => by unfold chkE; rw [if_pos HNE.out, if_neg HR.out, if_neg HNA.out, if_neg (by rw [HEN.out]; exact he), if_neg (by rw [h]; simp)]⟩)
  clear he
  go_upto_region 12 with (go_at_call 49; refine (rname_is HNB.out hnm _).mono ?_; rintro en w4 ⟨rfl, hw4⟩; subst w4)
  clear k1 k3 k3n kl kh w32 w39 w0
  go_loopw [7] (fun i wr => ∃ j : Nat, j ≤ ms.length ∧ i = .int .i64 j ∧ Below w0'.heap.size w0' wr ∧ ∀ i (hi : i < ms.length), i < j → mdIs m.name m.width ms[i] = false) (fun i _ => ms.length - (intOf i).toNat)
  case atStart => exact ⟨0, by omega, rfl, Below.refl _ _, fun i hi h => by omega⟩
  case round =>
    obtain ⟨j, hj, rfl, hbr, hall⟩ := hrel
    have HAL := Lib.hid hall
    clear hall
    rcases Nat.lt_or_ge j ms.length with hjl | hjl
    · have d1 : decide (j < ms.length) = true := decide_eq_true hjl
      have hji : (j : Int) < ms.length := by omega
      have hj0 : (0 : Int) ≤ (j : Int) := by omega
      obtain ⟨b0, o0, rfl, -⟩ := hM.2 (by omega)
      obtain ⟨Dj, dcj, q0, -, q2, -, -, -, -⟩ := hM.cell j hjl
      obtain ⟨x, hx⟩ : ∃ x, ms[j] = x := ⟨_, rfl⟩
      rw [hx] at q0 q2
      have HX := Lib.hid hx
      clear hx
      have HK := Lib.hid (fun (w : World) (hb : Below wr.heap.size wr w) => (show w.cell? ⟨b0, o0 + j * 5, none⟩ = some (.string (sv x.name)) ∧ w.cell? ⟨b0, o0 + j * 5 + 2, none⟩ = some (.int .i64 x.width) ∧ w.cell? ⟨g0, 0, none⟩ = some (.string (sv m.name)) ∧ w.cell? ⟨g0, 2, none⟩ = some (.int .i64 m.width) from
        ⟨(((hBB.trans (hbr.mono hBB.size)).trans (hb.mono (hBB.trans (hbr.mono hBB.size)).size)).cell (p := ⟨b0, o0 + j * 5, none⟩) (block_lt_of_cell q0)).trans q0, (((hBB.trans (hbr.mono hBB.size)).trans (hb.mono (hBB.trans (hbr.mono hBB.size)).size)).cell (p := ⟨b0, o0 + j * 5 + 2, none⟩) (block_lt_of_cell q2)).trans q2, (((hbr.trans (hb.mono hbr.size))).cell (p := ⟨g0, 0, none⟩) rm.lt).trans (rm.cell 0), (((hbr.trans (hb.mono hbr.size))).cell (p := ⟨g0, 2, none⟩) rm.lt).trans (rm.cell 2)⟩))
      go_upto_region 14 with (fail)
      by_cases hn : x.name = m.name
      · have hnb : (x.name == m.name) = true := by simpa using hn
        have hs1 : (sv x.name).toList = (sv m.name).toList := by rw [sv_list, sv_list, hn]
        by_cases hw : x.width = m.width
        · have HE := Lib.hid (HCH.out.1 (dup_at hjl (by rw [HX.out]; unfold mdIs; rw [hnb, hw]; simp)))
          have hwb : (x.width == m.width) = true := by simpa using hw
          clear hn hw
          refine wp_region_told (n := 116) (fun w9 => Below wr.heap.size wr w9) (fun _ _ => True) (by kernel_rfl) (by kernel_rfl) (by rfl) (Below.refl _ _).drew ?_
          refine walk_pure (v := ?_) (fun w => trivial) (fun _ => rfl) ?_ ?_; rotate_left; (focus (intro us w9 hS9 hF; clear hF; obtain ⟨h1, h2, h3, h4⟩ := HK.out w9 hS9; clear hS9; go_simp; (try with_reducible rfl); done)); simp only [Act.put, List.setIfInBounds_toArray, List.set_cons_zero, List.set_cons_succ, Nat.reduceAdd]
          refine walk_pure (v := ?_) (fun w => trivial) (fun _ => rfl) ?_ ?_; rotate_left; (focus (intro us w9 hS9 hF; clear hF; obtain ⟨h1, h2, h3, h4⟩ := HK.out w9 hS9; clear hS9; go_simp; (try with_reducible rfl); done)); simp only [Act.put, List.setIfInBounds_toArray, List.set_cons_zero, List.set_cons_succ, Nat.reduceAdd]
          refine walk_pure (v := ?_) (fun w => trivial) (fun _ => rfl) ?_ ?_; rotate_left; (focus (intro us w9 hS9 hF; clear hF; obtain ⟨h1, h2, h3, h4⟩ := HK.out w9 hS9; clear hS9; go_simp; (try with_reducible rfl); done)); simp only [Act.put, List.setIfInBounds_toArray, List.set_cons_zero, List.set_cons_succ, Nat.reduceAdd]
          refine walk_pure (v := ?_) (fun w => trivial) (fun _ => rfl) ?_ ?_; rotate_left; (focus (intro us w9 hS9 hF; clear hF; obtain ⟨h1, h2, h3, h4⟩ := HK.out w9 hS9; clear hS9; go_simp; (try with_reducible rfl); done)); simp only [Act.put, List.setIfInBounds_toArray, List.set_cons_zero, List.set_cons_succ, Nat.reduceAdd]
          refine walk_pure (v := ?_) (fun w => trivial) (fun _ => rfl) ?_ ?_; rotate_left; (focus (intro us w9 hS9 hF; clear hF; obtain ⟨h1, h2, h3, h4⟩ := HK.out w9 hS9; clear hS9; go_simp; (try with_reducible rfl); done)); simp only [Act.put, List.setIfInBounds_toArray, List.set_cons_zero, List.set_cons_succ, Nat.reduceAdd]
          refine walk_pure (v := ?_) (fun w => trivial) (fun _ => rfl) ?_ ?_; rotate_left; (focus (intro us w9 hS9 hF; clear hF; obtain ⟨h1, h2, h3, h4⟩ := HK.out w9 hS9; clear hS9; go_simp; (try with_reducible rfl); done)); simp only [Act.put, List.setIfInBounds_toArray, List.set_cons_zero, List.set_cons_succ, Nat.reduceAdd]
          refine walk_pure (v := ?_) (fun w => trivial) (fun _ => rfl) ?_ ?_; rotate_left; (focus (intro us w9 hS9 hF; clear hF; obtain ⟨h1, h2, h3, h4⟩ := HK.out w9 hS9; clear hS9; go_simp; (try with_reducible rfl); done)); simp only [Act.put, List.setIfInBounds_toArray, List.set_cons_zero, List.set_cons_succ, Nat.reduceAdd]
          refine walk_pure (v := .bool true) (fun w => trivial) (fun _ => rfl) ?_ ?_; (focus (intro us w9 hS9 hF; clear hF; obtain ⟨h1, h2, h3, h4⟩ := HK.out w9 hS9; clear hS9; go_simp; (try with_reducible rfl); done)); simp only [Act.put, List.setIfInBounds_toArray, List.set_cons_zero, List.set_cons_succ, Nat.reduceAdd]
          refine walk_pure (v := .bool true) (fun w => trivial) (fun _ => rfl) ?_ ?_; (focus (intro us w9 hS9 hF; clear hF; obtain ⟨h1, h2, h3, h4⟩ := HK.out w9 hS9; clear hS9; go_simp; (try with_reducible rfl); done)); simp only [Act.put, List.setIfInBounds_toArray, List.set_cons_zero, List.set_cons_succ, Nat.reduceAdd]
          refine walk_pure (v := ?_) (fun w => trivial) (fun _ => rfl) ?_ ?_; rotate_left; (focus (intro us w9 hS9 hF; clear hF; obtain ⟨h1, h2, h3, h4⟩ := HK.out w9 hS9; clear hS9; go_simp; (try with_reducible rfl); done)); simp only [Act.put, List.setIfInBounds_toArray, List.set_cons_zero, List.set_cons_succ, Nat.reduceAdd]
          refine walk_pure (v := ?_) (fun w => trivial) (fun _ => rfl) ?_ ?_; rotate_left; (focus (intro us w9 hS9 hF; clear hF; obtain ⟨h1, h2, h3, h4⟩ := HK.out w9 hS9; clear hS9; go_simp; (try with_reducible rfl); done)); simp only [Act.put, List.setIfInBounds_toArray, List.set_cons_zero, List.set_cons_succ, Nat.reduceAdd]
          refine walk_pure (v := ?_) (fun w => trivial) (fun _ => rfl) ?_ ?_; rotate_left; (focus (intro us w9 hS9 hF; clear hF; obtain ⟨h1, h2, h3, h4⟩ := HK.out w9 hS9; clear hS9; go_simp; (try with_reducible rfl); done)); simp only [Act.put, List.setIfInBounds_toArray, List.set_cons_zero, List.set_cons_succ, Nat.reduceAdd]
          refine walk_pure (v := ?_) (fun w => trivial) (fun _ => rfl) ?_ ?_; rotate_left; (focus (intro us w9 hS9 hF; clear hF; obtain ⟨h1, h2, h3, h4⟩ := HK.out w9 hS9; clear hS9; go_simp; (try with_reducible rfl); done)); simp only [Act.put, List.setIfInBounds_toArray, List.set_cons_zero, List.set_cons_succ, Nat.reduceAdd]
          refine walk_pure (v := ?_) (fun w => trivial) (fun _ => rfl) ?_ ?_; rotate_left; (focus (intro us w9 hS9 hF; clear hF; obtain ⟨h1, h2, h3, h4⟩ := HK.out w9 hS9; clear hS9; go_simp; (try with_reducible rfl); done)); simp only [Act.put, List.setIfInBounds_toArray, List.set_cons_zero, List.set_cons_succ, Nat.reduceAdd]
          refine walk_pure (v := ?_) (fun w => trivial) (fun _ => rfl) ?_ ?_; rotate_left; (focus (intro us w9 hS9 hF; clear hF; obtain ⟨h1, h2, h3, h4⟩ := HK.out w9 hS9; clear hS9; go_simp; (try with_reducible rfl); done)); simp only [Act.put, List.setIfInBounds_toArray, List.set_cons_zero, List.set_cons_succ, Nat.reduceAdd]
          refine walk_pure (v := ?_) (fun w => trivial) (fun _ => rfl) ?_ ?_; rotate_left; (focus (intro us w9 hS9 hF; clear hF; obtain ⟨h1, h2, h3, h4⟩ := HK.out w9 hS9; clear hS9; go_simp; (try with_reducible rfl); done)); simp only [Act.put, List.setIfInBounds_toArray, List.set_cons_zero, List.set_cons_succ, Nat.reduceAdd]
          refine walk_pure (v := .bool true) (fun w => trivial) (fun _ => rfl) ?_ ?_; (focus (intro us w9 hS9 hF; clear hF; obtain ⟨h1, h2, h3, h4⟩ := HK.out w9 hS9; clear hS9; go_simp; (try with_reducible rfl); done)); simp only [Act.put, List.setIfInBounds_toArray, List.set_cons_zero, List.set_cons_succ, Nat.reduceAdd]
          refine walk_pure (v := .bool true) (fun w => trivial) (fun _ => rfl) ?_ ?_; (focus (intro us w9 hS9 hF; clear hF; obtain ⟨h1, h2, h3, h4⟩ := HK.out w9 hS9; clear hS9; go_simp; (try with_reducible rfl); done)); simp only [Act.put, List.setIfInBounds_toArray, List.set_cons_zero, List.set_cons_succ, Nat.reduceAdd]
          refine walk_done fun us w9 hS9 hF => ?_
          clear hF
          have hB9 := hB.trans ((hbr.trans (hS9.mono hbr.size)).mono hB.size)
          go_wp2
          go_ret
          exact chk_mk HE.out hB9
        · have hwb : (x.width == m.width) = false := by simpa using hw
          have HNF := Lib.hid (show mdIs m.name m.width ms[j] = false by rw [HX.out]; unfold mdIs; rw [hwb]; simp)
          clear hn hw
          refine wp_region_told (n := 116) (fun w9 => Below wr.heap.size wr w9) (fun _ _ => True) (by kernel_rfl) (by kernel_rfl) (by rfl) (Below.refl _ _).drew ?_
          refine walk_pure (v := ?_) (fun w => trivial) (fun _ => rfl) ?_ ?_; rotate_left; (focus (intro us w9 hS9 hF; clear hF; obtain ⟨h1, h2, h3, h4⟩ := HK.out w9 hS9; clear hS9; go_simp; (try with_reducible rfl); done)); simp only [Act.put, List.setIfInBounds_toArray, List.set_cons_zero, List.set_cons_succ, Nat.reduceAdd]
          refine walk_pure (v := ?_) (fun w => trivial) (fun _ => rfl) ?_ ?_; rotate_left; (focus (intro us w9 hS9 hF; clear hF; obtain ⟨h1, h2, h3, h4⟩ := HK.out w9 hS9; clear hS9; go_simp; (try with_reducible rfl); done)); simp only [Act.put, List.setIfInBounds_toArray, List.set_cons_zero, List.set_cons_succ, Nat.reduceAdd]
          refine walk_pure (v := ?_) (fun w => trivial) (fun _ => rfl) ?_ ?_; rotate_left; (focus (intro us w9 hS9 hF; clear hF; obtain ⟨h1, h2, h3, h4⟩ := HK.out w9 hS9; clear hS9; go_simp; (try with_reducible rfl); done)); simp only [Act.put, List.setIfInBounds_toArray, List.set_cons_zero, List.set_cons_succ, Nat.reduceAdd]
          refine walk_pure (v := ?_) (fun w => trivial) (fun _ => rfl) ?_ ?_; rotate_left; (focus (intro us w9 hS9 hF; clear hF; obtain ⟨h1, h2, h3, h4⟩ := HK.out w9 hS9; clear hS9; go_simp; (try with_reducible rfl); done)); simp only [Act.put, List.setIfInBounds_toArray, List.set_cons_zero, List.set_cons_succ, Nat.reduceAdd]
          refine walk_pure (v := ?_) (fun w => trivial) (fun _ => rfl) ?_ ?_; rotate_left; (focus (intro us w9 hS9 hF; clear hF; obtain ⟨h1, h2, h3, h4⟩ := HK.out w9 hS9; clear hS9; go_simp; (try with_reducible rfl); done)); simp only [Act.put, List.setIfInBounds_toArray, List.set_cons_zero, List.set_cons_succ, Nat.reduceAdd]
          refine walk_pure (v := ?_) (fun w => trivial) (fun _ => rfl) ?_ ?_; rotate_left; (focus (intro us w9 hS9 hF; clear hF; obtain ⟨h1, h2, h3, h4⟩ := HK.out w9 hS9; clear hS9; go_simp; (try with_reducible rfl); done)); simp only [Act.put, List.setIfInBounds_toArray, List.set_cons_zero, List.set_cons_succ, Nat.reduceAdd]
          refine walk_pure (v := ?_) (fun w => trivial) (fun _ => rfl) ?_ ?_; rotate_left; (focus (intro us w9 hS9 hF; clear hF; obtain ⟨h1, h2, h3, h4⟩ := HK.out w9 hS9; clear hS9; go_simp; (try with_reducible rfl); done)); simp only [Act.put, List.setIfInBounds_toArray, List.set_cons_zero, List.set_cons_succ, Nat.reduceAdd]
          refine walk_pure (v := .bool true) (fun w => trivial) (fun _ => rfl) ?_ ?_; (focus (intro us w9 hS9 hF; clear hF; obtain ⟨h1, h2, h3, h4⟩ := HK.out w9 hS9; clear hS9; go_simp; (try with_reducible rfl); done)); simp only [Act.put, List.setIfInBounds_toArray, List.set_cons_zero, List.set_cons_succ, Nat.reduceAdd]
          refine walk_pure (v := .bool true) (fun w => trivial) (fun _ => rfl) ?_ ?_; (focus (intro us w9 hS9 hF; clear hF; obtain ⟨h1, h2, h3, h4⟩ := HK.out w9 hS9; clear hS9; go_simp; (try with_reducible rfl); done)); simp only [Act.put, List.setIfInBounds_toArray, List.set_cons_zero, List.set_cons_succ, Nat.reduceAdd]
          refine walk_pure (v := ?_) (fun w => trivial) (fun _ => rfl) ?_ ?_; rotate_left; (focus (intro us w9 hS9 hF; clear hF; obtain ⟨h1, h2, h3, h4⟩ := HK.out w9 hS9; clear hS9; go_simp; (try with_reducible rfl); done)); simp only [Act.put, List.setIfInBounds_toArray, List.set_cons_zero, List.set_cons_succ, Nat.reduceAdd]
          refine walk_pure (v := ?_) (fun w => trivial) (fun _ => rfl) ?_ ?_; rotate_left; (focus (intro us w9 hS9 hF; clear hF; obtain ⟨h1, h2, h3, h4⟩ := HK.out w9 hS9; clear hS9; go_simp; (try with_reducible rfl); done)); simp only [Act.put, List.setIfInBounds_toArray, List.set_cons_zero, List.set_cons_succ, Nat.reduceAdd]
          refine walk_pure (v := ?_) (fun w => trivial) (fun _ => rfl) ?_ ?_; rotate_left; (focus (intro us w9 hS9 hF; clear hF; obtain ⟨h1, h2, h3, h4⟩ := HK.out w9 hS9; clear hS9; go_simp; (try with_reducible rfl); done)); simp only [Act.put, List.setIfInBounds_toArray, List.set_cons_zero, List.set_cons_succ, Nat.reduceAdd]
          refine walk_pure (v := ?_) (fun w => trivial) (fun _ => rfl) ?_ ?_; rotate_left; (focus (intro us w9 hS9 hF; clear hF; obtain ⟨h1, h2, h3, h4⟩ := HK.out w9 hS9; clear hS9; go_simp; (try with_reducible rfl); done)); simp only [Act.put, List.setIfInBounds_toArray, List.set_cons_zero, List.set_cons_succ, Nat.reduceAdd]
          refine walk_pure (v := ?_) (fun w => trivial) (fun _ => rfl) ?_ ?_; rotate_left; (focus (intro us w9 hS9 hF; clear hF; obtain ⟨h1, h2, h3, h4⟩ := HK.out w9 hS9; clear hS9; go_simp; (try with_reducible rfl); done)); simp only [Act.put, List.setIfInBounds_toArray, List.set_cons_zero, List.set_cons_succ, Nat.reduceAdd]
          refine walk_pure (v := ?_) (fun w => trivial) (fun _ => rfl) ?_ ?_; rotate_left; (focus (intro us w9 hS9 hF; clear hF; obtain ⟨h1, h2, h3, h4⟩ := HK.out w9 hS9; clear hS9; go_simp; (try with_reducible rfl); done)); simp only [Act.put, List.setIfInBounds_toArray, List.set_cons_zero, List.set_cons_succ, Nat.reduceAdd]
          refine walk_pure (v := ?_) (fun w => trivial) (fun _ => rfl) ?_ ?_; rotate_left; (focus (intro us w9 hS9 hF; clear hF; obtain ⟨h1, h2, h3, h4⟩ := HK.out w9 hS9; clear hS9; go_simp; (try with_reducible rfl); done)); simp only [Act.put, List.setIfInBounds_toArray, List.set_cons_zero, List.set_cons_succ, Nat.reduceAdd]
          refine walk_pure (v := .bool false) (fun w => trivial) (fun _ => rfl) ?_ ?_; (focus (intro us w9 hS9 hF; clear hF; obtain ⟨h1, h2, h3, h4⟩ := HK.out w9 hS9; clear hS9; go_simp; (try with_reducible rfl); done)); simp only [Act.put, List.setIfInBounds_toArray, List.set_cons_zero, List.set_cons_succ, Nat.reduceAdd]
          refine walk_pure (v := .bool false) (fun w => trivial) (fun _ => rfl) ?_ ?_; (focus (intro us w9 hS9 hF; clear hF; obtain ⟨h1, h2, h3, h4⟩ := HK.out w9 hS9; clear hS9; go_simp; (try with_reducible rfl); done)); simp only [Act.put, List.setIfInBounds_toArray, List.set_cons_zero, List.set_cons_succ, Nat.reduceAdd]
          refine walk_done fun us w9 hS9 hF => ?_
          clear hF
          have hb9 := hbr.trans (hS9.mono hbr.size)
          go_wp2
          exact ⟨⟨j + 1, by omega, by go_num, hb9, fun i hi h => by rcases Nat.lt_or_ge i j with h9 | h9; exact HAL.out i hi h9; obtain rfl : i = j := (by omega); exact HNF.out⟩, by simp [intOf]; omega⟩
      · have hnb : (x.name == m.name) = false := by simpa using hn
        have hs1 : ((sv x.name).toList = (sv m.name).toList) = False := by rw [sv_list, sv_list]; exact eq_false hn
        have HNF := Lib.hid (show mdIs m.name m.width ms[j] = false by rw [HX.out]; unfold mdIs; rw [hnb]; rfl)
        clear hn
        refine wp_region_told (n := 116) (fun w9 => Below wr.heap.size wr w9) (fun _ _ => True) (by kernel_rfl) (by kernel_rfl) (by rfl) (Below.refl _ _).drew ?_
        refine walk_pure (v := ?_) (fun w => trivial) (fun _ => rfl) ?_ ?_; rotate_left; (focus (intro us w9 hS9 hF; clear hF; obtain ⟨h1, h2, h3, h4⟩ := HK.out w9 hS9; clear hS9; go_simp; (try with_reducible rfl); done)); simp only [Act.put, List.setIfInBounds_toArray, List.set_cons_zero, List.set_cons_succ, Nat.reduceAdd]
        refine walk_pure (v := ?_) (fun w => trivial) (fun _ => rfl) ?_ ?_; rotate_left; (focus (intro us w9 hS9 hF; clear hF; obtain ⟨h1, h2, h3, h4⟩ := HK.out w9 hS9; clear hS9; go_simp; (try with_reducible rfl); done)); simp only [Act.put, List.setIfInBounds_toArray, List.set_cons_zero, List.set_cons_succ, Nat.reduceAdd]
        refine walk_pure (v := ?_) (fun w => trivial) (fun _ => rfl) ?_ ?_; rotate_left; (focus (intro us w9 hS9 hF; clear hF; obtain ⟨h1, h2, h3, h4⟩ := HK.out w9 hS9; clear hS9; go_simp; (try with_reducible rfl); done)); simp only [Act.put, List.setIfInBounds_toArray, List.set_cons_zero, List.set_cons_succ, Nat.reduceAdd]
        refine walk_pure (v := ?_) (fun w => trivial) (fun _ => rfl) ?_ ?_; rotate_left; (focus (intro us w9 hS9 hF; clear hF; obtain ⟨h1, h2, h3, h4⟩ := HK.out w9 hS9; clear hS9; go_simp; (try with_reducible rfl); done)); simp only [Act.put, List.setIfInBounds_toArray, List.set_cons_zero, List.set_cons_succ, Nat.reduceAdd]
        refine walk_pure (v := ?_) (fun w => trivial) (fun _ => rfl) ?_ ?_; rotate_left; (focus (intro us w9 hS9 hF; clear hF; obtain ⟨h1, h2, h3, h4⟩ := HK.out w9 hS9; clear hS9; go_simp; (try with_reducible rfl); done)); simp only [Act.put, List.setIfInBounds_toArray, List.set_cons_zero, List.set_cons_succ, Nat.reduceAdd]
        refine walk_pure (v := ?_) (fun w => trivial) (fun _ => rfl) ?_ ?_; rotate_left; (focus (intro us w9 hS9 hF; clear hF; obtain ⟨h1, h2, h3, h4⟩ := HK.out w9 hS9; clear hS9; go_simp; (try with_reducible rfl); done)); simp only [Act.put, List.setIfInBounds_toArray, List.set_cons_zero, List.set_cons_succ, Nat.reduceAdd]
        refine walk_pure (v := ?_) (fun w => trivial) (fun _ => rfl) ?_ ?_; rotate_left; (focus (intro us w9 hS9 hF; clear hF; obtain ⟨h1, h2, h3, h4⟩ := HK.out w9 hS9; clear hS9; go_simp; (try with_reducible rfl); done)); simp only [Act.put, List.setIfInBounds_toArray, List.set_cons_zero, List.set_cons_succ, Nat.reduceAdd]
        refine walk_pure (v := .bool false) (fun w => trivial) (fun _ => rfl) ?_ ?_; (focus (intro us w9 hS9 hF; clear hF; obtain ⟨h1, h2, h3, h4⟩ := HK.out w9 hS9; clear hS9; go_simp; (try with_reducible rfl); done)); simp only [Act.put, List.setIfInBounds_toArray, List.set_cons_zero, List.set_cons_succ, Nat.reduceAdd]
        refine walk_pure (v := .bool false) (fun w => trivial) (fun _ => rfl) ?_ ?_; (focus (intro us w9 hS9 hF; clear hF; obtain ⟨h1, h2, h3, h4⟩ := HK.out w9 hS9; clear hS9; go_simp; (try with_reducible rfl); done)); simp only [Act.put, List.setIfInBounds_toArray, List.set_cons_zero, List.set_cons_succ, Nat.reduceAdd]
        refine walk_skip (fun w => trivial) (fun _ => rfl) ?_; simp only [Act.put, List.setIfInBounds_toArray, List.set_cons_zero, List.set_cons_succ, Nat.reduceAdd]
        refine walk_skip (fun w => trivial) (fun _ => rfl) ?_; simp only [Act.put, List.setIfInBounds_toArray, List.set_cons_zero, List.set_cons_succ, Nat.reduceAdd]
        refine walk_skip (fun w => trivial) (fun _ => rfl) ?_; simp only [Act.put, List.setIfInBounds_toArray, List.set_cons_zero, List.set_cons_succ, Nat.reduceAdd]
        refine walk_skip (fun w => trivial) (fun _ => rfl) ?_; simp only [Act.put, List.setIfInBounds_toArray, List.set_cons_zero, List.set_cons_succ, Nat.reduceAdd]
        refine walk_skip (fun w => trivial) (fun _ => rfl) ?_; simp only [Act.put, List.setIfInBounds_toArray, List.set_cons_zero, List.set_cons_succ, Nat.reduceAdd]
        refine walk_skip (fun w => trivial) (fun _ => rfl) ?_; simp only [Act.put, List.setIfInBounds_toArray, List.set_cons_zero, List.set_cons_succ, Nat.reduceAdd]
        refine walk_skip (fun w => trivial) (fun _ => rfl) ?_; simp only [Act.put, List.setIfInBounds_toArray, List.set_cons_zero, List.set_cons_succ, Nat.reduceAdd]
        refine walk_skip (fun w => trivial) (fun _ => rfl) ?_; simp only [Act.put, List.setIfInBounds_toArray, List.set_cons_zero, List.set_cons_succ, Nat.reduceAdd]
        refine walk_pure (v := .bool false) (fun w => trivial) (fun _ => rfl) ?_ ?_; (focus (intro us w9 hS9 hF; clear hF; obtain ⟨h1, h2, h3, h4⟩ := HK.out w9 hS9; clear hS9; go_simp; (try with_reducible rfl); done)); simp only [Act.put, List.setIfInBounds_toArray, List.set_cons_zero, List.set_cons_succ, Nat.reduceAdd]
        refine walk_done fun us w9 hS9 hF => ?_
        clear hF
        have hb9 := hbr.trans (hS9.mono hbr.size)
        go_wp2
        exact ⟨⟨j + 1, by omega, by go_num, hb9, fun i hi h => by rcases Nat.lt_or_ge i j with h9 | h9; exact HAL.out i hi h9; obtain rfl : i = j := (by omega); exact HNF.out⟩, by simp [intOf]; omega⟩
    · obtain rfl : j = ms.length := by omega
      have d1 : decide (ms.length < ms.length) = false := by simp
      have HE := Lib.hid (HCH.out.2 (dup_no fun i hi => HAL.out i hi hi))
      go_wp2
      go_ret
      exact chk_mk HE.out (hB.trans (hbr.mono hB.size))
set_option maxRecDepth 100000 in
set_option maxHeartbeats 8000000 in
theorem rchk_k1w0 (m : Md) (D : Option Addr) (dc : Nat) (ms : List Md) (A : Option Addr) (c : Nat) (W : World) (hM : IsMs W A ms.length ms) (hl : ms.length ≤ 1000000) (hnm : m.name.length ≤ 1000000000) (hdm : m.data.length ≤ 1000000000) (hkd : m.kind = 1) (hwd : m.width = 0) : Calls Tryd.prog 36 #[.agg (mdV m D dc).toArray, .slice A ms.length c] W (ChkP m ms W) := by
  have k1 : (m.kind == 1) = true := by rw [beq_iff_eq]; omega
  have k3 : (m.kind == 3) = false := by rw [beq_eq_false_iff_ne]; omega
  have k3n : (m.kind != 3) = true := by rw [bne_iff_ne]; omega
  have kl : decide (m.kind < 1) = false := decide_eq_false (by omega)
  have kh : decide (3 < m.kind) = false := decide_eq_false (by omega)
  have w32 : (m.width == 32) = false := by rw [beq_eq_false_iff_ne]; omega
  have w39 : (m.width == 39) = false := by rw [beq_eq_false_iff_ne]; omega
  have w0 : (m.width != 0) = false := by rw [bne_eq_false_iff_eq]; omega
  have HK0 := Lib.hid hkd
  have HW0 := Lib.hid hwd
  have rm : Row (W.alloc (.cells (mdV m D dc).toArray 35)) W.heap.size 35 (mdV m D dc).toArray := Row.born W 35 _
  have hBB := (Below.refl W.heap.size W).alloc (Nat.le_refl _) (.cells (mdV m D dc).toArray 35)
  have hB := hBB
  clear hkd hwd
  go_enter Tryd.func36, Tryd.ntmps36
  go_upto_region 1 with (fail)
  obtain ⟨g0, hg0⟩ : ∃ g0, W.heap.size = g0 := ⟨_, rfl⟩
  rw [hg0] at rm
  simp only [hg0]
  obtain ⟨w0', hw0'⟩ : ∃ w0', W.alloc (.cells (mdV m D dc).toArray 35) = w0' := ⟨_, rfl⟩
  rw [hw0'] at rm hB hBB
  rw [hw0']
  clear hw0'
  obtain ⟨c0, c1, c2, c3, c4⟩ := md_cells rm
  obtain ⟨q8, hq8⟩ : ∃ q8, m.data.length / 8 = q8 := ⟨_, rfl⟩
  have hdv := tdiv8 m.data.length
  rw [hq8] at hdv
  have HQ8 := Lib.hid hq8
  have hwq : IntKind.i64.wrap (q8 : Int) = (q8 : Int) := by rw [IntKind.wrap_i64]; omega
  clear hq8
  cases hnb : nameB m.name
  · have HNB := Lib.hid hnb
    have HE := Lib.hid (show chkE m ms = 63 by unfold chkE; rw [hnb]; rfl)
    clear hnb
    go_wp2_with ((go_at_call 49; refine (rname_is HNB.out hnm _).mono ?_; rintro en w4 ⟨rfl, hw4⟩; subst w4))
    go_ret
    exact chk_mk HE.out hB
  have HNB := Lib.hid hnb
  have HE := Lib.hid (show chkE m ms = 6 by unfold chkE; rw [if_pos hnb, if_pos]; have h1 := HK0.out; have h2 := HW0.out; exact .inr (.inr (by unfold badW; simp [h1, h2])))
  clear hnb
  go_wp2_with ((go_at_call 49; refine (rname_is HNB.out hnm _).mono ?_; rintro en w4 ⟨rfl, hw4⟩; subst w4))
  go_ret
  exact chk_mk HE.out hB
set_option maxRecDepth 100000 in
set_option maxHeartbeats 8000000 in
theorem rchk_k1wx (m : Md) (D : Option Addr) (dc : Nat) (ms : List Md) (A : Option Addr) (c : Nat) (W : World) (hM : IsMs W A ms.length ms) (hl : ms.length ≤ 1000000) (hnm : m.name.length ≤ 1000000000) (hdm : m.data.length ≤ 1000000000) (hkd : m.kind = 1) (hwd : (m.width ≠ 32 ∧ m.width ≠ 39 ∧ m.width ≠ 0)) : Calls Tryd.prog 36 #[.agg (mdV m D dc).toArray, .slice A ms.length c] W (ChkP m ms W) := by
  have k1 : (m.kind == 1) = true := by rw [beq_iff_eq]; omega
  have k3 : (m.kind == 3) = false := by rw [beq_eq_false_iff_ne]; omega
  have k3n : (m.kind != 3) = true := by rw [bne_iff_ne]; omega
  have kl : decide (m.kind < 1) = false := decide_eq_false (by omega)
  have kh : decide (3 < m.kind) = false := decide_eq_false (by omega)
  have w32 : (m.width == 32) = false := by rw [beq_eq_false_iff_ne]; omega
  have w39 : (m.width == 39) = false := by rw [beq_eq_false_iff_ne]; omega
  have w0 : (m.width != 0) = true := by rw [bne_iff_ne]; omega
  have HK0 := Lib.hid hkd
  have HW0 := Lib.hid hwd
  have rm : Row (W.alloc (.cells (mdV m D dc).toArray 35)) W.heap.size 35 (mdV m D dc).toArray := Row.born W 35 _
  have hBB := (Below.refl W.heap.size W).alloc (Nat.le_refl _) (.cells (mdV m D dc).toArray 35)
  have hB := hBB
  clear hkd hwd
  go_enter Tryd.func36, Tryd.ntmps36
  go_upto_region 1 with (fail)
  obtain ⟨g0, hg0⟩ : ∃ g0, W.heap.size = g0 := ⟨_, rfl⟩
  rw [hg0] at rm
  simp only [hg0]
  obtain ⟨w0', hw0'⟩ : ∃ w0', W.alloc (.cells (mdV m D dc).toArray 35) = w0' := ⟨_, rfl⟩
  rw [hw0'] at rm hB hBB
  rw [hw0']
  clear hw0'
  obtain ⟨c0, c1, c2, c3, c4⟩ := md_cells rm
  obtain ⟨q8, hq8⟩ : ∃ q8, m.data.length / 8 = q8 := ⟨_, rfl⟩
  have hdv := tdiv8 m.data.length
  rw [hq8] at hdv
  have HQ8 := Lib.hid hq8
  have hwq : IntKind.i64.wrap (q8 : Int) = (q8 : Int) := by rw [IntKind.wrap_i64]; omega
  clear hq8
  cases hnb : nameB m.name
  · have HNB := Lib.hid hnb
    have HE := Lib.hid (show chkE m ms = 63 by unfold chkE; rw [hnb]; rfl)
    clear hnb
    go_wp2_with ((go_at_call 49; refine (rname_is HNB.out hnm _).mono ?_; rintro en w4 ⟨rfl, hw4⟩; subst w4))
    go_ret
    exact chk_mk HE.out hB
  have HNB := Lib.hid hnb
  have HE := Lib.hid (show chkE m ms = 6 by unfold chkE; rw [if_pos hnb, if_pos]; have h1 := HK0.out; have h2 := HW0.out; exact .inr (.inr (by unfold badW; simp [h1, h2])))
  clear hnb
  go_wp2_with ((go_at_call 49; refine (rname_is HNB.out hnm _).mono ?_; rintro en w4 ⟨rfl, hw4⟩; subst w4))
  go_ret
  exact chk_mk HE.out hB
set_option maxRecDepth 100000 in
set_option maxHeartbeats 8000000 in
theorem rchk_k2w32 (m : Md) (D : Option Addr) (dc : Nat) (ms : List Md) (A : Option Addr) (c : Nat) (W : World) (hM : IsMs W A ms.length ms) (hl : ms.length ≤ 1000000) (hnm : m.name.length ≤ 1000000000) (hdm : m.data.length ≤ 1000000000) (hkd : m.kind = 2) (hwd : m.width = 32) : Calls Tryd.prog 36 #[.agg (mdV m D dc).toArray, .slice A ms.length c] W (ChkP m ms W) := by
  have k1 : (m.kind == 1) = false := by rw [beq_eq_false_iff_ne]; omega
  have k3 : (m.kind == 3) = false := by rw [beq_eq_false_iff_ne]; omega
  have k3n : (m.kind != 3) = true := by rw [bne_iff_ne]; omega
  have kl : decide (m.kind < 1) = false := decide_eq_false (by omega)
  have kh : decide (3 < m.kind) = false := decide_eq_false (by omega)
  have w32 : (m.width == 32) = true := by rw [beq_iff_eq]; omega
  have w39 : (m.width == 39) = false := by rw [beq_eq_false_iff_ne]; omega
  have w0 : (m.width != 0) = true := by rw [bne_iff_ne]; omega
  have HK0 := Lib.hid hkd
  have HW0 := Lib.hid hwd
  have rm : Row (W.alloc (.cells (mdV m D dc).toArray 35)) W.heap.size 35 (mdV m D dc).toArray := Row.born W 35 _
  have hBB := (Below.refl W.heap.size W).alloc (Nat.le_refl _) (.cells (mdV m D dc).toArray 35)
  have hB := hBB
  clear hkd hwd
  go_enter Tryd.func36, Tryd.ntmps36
  go_upto_region 1 with (fail)
  obtain ⟨g0, hg0⟩ : ∃ g0, W.heap.size = g0 := ⟨_, rfl⟩
  rw [hg0] at rm
  simp only [hg0]
  obtain ⟨w0', hw0'⟩ : ∃ w0', W.alloc (.cells (mdV m D dc).toArray 35) = w0' := ⟨_, rfl⟩
  rw [hw0'] at rm hB hBB
  rw [hw0']
  clear hw0'
  obtain ⟨c0, c1, c2, c3, c4⟩ := md_cells rm
  cases hnb : nameB m.name
  · have HNB := Lib.hid hnb
    have HE := Lib.hid (show chkE m ms = 63 by unfold chkE; rw [hnb]; rfl)
    clear hnb
    go_wp2_with ((go_at_call 49; refine (rname_is HNB.out hnm _).mono ?_; rintro en w4 ⟨rfl, hw4⟩; subst w4))
    go_ret
    exact chk_mk HE.out hB
  have HNB := Lib.hid hnb
  have HR := Lib.hid (show ¬ (m.kind < 1 ∨ 3 < m.kind ∨ badW m = true) by have h1 := HK0.out; have h2 := HW0.out; unfold badW; simp [h1, h2])
  have HEN := Lib.hid (show entN m = 1 by unfold entN; rw [if_neg (by have := HK0.out; omega)])
  have HNE := Lib.hid hnb
  clear hnb
  have HNA := Lib.hid (show ¬ (m.kind = 1 ∧ (m.data.length = 0 ∨ m.data.length % 8 ≠ 0)) from fun h => by have := h.1; have := HK0.out; omega)
  by_cases he : m.entry < 0 ∨ 1 ≤ m.entry
  · have HE := Lib.hid (show chkE m ms = 6 by unfold chkE; rw [if_pos HNE.out, if_neg HR.out, if_neg HNA.out, if_pos (by rw [HEN.out]; exact he)])
    have y0 : (m.entry != 0) = true := by rw [bne_iff_ne]; omega
    clear he
    go_wp2_with ((go_at_call 49; refine (rname_is HNB.out hnm _).mono ?_; rintro en w4 ⟨rfl, hw4⟩; subst w4))
    go_ret
    exact chk_mk HE.out hB
  have y0 : (m.entry != 0) = false := by rw [bne_eq_false_iff_eq]; omega
  have HCH := Lib.hid (show (fndB ms m.name m.width = true → chkE m ms = 56) ∧ (fndB ms m.name m.width = false → chkE m ms = 0) from ⟨fun h => by unfold chkE; rw [if_pos HNE.out, if_neg HR.out, if_neg HNA.out, if_neg (by rw [HEN.out]; exact he), if_pos h], fun h => by unfold chkE; rw [if_pos HNE.out, if_neg HR.out, if_neg HNA.out, if_neg (by rw [HEN.out]; exact he), if_neg (by rw [h]; simp)]⟩)
  clear he
  go_upto_region 12 with (go_at_call 49; refine (rname_is HNB.out hnm _).mono ?_; rintro en w4 ⟨rfl, hw4⟩; subst w4)
  clear k1 k3 k3n kl kh w32 w39 w0
  go_loopw [7] (fun i wr => ∃ j : Nat, j ≤ ms.length ∧ i = .int .i64 j ∧ Below w0'.heap.size w0' wr ∧ ∀ i (hi : i < ms.length), i < j → mdIs m.name m.width ms[i] = false) (fun i _ => ms.length - (intOf i).toNat)
  case atStart => exact ⟨0, by omega, rfl, Below.refl _ _, fun i hi h => by omega⟩
  case round =>
    obtain ⟨j, hj, rfl, hbr, hall⟩ := hrel
    have HAL := Lib.hid hall
    clear hall
    rcases Nat.lt_or_ge j ms.length with hjl | hjl
    · have d1 : decide (j < ms.length) = true := decide_eq_true hjl
      have hji : (j : Int) < ms.length := by omega
      have hj0 : (0 : Int) ≤ (j : Int) := by omega
      obtain ⟨b0, o0, rfl, -⟩ := hM.2 (by omega)
      obtain ⟨Dj, dcj, q0, -, q2, -, -, -, -⟩ := hM.cell j hjl
      obtain ⟨x, hx⟩ : ∃ x, ms[j] = x := ⟨_, rfl⟩
      rw [hx] at q0 q2
      have HX := Lib.hid hx
      clear hx
      have HK := Lib.hid (fun (w : World) (hb : Below wr.heap.size wr w) => (show w.cell? ⟨b0, o0 + j * 5, none⟩ = some (.string (sv x.name)) ∧ w.cell? ⟨b0, o0 + j * 5 + 2, none⟩ = some (.int .i64 x.width) ∧ w.cell? ⟨g0, 0, none⟩ = some (.string (sv m.name)) ∧ w.cell? ⟨g0, 2, none⟩ = some (.int .i64 m.width) from
        ⟨(((hBB.trans (hbr.mono hBB.size)).trans (hb.mono (hBB.trans (hbr.mono hBB.size)).size)).cell (p := ⟨b0, o0 + j * 5, none⟩) (block_lt_of_cell q0)).trans q0, (((hBB.trans (hbr.mono hBB.size)).trans (hb.mono (hBB.trans (hbr.mono hBB.size)).size)).cell (p := ⟨b0, o0 + j * 5 + 2, none⟩) (block_lt_of_cell q2)).trans q2, (((hbr.trans (hb.mono hbr.size))).cell (p := ⟨g0, 0, none⟩) rm.lt).trans (rm.cell 0), (((hbr.trans (hb.mono hbr.size))).cell (p := ⟨g0, 2, none⟩) rm.lt).trans (rm.cell 2)⟩))
      go_upto_region 14 with (fail)
      by_cases hn : x.name = m.name
      · have hnb : (x.name == m.name) = true := by simpa using hn
        have hs1 : (sv x.name).toList = (sv m.name).toList := by rw [sv_list, sv_list, hn]
        by_cases hw : x.width = m.width
        · have HE := Lib.hid (HCH.out.1 (dup_at hjl (by rw [HX.out]; unfold mdIs; rw [hnb, hw]; simp)))
          have hwb : (x.width == m.width) = true := by simpa using hw
          clear hn hw
          refine wp_region_told (n := 116) (fun w9 => Below wr.heap.size wr w9) (fun _ _ => True) (by kernel_rfl) (by kernel_rfl) (by rfl) (Below.refl _ _).drew ?_
          refine walk_pure (v := ?_) (fun w => trivial) (fun _ => rfl) ?_ ?_; rotate_left; (focus (intro us w9 hS9 hF; clear hF; obtain ⟨h1, h2, h3, h4⟩ := HK.out w9 hS9; clear hS9; go_simp; (try with_reducible rfl); done)); simp only [Act.put, List.setIfInBounds_toArray, List.set_cons_zero, List.set_cons_succ, Nat.reduceAdd]
          refine walk_pure (v := ?_) (fun w => trivial) (fun _ => rfl) ?_ ?_; rotate_left; (focus (intro us w9 hS9 hF; clear hF; obtain ⟨h1, h2, h3, h4⟩ := HK.out w9 hS9; clear hS9; go_simp; (try with_reducible rfl); done)); simp only [Act.put, List.setIfInBounds_toArray, List.set_cons_zero, List.set_cons_succ, Nat.reduceAdd]
          refine walk_pure (v := ?_) (fun w => trivial) (fun _ => rfl) ?_ ?_; rotate_left; (focus (intro us w9 hS9 hF; clear hF; obtain ⟨h1, h2, h3, h4⟩ := HK.out w9 hS9; clear hS9; go_simp; (try with_reducible rfl); done)); simp only [Act.put, List.setIfInBounds_toArray, List.set_cons_zero, List.set_cons_succ, Nat.reduceAdd]
          refine walk_pure (v := ?_) (fun w => trivial) (fun _ => rfl) ?_ ?_; rotate_left; (focus (intro us w9 hS9 hF; clear hF; obtain ⟨h1, h2, h3, h4⟩ := HK.out w9 hS9; clear hS9; go_simp; (try with_reducible rfl); done)); simp only [Act.put, List.setIfInBounds_toArray, List.set_cons_zero, List.set_cons_succ, Nat.reduceAdd]
          refine walk_pure (v := ?_) (fun w => trivial) (fun _ => rfl) ?_ ?_; rotate_left; (focus (intro us w9 hS9 hF; clear hF; obtain ⟨h1, h2, h3, h4⟩ := HK.out w9 hS9; clear hS9; go_simp; (try with_reducible rfl); done)); simp only [Act.put, List.setIfInBounds_toArray, List.set_cons_zero, List.set_cons_succ, Nat.reduceAdd]
          refine walk_pure (v := ?_) (fun w => trivial) (fun _ => rfl) ?_ ?_; rotate_left; (focus (intro us w9 hS9 hF; clear hF; obtain ⟨h1, h2, h3, h4⟩ := HK.out w9 hS9; clear hS9; go_simp; (try with_reducible rfl); done)); simp only [Act.put, List.setIfInBounds_toArray, List.set_cons_zero, List.set_cons_succ, Nat.reduceAdd]
          refine walk_pure (v := ?_) (fun w => trivial) (fun _ => rfl) ?_ ?_; rotate_left; (focus (intro us w9 hS9 hF; clear hF; obtain ⟨h1, h2, h3, h4⟩ := HK.out w9 hS9; clear hS9; go_simp; (try with_reducible rfl); done)); simp only [Act.put, List.setIfInBounds_toArray, List.set_cons_zero, List.set_cons_succ, Nat.reduceAdd]
          refine walk_pure (v := .bool true) (fun w => trivial) (fun _ => rfl) ?_ ?_; (focus (intro us w9 hS9 hF; clear hF; obtain ⟨h1, h2, h3, h4⟩ := HK.out w9 hS9; clear hS9; go_simp; (try with_reducible rfl); done)); simp only [Act.put, List.setIfInBounds_toArray, List.set_cons_zero, List.set_cons_succ, Nat.reduceAdd]
          refine walk_pure (v := .bool true) (fun w => trivial) (fun _ => rfl) ?_ ?_; (focus (intro us w9 hS9 hF; clear hF; obtain ⟨h1, h2, h3, h4⟩ := HK.out w9 hS9; clear hS9; go_simp; (try with_reducible rfl); done)); simp only [Act.put, List.setIfInBounds_toArray, List.set_cons_zero, List.set_cons_succ, Nat.reduceAdd]
          refine walk_pure (v := ?_) (fun w => trivial) (fun _ => rfl) ?_ ?_; rotate_left; (focus (intro us w9 hS9 hF; clear hF; obtain ⟨h1, h2, h3, h4⟩ := HK.out w9 hS9; clear hS9; go_simp; (try with_reducible rfl); done)); simp only [Act.put, List.setIfInBounds_toArray, List.set_cons_zero, List.set_cons_succ, Nat.reduceAdd]
          refine walk_pure (v := ?_) (fun w => trivial) (fun _ => rfl) ?_ ?_; rotate_left; (focus (intro us w9 hS9 hF; clear hF; obtain ⟨h1, h2, h3, h4⟩ := HK.out w9 hS9; clear hS9; go_simp; (try with_reducible rfl); done)); simp only [Act.put, List.setIfInBounds_toArray, List.set_cons_zero, List.set_cons_succ, Nat.reduceAdd]
          refine walk_pure (v := ?_) (fun w => trivial) (fun _ => rfl) ?_ ?_; rotate_left; (focus (intro us w9 hS9 hF; clear hF; obtain ⟨h1, h2, h3, h4⟩ := HK.out w9 hS9; clear hS9; go_simp; (try with_reducible rfl); done)); simp only [Act.put, List.setIfInBounds_toArray, List.set_cons_zero, List.set_cons_succ, Nat.reduceAdd]
          refine walk_pure (v := ?_) (fun w => trivial) (fun _ => rfl) ?_ ?_; rotate_left; (focus (intro us w9 hS9 hF; clear hF; obtain ⟨h1, h2, h3, h4⟩ := HK.out w9 hS9; clear hS9; go_simp; (try with_reducible rfl); done)); simp only [Act.put, List.setIfInBounds_toArray, List.set_cons_zero, List.set_cons_succ, Nat.reduceAdd]
          refine walk_pure (v := ?_) (fun w => trivial) (fun _ => rfl) ?_ ?_; rotate_left; (focus (intro us w9 hS9 hF; clear hF; obtain ⟨h1, h2, h3, h4⟩ := HK.out w9 hS9; clear hS9; go_simp; (try with_reducible rfl); done)); simp only [Act.put, List.setIfInBounds_toArray, List.set_cons_zero, List.set_cons_succ, Nat.reduceAdd]
          refine walk_pure (v := ?_) (fun w => trivial) (fun _ => rfl) ?_ ?_; rotate_left; (focus (intro us w9 hS9 hF; clear hF; obtain ⟨h1, h2, h3, h4⟩ := HK.out w9 hS9; clear hS9; go_simp; (try with_reducible rfl); done)); simp only [Act.put, List.setIfInBounds_toArray, List.set_cons_zero, List.set_cons_succ, Nat.reduceAdd]
          refine walk_pure (v := ?_) (fun w => trivial) (fun _ => rfl) ?_ ?_; rotate_left; (focus (intro us w9 hS9 hF; clear hF; obtain ⟨h1, h2, h3, h4⟩ := HK.out w9 hS9; clear hS9; go_simp; (try with_reducible rfl); done)); simp only [Act.put, List.setIfInBounds_toArray, List.set_cons_zero, List.set_cons_succ, Nat.reduceAdd]
          refine walk_pure (v := .bool true) (fun w => trivial) (fun _ => rfl) ?_ ?_; (focus (intro us w9 hS9 hF; clear hF; obtain ⟨h1, h2, h3, h4⟩ := HK.out w9 hS9; clear hS9; go_simp; (try with_reducible rfl); done)); simp only [Act.put, List.setIfInBounds_toArray, List.set_cons_zero, List.set_cons_succ, Nat.reduceAdd]
          refine walk_pure (v := .bool true) (fun w => trivial) (fun _ => rfl) ?_ ?_; (focus (intro us w9 hS9 hF; clear hF; obtain ⟨h1, h2, h3, h4⟩ := HK.out w9 hS9; clear hS9; go_simp; (try with_reducible rfl); done)); simp only [Act.put, List.setIfInBounds_toArray, List.set_cons_zero, List.set_cons_succ, Nat.reduceAdd]
          refine walk_done fun us w9 hS9 hF => ?_
          clear hF
          have hB9 := hB.trans ((hbr.trans (hS9.mono hbr.size)).mono hB.size)
          go_wp2
          go_ret
          exact chk_mk HE.out hB9
        · have hwb : (x.width == m.width) = false := by simpa using hw
          have HNF := Lib.hid (show mdIs m.name m.width ms[j] = false by rw [HX.out]; unfold mdIs; rw [hwb]; simp)
          clear hn hw
          refine wp_region_told (n := 116) (fun w9 => Below wr.heap.size wr w9) (fun _ _ => True) (by kernel_rfl) (by kernel_rfl) (by rfl) (Below.refl _ _).drew ?_
          refine walk_pure (v := ?_) (fun w => trivial) (fun _ => rfl) ?_ ?_; rotate_left; (focus (intro us w9 hS9 hF; clear hF; obtain ⟨h1, h2, h3, h4⟩ := HK.out w9 hS9; clear hS9; go_simp; (try with_reducible rfl); done)); simp only [Act.put, List.setIfInBounds_toArray, List.set_cons_zero, List.set_cons_succ, Nat.reduceAdd]
          refine walk_pure (v := ?_) (fun w => trivial) (fun _ => rfl) ?_ ?_; rotate_left; (focus (intro us w9 hS9 hF; clear hF; obtain ⟨h1, h2, h3, h4⟩ := HK.out w9 hS9; clear hS9; go_simp; (try with_reducible rfl); done)); simp only [Act.put, List.setIfInBounds_toArray, List.set_cons_zero, List.set_cons_succ, Nat.reduceAdd]
          refine walk_pure (v := ?_) (fun w => trivial) (fun _ => rfl) ?_ ?_; rotate_left; (focus (intro us w9 hS9 hF; clear hF; obtain ⟨h1, h2, h3, h4⟩ := HK.out w9 hS9; clear hS9; go_simp; (try with_reducible rfl); done)); simp only [Act.put, List.setIfInBounds_toArray, List.set_cons_zero, List.set_cons_succ, Nat.reduceAdd]
          refine walk_pure (v := ?_) (fun w => trivial) (fun _ => rfl) ?_ ?_; rotate_left; (focus (intro us w9 hS9 hF; clear hF; obtain ⟨h1, h2, h3, h4⟩ := HK.out w9 hS9; clear hS9; go_simp; (try with_reducible rfl); done)); simp only [Act.put, List.setIfInBounds_toArray, List.set_cons_zero, List.set_cons_succ, Nat.reduceAdd]
          refine walk_pure (v := ?_) (fun w => trivial) (fun _ => rfl) ?_ ?_; rotate_left; (focus (intro us w9 hS9 hF; clear hF; obtain ⟨h1, h2, h3, h4⟩ := HK.out w9 hS9; clear hS9; go_simp; (try with_reducible rfl); done)); simp only [Act.put, List.setIfInBounds_toArray, List.set_cons_zero, List.set_cons_succ, Nat.reduceAdd]
          refine walk_pure (v := ?_) (fun w => trivial) (fun _ => rfl) ?_ ?_; rotate_left; (focus (intro us w9 hS9 hF; clear hF; obtain ⟨h1, h2, h3, h4⟩ := HK.out w9 hS9; clear hS9; go_simp; (try with_reducible rfl); done)); simp only [Act.put, List.setIfInBounds_toArray, List.set_cons_zero, List.set_cons_succ, Nat.reduceAdd]
          refine walk_pure (v := ?_) (fun w => trivial) (fun _ => rfl) ?_ ?_; rotate_left; (focus (intro us w9 hS9 hF; clear hF; obtain ⟨h1, h2, h3, h4⟩ := HK.out w9 hS9; clear hS9; go_simp; (try with_reducible rfl); done)); simp only [Act.put, List.setIfInBounds_toArray, List.set_cons_zero, List.set_cons_succ, Nat.reduceAdd]
          refine walk_pure (v := .bool true) (fun w => trivial) (fun _ => rfl) ?_ ?_; (focus (intro us w9 hS9 hF; clear hF; obtain ⟨h1, h2, h3, h4⟩ := HK.out w9 hS9; clear hS9; go_simp; (try with_reducible rfl); done)); simp only [Act.put, List.setIfInBounds_toArray, List.set_cons_zero, List.set_cons_succ, Nat.reduceAdd]
          refine walk_pure (v := .bool true) (fun w => trivial) (fun _ => rfl) ?_ ?_; (focus (intro us w9 hS9 hF; clear hF; obtain ⟨h1, h2, h3, h4⟩ := HK.out w9 hS9; clear hS9; go_simp; (try with_reducible rfl); done)); simp only [Act.put, List.setIfInBounds_toArray, List.set_cons_zero, List.set_cons_succ, Nat.reduceAdd]
          refine walk_pure (v := ?_) (fun w => trivial) (fun _ => rfl) ?_ ?_; rotate_left; (focus (intro us w9 hS9 hF; clear hF; obtain ⟨h1, h2, h3, h4⟩ := HK.out w9 hS9; clear hS9; go_simp; (try with_reducible rfl); done)); simp only [Act.put, List.setIfInBounds_toArray, List.set_cons_zero, List.set_cons_succ, Nat.reduceAdd]
          refine walk_pure (v := ?_) (fun w => trivial) (fun _ => rfl) ?_ ?_; rotate_left; (focus (intro us w9 hS9 hF; clear hF; obtain ⟨h1, h2, h3, h4⟩ := HK.out w9 hS9; clear hS9; go_simp; (try with_reducible rfl); done)); simp only [Act.put, List.setIfInBounds_toArray, List.set_cons_zero, List.set_cons_succ, Nat.reduceAdd]
          refine walk_pure (v := ?_) (fun w => trivial) (fun _ => rfl) ?_ ?_; rotate_left; (focus (intro us w9 hS9 hF; clear hF; obtain ⟨h1, h2, h3, h4⟩ := HK.out w9 hS9; clear hS9; go_simp; (try with_reducible rfl); done)); simp only [Act.put, List.setIfInBounds_toArray, List.set_cons_zero, List.set_cons_succ, Nat.reduceAdd]
          refine walk_pure (v := ?_) (fun w => trivial) (fun _ => rfl) ?_ ?_; rotate_left; (focus (intro us w9 hS9 hF; clear hF; obtain ⟨h1, h2, h3, h4⟩ := HK.out w9 hS9; clear hS9; go_simp; (try with_reducible rfl); done)); simp only [Act.put, List.setIfInBounds_toArray, List.set_cons_zero, List.set_cons_succ, Nat.reduceAdd]
          refine walk_pure (v := ?_) (fun w => trivial) (fun _ => rfl) ?_ ?_; rotate_left; (focus (intro us w9 hS9 hF; clear hF; obtain ⟨h1, h2, h3, h4⟩ := HK.out w9 hS9; clear hS9; go_simp; (try with_reducible rfl); done)); simp only [Act.put, List.setIfInBounds_toArray, List.set_cons_zero, List.set_cons_succ, Nat.reduceAdd]
          refine walk_pure (v := ?_) (fun w => trivial) (fun _ => rfl) ?_ ?_; rotate_left; (focus (intro us w9 hS9 hF; clear hF; obtain ⟨h1, h2, h3, h4⟩ := HK.out w9 hS9; clear hS9; go_simp; (try with_reducible rfl); done)); simp only [Act.put, List.setIfInBounds_toArray, List.set_cons_zero, List.set_cons_succ, Nat.reduceAdd]
          refine walk_pure (v := ?_) (fun w => trivial) (fun _ => rfl) ?_ ?_; rotate_left; (focus (intro us w9 hS9 hF; clear hF; obtain ⟨h1, h2, h3, h4⟩ := HK.out w9 hS9; clear hS9; go_simp; (try with_reducible rfl); done)); simp only [Act.put, List.setIfInBounds_toArray, List.set_cons_zero, List.set_cons_succ, Nat.reduceAdd]
          refine walk_pure (v := .bool false) (fun w => trivial) (fun _ => rfl) ?_ ?_; (focus (intro us w9 hS9 hF; clear hF; obtain ⟨h1, h2, h3, h4⟩ := HK.out w9 hS9; clear hS9; go_simp; (try with_reducible rfl); done)); simp only [Act.put, List.setIfInBounds_toArray, List.set_cons_zero, List.set_cons_succ, Nat.reduceAdd]
          refine walk_pure (v := .bool false) (fun w => trivial) (fun _ => rfl) ?_ ?_; (focus (intro us w9 hS9 hF; clear hF; obtain ⟨h1, h2, h3, h4⟩ := HK.out w9 hS9; clear hS9; go_simp; (try with_reducible rfl); done)); simp only [Act.put, List.setIfInBounds_toArray, List.set_cons_zero, List.set_cons_succ, Nat.reduceAdd]
          refine walk_done fun us w9 hS9 hF => ?_
          clear hF
          have hb9 := hbr.trans (hS9.mono hbr.size)
          go_wp2
          exact ⟨⟨j + 1, by omega, by go_num, hb9, fun i hi h => by rcases Nat.lt_or_ge i j with h9 | h9; exact HAL.out i hi h9; obtain rfl : i = j := (by omega); exact HNF.out⟩, by simp [intOf]; omega⟩
      · have hnb : (x.name == m.name) = false := by simpa using hn
        have hs1 : ((sv x.name).toList = (sv m.name).toList) = False := by rw [sv_list, sv_list]; exact eq_false hn
        have HNF := Lib.hid (show mdIs m.name m.width ms[j] = false by rw [HX.out]; unfold mdIs; rw [hnb]; rfl)
        clear hn
        refine wp_region_told (n := 116) (fun w9 => Below wr.heap.size wr w9) (fun _ _ => True) (by kernel_rfl) (by kernel_rfl) (by rfl) (Below.refl _ _).drew ?_
        refine walk_pure (v := ?_) (fun w => trivial) (fun _ => rfl) ?_ ?_; rotate_left; (focus (intro us w9 hS9 hF; clear hF; obtain ⟨h1, h2, h3, h4⟩ := HK.out w9 hS9; clear hS9; go_simp; (try with_reducible rfl); done)); simp only [Act.put, List.setIfInBounds_toArray, List.set_cons_zero, List.set_cons_succ, Nat.reduceAdd]
        refine walk_pure (v := ?_) (fun w => trivial) (fun _ => rfl) ?_ ?_; rotate_left; (focus (intro us w9 hS9 hF; clear hF; obtain ⟨h1, h2, h3, h4⟩ := HK.out w9 hS9; clear hS9; go_simp; (try with_reducible rfl); done)); simp only [Act.put, List.setIfInBounds_toArray, List.set_cons_zero, List.set_cons_succ, Nat.reduceAdd]
        refine walk_pure (v := ?_) (fun w => trivial) (fun _ => rfl) ?_ ?_; rotate_left; (focus (intro us w9 hS9 hF; clear hF; obtain ⟨h1, h2, h3, h4⟩ := HK.out w9 hS9; clear hS9; go_simp; (try with_reducible rfl); done)); simp only [Act.put, List.setIfInBounds_toArray, List.set_cons_zero, List.set_cons_succ, Nat.reduceAdd]
        refine walk_pure (v := ?_) (fun w => trivial) (fun _ => rfl) ?_ ?_; rotate_left; (focus (intro us w9 hS9 hF; clear hF; obtain ⟨h1, h2, h3, h4⟩ := HK.out w9 hS9; clear hS9; go_simp; (try with_reducible rfl); done)); simp only [Act.put, List.setIfInBounds_toArray, List.set_cons_zero, List.set_cons_succ, Nat.reduceAdd]
        refine walk_pure (v := ?_) (fun w => trivial) (fun _ => rfl) ?_ ?_; rotate_left; (focus (intro us w9 hS9 hF; clear hF; obtain ⟨h1, h2, h3, h4⟩ := HK.out w9 hS9; clear hS9; go_simp; (try with_reducible rfl); done)); simp only [Act.put, List.setIfInBounds_toArray, List.set_cons_zero, List.set_cons_succ, Nat.reduceAdd]
        refine walk_pure (v := ?_) (fun w => trivial) (fun _ => rfl) ?_ ?_; rotate_left; (focus (intro us w9 hS9 hF; clear hF; obtain ⟨h1, h2, h3, h4⟩ := HK.out w9 hS9; clear hS9; go_simp; (try with_reducible rfl); done)); simp only [Act.put, List.setIfInBounds_toArray, List.set_cons_zero, List.set_cons_succ, Nat.reduceAdd]
        refine walk_pure (v := ?_) (fun w => trivial) (fun _ => rfl) ?_ ?_; rotate_left; (focus (intro us w9 hS9 hF; clear hF; obtain ⟨h1, h2, h3, h4⟩ := HK.out w9 hS9; clear hS9; go_simp; (try with_reducible rfl); done)); simp only [Act.put, List.setIfInBounds_toArray, List.set_cons_zero, List.set_cons_succ, Nat.reduceAdd]
        refine walk_pure (v := .bool false) (fun w => trivial) (fun _ => rfl) ?_ ?_; (focus (intro us w9 hS9 hF; clear hF; obtain ⟨h1, h2, h3, h4⟩ := HK.out w9 hS9; clear hS9; go_simp; (try with_reducible rfl); done)); simp only [Act.put, List.setIfInBounds_toArray, List.set_cons_zero, List.set_cons_succ, Nat.reduceAdd]
        refine walk_pure (v := .bool false) (fun w => trivial) (fun _ => rfl) ?_ ?_; (focus (intro us w9 hS9 hF; clear hF; obtain ⟨h1, h2, h3, h4⟩ := HK.out w9 hS9; clear hS9; go_simp; (try with_reducible rfl); done)); simp only [Act.put, List.setIfInBounds_toArray, List.set_cons_zero, List.set_cons_succ, Nat.reduceAdd]
        refine walk_skip (fun w => trivial) (fun _ => rfl) ?_; simp only [Act.put, List.setIfInBounds_toArray, List.set_cons_zero, List.set_cons_succ, Nat.reduceAdd]
        refine walk_skip (fun w => trivial) (fun _ => rfl) ?_; simp only [Act.put, List.setIfInBounds_toArray, List.set_cons_zero, List.set_cons_succ, Nat.reduceAdd]
        refine walk_skip (fun w => trivial) (fun _ => rfl) ?_; simp only [Act.put, List.setIfInBounds_toArray, List.set_cons_zero, List.set_cons_succ, Nat.reduceAdd]
        refine walk_skip (fun w => trivial) (fun _ => rfl) ?_; simp only [Act.put, List.setIfInBounds_toArray, List.set_cons_zero, List.set_cons_succ, Nat.reduceAdd]
        refine walk_skip (fun w => trivial) (fun _ => rfl) ?_; simp only [Act.put, List.setIfInBounds_toArray, List.set_cons_zero, List.set_cons_succ, Nat.reduceAdd]
        refine walk_skip (fun w => trivial) (fun _ => rfl) ?_; simp only [Act.put, List.setIfInBounds_toArray, List.set_cons_zero, List.set_cons_succ, Nat.reduceAdd]
        refine walk_skip (fun w => trivial) (fun _ => rfl) ?_; simp only [Act.put, List.setIfInBounds_toArray, List.set_cons_zero, List.set_cons_succ, Nat.reduceAdd]
        refine walk_skip (fun w => trivial) (fun _ => rfl) ?_; simp only [Act.put, List.setIfInBounds_toArray, List.set_cons_zero, List.set_cons_succ, Nat.reduceAdd]
        refine walk_pure (v := .bool false) (fun w => trivial) (fun _ => rfl) ?_ ?_; (focus (intro us w9 hS9 hF; clear hF; obtain ⟨h1, h2, h3, h4⟩ := HK.out w9 hS9; clear hS9; go_simp; (try with_reducible rfl); done)); simp only [Act.put, List.setIfInBounds_toArray, List.set_cons_zero, List.set_cons_succ, Nat.reduceAdd]
        refine walk_done fun us w9 hS9 hF => ?_
        clear hF
        have hb9 := hbr.trans (hS9.mono hbr.size)
        go_wp2
        exact ⟨⟨j + 1, by omega, by go_num, hb9, fun i hi h => by rcases Nat.lt_or_ge i j with h9 | h9; exact HAL.out i hi h9; obtain rfl : i = j := (by omega); exact HNF.out⟩, by simp [intOf]; omega⟩
    · obtain rfl : j = ms.length := by omega
      have d1 : decide (ms.length < ms.length) = false := by simp
      have HE := Lib.hid (HCH.out.2 (dup_no fun i hi => HAL.out i hi hi))
      go_wp2
      go_ret
      exact chk_mk HE.out (hB.trans (hbr.mono hB.size))
set_option maxRecDepth 100000 in
set_option maxHeartbeats 8000000 in
theorem rchk_k2w39 (m : Md) (D : Option Addr) (dc : Nat) (ms : List Md) (A : Option Addr) (c : Nat) (W : World) (hM : IsMs W A ms.length ms) (hl : ms.length ≤ 1000000) (hnm : m.name.length ≤ 1000000000) (hdm : m.data.length ≤ 1000000000) (hkd : m.kind = 2) (hwd : m.width = 39) : Calls Tryd.prog 36 #[.agg (mdV m D dc).toArray, .slice A ms.length c] W (ChkP m ms W) := by
  have k1 : (m.kind == 1) = false := by rw [beq_eq_false_iff_ne]; omega
  have k3 : (m.kind == 3) = false := by rw [beq_eq_false_iff_ne]; omega
  have k3n : (m.kind != 3) = true := by rw [bne_iff_ne]; omega
  have kl : decide (m.kind < 1) = false := decide_eq_false (by omega)
  have kh : decide (3 < m.kind) = false := decide_eq_false (by omega)
  have w32 : (m.width == 32) = false := by rw [beq_eq_false_iff_ne]; omega
  have w39 : (m.width == 39) = true := by rw [beq_iff_eq]; omega
  have w0 : (m.width != 0) = true := by rw [bne_iff_ne]; omega
  have HK0 := Lib.hid hkd
  have HW0 := Lib.hid hwd
  have rm : Row (W.alloc (.cells (mdV m D dc).toArray 35)) W.heap.size 35 (mdV m D dc).toArray := Row.born W 35 _
  have hBB := (Below.refl W.heap.size W).alloc (Nat.le_refl _) (.cells (mdV m D dc).toArray 35)
  have hB := hBB
  clear hkd hwd
  go_enter Tryd.func36, Tryd.ntmps36
  go_upto_region 1 with (fail)
  obtain ⟨g0, hg0⟩ : ∃ g0, W.heap.size = g0 := ⟨_, rfl⟩
  rw [hg0] at rm
  simp only [hg0]
  obtain ⟨w0', hw0'⟩ : ∃ w0', W.alloc (.cells (mdV m D dc).toArray 35) = w0' := ⟨_, rfl⟩
  rw [hw0'] at rm hB hBB
  rw [hw0']
  clear hw0'
  obtain ⟨c0, c1, c2, c3, c4⟩ := md_cells rm
  cases hnb : nameB m.name
  · have HNB := Lib.hid hnb
    have HE := Lib.hid (show chkE m ms = 63 by unfold chkE; rw [hnb]; rfl)
    clear hnb
    go_wp2_with ((go_at_call 49; refine (rname_is HNB.out hnm _).mono ?_; rintro en w4 ⟨rfl, hw4⟩; subst w4))
    go_ret
    exact chk_mk HE.out hB
  have HNB := Lib.hid hnb
  have HR := Lib.hid (show ¬ (m.kind < 1 ∨ 3 < m.kind ∨ badW m = true) by have h1 := HK0.out; have h2 := HW0.out; unfold badW; simp [h1, h2])
  have HEN := Lib.hid (show entN m = 1 by unfold entN; rw [if_neg (by have := HK0.out; omega)])
  have HNE := Lib.hid hnb
  clear hnb
  have HNA := Lib.hid (show ¬ (m.kind = 1 ∧ (m.data.length = 0 ∨ m.data.length % 8 ≠ 0)) from fun h => by have := h.1; have := HK0.out; omega)
  by_cases he : m.entry < 0 ∨ 1 ≤ m.entry
  · have HE := Lib.hid (show chkE m ms = 6 by unfold chkE; rw [if_pos HNE.out, if_neg HR.out, if_neg HNA.out, if_pos (by rw [HEN.out]; exact he)])
    have y0 : (m.entry != 0) = true := by rw [bne_iff_ne]; omega
    clear he
    go_wp2_with ((go_at_call 49; refine (rname_is HNB.out hnm _).mono ?_; rintro en w4 ⟨rfl, hw4⟩; subst w4))
    go_ret
    exact chk_mk HE.out hB
  have y0 : (m.entry != 0) = false := by rw [bne_eq_false_iff_eq]; omega
  have HCH := Lib.hid (show (fndB ms m.name m.width = true → chkE m ms = 56) ∧ (fndB ms m.name m.width = false → chkE m ms = 0) from ⟨fun h => by unfold chkE; rw [if_pos HNE.out, if_neg HR.out, if_neg HNA.out, if_neg (by rw [HEN.out]; exact he), if_pos h], fun h => by unfold chkE; rw [if_pos HNE.out, if_neg HR.out, if_neg HNA.out, if_neg (by rw [HEN.out]; exact he), if_neg (by rw [h]; simp)]⟩)
  clear he
  go_upto_region 12 with (go_at_call 49; refine (rname_is HNB.out hnm _).mono ?_; rintro en w4 ⟨rfl, hw4⟩; subst w4)
  clear k1 k3 k3n kl kh w32 w39 w0
  go_loopw [7] (fun i wr => ∃ j : Nat, j ≤ ms.length ∧ i = .int .i64 j ∧ Below w0'.heap.size w0' wr ∧ ∀ i (hi : i < ms.length), i < j → mdIs m.name m.width ms[i] = false) (fun i _ => ms.length - (intOf i).toNat)
  case atStart => exact ⟨0, by omega, rfl, Below.refl _ _, fun i hi h => by omega⟩
  case round =>
    obtain ⟨j, hj, rfl, hbr, hall⟩ := hrel
    have HAL := Lib.hid hall
    clear hall
    rcases Nat.lt_or_ge j ms.length with hjl | hjl
    · have d1 : decide (j < ms.length) = true := decide_eq_true hjl
      have hji : (j : Int) < ms.length := by omega
      have hj0 : (0 : Int) ≤ (j : Int) := by omega
      obtain ⟨b0, o0, rfl, -⟩ := hM.2 (by omega)
      obtain ⟨Dj, dcj, q0, -, q2, -, -, -, -⟩ := hM.cell j hjl
      obtain ⟨x, hx⟩ : ∃ x, ms[j] = x := ⟨_, rfl⟩
      rw [hx] at q0 q2
      have HX := Lib.hid hx
      clear hx
      have HK := Lib.hid (fun (w : World) (hb : Below wr.heap.size wr w) => (show w.cell? ⟨b0, o0 + j * 5, none⟩ = some (.string (sv x.name)) ∧ w.cell? ⟨b0, o0 + j * 5 + 2, none⟩ = some (.int .i64 x.width) ∧ w.cell? ⟨g0, 0, none⟩ = some (.string (sv m.name)) ∧ w.cell? ⟨g0, 2, none⟩ = some (.int .i64 m.width) from
        ⟨(((hBB.trans (hbr.mono hBB.size)).trans (hb.mono (hBB.trans (hbr.mono hBB.size)).size)).cell (p := ⟨b0, o0 + j * 5, none⟩) (block_lt_of_cell q0)).trans q0, (((hBB.trans (hbr.mono hBB.size)).trans (hb.mono (hBB.trans (hbr.mono hBB.size)).size)).cell (p := ⟨b0, o0 + j * 5 + 2, none⟩) (block_lt_of_cell q2)).trans q2, (((hbr.trans (hb.mono hbr.size))).cell (p := ⟨g0, 0, none⟩) rm.lt).trans (rm.cell 0), (((hbr.trans (hb.mono hbr.size))).cell (p := ⟨g0, 2, none⟩) rm.lt).trans (rm.cell 2)⟩))
      go_upto_region 14 with (fail)
      by_cases hn : x.name = m.name
      · have hnb : (x.name == m.name) = true := by simpa using hn
        have hs1 : (sv x.name).toList = (sv m.name).toList := by rw [sv_list, sv_list, hn]
        by_cases hw : x.width = m.width
        · have HE := Lib.hid (HCH.out.1 (dup_at hjl (by rw [HX.out]; unfold mdIs; rw [hnb, hw]; simp)))
          have hwb : (x.width == m.width) = true := by simpa using hw
          clear hn hw
          refine wp_region_told (n := 116) (fun w9 => Below wr.heap.size wr w9) (fun _ _ => True) (by kernel_rfl) (by kernel_rfl) (by rfl) (Below.refl _ _).drew ?_
          refine walk_pure (v := ?_) (fun w => trivial) (fun _ => rfl) ?_ ?_; rotate_left; (focus (intro us w9 hS9 hF; clear hF; obtain ⟨h1, h2, h3, h4⟩ := HK.out w9 hS9; clear hS9; go_simp; (try with_reducible rfl); done)); simp only [Act.put, List.setIfInBounds_toArray, List.set_cons_zero, List.set_cons_succ, Nat.reduceAdd]
          refine walk_pure (v := ?_) (fun w => trivial) (fun _ => rfl) ?_ ?_; rotate_left; (focus (intro us w9 hS9 hF; clear hF; obtain ⟨h1, h2, h3, h4⟩ := HK.out w9 hS9; clear hS9; go_simp; (try with_reducible rfl); done)); simp only [Act.put, List.setIfInBounds_toArray, List.set_cons_zero, List.set_cons_succ, Nat.reduceAdd]
          refine walk_pure (v := ?_) (fun w => trivial) (fun _ => rfl) ?_ ?_; rotate_left; (focus (intro us w9 hS9 hF; clear hF; obtain ⟨h1, h2, h3, h4⟩ := HK.out w9 hS9; clear hS9; go_simp; (try with_reducible rfl); done)); simp only [Act.put, List.setIfInBounds_toArray, List.set_cons_zero, List.set_cons_succ, Nat.reduceAdd]
          refine walk_pure (v := ?_) (fun w => trivial) (fun _ => rfl) ?_ ?_; rotate_left; (focus (intro us w9 hS9 hF; clear hF; obtain ⟨h1, h2, h3, h4⟩ := HK.out w9 hS9; clear hS9; go_simp; (try with_reducible rfl); done)); simp only [Act.put, List.setIfInBounds_toArray, List.set_cons_zero, List.set_cons_succ, Nat.reduceAdd]
          refine walk_pure (v := ?_) (fun w => trivial) (fun _ => rfl) ?_ ?_; rotate_left; (focus (intro us w9 hS9 hF; clear hF; obtain ⟨h1, h2, h3, h4⟩ := HK.out w9 hS9; clear hS9; go_simp; (try with_reducible rfl); done)); simp only [Act.put, List.setIfInBounds_toArray, List.set_cons_zero, List.set_cons_succ, Nat.reduceAdd]
          refine walk_pure (v := ?_) (fun w => trivial) (fun _ => rfl) ?_ ?_; rotate_left; (focus (intro us w9 hS9 hF; clear hF; obtain ⟨h1, h2, h3, h4⟩ := HK.out w9 hS9; clear hS9; go_simp; (try with_reducible rfl); done)); simp only [Act.put, List.setIfInBounds_toArray, List.set_cons_zero, List.set_cons_succ, Nat.reduceAdd]
          refine walk_pure (v := ?_) (fun w => trivial) (fun _ => rfl) ?_ ?_; rotate_left; (focus (intro us w9 hS9 hF; clear hF; obtain ⟨h1, h2, h3, h4⟩ := HK.out w9 hS9; clear hS9; go_simp; (try with_reducible rfl); done)); simp only [Act.put, List.setIfInBounds_toArray, List.set_cons_zero, List.set_cons_succ, Nat.reduceAdd]
          refine walk_pure (v := .bool true) (fun w => trivial) (fun _ => rfl) ?_ ?_; (focus (intro us w9 hS9 hF; clear hF; obtain ⟨h1, h2, h3, h4⟩ := HK.out w9 hS9; clear hS9; go_simp; (try with_reducible rfl); done)); simp only [Act.put, List.setIfInBounds_toArray, List.set_cons_zero, List.set_cons_succ, Nat.reduceAdd]
          refine walk_pure (v := .bool true) (fun w => trivial) (fun _ => rfl) ?_ ?_; (focus (intro us w9 hS9 hF; clear hF; obtain ⟨h1, h2, h3, h4⟩ := HK.out w9 hS9; clear hS9; go_simp; (try with_reducible rfl); done)); simp only [Act.put, List.setIfInBounds_toArray, List.set_cons_zero, List.set_cons_succ, Nat.reduceAdd]
          refine walk_pure (v := ?_) (fun w => trivial) (fun _ => rfl) ?_ ?_; rotate_left; (focus (intro us w9 hS9 hF; clear hF; obtain ⟨h1, h2, h3, h4⟩ := HK.out w9 hS9; clear hS9; go_simp; (try with_reducible rfl); done)); simp only [Act.put, List.setIfInBounds_toArray, List.set_cons_zero, List.set_cons_succ, Nat.reduceAdd]
          refine walk_pure (v := ?_) (fun w => trivial) (fun _ => rfl) ?_ ?_; rotate_left; (focus (intro us w9 hS9 hF; clear hF; obtain ⟨h1, h2, h3, h4⟩ := HK.out w9 hS9; clear hS9; go_simp; (try with_reducible rfl); done)); simp only [Act.put, List.setIfInBounds_toArray, List.set_cons_zero, List.set_cons_succ, Nat.reduceAdd]
          refine walk_pure (v := ?_) (fun w => trivial) (fun _ => rfl) ?_ ?_; rotate_left; (focus (intro us w9 hS9 hF; clear hF; obtain ⟨h1, h2, h3, h4⟩ := HK.out w9 hS9; clear hS9; go_simp; (try with_reducible rfl); done)); simp only [Act.put, List.setIfInBounds_toArray, List.set_cons_zero, List.set_cons_succ, Nat.reduceAdd]
          refine walk_pure (v := ?_) (fun w => trivial) (fun _ => rfl) ?_ ?_; rotate_left; (focus (intro us w9 hS9 hF; clear hF; obtain ⟨h1, h2, h3, h4⟩ := HK.out w9 hS9; clear hS9; go_simp; (try with_reducible rfl); done)); simp only [Act.put, List.setIfInBounds_toArray, List.set_cons_zero, List.set_cons_succ, Nat.reduceAdd]
          refine walk_pure (v := ?_) (fun w => trivial) (fun _ => rfl) ?_ ?_; rotate_left; (focus (intro us w9 hS9 hF; clear hF; obtain ⟨h1, h2, h3, h4⟩ := HK.out w9 hS9; clear hS9; go_simp; (try with_reducible rfl); done)); simp only [Act.put, List.setIfInBounds_toArray, List.set_cons_zero, List.set_cons_succ, Nat.reduceAdd]
          refine walk_pure (v := ?_) (fun w => trivial) (fun _ => rfl) ?_ ?_; rotate_left; (focus (intro us w9 hS9 hF; clear hF; obtain ⟨h1, h2, h3, h4⟩ := HK.out w9 hS9; clear hS9; go_simp; (try with_reducible rfl); done)); simp only [Act.put, List.setIfInBounds_toArray, List.set_cons_zero, List.set_cons_succ, Nat.reduceAdd]
          refine walk_pure (v := ?_) (fun w => trivial) (fun _ => rfl) ?_ ?_; rotate_left; (focus (intro us w9 hS9 hF; clear hF; obtain ⟨h1, h2, h3, h4⟩ := HK.out w9 hS9; clear hS9; go_simp; (try with_reducible rfl); done)); simp only [Act.put, List.setIfInBounds_toArray, List.set_cons_zero, List.set_cons_succ, Nat.reduceAdd]
          refine walk_pure (v := .bool true) (fun w => trivial) (fun _ => rfl) ?_ ?_; (focus (intro us w9 hS9 hF; clear hF; obtain ⟨h1, h2, h3, h4⟩ := HK.out w9 hS9; clear hS9; go_simp; (try with_reducible rfl); done)); simp only [Act.put, List.setIfInBounds_toArray, List.set_cons_zero, List.set_cons_succ, Nat.reduceAdd]
          refine walk_pure (v := .bool true) (fun w => trivial) (fun _ => rfl) ?_ ?_; (focus (intro us w9 hS9 hF; clear hF; obtain ⟨h1, h2, h3, h4⟩ := HK.out w9 hS9; clear hS9; go_simp; (try with_reducible rfl); done)); simp only [Act.put, List.setIfInBounds_toArray, List.set_cons_zero, List.set_cons_succ, Nat.reduceAdd]
          refine walk_done fun us w9 hS9 hF => ?_
          clear hF
          have hB9 := hB.trans ((hbr.trans (hS9.mono hbr.size)).mono hB.size)
          go_wp2
          go_ret
          exact chk_mk HE.out hB9
        · have hwb : (x.width == m.width) = false := by simpa using hw
          have HNF := Lib.hid (show mdIs m.name m.width ms[j] = false by rw [HX.out]; unfold mdIs; rw [hwb]; simp)
          clear hn hw
          refine wp_region_told (n := 116) (fun w9 => Below wr.heap.size wr w9) (fun _ _ => True) (by kernel_rfl) (by kernel_rfl) (by rfl) (Below.refl _ _).drew ?_
          refine walk_pure (v := ?_) (fun w => trivial) (fun _ => rfl) ?_ ?_; rotate_left; (focus (intro us w9 hS9 hF; clear hF; obtain ⟨h1, h2, h3, h4⟩ := HK.out w9 hS9; clear hS9; go_simp; (try with_reducible rfl); done)); simp only [Act.put, List.setIfInBounds_toArray, List.set_cons_zero, List.set_cons_succ, Nat.reduceAdd]
          refine walk_pure (v := ?_) (fun w => trivial) (fun _ => rfl) ?_ ?_; rotate_left; (focus (intro us w9 hS9 hF; clear hF; obtain ⟨h1, h2, h3, h4⟩ := HK.out w9 hS9; clear hS9; go_simp; (try with_reducible rfl); done)); simp only [Act.put, List.setIfInBounds_toArray, List.set_cons_zero, List.set_cons_succ, Nat.reduceAdd]
          refine walk_pure (v := ?_) (fun w => trivial) (fun _ => rfl) ?_ ?_; rotate_left; (focus (intro us w9 hS9 hF; clear hF; obtain ⟨h1, h2, h3, h4⟩ := HK.out w9 hS9; clear hS9; go_simp; (try with_reducible rfl); done)); simp only [Act.put, List.setIfInBounds_toArray, List.set_cons_zero, List.set_cons_succ, Nat.reduceAdd]
          refine walk_pure (v := ?_) (fun w => trivial) (fun _ => rfl) ?_ ?_; rotate_left; (focus (intro us w9 hS9 hF; clear hF; obtain ⟨h1, h2, h3, h4⟩ := HK.out w9 hS9; clear hS9; go_simp; (try with_reducible rfl); done)); simp only [Act.put, List.setIfInBounds_toArray, List.set_cons_zero, List.set_cons_succ, Nat.reduceAdd]
          refine walk_pure (v := ?_) (fun w => trivial) (fun _ => rfl) ?_ ?_; rotate_left; (focus (intro us w9 hS9 hF; clear hF; obtain ⟨h1, h2, h3, h4⟩ := HK.out w9 hS9; clear hS9; go_simp; (try with_reducible rfl); done)); simp only [Act.put, List.setIfInBounds_toArray, List.set_cons_zero, List.set_cons_succ, Nat.reduceAdd]
          refine walk_pure (v := ?_) (fun w => trivial) (fun _ => rfl) ?_ ?_; rotate_left; (focus (intro us w9 hS9 hF; clear hF; obtain ⟨h1, h2, h3, h4⟩ := HK.out w9 hS9; clear hS9; go_simp; (try with_reducible rfl); done)); simp only [Act.put, List.setIfInBounds_toArray, List.set_cons_zero, List.set_cons_succ, Nat.reduceAdd]
          refine walk_pure (v := ?_) (fun w => trivial) (fun _ => rfl) ?_ ?_; rotate_left; (focus (intro us w9 hS9 hF; clear hF; obtain ⟨h1, h2, h3, h4⟩ := HK.out w9 hS9; clear hS9; go_simp; (try with_reducible rfl); done)); simp only [Act.put, List.setIfInBounds_toArray, List.set_cons_zero, List.set_cons_succ, Nat.reduceAdd]
          refine walk_pure (v := .bool true) (fun w => trivial) (fun _ => rfl) ?_ ?_; (focus (intro us w9 hS9 hF; clear hF; obtain ⟨h1, h2, h3, h4⟩ := HK.out w9 hS9; clear hS9; go_simp; (try with_reducible rfl); done)); simp only [Act.put, List.setIfInBounds_toArray, List.set_cons_zero, List.set_cons_succ, Nat.reduceAdd]
          refine walk_pure (v := .bool true) (fun w => trivial) (fun _ => rfl) ?_ ?_; (focus (intro us w9 hS9 hF; clear hF; obtain ⟨h1, h2, h3, h4⟩ := HK.out w9 hS9; clear hS9; go_simp; (try with_reducible rfl); done)); simp only [Act.put, List.setIfInBounds_toArray, List.set_cons_zero, List.set_cons_succ, Nat.reduceAdd]
          refine walk_pure (v := ?_) (fun w => trivial) (fun _ => rfl) ?_ ?_; rotate_left; (focus (intro us w9 hS9 hF; clear hF; obtain ⟨h1, h2, h3, h4⟩ := HK.out w9 hS9; clear hS9; go_simp; (try with_reducible rfl); done)); simp only [Act.put, List.setIfInBounds_toArray, List.set_cons_zero, List.set_cons_succ, Nat.reduceAdd]
          refine walk_pure (v := ?_) (fun w => trivial) (fun _ => rfl) ?_ ?_; rotate_left; (focus (intro us w9 hS9 hF; clear hF; obtain ⟨h1, h2, h3, h4⟩ := HK.out w9 hS9; clear hS9; go_simp; (try with_reducible rfl); done)); simp only [Act.put, List.setIfInBounds_toArray, List.set_cons_zero, List.set_cons_succ, Nat.reduceAdd]
          refine walk_pure (v := ?_) (fun w => trivial) (fun _ => rfl) ?_ ?_; rotate_left; (focus (intro us w9 hS9 hF; clear hF; obtain ⟨h1, h2, h3, h4⟩ := HK.out w9 hS9; clear hS9; go_simp; (try with_reducible rfl); done)); simp only [Act.put, List.setIfInBounds_toArray, List.set_cons_zero, List.set_cons_succ, Nat.reduceAdd]
          refine walk_pure (v := ?_) (fun w => trivial) (fun _ => rfl) ?_ ?_; rotate_left; (focus (intro us w9 hS9 hF; clear hF; obtain ⟨h1, h2, h3, h4⟩ := HK.out w9 hS9; clear hS9; go_simp; (try with_reducible rfl); done)); simp only [Act.put, List.setIfInBounds_toArray, List.set_cons_zero, List.set_cons_succ, Nat.reduceAdd]
          refine walk_pure (v := ?_) (fun w => trivial) (fun _ => rfl) ?_ ?_; rotate_left; (focus (intro us w9 hS9 hF; clear hF; obtain ⟨h1, h2, h3, h4⟩ := HK.out w9 hS9; clear hS9; go_simp; (try with_reducible rfl); done)); simp only [Act.put, List.setIfInBounds_toArray, List.set_cons_zero, List.set_cons_succ, Nat.reduceAdd]
          refine walk_pure (v := ?_) (fun w => trivial) (fun _ => rfl) ?_ ?_; rotate_left; (focus (intro us w9 hS9 hF; clear hF; obtain ⟨h1, h2, h3, h4⟩ := HK.out w9 hS9; clear hS9; go_simp; (try with_reducible rfl); done)); simp only [Act.put, List.setIfInBounds_toArray, List.set_cons_zero, List.set_cons_succ, Nat.reduceAdd]
          refine walk_pure (v := ?_) (fun w => trivial) (fun _ => rfl) ?_ ?_; rotate_left; (focus (intro us w9 hS9 hF; clear hF; obtain ⟨h1, h2, h3, h4⟩ := HK.out w9 hS9; clear hS9; go_simp; (try with_reducible rfl); done)); simp only [Act.put, List.setIfInBounds_toArray, List.set_cons_zero, List.set_cons_succ, Nat.reduceAdd]
          refine walk_pure (v := .bool false) (fun w => trivial) (fun _ => rfl) ?_ ?_; (focus (intro us w9 hS9 hF; clear hF; obtain ⟨h1, h2, h3, h4⟩ := HK.out w9 hS9; clear hS9; go_simp; (try with_reducible rfl); done)); simp only [Act.put, List.setIfInBounds_toArray, List.set_cons_zero, List.set_cons_succ, Nat.reduceAdd]
          refine walk_pure (v := .bool false) (fun w => trivial) (fun _ => rfl) ?_ ?_; (focus (intro us w9 hS9 hF; clear hF; obtain ⟨h1, h2, h3, h4⟩ := HK.out w9 hS9; clear hS9; go_simp; (try with_reducible rfl); done)); simp only [Act.put, List.setIfInBounds_toArray, List.set_cons_zero, List.set_cons_succ, Nat.reduceAdd]
          refine walk_done fun us w9 hS9 hF => ?_
          clear hF
          have hb9 := hbr.trans (hS9.mono hbr.size)
          go_wp2
          exact ⟨⟨j + 1, by omega, by go_num, hb9, fun i hi h => by rcases Nat.lt_or_ge i j with h9 | h9; exact HAL.out i hi h9; obtain rfl : i = j := (by omega); exact HNF.out⟩, by simp [intOf]; omega⟩
      · have hnb : (x.name == m.name) = false := by simpa using hn
        have hs1 : ((sv x.name).toList = (sv m.name).toList) = False := by rw [sv_list, sv_list]; exact eq_false hn
        have HNF := Lib.hid (show mdIs m.name m.width ms[j] = false by rw [HX.out]; unfold mdIs; rw [hnb]; rfl)
        clear hn
        refine wp_region_told (n := 116) (fun w9 => Below wr.heap.size wr w9) (fun _ _ => True) (by kernel_rfl) (by kernel_rfl) (by rfl) (Below.refl _ _).drew ?_
        refine walk_pure (v := ?_) (fun w => trivial) (fun _ => rfl) ?_ ?_; rotate_left; (focus (intro us w9 hS9 hF; clear hF; obtain ⟨h1, h2, h3, h4⟩ := HK.out w9 hS9; clear hS9; go_simp; (try with_reducible rfl); done)); simp only [Act.put, List.setIfInBounds_toArray, List.set_cons_zero, List.set_cons_succ, Nat.reduceAdd]
        refine walk_pure (v := ?_) (fun w => trivial) (fun _ => rfl) ?_ ?_; rotate_left; (focus (intro us w9 hS9 hF; clear hF; obtain ⟨h1, h2, h3, h4⟩ := HK.out w9 hS9; clear hS9; go_simp; (try with_reducible rfl); done)); simp only [Act.put, List.setIfInBounds_toArray, List.set_cons_zero, List.set_cons_succ, Nat.reduceAdd]
        refine walk_pure (v := ?_) (fun w => trivial) (fun _ => rfl) ?_ ?_; rotate_left; (focus (intro us w9 hS9 hF; clear hF; obtain ⟨h1, h2, h3, h4⟩ := HK.out w9 hS9; clear hS9; go_simp; (try with_reducible rfl); done)); simp only [Act.put, List.setIfInBounds_toArray, List.set_cons_zero, List.set_cons_succ, Nat.reduceAdd]
        refine walk_pure (v := ?_) (fun w => trivial) (fun _ => rfl) ?_ ?_; rotate_left; (focus (intro us w9 hS9 hF; clear hF; obtain ⟨h1, h2, h3, h4⟩ := HK.out w9 hS9; clear hS9; go_simp; (try with_reducible rfl); done)); simp only [Act.put, List.setIfInBounds_toArray, List.set_cons_zero, List.set_cons_succ, Nat.reduceAdd]
        refine walk_pure (v := ?_) (fun w => trivial) (fun _ => rfl) ?_ ?_; rotate_left; (focus (intro us w9 hS9 hF; clear hF; obtain ⟨h1, h2, h3, h4⟩ := HK.out w9 hS9; clear hS9; go_simp; (try with_reducible rfl); done)); simp only [Act.put, List.setIfInBounds_toArray, List.set_cons_zero, List.set_cons_succ, Nat.reduceAdd]
        refine walk_pure (v := ?_) (fun w => trivial) (fun _ => rfl) ?_ ?_; rotate_left; (focus (intro us w9 hS9 hF; clear hF; obtain ⟨h1, h2, h3, h4⟩ := HK.out w9 hS9; clear hS9; go_simp; (try with_reducible rfl); done)); simp only [Act.put, List.setIfInBounds_toArray, List.set_cons_zero, List.set_cons_succ, Nat.reduceAdd]
        refine walk_pure (v := ?_) (fun w => trivial) (fun _ => rfl) ?_ ?_; rotate_left; (focus (intro us w9 hS9 hF; clear hF; obtain ⟨h1, h2, h3, h4⟩ := HK.out w9 hS9; clear hS9; go_simp; (try with_reducible rfl); done)); simp only [Act.put, List.setIfInBounds_toArray, List.set_cons_zero, List.set_cons_succ, Nat.reduceAdd]
        refine walk_pure (v := .bool false) (fun w => trivial) (fun _ => rfl) ?_ ?_; (focus (intro us w9 hS9 hF; clear hF; obtain ⟨h1, h2, h3, h4⟩ := HK.out w9 hS9; clear hS9; go_simp; (try with_reducible rfl); done)); simp only [Act.put, List.setIfInBounds_toArray, List.set_cons_zero, List.set_cons_succ, Nat.reduceAdd]
        refine walk_pure (v := .bool false) (fun w => trivial) (fun _ => rfl) ?_ ?_; (focus (intro us w9 hS9 hF; clear hF; obtain ⟨h1, h2, h3, h4⟩ := HK.out w9 hS9; clear hS9; go_simp; (try with_reducible rfl); done)); simp only [Act.put, List.setIfInBounds_toArray, List.set_cons_zero, List.set_cons_succ, Nat.reduceAdd]
        refine walk_skip (fun w => trivial) (fun _ => rfl) ?_; simp only [Act.put, List.setIfInBounds_toArray, List.set_cons_zero, List.set_cons_succ, Nat.reduceAdd]
        refine walk_skip (fun w => trivial) (fun _ => rfl) ?_; simp only [Act.put, List.setIfInBounds_toArray, List.set_cons_zero, List.set_cons_succ, Nat.reduceAdd]
        refine walk_skip (fun w => trivial) (fun _ => rfl) ?_; simp only [Act.put, List.setIfInBounds_toArray, List.set_cons_zero, List.set_cons_succ, Nat.reduceAdd]
        refine walk_skip (fun w => trivial) (fun _ => rfl) ?_; simp only [Act.put, List.setIfInBounds_toArray, List.set_cons_zero, List.set_cons_succ, Nat.reduceAdd]
        refine walk_skip (fun w => trivial) (fun _ => rfl) ?_; simp only [Act.put, List.setIfInBounds_toArray, List.set_cons_zero, List.set_cons_succ, Nat.reduceAdd]
        refine walk_skip (fun w => trivial) (fun _ => rfl) ?_; simp only [Act.put, List.setIfInBounds_toArray, List.set_cons_zero, List.set_cons_succ, Nat.reduceAdd]
        refine walk_skip (fun w => trivial) (fun _ => rfl) ?_; simp only [Act.put, List.setIfInBounds_toArray, List.set_cons_zero, List.set_cons_succ, Nat.reduceAdd]
        refine walk_skip (fun w => trivial) (fun _ => rfl) ?_; simp only [Act.put, List.setIfInBounds_toArray, List.set_cons_zero, List.set_cons_succ, Nat.reduceAdd]
        refine walk_pure (v := .bool false) (fun w => trivial) (fun _ => rfl) ?_ ?_; (focus (intro us w9 hS9 hF; clear hF; obtain ⟨h1, h2, h3, h4⟩ := HK.out w9 hS9; clear hS9; go_simp; (try with_reducible rfl); done)); simp only [Act.put, List.setIfInBounds_toArray, List.set_cons_zero, List.set_cons_succ, Nat.reduceAdd]
        refine walk_done fun us w9 hS9 hF => ?_
        clear hF
        have hb9 := hbr.trans (hS9.mono hbr.size)
        go_wp2
        exact ⟨⟨j + 1, by omega, by go_num, hb9, fun i hi h => by rcases Nat.lt_or_ge i j with h9 | h9; exact HAL.out i hi h9; obtain rfl : i = j := (by omega); exact HNF.out⟩, by simp [intOf]; omega⟩
    · obtain rfl : j = ms.length := by omega
      have d1 : decide (ms.length < ms.length) = false := by simp
      have HE := Lib.hid (HCH.out.2 (dup_no fun i hi => HAL.out i hi hi))
      go_wp2
      go_ret
      exact chk_mk HE.out (hB.trans (hbr.mono hB.size))
set_option maxRecDepth 100000 in
set_option maxHeartbeats 8000000 in
theorem rchk_k2w0 (m : Md) (D : Option Addr) (dc : Nat) (ms : List Md) (A : Option Addr) (c : Nat) (W : World) (hM : IsMs W A ms.length ms) (hl : ms.length ≤ 1000000) (hnm : m.name.length ≤ 1000000000) (hdm : m.data.length ≤ 1000000000) (hkd : m.kind = 2) (hwd : m.width = 0) : Calls Tryd.prog 36 #[.agg (mdV m D dc).toArray, .slice A ms.length c] W (ChkP m ms W) := by
  have k1 : (m.kind == 1) = false := by rw [beq_eq_false_iff_ne]; omega
  have k3 : (m.kind == 3) = false := by rw [beq_eq_false_iff_ne]; omega
  have k3n : (m.kind != 3) = true := by rw [bne_iff_ne]; omega
  have kl : decide (m.kind < 1) = false := decide_eq_false (by omega)
  have kh : decide (3 < m.kind) = false := decide_eq_false (by omega)
  have w32 : (m.width == 32) = false := by rw [beq_eq_false_iff_ne]; omega
  have w39 : (m.width == 39) = false := by rw [beq_eq_false_iff_ne]; omega
  have w0 : (m.width != 0) = false := by rw [bne_eq_false_iff_eq]; omega
  have HK0 := Lib.hid hkd
  have HW0 := Lib.hid hwd
  have rm : Row (W.alloc (.cells (mdV m D dc).toArray 35)) W.heap.size 35 (mdV m D dc).toArray := Row.born W 35 _
  have hBB := (Below.refl W.heap.size W).alloc (Nat.le_refl _) (.cells (mdV m D dc).toArray 35)
  have hB := hBB
  clear hkd hwd
  go_enter Tryd.func36, Tryd.ntmps36
  go_upto_region 1 with (fail)
  obtain ⟨g0, hg0⟩ : ∃ g0, W.heap.size = g0 := ⟨_, rfl⟩
  rw [hg0] at rm
  simp only [hg0]
  obtain ⟨w0', hw0'⟩ : ∃ w0', W.alloc (.cells (mdV m D dc).toArray 35) = w0' := ⟨_, rfl⟩
  rw [hw0'] at rm hB hBB
  rw [hw0']
  clear hw0'
  obtain ⟨c0, c1, c2, c3, c4⟩ := md_cells rm
  cases hnb : nameB m.name
  · have HNB := Lib.hid hnb
    have HE := Lib.hid (show chkE m ms = 63 by unfold chkE; rw [hnb]; rfl)
    clear hnb
    go_wp2_with ((go_at_call 49; refine (rname_is HNB.out hnm _).mono ?_; rintro en w4 ⟨rfl, hw4⟩; subst w4))
    go_ret
    exact chk_mk HE.out hB
  have HNB := Lib.hid hnb
  have HE := Lib.hid (show chkE m ms = 6 by unfold chkE; rw [if_pos hnb, if_pos]; have h1 := HK0.out; have h2 := HW0.out; exact .inr (.inr (by unfold badW; simp [h1, h2])))
  clear hnb
  go_wp2_with ((go_at_call 49; refine (rname_is HNB.out hnm _).mono ?_; rintro en w4 ⟨rfl, hw4⟩; subst w4))
  go_ret
  exact chk_mk HE.out hB
set_option maxRecDepth 100000 in
set_option maxHeartbeats 8000000 in
theorem rchk_k2wx (m : Md) (D : Option Addr) (dc : Nat) (ms : List Md) (A : Option Addr) (c : Nat) (W : World) (hM : IsMs W A ms.length ms) (hl : ms.length ≤ 1000000) (hnm : m.name.length ≤ 1000000000) (hdm : m.data.length ≤ 1000000000) (hkd : m.kind = 2) (hwd : (m.width ≠ 32 ∧ m.width ≠ 39 ∧ m.width ≠ 0)) : Calls Tryd.prog 36 #[.agg (mdV m D dc).toArray, .slice A ms.length c] W (ChkP m ms W) := by
  have k1 : (m.kind == 1) = false := by rw [beq_eq_false_iff_ne]; omega
  have k3 : (m.kind == 3) = false := by rw [beq_eq_false_iff_ne]; omega
  have k3n : (m.kind != 3) = true := by rw [bne_iff_ne]; omega
  have kl : decide (m.kind < 1) = false := decide_eq_false (by omega)
  have kh : decide (3 < m.kind) = false := decide_eq_false (by omega)
  have w32 : (m.width == 32) = false := by rw [beq_eq_false_iff_ne]; omega
  have w39 : (m.width == 39) = false := by rw [beq_eq_false_iff_ne]; omega
  have w0 : (m.width != 0) = true := by rw [bne_iff_ne]; omega
  have HK0 := Lib.hid hkd
  have HW0 := Lib.hid hwd
  have rm : Row (W.alloc (.cells (mdV m D dc).toArray 35)) W.heap.size 35 (mdV m D dc).toArray := Row.born W 35 _
  have hBB := (Below.refl W.heap.size W).alloc (Nat.le_refl _) (.cells (mdV m D dc).toArray 35)
  have hB := hBB
  clear hkd hwd
  go_enter Tryd.func36, Tryd.ntmps36
  go_upto_region 1 with (fail)
  obtain ⟨g0, hg0⟩ : ∃ g0, W.heap.size = g0 := ⟨_, rfl⟩
  rw [hg0] at rm
  simp only [hg0]
  obtain ⟨w0', hw0'⟩ : ∃ w0', W.alloc (.cells (mdV m D dc).toArray 35) = w0' := ⟨_, rfl⟩
  rw [hw0'] at rm hB hBB
  rw [hw0']
  clear hw0'
  obtain ⟨c0, c1, c2, c3, c4⟩ := md_cells rm
  cases hnb : nameB m.name
  · have HNB := Lib.hid hnb
    have HE := Lib.hid (show chkE m ms = 63 by unfold chkE; rw [hnb]; rfl)
    clear hnb
    go_wp2_with ((go_at_call 49; refine (rname_is HNB.out hnm _).mono ?_; rintro en w4 ⟨rfl, hw4⟩; subst w4))
    go_ret
    exact chk_mk HE.out hB
  have HNB := Lib.hid hnb
  have HE := Lib.hid (show chkE m ms = 6 by unfold chkE; rw [if_pos hnb, if_pos]; have h1 := HK0.out; have h2 := HW0.out; exact .inr (.inr (by unfold badW; simp [h1, h2])))
  clear hnb
  go_wp2_with ((go_at_call 49; refine (rname_is HNB.out hnm _).mono ?_; rintro en w4 ⟨rfl, hw4⟩; subst w4))
  go_ret
  exact chk_mk HE.out hB
set_option maxRecDepth 100000 in
set_option maxHeartbeats 8000000 in
theorem rchk_k3w32 (m : Md) (D : Option Addr) (dc : Nat) (ms : List Md) (A : Option Addr) (c : Nat) (W : World) (hM : IsMs W A ms.length ms) (hl : ms.length ≤ 1000000) (hnm : m.name.length ≤ 1000000000) (hdm : m.data.length ≤ 1000000000) (hkd : m.kind = 3) (hwd : m.width = 32) : Calls Tryd.prog 36 #[.agg (mdV m D dc).toArray, .slice A ms.length c] W (ChkP m ms W) := by
  have k1 : (m.kind == 1) = false := by rw [beq_eq_false_iff_ne]; omega
  have k3 : (m.kind == 3) = true := by rw [beq_iff_eq]; omega
  have k3n : (m.kind != 3) = false := by rw [bne_eq_false_iff_eq]; omega
  have kl : decide (m.kind < 1) = false := decide_eq_false (by omega)
  have kh : decide (3 < m.kind) = false := decide_eq_false (by omega)
  have w32 : (m.width == 32) = true := by rw [beq_iff_eq]; omega
  have w39 : (m.width == 39) = false := by rw [beq_eq_false_iff_ne]; omega
  have w0 : (m.width != 0) = true := by rw [bne_iff_ne]; omega
  have HK0 := Lib.hid hkd
  have HW0 := Lib.hid hwd
  have rm : Row (W.alloc (.cells (mdV m D dc).toArray 35)) W.heap.size 35 (mdV m D dc).toArray := Row.born W 35 _
  have hBB := (Below.refl W.heap.size W).alloc (Nat.le_refl _) (.cells (mdV m D dc).toArray 35)
  have hB := hBB
  clear hkd hwd
  go_enter Tryd.func36, Tryd.ntmps36
  go_upto_region 1 with (fail)
  obtain ⟨g0, hg0⟩ : ∃ g0, W.heap.size = g0 := ⟨_, rfl⟩
  rw [hg0] at rm
  simp only [hg0]
  obtain ⟨w0', hw0'⟩ : ∃ w0', W.alloc (.cells (mdV m D dc).toArray 35) = w0' := ⟨_, rfl⟩
  rw [hw0'] at rm hB hBB
  rw [hw0']
  clear hw0'
  obtain ⟨c0, c1, c2, c3, c4⟩ := md_cells rm
  cases hnb : nameB m.name
  · have HNB := Lib.hid hnb
    have HE := Lib.hid (show chkE m ms = 63 by unfold chkE; rw [hnb]; rfl)
    clear hnb
    go_wp2_with ((go_at_call 49; refine (rname_is HNB.out hnm _).mono ?_; rintro en w4 ⟨rfl, hw4⟩; subst w4))
    go_ret
    exact chk_mk HE.out hB
  have HNB := Lib.hid hnb
  have HE := Lib.hid (show chkE m ms = 6 by unfold chkE; rw [if_pos hnb, if_pos]; have h1 := HK0.out; have h2 := HW0.out; exact .inr (.inr (by unfold badW; simp [h1, h2])))
  clear hnb
  go_wp2_with ((go_at_call 49; refine (rname_is HNB.out hnm _).mono ?_; rintro en w4 ⟨rfl, hw4⟩; subst w4))
  go_ret
  exact chk_mk HE.out hB
set_option maxRecDepth 100000 in
set_option maxHeartbeats 8000000 in
theorem rchk_k3w39 (m : Md) (D : Option Addr) (dc : Nat) (ms : List Md) (A : Option Addr) (c : Nat) (W : World) (hM : IsMs W A ms.length ms) (hl : ms.length ≤ 1000000) (hnm : m.name.length ≤ 1000000000) (hdm : m.data.length ≤ 1000000000) (hkd : m.kind = 3) (hwd : m.width = 39) : Calls Tryd.prog 36 #[.agg (mdV m D dc).toArray, .slice A ms.length c] W (ChkP m ms W) := by
  have k1 : (m.kind == 1) = false := by rw [beq_eq_false_iff_ne]; omega
  have k3 : (m.kind == 3) = true := by rw [beq_iff_eq]; omega
  have k3n : (m.kind != 3) = false := by rw [bne_eq_false_iff_eq]; omega
  have kl : decide (m.kind < 1) = false := decide_eq_false (by omega)
  have kh : decide (3 < m.kind) = false := decide_eq_false (by omega)
  have w32 : (m.width == 32) = false := by rw [beq_eq_false_iff_ne]; omega
  have w39 : (m.width == 39) = true := by rw [beq_iff_eq]; omega
  have w0 : (m.width != 0) = true := by rw [bne_iff_ne]; omega
  have HK0 := Lib.hid hkd
  have HW0 := Lib.hid hwd
  have rm : Row (W.alloc (.cells (mdV m D dc).toArray 35)) W.heap.size 35 (mdV m D dc).toArray := Row.born W 35 _
  have hBB := (Below.refl W.heap.size W).alloc (Nat.le_refl _) (.cells (mdV m D dc).toArray 35)
  have hB := hBB
  clear hkd hwd
  go_enter Tryd.func36, Tryd.ntmps36
  go_upto_region 1 with (fail)
  obtain ⟨g0, hg0⟩ : ∃ g0, W.heap.size = g0 := ⟨_, rfl⟩
  rw [hg0] at rm
  simp only [hg0]
  obtain ⟨w0', hw0'⟩ : ∃ w0', W.alloc (.cells (mdV m D dc).toArray 35) = w0' := ⟨_, rfl⟩
  rw [hw0'] at rm hB hBB
  rw [hw0']
  clear hw0'
  obtain ⟨c0, c1, c2, c3, c4⟩ := md_cells rm
  cases hnb : nameB m.name
  · have HNB := Lib.hid hnb
    have HE := Lib.hid (show chkE m ms = 63 by unfold chkE; rw [hnb]; rfl)
    clear hnb
    go_wp2_with ((go_at_call 49; refine (rname_is HNB.out hnm _).mono ?_; rintro en w4 ⟨rfl, hw4⟩; subst w4))
    go_ret
    exact chk_mk HE.out hB
  have HNB := Lib.hid hnb
  have HE := Lib.hid (show chkE m ms = 6 by unfold chkE; rw [if_pos hnb, if_pos]; have h1 := HK0.out; have h2 := HW0.out; exact .inr (.inr (by unfold badW; simp [h1, h2])))
  clear hnb
  go_wp2_with ((go_at_call 49; refine (rname_is HNB.out hnm _).mono ?_; rintro en w4 ⟨rfl, hw4⟩; subst w4))
  go_ret
  exact chk_mk HE.out hB
set_option maxRecDepth 100000 in
set_option maxHeartbeats 8000000 in
theorem rchk_k3w0 (m : Md) (D : Option Addr) (dc : Nat) (ms : List Md) (A : Option Addr) (c : Nat) (W : World) (hM : IsMs W A ms.length ms) (hl : ms.length ≤ 1000000) (hnm : m.name.length ≤ 1000000000) (hdm : m.data.length ≤ 1000000000) (hkd : m.kind = 3) (hwd : m.width = 0) : Calls Tryd.prog 36 #[.agg (mdV m D dc).toArray, .slice A ms.length c] W (ChkP m ms W) := by
  have k1 : (m.kind == 1) = false := by rw [beq_eq_false_iff_ne]; omega
  have k3 : (m.kind == 3) = true := by rw [beq_iff_eq]; omega
  have k3n : (m.kind != 3) = false := by rw [bne_eq_false_iff_eq]; omega
  have kl : decide (m.kind < 1) = false := decide_eq_false (by omega)
  have kh : decide (3 < m.kind) = false := decide_eq_false (by omega)
  have w32 : (m.width == 32) = false := by rw [beq_eq_false_iff_ne]; omega
  have w39 : (m.width == 39) = false := by rw [beq_eq_false_iff_ne]; omega
  have w0 : (m.width != 0) = false := by rw [bne_eq_false_iff_eq]; omega
  have HK0 := Lib.hid hkd
  have HW0 := Lib.hid hwd
  have rm : Row (W.alloc (.cells (mdV m D dc).toArray 35)) W.heap.size 35 (mdV m D dc).toArray := Row.born W 35 _
  have hBB := (Below.refl W.heap.size W).alloc (Nat.le_refl _) (.cells (mdV m D dc).toArray 35)
  have hB := hBB
  clear hkd hwd
  go_enter Tryd.func36, Tryd.ntmps36
  go_upto_region 1 with (fail)
  obtain ⟨g0, hg0⟩ : ∃ g0, W.heap.size = g0 := ⟨_, rfl⟩
  rw [hg0] at rm
  simp only [hg0]
  obtain ⟨w0', hw0'⟩ : ∃ w0', W.alloc (.cells (mdV m D dc).toArray 35) = w0' := ⟨_, rfl⟩
  rw [hw0'] at rm hB hBB
  rw [hw0']
  clear hw0'
  obtain ⟨c0, c1, c2, c3, c4⟩ := md_cells rm
  cases hnb : nameB m.name
  · have HNB := Lib.hid hnb
    have HE := Lib.hid (show chkE m ms = 63 by unfold chkE; rw [hnb]; rfl)
    clear hnb
    go_wp2_with ((go_at_call 49; refine (rname_is HNB.out hnm _).mono ?_; rintro en w4 ⟨rfl, hw4⟩; subst w4))
    go_ret
    exact chk_mk HE.out hB
  have HNB := Lib.hid hnb
  have HR := Lib.hid (show ¬ (m.kind < 1 ∨ 3 < m.kind ∨ badW m = true) by have h1 := HK0.out; have h2 := HW0.out; unfold badW; simp [h1, h2])
  have HEN := Lib.hid (show entN m = 1 by unfold entN; rw [if_neg (by have := HK0.out; omega)])
  have HNE := Lib.hid hnb
  clear hnb
  have HNA := Lib.hid (show ¬ (m.kind = 1 ∧ (m.data.length = 0 ∨ m.data.length % 8 ≠ 0)) from fun h => by have := h.1; have := HK0.out; omega)
  by_cases he : m.entry < 0 ∨ 1 ≤ m.entry
  · have HE := Lib.hid (show chkE m ms = 6 by unfold chkE; rw [if_pos HNE.out, if_neg HR.out, if_neg HNA.out, if_pos (by rw [HEN.out]; exact he)])
    have y0 : (m.entry != 0) = true := by rw [bne_iff_ne]; omega
    clear he
    go_wp2_with ((go_at_call 49; refine (rname_is HNB.out hnm _).mono ?_; rintro en w4 ⟨rfl, hw4⟩; subst w4))
    go_ret
    exact chk_mk HE.out hB
  have y0 : (m.entry != 0) = false := by rw [bne_eq_false_iff_eq]; omega
  have HCH := Lib.hid (show (fndB ms m.name m.width = true → chkE m ms = 56) ∧ (fndB ms m.name m.width = false → chkE m ms = 0) from ⟨fun h => by unfold chkE; rw [if_pos HNE.out, if_neg HR.out, if_neg HNA.out, if_neg (by rw [HEN.out]; exact he), if_pos h], fun h => by unfold chkE; rw [if_pos HNE.out, if_neg HR.out, if_neg HNA.out, if_neg (by rw [HEN.out]; exact he), if_neg (by rw [h]; simp)]⟩)
  clear he
  go_upto_region 12 with (go_at_call 49; refine (rname_is HNB.out hnm _).mono ?_; rintro en w4 ⟨rfl, hw4⟩; subst w4)
  clear k1 k3 k3n kl kh w32 w39 w0
  go_loopw [7] (fun i wr => ∃ j : Nat, j ≤ ms.length ∧ i = .int .i64 j ∧ Below w0'.heap.size w0' wr ∧ ∀ i (hi : i < ms.length), i < j → mdIs m.name m.width ms[i] = false) (fun i _ => ms.length - (intOf i).toNat)
  case atStart => exact ⟨0, by omega, rfl, Below.refl _ _, fun i hi h => by omega⟩
  case round =>
    obtain ⟨j, hj, rfl, hbr, hall⟩ := hrel
    have HAL := Lib.hid hall
    clear hall
    rcases Nat.lt_or_ge j ms.length with hjl | hjl
    · have d1 : decide (j < ms.length) = true := decide_eq_true hjl
      have hji : (j : Int) < ms.length := by omega
      have hj0 : (0 : Int) ≤ (j : Int) := by omega
      obtain ⟨b0, o0, rfl, -⟩ := hM.2 (by omega)
      obtain ⟨Dj, dcj, q0, -, q2, -, -, -, -⟩ := hM.cell j hjl
      obtain ⟨x, hx⟩ : ∃ x, ms[j] = x := ⟨_, rfl⟩
      rw [hx] at q0 q2
      have HX := Lib.hid hx
      clear hx
      have HK := Lib.hid (fun (w : World) (hb : Below wr.heap.size wr w) => (show w.cell? ⟨b0, o0 + j * 5, none⟩ = some (.string (sv x.name)) ∧ w.cell? ⟨b0, o0 + j * 5 + 2, none⟩ = some (.int .i64 x.width) ∧ w.cell? ⟨g0, 0, none⟩ = some (.string (sv m.name)) ∧ w.cell? ⟨g0, 2, none⟩ = some (.int .i64 m.width) from
        ⟨(((hBB.trans (hbr.mono hBB.size)).trans (hb.mono (hBB.trans (hbr.mono hBB.size)).size)).cell (p := ⟨b0, o0 + j * 5, none⟩) (block_lt_of_cell q0)).trans q0, (((hBB.trans (hbr.mono hBB.size)).trans (hb.mono (hBB.trans (hbr.mono hBB.size)).size)).cell (p := ⟨b0, o0 + j * 5 + 2, none⟩) (block_lt_of_cell q2)).trans q2, (((hbr.trans (hb.mono hbr.size))).cell (p := ⟨g0, 0, none⟩) rm.lt).trans (rm.cell 0), (((hbr.trans (hb.mono hbr.size))).cell (p := ⟨g0, 2, none⟩) rm.lt).trans (rm.cell 2)⟩))
      go_upto_region 14 with (fail)
      by_cases hn : x.name = m.name
      · have hnb : (x.name == m.name) = true := by simpa using hn
        have hs1 : (sv x.name).toList = (sv m.name).toList := by rw [sv_list, sv_list, hn]
        by_cases hw : x.width = m.width
        · have HE := Lib.hid (HCH.out.1 (dup_at hjl (by rw [HX.out]; unfold mdIs; rw [hnb, hw]; simp)))
          have hwb : (x.width == m.width) = true := by simpa using hw
          clear hn hw
          refine wp_region_told (n := 116) (fun w9 => Below wr.heap.size wr w9) (fun _ _ => True) (by kernel_rfl) (by kernel_rfl) (by rfl) (Below.refl _ _).drew ?_
          refine walk_pure (v := ?_) (fun w => trivial) (fun _ => rfl) ?_ ?_; rotate_left; (focus (intro us w9 hS9 hF; clear hF; obtain ⟨h1, h2, h3, h4⟩ := HK.out w9 hS9; clear hS9; go_simp; (try with_reducible rfl); done)); simp only [Act.put, List.setIfInBounds_toArray, List.set_cons_zero, List.set_cons_succ, Nat.reduceAdd]
          refine walk_pure (v := ?_) (fun w => trivial) (fun _ => rfl) ?_ ?_; rotate_left; (focus (intro us w9 hS9 hF; clear hF; obtain ⟨h1, h2, h3, h4⟩ := HK.out w9 hS9; clear hS9; go_simp; (try with_reducible rfl); done)); simp only [Act.put, List.setIfInBounds_toArray, List.set_cons_zero, List.set_cons_succ, Nat.reduceAdd]
          refine walk_pure (v := ?_) (fun w => trivial) (fun _ => rfl) ?_ ?_; rotate_left; (focus (intro us w9 hS9 hF; clear hF; obtain ⟨h1, h2, h3, h4⟩ := HK.out w9 hS9; clear hS9; go_simp; (try with_reducible rfl); done)); simp only [Act.put, List.setIfInBounds_toArray, List.set_cons_zero, List.set_cons_succ, Nat.reduceAdd]
          refine walk_pure (v := ?_) (fun w => trivial) (fun _ => rfl) ?_ ?_; rotate_left; (focus (intro us w9 hS9 hF; clear hF; obtain ⟨h1, h2, h3, h4⟩ := HK.out w9 hS9; clear hS9; go_simp; (try with_reducible rfl); done)); simp only [Act.put, List.setIfInBounds_toArray, List.set_cons_zero, List.set_cons_succ, Nat.reduceAdd]
          refine walk_pure (v := ?_) (fun w => trivial) (fun _ => rfl) ?_ ?_; rotate_left; (focus (intro us w9 hS9 hF; clear hF; obtain ⟨h1, h2, h3, h4⟩ := HK.out w9 hS9; clear hS9; go_simp; (try with_reducible rfl); done)); simp only [Act.put, List.setIfInBounds_toArray, List.set_cons_zero, List.set_cons_succ, Nat.reduceAdd]
          refine walk_pure (v := ?_) (fun w => trivial) (fun _ => rfl) ?_ ?_; rotate_left; (focus (intro us w9 hS9 hF; clear hF; obtain ⟨h1, h2, h3, h4⟩ := HK.out w9 hS9; clear hS9; go_simp; (try with_reducible rfl); done)); simp only [Act.put, List.setIfInBounds_toArray, List.set_cons_zero, List.set_cons_succ, Nat.reduceAdd]
          refine walk_pure (v := ?_) (fun w => trivial) (fun _ => rfl) ?_ ?_; rotate_left; (focus (intro us w9 hS9 hF; clear hF; obtain ⟨h1, h2, h3, h4⟩ := HK.out w9 hS9; clear hS9; go_simp; (try with_reducible rfl); done)); simp only [Act.put, List.setIfInBounds_toArray, List.set_cons_zero, List.set_cons_succ, Nat.reduceAdd]
          refine walk_pure (v := .bool true) (fun w => trivial) (fun _ => rfl) ?_ ?_; (focus (intro us w9 hS9 hF; clear hF; obtain ⟨h1, h2, h3, h4⟩ := HK.out w9 hS9; clear hS9; go_simp; (try with_reducible rfl); done)); simp only [Act.put, List.setIfInBounds_toArray, List.set_cons_zero, List.set_cons_succ, Nat.reduceAdd]
          refine walk_pure (v := .bool true) (fun w => trivial) (fun _ => rfl) ?_ ?_; (focus (intro us w9 hS9 hF; clear hF; obtain ⟨h1, h2, h3, h4⟩ := HK.out w9 hS9; clear hS9; go_simp; (try with_reducible rfl); done)); simp only [Act.put, List.setIfInBounds_toArray, List.set_cons_zero, List.set_cons_succ, Nat.reduceAdd]
          refine walk_pure (v := ?_) (fun w => trivial) (fun _ => rfl) ?_ ?_; rotate_left; (focus (intro us w9 hS9 hF; clear hF; obtain ⟨h1, h2, h3, h4⟩ := HK.out w9 hS9; clear hS9; go_simp; (try with_reducible rfl); done)); simp only [Act.put, List.setIfInBounds_toArray, List.set_cons_zero, List.set_cons_succ, Nat.reduceAdd]
          refine walk_pure (v := ?_) (fun w => trivial) (fun _ => rfl) ?_ ?_; rotate_left; (focus (intro us w9 hS9 hF; clear hF; obtain ⟨h1, h2, h3, h4⟩ := HK.out w9 hS9; clear hS9; go_simp; (try with_reducible rfl); done)); simp only [Act.put, List.setIfInBounds_toArray, List.set_cons_zero, List.set_cons_succ, Nat.reduceAdd]
          refine walk_pure (v := ?_) (fun w => trivial) (fun _ => rfl) ?_ ?_; rotate_left; (focus (intro us w9 hS9 hF; clear hF; obtain ⟨h1, h2, h3, h4⟩ := HK.out w9 hS9; clear hS9; go_simp; (try with_reducible rfl); done)); simp only [Act.put, List.setIfInBounds_toArray, List.set_cons_zero, List.set_cons_succ, Nat.reduceAdd]
          refine walk_pure (v := ?_) (fun w => trivial) (fun _ => rfl) ?_ ?_; rotate_left; (focus (intro us w9 hS9 hF; clear hF; obtain ⟨h1, h2, h3, h4⟩ := HK.out w9 hS9; clear hS9; go_simp; (try with_reducible rfl); done)); simp only [Act.put, List.setIfInBounds_toArray, List.set_cons_zero, List.set_cons_succ, Nat.reduceAdd]
          refine walk_pure (v := ?_) (fun w => trivial) (fun _ => rfl) ?_ ?_; rotate_left; (focus (intro us w9 hS9 hF; clear hF; obtain ⟨h1, h2, h3, h4⟩ := HK.out w9 hS9; clear hS9; go_simp; (try with_reducible rfl); done)); simp only [Act.put, List.setIfInBounds_toArray, List.set_cons_zero, List.set_cons_succ, Nat.reduceAdd]
          refine walk_pure (v := ?_) (fun w => trivial) (fun _ => rfl) ?_ ?_; rotate_left; (focus (intro us w9 hS9 hF; clear hF; obtain ⟨h1, h2, h3, h4⟩ := HK.out w9 hS9; clear hS9; go_simp; (try with_reducible rfl); done)); simp only [Act.put, List.setIfInBounds_toArray, List.set_cons_zero, List.set_cons_succ, Nat.reduceAdd]
          refine walk_pure (v := ?_) (fun w => trivial) (fun _ => rfl) ?_ ?_; rotate_left; (focus (intro us w9 hS9 hF; clear hF; obtain ⟨h1, h2, h3, h4⟩ := HK.out w9 hS9; clear hS9; go_simp; (try with_reducible rfl); done)); simp only [Act.put, List.setIfInBounds_toArray, List.set_cons_zero, List.set_cons_succ, Nat.reduceAdd]
          refine walk_pure (v := .bool true) (fun w => trivial) (fun _ => rfl) ?_ ?_; (focus (intro us w9 hS9 hF; clear hF; obtain ⟨h1, h2, h3, h4⟩ := HK.out w9 hS9; clear hS9; go_simp; (try with_reducible rfl); done)); simp only [Act.put, List.setIfInBounds_toArray, List.set_cons_zero, List.set_cons_succ, Nat.reduceAdd]
          refine walk_pure (v := .bool true) (fun w => trivial) (fun _ => rfl) ?_ ?_; (focus (intro us w9 hS9 hF; clear hF; obtain ⟨h1, h2, h3, h4⟩ := HK.out w9 hS9; clear hS9; go_simp; (try with_reducible rfl); done)); simp only [Act.put, List.setIfInBounds_toArray, List.set_cons_zero, List.set_cons_succ, Nat.reduceAdd]
          refine walk_done fun us w9 hS9 hF => ?_
          clear hF
          have hB9 := hB.trans ((hbr.trans (hS9.mono hbr.size)).mono hB.size)
          go_wp2
          go_ret
          exact chk_mk HE.out hB9
        · have hwb : (x.width == m.width) = false := by simpa using hw
          have HNF := Lib.hid (show mdIs m.name m.width ms[j] = false by rw [HX.out]; unfold mdIs; rw [hwb]; simp)
          clear hn hw
          refine wp_region_told (n := 116) (fun w9 => Below wr.heap.size wr w9) (fun _ _ => True) (by kernel_rfl) (by kernel_rfl) (by rfl) (Below.refl _ _).drew ?_
          refine walk_pure (v := ?_) (fun w => trivial) (fun _ => rfl) ?_ ?_; rotate_left; (focus (intro us w9 hS9 hF; clear hF; obtain ⟨h1, h2, h3, h4⟩ := HK.out w9 hS9; clear hS9; go_simp; (try with_reducible rfl); done)); simp only [Act.put, List.setIfInBounds_toArray, List.set_cons_zero, List.set_cons_succ, Nat.reduceAdd]
          refine walk_pure (v := ?_) (fun w => trivial) (fun _ => rfl) ?_ ?_; rotate_left; (focus (intro us w9 hS9 hF; clear hF; obtain ⟨h1, h2, h3, h4⟩ := HK.out w9 hS9; clear hS9; go_simp; (try with_reducible rfl); done)); simp only [Act.put, List.setIfInBounds_toArray, List.set_cons_zero, List.set_cons_succ, Nat.reduceAdd]
          refine walk_pure (v := ?_) (fun w => trivial) (fun _ => rfl) ?_ ?_; rotate_left; (focus (intro us w9 hS9 hF; clear hF; obtain ⟨h1, h2, h3, h4⟩ := HK.out w9 hS9; clear hS9; go_simp; (try with_reducible rfl); done)); simp only [Act.put, List.setIfInBounds_toArray, List.set_cons_zero, List.set_cons_succ, Nat.reduceAdd]
          refine walk_pure (v := ?_) (fun w => trivial) (fun _ => rfl) ?_ ?_; rotate_left; (focus (intro us w9 hS9 hF; clear hF; obtain ⟨h1, h2, h3, h4⟩ := HK.out w9 hS9; clear hS9; go_simp; (try with_reducible rfl); done)); simp only [Act.put, List.setIfInBounds_toArray, List.set_cons_zero, List.set_cons_succ, Nat.reduceAdd]
          refine walk_pure (v := ?_) (fun w => trivial) (fun _ => rfl) ?_ ?_; rotate_left; (focus (intro us w9 hS9 hF; clear hF; obtain ⟨h1, h2, h3, h4⟩ := HK.out w9 hS9; clear hS9; go_simp; (try with_reducible rfl); done)); simp only [Act.put, List.setIfInBounds_toArray, List.set_cons_zero, List.set_cons_succ, Nat.reduceAdd]
          refine walk_pure (v := ?_) (fun w => trivial) (fun _ => rfl) ?_ ?_; rotate_left; (focus (intro us w9 hS9 hF; clear hF; obtain ⟨h1, h2, h3, h4⟩ := HK.out w9 hS9; clear hS9; go_simp; (try with_reducible rfl); done)); simp only [Act.put, List.setIfInBounds_toArray, List.set_cons_zero, List.set_cons_succ, Nat.reduceAdd]
          refine walk_pure (v := ?_) (fun w => trivial) (fun _ => rfl) ?_ ?_; rotate_left; (focus (intro us w9 hS9 hF; clear hF; obtain ⟨h1, h2, h3, h4⟩ := HK.out w9 hS9; clear hS9; go_simp; (try with_reducible rfl); done)); simp only [Act.put, List.setIfInBounds_toArray, List.set_cons_zero, List.set_cons_succ, Nat.reduceAdd]
          refine walk_pure (v := .bool true) (fun w => trivial) (fun _ => rfl) ?_ ?_; (focus (intro us w9 hS9 hF; clear hF; obtain ⟨h1, h2, h3, h4⟩ := HK.out w9 hS9; clear hS9; go_simp; (try with_reducible rfl); done)); simp only [Act.put, List.setIfInBounds_toArray, List.set_cons_zero, List.set_cons_succ, Nat.reduceAdd]
          refine walk_pure (v := .bool true) (fun w => trivial) (fun _ => rfl) ?_ ?_; (focus (intro us w9 hS9 hF; clear hF; obtain ⟨h1, h2, h3, h4⟩ := HK.out w9 hS9; clear hS9; go_simp; (try with_reducible rfl); done)); simp only [Act.put, List.setIfInBounds_toArray, List.set_cons_zero, List.set_cons_succ, Nat.reduceAdd]
          refine walk_pure (v := ?_) (fun w => trivial) (fun _ => rfl) ?_ ?_; rotate_left; (focus (intro us w9 hS9 hF; clear hF; obtain ⟨h1, h2, h3, h4⟩ := HK.out w9 hS9; clear hS9; go_simp; (try with_reducible rfl); done)); simp only [Act.put, List.setIfInBounds_toArray, List.set_cons_zero, List.set_cons_succ, Nat.reduceAdd]
          refine walk_pure (v := ?_) (fun w => trivial) (fun _ => rfl) ?_ ?_; rotate_left; (focus (intro us w9 hS9 hF; clear hF; obtain ⟨h1, h2, h3, h4⟩ := HK.out w9 hS9; clear hS9; go_simp; (try with_reducible rfl); done)); simp only [Act.put, List.setIfInBounds_toArray, List.set_cons_zero, List.set_cons_succ, Nat.reduceAdd]
          refine walk_pure (v := ?_) (fun w => trivial) (fun _ => rfl) ?_ ?_; rotate_left; (focus (intro us w9 hS9 hF; clear hF; obtain ⟨h1, h2, h3, h4⟩ := HK.out w9 hS9; clear hS9; go_simp; (try with_reducible rfl); done)); simp only [Act.put, List.setIfInBounds_toArray, List.set_cons_zero, List.set_cons_succ, Nat.reduceAdd]
          refine walk_pure (v := ?_) (fun w => trivial) (fun _ => rfl) ?_ ?_; rotate_left; (focus (intro us w9 hS9 hF; clear hF; obtain ⟨h1, h2, h3, h4⟩ := HK.out w9 hS9; clear hS9; go_simp; (try with_reducible rfl); done)); simp only [Act.put, List.setIfInBounds_toArray, List.set_cons_zero, List.set_cons_succ, Nat.reduceAdd]
          refine walk_pure (v := ?_) (fun w => trivial) (fun _ => rfl) ?_ ?_; rotate_left; (focus (intro us w9 hS9 hF; clear hF; obtain ⟨h1, h2, h3, h4⟩ := HK.out w9 hS9; clear hS9; go_simp; (try with_reducible rfl); done)); simp only [Act.put, List.setIfInBounds_toArray, List.set_cons_zero, List.set_cons_succ, Nat.reduceAdd]
          refine walk_pure (v := ?_) (fun w => trivial) (fun _ => rfl) ?_ ?_; rotate_left; (focus (intro us w9 hS9 hF; clear hF; obtain ⟨h1, h2, h3, h4⟩ := HK.out w9 hS9; clear hS9; go_simp; (try with_reducible rfl); done)); simp only [Act.put, List.setIfInBounds_toArray, List.set_cons_zero, List.set_cons_succ, Nat.reduceAdd]
          refine walk_pure (v := ?_) (fun w => trivial) (fun _ => rfl) ?_ ?_; rotate_left; (focus (intro us w9 hS9 hF; clear hF; obtain ⟨h1, h2, h3, h4⟩ := HK.out w9 hS9; clear hS9; go_simp; (try with_reducible rfl); done)); simp only [Act.put, List.setIfInBounds_toArray, List.set_cons_zero, List.set_cons_succ, Nat.reduceAdd]
          refine walk_pure (v := .bool false) (fun w => trivial) (fun _ => rfl) ?_ ?_; (focus (intro us w9 hS9 hF; clear hF; obtain ⟨h1, h2, h3, h4⟩ := HK.out w9 hS9; clear hS9; go_simp; (try with_reducible rfl); done)); simp only [Act.put, List.setIfInBounds_toArray, List.set_cons_zero, List.set_cons_succ, Nat.reduceAdd]
          refine walk_pure (v := .bool false) (fun w => trivial) (fun _ => rfl) ?_ ?_; (focus (intro us w9 hS9 hF; clear hF; obtain ⟨h1, h2, h3, h4⟩ := HK.out w9 hS9; clear hS9; go_simp; (try with_reducible rfl); done)); simp only [Act.put, List.setIfInBounds_toArray, List.set_cons_zero, List.set_cons_succ, Nat.reduceAdd]
          refine walk_done fun us w9 hS9 hF => ?_
          clear hF
          have hb9 := hbr.trans (hS9.mono hbr.size)
          go_wp2
          exact ⟨⟨j + 1, by omega, by go_num, hb9, fun i hi h => by rcases Nat.lt_or_ge i j with h9 | h9; exact HAL.out i hi h9; obtain rfl : i = j := (by omega); exact HNF.out⟩, by simp [intOf]; omega⟩
      · have hnb : (x.name == m.name) = false := by simpa using hn
        have hs1 : ((sv x.name).toList = (sv m.name).toList) = False := by rw [sv_list, sv_list]; exact eq_false hn
        have HNF := Lib.hid (show mdIs m.name m.width ms[j] = false by rw [HX.out]; unfold mdIs; rw [hnb]; rfl)
        clear hn
        refine wp_region_told (n := 116) (fun w9 => Below wr.heap.size wr w9) (fun _ _ => True) (by kernel_rfl) (by kernel_rfl) (by rfl) (Below.refl _ _).drew ?_
        refine walk_pure (v := ?_) (fun w => trivial) (fun _ => rfl) ?_ ?_; rotate_left; (focus (intro us w9 hS9 hF; clear hF; obtain ⟨h1, h2, h3, h4⟩ := HK.out w9 hS9; clear hS9; go_simp; (try with_reducible rfl); done)); simp only [Act.put, List.setIfInBounds_toArray, List.set_cons_zero, List.set_cons_succ, Nat.reduceAdd]
        refine walk_pure (v := ?_) (fun w => trivial) (fun _ => rfl) ?_ ?_; rotate_left; (focus (intro us w9 hS9 hF; clear hF; obtain ⟨h1, h2, h3, h4⟩ := HK.out w9 hS9; clear hS9; go_simp; (try with_reducible rfl); done)); simp only [Act.put, List.setIfInBounds_toArray, List.set_cons_zero, List.set_cons_succ, Nat.reduceAdd]
        refine walk_pure (v := ?_) (fun w => trivial) (fun _ => rfl) ?_ ?_; rotate_left; (focus (intro us w9 hS9 hF; clear hF; obtain ⟨h1, h2, h3, h4⟩ := HK.out w9 hS9; clear hS9; go_simp; (try with_reducible rfl); done)); simp only [Act.put, List.setIfInBounds_toArray, List.set_cons_zero, List.set_cons_succ, Nat.reduceAdd]
        refine walk_pure (v := ?_) (fun w => trivial) (fun _ => rfl) ?_ ?_; rotate_left; (focus (intro us w9 hS9 hF; clear hF; obtain ⟨h1, h2, h3, h4⟩ := HK.out w9 hS9; clear hS9; go_simp; (try with_reducible rfl); done)); simp only [Act.put, List.setIfInBounds_toArray, List.set_cons_zero, List.set_cons_succ, Nat.reduceAdd]
        refine walk_pure (v := ?_) (fun w => trivial) (fun _ => rfl) ?_ ?_; rotate_left; (focus (intro us w9 hS9 hF; clear hF; obtain ⟨h1, h2, h3, h4⟩ := HK.out w9 hS9; clear hS9; go_simp; (try with_reducible rfl); done)); simp only [Act.put, List.setIfInBounds_toArray, List.set_cons_zero, List.set_cons_succ, Nat.reduceAdd]
        refine walk_pure (v := ?_) (fun w => trivial) (fun _ => rfl) ?_ ?_; rotate_left; (focus (intro us w9 hS9 hF; clear hF; obtain ⟨h1, h2, h3, h4⟩ := HK.out w9 hS9; clear hS9; go_simp; (try with_reducible rfl); done)); simp only [Act.put, List.setIfInBounds_toArray, List.set_cons_zero, List.set_cons_succ, Nat.reduceAdd]
        refine walk_pure (v := ?_) (fun w => trivial) (fun _ => rfl) ?_ ?_; rotate_left; (focus (intro us w9 hS9 hF; clear hF; obtain ⟨h1, h2, h3, h4⟩ := HK.out w9 hS9; clear hS9; go_simp; (try with_reducible rfl); done)); simp only [Act.put, List.setIfInBounds_toArray, List.set_cons_zero, List.set_cons_succ, Nat.reduceAdd]
        refine walk_pure (v := .bool false) (fun w => trivial) (fun _ => rfl) ?_ ?_; (focus (intro us w9 hS9 hF; clear hF; obtain ⟨h1, h2, h3, h4⟩ := HK.out w9 hS9; clear hS9; go_simp; (try with_reducible rfl); done)); simp only [Act.put, List.setIfInBounds_toArray, List.set_cons_zero, List.set_cons_succ, Nat.reduceAdd]
        refine walk_pure (v := .bool false) (fun w => trivial) (fun _ => rfl) ?_ ?_; (focus (intro us w9 hS9 hF; clear hF; obtain ⟨h1, h2, h3, h4⟩ := HK.out w9 hS9; clear hS9; go_simp; (try with_reducible rfl); done)); simp only [Act.put, List.setIfInBounds_toArray, List.set_cons_zero, List.set_cons_succ, Nat.reduceAdd]
        refine walk_skip (fun w => trivial) (fun _ => rfl) ?_; simp only [Act.put, List.setIfInBounds_toArray, List.set_cons_zero, List.set_cons_succ, Nat.reduceAdd]
        refine walk_skip (fun w => trivial) (fun _ => rfl) ?_; simp only [Act.put, List.setIfInBounds_toArray, List.set_cons_zero, List.set_cons_succ, Nat.reduceAdd]
        refine walk_skip (fun w => trivial) (fun _ => rfl) ?_; simp only [Act.put, List.setIfInBounds_toArray, List.set_cons_zero, List.set_cons_succ, Nat.reduceAdd]
        refine walk_skip (fun w => trivial) (fun _ => rfl) ?_; simp only [Act.put, List.setIfInBounds_toArray, List.set_cons_zero, List.set_cons_succ, Nat.reduceAdd]
        refine walk_skip (fun w => trivial) (fun _ => rfl) ?_; simp only [Act.put, List.setIfInBounds_toArray, List.set_cons_zero, List.set_cons_succ, Nat.reduceAdd]
        refine walk_skip (fun w => trivial) (fun _ => rfl) ?_; simp only [Act.put, List.setIfInBounds_toArray, List.set_cons_zero, List.set_cons_succ, Nat.reduceAdd]
        refine walk_skip (fun w => trivial) (fun _ => rfl) ?_; simp only [Act.put, List.setIfInBounds_toArray, List.set_cons_zero, List.set_cons_succ, Nat.reduceAdd]
        refine walk_skip (fun w => trivial) (fun _ => rfl) ?_; simp only [Act.put, List.setIfInBounds_toArray, List.set_cons_zero, List.set_cons_succ, Nat.reduceAdd]
        refine walk_pure (v := .bool false) (fun w => trivial) (fun _ => rfl) ?_ ?_; (focus (intro us w9 hS9 hF; clear hF; obtain ⟨h1, h2, h3, h4⟩ := HK.out w9 hS9; clear hS9; go_simp; (try with_reducible rfl); done)); simp only [Act.put, List.setIfInBounds_toArray, List.set_cons_zero, List.set_cons_succ, Nat.reduceAdd]
        refine walk_done fun us w9 hS9 hF => ?_
        clear hF
        have hb9 := hbr.trans (hS9.mono hbr.size)
        go_wp2
        exact ⟨⟨j + 1, by omega, by go_num, hb9, fun i hi h => by rcases Nat.lt_or_ge i j with h9 | h9; exact HAL.out i hi h9; obtain rfl : i = j := (by omega); exact HNF.out⟩, by simp [intOf]; omega⟩
    · obtain rfl : j = ms.length := by omega
      have d1 : decide (ms.length < ms.length) = false := by simp
      have HE := Lib.hid (HCH.out.2 (dup_no fun i hi => HAL.out i hi hi))
      go_wp2
      go_ret
      exact chk_mk HE.out (hB.trans (hbr.mono hB.size))
set_option maxRecDepth 100000 in
set_option maxHeartbeats 8000000 in
theorem rchk_k3wx (m : Md) (D : Option Addr) (dc : Nat) (ms : List Md) (A : Option Addr) (c : Nat) (W : World) (hM : IsMs W A ms.length ms) (hl : ms.length ≤ 1000000) (hnm : m.name.length ≤ 1000000000) (hdm : m.data.length ≤ 1000000000) (hkd : m.kind = 3) (hwd : (m.width ≠ 32 ∧ m.width ≠ 39 ∧ m.width ≠ 0)) : Calls Tryd.prog 36 #[.agg (mdV m D dc).toArray, .slice A ms.length c] W (ChkP m ms W) := by
  have k1 : (m.kind == 1) = false := by rw [beq_eq_false_iff_ne]; omega
  have k3 : (m.kind == 3) = true := by rw [beq_iff_eq]; omega
  have k3n : (m.kind != 3) = false := by rw [bne_eq_false_iff_eq]; omega
  have kl : decide (m.kind < 1) = false := decide_eq_false (by omega)
  have kh : decide (3 < m.kind) = false := decide_eq_false (by omega)
  have w32 : (m.width == 32) = false := by rw [beq_eq_false_iff_ne]; omega
  have w39 : (m.width == 39) = false := by rw [beq_eq_false_iff_ne]; omega
  have w0 : (m.width != 0) = true := by rw [bne_iff_ne]; omega
  have HK0 := Lib.hid hkd
  have HW0 := Lib.hid hwd
  have rm : Row (W.alloc (.cells (mdV m D dc).toArray 35)) W.heap.size 35 (mdV m D dc).toArray := Row.born W 35 _
  have hBB := (Below.refl W.heap.size W).alloc (Nat.le_refl _) (.cells (mdV m D dc).toArray 35)
  have hB := hBB
  clear hkd hwd
  go_enter Tryd.func36, Tryd.ntmps36
  go_upto_region 1 with (fail)
  obtain ⟨g0, hg0⟩ : ∃ g0, W.heap.size = g0 := ⟨_, rfl⟩
  rw [hg0] at rm
  simp only [hg0]
  obtain ⟨w0', hw0'⟩ : ∃ w0', W.alloc (.cells (mdV m D dc).toArray 35) = w0' := ⟨_, rfl⟩
  rw [hw0'] at rm hB hBB
  rw [hw0']
  clear hw0'
  obtain ⟨c0, c1, c2, c3, c4⟩ := md_cells rm
  cases hnb : nameB m.name
  · have HNB := Lib.hid hnb
    have HE := Lib.hid (show chkE m ms = 63 by unfold chkE; rw [hnb]; rfl)
    clear hnb
    go_wp2_with ((go_at_call 49; refine (rname_is HNB.out hnm _).mono ?_; rintro en w4 ⟨rfl, hw4⟩; subst w4))
    go_ret
    exact chk_mk HE.out hB
  have HNB := Lib.hid hnb
  have HE := Lib.hid (show chkE m ms = 6 by unfold chkE; rw [if_pos hnb, if_pos]; have h1 := HK0.out; have h2 := HW0.out; exact .inr (.inr (by unfold badW; simp [h1, h2])))
  clear hnb
  go_wp2_with ((go_at_call 49; refine (rname_is HNB.out hnm _).mono ?_; rintro en w4 ⟨rfl, hw4⟩; subst w4))
  go_ret
  exact chk_mk HE.out hB
set_option maxRecDepth 100000 in
set_option maxHeartbeats 8000000 in
theorem rchk_khiw32 (m : Md) (D : Option Addr) (dc : Nat) (ms : List Md) (A : Option Addr) (c : Nat) (W : World) (hM : IsMs W A ms.length ms) (hl : ms.length ≤ 1000000) (hnm : m.name.length ≤ 1000000000) (hdm : m.data.length ≤ 1000000000) (hkd : 3 < m.kind) (hwd : m.width = 32) : Calls Tryd.prog 36 #[.agg (mdV m D dc).toArray, .slice A ms.length c] W (ChkP m ms W) := by
  have k1 : (m.kind == 1) = false := by rw [beq_eq_false_iff_ne]; omega
  have k3 : (m.kind == 3) = false := by rw [beq_eq_false_iff_ne]; omega
  have k3n : (m.kind != 3) = true := by rw [bne_iff_ne]; omega
  have kl : decide (m.kind < 1) = false := decide_eq_false (by omega)
  have kh : decide (3 < m.kind) = true := decide_eq_true (by omega)
  have w32 : (m.width == 32) = true := by rw [beq_iff_eq]; omega
  have w39 : (m.width == 39) = false := by rw [beq_eq_false_iff_ne]; omega
  have w0 : (m.width != 0) = true := by rw [bne_iff_ne]; omega
  have HK0 := Lib.hid hkd
  have HW0 := Lib.hid hwd
  have rm : Row (W.alloc (.cells (mdV m D dc).toArray 35)) W.heap.size 35 (mdV m D dc).toArray := Row.born W 35 _
  have hBB := (Below.refl W.heap.size W).alloc (Nat.le_refl _) (.cells (mdV m D dc).toArray 35)
  have hB := hBB
  clear hkd hwd
  go_enter Tryd.func36, Tryd.ntmps36
  go_upto_region 1 with (fail)
  obtain ⟨g0, hg0⟩ : ∃ g0, W.heap.size = g0 := ⟨_, rfl⟩
  rw [hg0] at rm
  simp only [hg0]
  obtain ⟨w0', hw0'⟩ : ∃ w0', W.alloc (.cells (mdV m D dc).toArray 35) = w0' := ⟨_, rfl⟩
  rw [hw0'] at rm hB hBB
  rw [hw0']
  clear hw0'
  obtain ⟨c0, c1, c2, c3, c4⟩ := md_cells rm
  cases hnb : nameB m.name
  · have HNB := Lib.hid hnb
    have HE := Lib.hid (show chkE m ms = 63 by unfold chkE; rw [hnb]; rfl)
    clear hnb
    go_wp2_with ((go_at_call 49; refine (rname_is HNB.out hnm _).mono ?_; rintro en w4 ⟨rfl, hw4⟩; subst w4))
    go_ret
    exact chk_mk HE.out hB
  have HNB := Lib.hid hnb
  have HE := Lib.hid (show chkE m ms = 6 by unfold chkE; rw [if_pos hnb, if_pos]; have h1 := HK0.out; have h2 := HW0.out; exact .inr (.inl h1))
  clear hnb
  go_wp2_with ((go_at_call 49; refine (rname_is HNB.out hnm _).mono ?_; rintro en w4 ⟨rfl, hw4⟩; subst w4))
  go_ret
  exact chk_mk HE.out hB
set_option maxRecDepth 100000 in
set_option maxHeartbeats 8000000 in
theorem rchk_khiw39 (m : Md) (D : Option Addr) (dc : Nat) (ms : List Md) (A : Option Addr) (c : Nat) (W : World) (hM : IsMs W A ms.length ms) (hl : ms.length ≤ 1000000) (hnm : m.name.length ≤ 1000000000) (hdm : m.data.length ≤ 1000000000) (hkd : 3 < m.kind) (hwd : m.width = 39) : Calls Tryd.prog 36 #[.agg (mdV m D dc).toArray, .slice A ms.length c] W (ChkP m ms W) := by
  have k1 : (m.kind == 1) = false := by rw [beq_eq_false_iff_ne]; omega
  have k3 : (m.kind == 3) = false := by rw [beq_eq_false_iff_ne]; omega
  have k3n : (m.kind != 3) = true := by rw [bne_iff_ne]; omega
  have kl : decide (m.kind < 1) = false := decide_eq_false (by omega)
  have kh : decide (3 < m.kind) = true := decide_eq_true (by omega)
  have w32 : (m.width == 32) = false := by rw [beq_eq_false_iff_ne]; omega
  have w39 : (m.width == 39) = true := by rw [beq_iff_eq]; omega
  have w0 : (m.width != 0) = true := by rw [bne_iff_ne]; omega
  have HK0 := Lib.hid hkd
  have HW0 := Lib.hid hwd
  have rm : Row (W.alloc (.cells (mdV m D dc).toArray 35)) W.heap.size 35 (mdV m D dc).toArray := Row.born W 35 _
  have hBB := (Below.refl W.heap.size W).alloc (Nat.le_refl _) (.cells (mdV m D dc).toArray 35)
  have hB := hBB
  clear hkd hwd
  go_enter Tryd.func36, Tryd.ntmps36
  go_upto_region 1 with (fail)
  obtain ⟨g0, hg0⟩ : ∃ g0, W.heap.size = g0 := ⟨_, rfl⟩
  rw [hg0] at rm
  simp only [hg0]
  obtain ⟨w0', hw0'⟩ : ∃ w0', W.alloc (.cells (mdV m D dc).toArray 35) = w0' := ⟨_, rfl⟩
  rw [hw0'] at rm hB hBB
  rw [hw0']
  clear hw0'
  obtain ⟨c0, c1, c2, c3, c4⟩ := md_cells rm
  cases hnb : nameB m.name
  · have HNB := Lib.hid hnb
    have HE := Lib.hid (show chkE m ms = 63 by unfold chkE; rw [hnb]; rfl)
    clear hnb
    go_wp2_with ((go_at_call 49; refine (rname_is HNB.out hnm _).mono ?_; rintro en w4 ⟨rfl, hw4⟩; subst w4))
    go_ret
    exact chk_mk HE.out hB
  have HNB := Lib.hid hnb
  have HE := Lib.hid (show chkE m ms = 6 by unfold chkE; rw [if_pos hnb, if_pos]; have h1 := HK0.out; have h2 := HW0.out; exact .inr (.inl h1))
  clear hnb
  go_wp2_with ((go_at_call 49; refine (rname_is HNB.out hnm _).mono ?_; rintro en w4 ⟨rfl, hw4⟩; subst w4))
  go_ret
  exact chk_mk HE.out hB
set_option maxRecDepth 100000 in
set_option maxHeartbeats 8000000 in
theorem rchk_khiw0 (m : Md) (D : Option Addr) (dc : Nat) (ms : List Md) (A : Option Addr) (c : Nat) (W : World) (hM : IsMs W A ms.length ms) (hl : ms.length ≤ 1000000) (hnm : m.name.length ≤ 1000000000) (hdm : m.data.length ≤ 1000000000) (hkd : 3 < m.kind) (hwd : m.width = 0) : Calls Tryd.prog 36 #[.agg (mdV m D dc).toArray, .slice A ms.length c] W (ChkP m ms W) := by
  have k1 : (m.kind == 1) = false := by rw [beq_eq_false_iff_ne]; omega
  have k3 : (m.kind == 3) = false := by rw [beq_eq_false_iff_ne]; omega
  have k3n : (m.kind != 3) = true := by rw [bne_iff_ne]; omega
  have kl : decide (m.kind < 1) = false := decide_eq_false (by omega)
  have kh : decide (3 < m.kind) = true := decide_eq_true (by omega)
  have w32 : (m.width == 32) = false := by rw [beq_eq_false_iff_ne]; omega
  have w39 : (m.width == 39) = false := by rw [beq_eq_false_iff_ne]; omega
  have w0 : (m.width != 0) = false := by rw [bne_eq_false_iff_eq]; omega
  have HK0 := Lib.hid hkd
  have HW0 := Lib.hid hwd
  have rm : Row (W.alloc (.cells (mdV m D dc).toArray 35)) W.heap.size 35 (mdV m D dc).toArray := Row.born W 35 _
  have hBB := (Below.refl W.heap.size W).alloc (Nat.le_refl _) (.cells (mdV m D dc).toArray 35)
  have hB := hBB
  clear hkd hwd
  go_enter Tryd.func36, Tryd.ntmps36
  go_upto_region 1 with (fail)
  obtain ⟨g0, hg0⟩ : ∃ g0, W.heap.size = g0 := ⟨_, rfl⟩
  rw [hg0] at rm
  simp only [hg0]
  obtain ⟨w0', hw0'⟩ : ∃ w0', W.alloc (.cells (mdV m D dc).toArray 35) = w0' := ⟨_, rfl⟩
  rw [hw0'] at rm hB hBB
  rw [hw0']
  clear hw0'
  obtain ⟨c0, c1, c2, c3, c4⟩ := md_cells rm
  cases hnb : nameB m.name
  · have HNB := Lib.hid hnb
    have HE := Lib.hid (show chkE m ms = 63 by unfold chkE; rw [hnb]; rfl)
    clear hnb
    go_wp2_with ((go_at_call 49; refine (rname_is HNB.out hnm _).mono ?_; rintro en w4 ⟨rfl, hw4⟩; subst w4))
    go_ret
    exact chk_mk HE.out hB
  have HNB := Lib.hid hnb
  have HE := Lib.hid (show chkE m ms = 6 by unfold chkE; rw [if_pos hnb, if_pos]; have h1 := HK0.out; have h2 := HW0.out; exact .inr (.inl h1))
  clear hnb
  go_wp2_with ((go_at_call 49; refine (rname_is HNB.out hnm _).mono ?_; rintro en w4 ⟨rfl, hw4⟩; subst w4))
  go_ret
  exact chk_mk HE.out hB
set_option maxRecDepth 100000 in
set_option maxHeartbeats 8000000 in
theorem rchk_khiwx (m : Md) (D : Option Addr) (dc : Nat) (ms : List Md) (A : Option Addr) (c : Nat) (W : World) (hM : IsMs W A ms.length ms) (hl : ms.length ≤ 1000000) (hnm : m.name.length ≤ 1000000000) (hdm : m.data.length ≤ 1000000000) (hkd : 3 < m.kind) (hwd : (m.width ≠ 32 ∧ m.width ≠ 39 ∧ m.width ≠ 0)) : Calls Tryd.prog 36 #[.agg (mdV m D dc).toArray, .slice A ms.length c] W (ChkP m ms W) := by
  have k1 : (m.kind == 1) = false := by rw [beq_eq_false_iff_ne]; omega
  have k3 : (m.kind == 3) = false := by rw [beq_eq_false_iff_ne]; omega
  have k3n : (m.kind != 3) = true := by rw [bne_iff_ne]; omega
  have kl : decide (m.kind < 1) = false := decide_eq_false (by omega)
  have kh : decide (3 < m.kind) = true := decide_eq_true (by omega)
  have w32 : (m.width == 32) = false := by rw [beq_eq_false_iff_ne]; omega
  have w39 : (m.width == 39) = false := by rw [beq_eq_false_iff_ne]; omega
  have w0 : (m.width != 0) = true := by rw [bne_iff_ne]; omega
  have HK0 := Lib.hid hkd
  have HW0 := Lib.hid hwd
  have rm : Row (W.alloc (.cells (mdV m D dc).toArray 35)) W.heap.size 35 (mdV m D dc).toArray := Row.born W 35 _
  have hBB := (Below.refl W.heap.size W).alloc (Nat.le_refl _) (.cells (mdV m D dc).toArray 35)
  have hB := hBB
  clear hkd hwd
  go_enter Tryd.func36, Tryd.ntmps36
  go_upto_region 1 with (fail)
  obtain ⟨g0, hg0⟩ : ∃ g0, W.heap.size = g0 := ⟨_, rfl⟩
  rw [hg0] at rm
  simp only [hg0]
  obtain ⟨w0', hw0'⟩ : ∃ w0', W.alloc (.cells (mdV m D dc).toArray 35) = w0' := ⟨_, rfl⟩
  rw [hw0'] at rm hB hBB
  rw [hw0']
  clear hw0'
  obtain ⟨c0, c1, c2, c3, c4⟩ := md_cells rm
  cases hnb : nameB m.name
  · have HNB := Lib.hid hnb
    have HE := Lib.hid (show chkE m ms = 63 by unfold chkE; rw [hnb]; rfl)
    clear hnb
    go_wp2_with ((go_at_call 49; refine (rname_is HNB.out hnm _).mono ?_; rintro en w4 ⟨rfl, hw4⟩; subst w4))
    go_ret
    exact chk_mk HE.out hB
  have HNB := Lib.hid hnb
  have HE := Lib.hid (show chkE m ms = 6 by unfold chkE; rw [if_pos hnb, if_pos]; have h1 := HK0.out; have h2 := HW0.out; exact .inr (.inl h1))
  clear hnb
  go_wp2_with ((go_at_call 49; refine (rname_is HNB.out hnm _).mono ?_; rintro en w4 ⟨rfl, hw4⟩; subst w4))
  go_ret
  exact chk_mk HE.out hB
theorem rchk (m : Md) (D : Option Addr) (dc : Nat) (ms : List Md) (A : Option Addr) (c : Nat) (W : World) (hM : IsMs W A ms.length ms) (hl : ms.length ≤ 1000000) (hnm : m.name.length ≤ 1000000000) (hdm : m.data.length ≤ 1000000000) : Calls Tryd.prog 36 #[.agg (mdV m D dc).toArray, .slice A ms.length c] W (ChkP m ms W) := by
  rcases (by omega : m.kind < 1 ∨ m.kind = 1 ∨ m.kind = 2 ∨ m.kind = 3 ∨ 3 < m.kind) with hk | hk | hk | hk | hk <;> rcases (by omega : m.width = 32 ∨ m.width = 39 ∨ m.width = 0 ∨ (m.width ≠ 32 ∧ m.width ≠ 39 ∧ m.width ≠ 0)) with hw | hw | hw | hw
  · exact rchk_klow32 m D dc ms A c W hM hl hnm hdm hk hw
  · exact rchk_klow39 m D dc ms A c W hM hl hnm hdm hk hw
  · exact rchk_klow0 m D dc ms A c W hM hl hnm hdm hk hw
  · exact rchk_klowx m D dc ms A c W hM hl hnm hdm hk hw
  · exact rchk_k1w32 m D dc ms A c W hM hl hnm hdm hk hw
  · exact rchk_k1w39 m D dc ms A c W hM hl hnm hdm hk hw
  · exact rchk_k1w0 m D dc ms A c W hM hl hnm hdm hk hw
  · exact rchk_k1wx m D dc ms A c W hM hl hnm hdm hk hw
  · exact rchk_k2w32 m D dc ms A c W hM hl hnm hdm hk hw
  · exact rchk_k2w39 m D dc ms A c W hM hl hnm hdm hk hw
  · exact rchk_k2w0 m D dc ms A c W hM hl hnm hdm hk hw
  · exact rchk_k2wx m D dc ms A c W hM hl hnm hdm hk hw
  · exact rchk_k3w32 m D dc ms A c W hM hl hnm hdm hk hw
  · exact rchk_k3w39 m D dc ms A c W hM hl hnm hdm hk hw
  · exact rchk_k3w0 m D dc ms A c W hM hl hnm hdm hk hw
  · exact rchk_k3wx m D dc ms A c W hM hl hnm hdm hk hw
  · exact rchk_khiw32 m D dc ms A c W hM hl hnm hdm hk hw
  · exact rchk_khiw39 m D dc ms A c W hM hl hnm hdm hk hw
  · exact rchk_khiw0 m D dc ms A c W hM hl hnm hdm hk hw
  · exact rchk_khiwx m D dc ms A c W hM hl hnm hdm hk hw
end Go.Proofs.YtigbmlgllgcbhaaDoor
