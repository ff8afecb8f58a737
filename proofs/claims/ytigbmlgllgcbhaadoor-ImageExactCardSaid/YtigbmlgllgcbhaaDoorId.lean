/- Image: check. -/
import Derived.Test.YtigbmlgllgcbhaaDoorIc
namespace Go.Proofs.YtigbmlgllgcbhaaDoor
open Go.RowKit
set_option linter.unusedVariables false
set_option linter.unusedSimpArgs false
def badW (m : Md) : Bool := if m.kind = 3 then m.width != 0 else (m.width != 32 && m.width != 39)
def entN (m : Md) : Int := if m.kind = 1 then ((m.data.length / 8 : Nat) : Int) else 1
/-- The error of a module, the modules ahead of it being given. -/
def chkE (m : Md) (before : List Md) : Int :=
  if nameB m.name = true then (if m.kind < 1 ∨ 3 < m.kind ∨ badW m = true then 6 else if m.kind = 1 ∧ (m.data.length = 0 ∨ m.data.length % 8 ≠ 0) then 59 else if m.entry < 0 ∨ entN m ≤ m.entry then 6 else if fndB before m.name m.width = true then 56 else 0) else 63
def ChkP (m : Md) (before : List Md) (W : World) (en : Ending) (W' : World) : Prop := en = .returned (.int .i64 (chkE m before)) ∧ Below W.heap.size W W'
theorem chk_mk {m : Md} {before : List Md} {E : Int} (h : chkE m before = E) {W W' : World} (hb : Below W.heap.size W W') : ChkP m before W (.returned (.int .i64 E)) W' := ⟨by rw [h], hb⟩
theorem name_is {bs : List UInt8} {b : Bool} (h : nameB bs = b) (hl : bs.length ≤ 1000000000) (W : World) : Calls Tryd.prog 41 #[.string (sv bs)] W (fun en W' => en = .returned (.bool b) ∧ W' = W) := by
  subst h
  exact name41 bs W hl
theorem find_is {ms : List Md} {nm : List UInt8} {wd x : Int} {b : Bool} (h : fndK ms nm wd = x ∧ fndB ms nm wd = b) (A : Option Addr) (n c : Nat) (hn : n = ms.length) (W : World) (hM : IsMs W A n ms) (hl : ms.length ≤ 1000000) : Calls Tryd.prog 20 #[.slice A n c, .string (sv nm), .int .i64 wd] W (fun en W' => en = .returned (.tuple #[.int .i64 x, .bool b]) ∧ Below W.heap.size W W') := by
  subst hn
  obtain ⟨rfl, rfl⟩ := h
  exact find20 ms A c nm wd W hM hl
theorem tdiv8 (n : Nat) : (n : Int).tdiv 8 = ((n / 8 : Nat) : Int) := by rw [Int.tdiv_eq_ediv_of_nonneg (by omega)]; omega
theorem tmod8 (n : Nat) : (n : Int).tmod 8 = ((n % 8 : Nat) : Int) := by rw [Int.tmod_eq_emod_of_nonneg (by omega)]; omega
set_option maxRecDepth 100000 in
set_option maxHeartbeats 8000000 in
theorem chk_klow32 (ms : List Md) (A : Option Addr) (c k : Nat) (W : World) (hM : IsMs W A ms.length ms) (hc : ms.length ≤ c) (hl : ms.length ≤ 1000000) (hk : k < ms.length) (hnl : ∀ m ∈ ms, m.name.length ≤ 1000000000) (hdl : ∀ m ∈ ms, m.data.length ≤ 1000000000) (hkd : ms[k].kind < 1) (hwd : ms[k].width = 32) : Calls Tryd.prog 25 #[.slice A ms.length c, .int .i64 k] W (ChkP ms[k] (ms.take k) W) := by
  have hnm := hnl _ (List.getElem_mem hk)
  have hdm := hdl _ (List.getElem_mem hk)
  obtain ⟨b, o, hA, hc'⟩ := hM.2 (by omega)
  subst hA
  obtain ⟨D, dc, hrg, -, -⟩ := hc' k hk
  obtain ⟨m, hm⟩ : ∃ m, ms[k] = m := ⟨_, rfl⟩
  rw [hm] at hrg hkd hwd hnm hdm ⊢
  have hrg2 : W.rangeAt b (o + k * 5) (mdV m D dc).toArray.toList := by simpa using hrg
  have k1 : (m.kind == 1) = false := by rw [beq_eq_false_iff_ne]; omega
  have k3 : (m.kind == 3) = false := by rw [beq_eq_false_iff_ne]; omega
  have kl : decide (m.kind < 1) = true := decide_eq_true (by omega)
  have kh : decide (3 < m.kind) = false := decide_eq_false (by omega)
  have w32 : (m.width != 32) = false := by rw [bne_eq_false_iff_eq]; omega
  have w39 : (m.width != 39) = true := by rw [bne_iff_ne]; omega
  have w0 : (m.width != 0) = true := by rw [bne_iff_ne]; omega
  have HK := Lib.hid hkd
  have HW := Lib.hid hwd
  have hki : (k : Int) < ms.length := by omega
  have hk0 : (0 : Int) ≤ (k : Int) := by omega
  clear hkd hwd hc' hm hrg
  go_enter Tryd.func25, Tryd.ntmps25
  go_upto_region 2 with (first | ((with_reducible refine wp_load_g ?_ hrg2 Tryd.underlying35 rfl (info35 _ _ _) ?_ ?_); rfl; rfl) | ((with_reducible refine wp_row_store (L := (mdV m D dc).toArray) (Row.bornAt (g := W.heap.size) rfl 35 _) ?_ (info35 _ _ _) (mdV_one _ _ _) ?_ ?_ ?_); rfl; rfl; rfl; intro w3 u3 r3))
  have hB := Upd.below ((Below.refl W.heap.size W).alloc (Nat.le_refl _) (.cells ZM 35)) u3 (Nat.le_refl _)
  obtain ⟨c0, c1, c2, c3, c4⟩ := md_cells r3
  clear u3 hrg2
  cases hnb : nameB m.name
  · have HNB := Lib.hid hnb
    have HE := Lib.hid (show chkE m (ms.take k) = 63 by unfold chkE; rw [hnb]; rfl)
    clear hnb
    go_wp2_with ((go_at_call 41; refine (name_is HNB.out hnm _).mono ?_; rintro en w4 ⟨rfl, hw4⟩; subst w4))
    go_ret
    exact chk_mk HE.out hB
  have HNB := Lib.hid hnb
  have HE := Lib.hid (show chkE m (ms.take k) = 6 by unfold chkE; rw [if_pos hnb, if_pos]; have h1 := HK.out; have h2 := HW.out; exact .inl h1)
  clear hnb
  go_wp2_with ((go_at_call 41; refine (name_is HNB.out hnm _).mono ?_; rintro en w4 ⟨rfl, hw4⟩; subst w4))
  go_ret
  exact chk_mk HE.out hB
set_option maxRecDepth 100000 in
set_option maxHeartbeats 8000000 in
theorem chk_klow39 (ms : List Md) (A : Option Addr) (c k : Nat) (W : World) (hM : IsMs W A ms.length ms) (hc : ms.length ≤ c) (hl : ms.length ≤ 1000000) (hk : k < ms.length) (hnl : ∀ m ∈ ms, m.name.length ≤ 1000000000) (hdl : ∀ m ∈ ms, m.data.length ≤ 1000000000) (hkd : ms[k].kind < 1) (hwd : ms[k].width = 39) : Calls Tryd.prog 25 #[.slice A ms.length c, .int .i64 k] W (ChkP ms[k] (ms.take k) W) := by
  have hnm := hnl _ (List.getElem_mem hk)
  have hdm := hdl _ (List.getElem_mem hk)
  obtain ⟨b, o, hA, hc'⟩ := hM.2 (by omega)
  subst hA
  obtain ⟨D, dc, hrg, -, -⟩ := hc' k hk
  obtain ⟨m, hm⟩ : ∃ m, ms[k] = m := ⟨_, rfl⟩
  rw [hm] at hrg hkd hwd hnm hdm ⊢
  have hrg2 : W.rangeAt b (o + k * 5) (mdV m D dc).toArray.toList := by simpa using hrg
  have k1 : (m.kind == 1) = false := by rw [beq_eq_false_iff_ne]; omega
  have k3 : (m.kind == 3) = false := by rw [beq_eq_false_iff_ne]; omega
  have kl : decide (m.kind < 1) = true := decide_eq_true (by omega)
  have kh : decide (3 < m.kind) = false := decide_eq_false (by omega)
  have w32 : (m.width != 32) = true := by rw [bne_iff_ne]; omega
  have w39 : (m.width != 39) = false := by rw [bne_eq_false_iff_eq]; omega
  have w0 : (m.width != 0) = true := by rw [bne_iff_ne]; omega
  have HK := Lib.hid hkd
  have HW := Lib.hid hwd
  have hki : (k : Int) < ms.length := by omega
  have hk0 : (0 : Int) ≤ (k : Int) := by omega
  clear hkd hwd hc' hm hrg
  go_enter Tryd.func25, Tryd.ntmps25
  go_upto_region 2 with (first | ((with_reducible refine wp_load_g ?_ hrg2 Tryd.underlying35 rfl (info35 _ _ _) ?_ ?_); rfl; rfl) | ((with_reducible refine wp_row_store (L := (mdV m D dc).toArray) (Row.bornAt (g := W.heap.size) rfl 35 _) ?_ (info35 _ _ _) (mdV_one _ _ _) ?_ ?_ ?_); rfl; rfl; rfl; intro w3 u3 r3))
  have hB := Upd.below ((Below.refl W.heap.size W).alloc (Nat.le_refl _) (.cells ZM 35)) u3 (Nat.le_refl _)
  obtain ⟨c0, c1, c2, c3, c4⟩ := md_cells r3
  clear u3 hrg2
  cases hnb : nameB m.name
  · have HNB := Lib.hid hnb
    have HE := Lib.hid (show chkE m (ms.take k) = 63 by unfold chkE; rw [hnb]; rfl)
    clear hnb
    go_wp2_with ((go_at_call 41; refine (name_is HNB.out hnm _).mono ?_; rintro en w4 ⟨rfl, hw4⟩; subst w4))
    go_ret
    exact chk_mk HE.out hB
  have HNB := Lib.hid hnb
  have HE := Lib.hid (show chkE m (ms.take k) = 6 by unfold chkE; rw [if_pos hnb, if_pos]; have h1 := HK.out; have h2 := HW.out; exact .inl h1)
  clear hnb
  go_wp2_with ((go_at_call 41; refine (name_is HNB.out hnm _).mono ?_; rintro en w4 ⟨rfl, hw4⟩; subst w4))
  go_ret
  exact chk_mk HE.out hB
set_option maxRecDepth 100000 in
set_option maxHeartbeats 8000000 in
theorem chk_klow0 (ms : List Md) (A : Option Addr) (c k : Nat) (W : World) (hM : IsMs W A ms.length ms) (hc : ms.length ≤ c) (hl : ms.length ≤ 1000000) (hk : k < ms.length) (hnl : ∀ m ∈ ms, m.name.length ≤ 1000000000) (hdl : ∀ m ∈ ms, m.data.length ≤ 1000000000) (hkd : ms[k].kind < 1) (hwd : ms[k].width = 0) : Calls Tryd.prog 25 #[.slice A ms.length c, .int .i64 k] W (ChkP ms[k] (ms.take k) W) := by
  have hnm := hnl _ (List.getElem_mem hk)
  have hdm := hdl _ (List.getElem_mem hk)
  obtain ⟨b, o, hA, hc'⟩ := hM.2 (by omega)
  subst hA
  obtain ⟨D, dc, hrg, -, -⟩ := hc' k hk
  obtain ⟨m, hm⟩ : ∃ m, ms[k] = m := ⟨_, rfl⟩
  rw [hm] at hrg hkd hwd hnm hdm ⊢
  have hrg2 : W.rangeAt b (o + k * 5) (mdV m D dc).toArray.toList := by simpa using hrg
  have k1 : (m.kind == 1) = false := by rw [beq_eq_false_iff_ne]; omega
  have k3 : (m.kind == 3) = false := by rw [beq_eq_false_iff_ne]; omega
  have kl : decide (m.kind < 1) = true := decide_eq_true (by omega)
  have kh : decide (3 < m.kind) = false := decide_eq_false (by omega)
  have w32 : (m.width != 32) = true := by rw [bne_iff_ne]; omega
  have w39 : (m.width != 39) = true := by rw [bne_iff_ne]; omega
  have w0 : (m.width != 0) = false := by rw [bne_eq_false_iff_eq]; omega
  have HK := Lib.hid hkd
  have HW := Lib.hid hwd
  have hki : (k : Int) < ms.length := by omega
  have hk0 : (0 : Int) ≤ (k : Int) := by omega
  clear hkd hwd hc' hm hrg
  go_enter Tryd.func25, Tryd.ntmps25
  go_upto_region 2 with (first | ((with_reducible refine wp_load_g ?_ hrg2 Tryd.underlying35 rfl (info35 _ _ _) ?_ ?_); rfl; rfl) | ((with_reducible refine wp_row_store (L := (mdV m D dc).toArray) (Row.bornAt (g := W.heap.size) rfl 35 _) ?_ (info35 _ _ _) (mdV_one _ _ _) ?_ ?_ ?_); rfl; rfl; rfl; intro w3 u3 r3))
  have hB := Upd.below ((Below.refl W.heap.size W).alloc (Nat.le_refl _) (.cells ZM 35)) u3 (Nat.le_refl _)
  obtain ⟨c0, c1, c2, c3, c4⟩ := md_cells r3
  clear u3 hrg2
  cases hnb : nameB m.name
  · have HNB := Lib.hid hnb
    have HE := Lib.hid (show chkE m (ms.take k) = 63 by unfold chkE; rw [hnb]; rfl)
    clear hnb
    go_wp2_with ((go_at_call 41; refine (name_is HNB.out hnm _).mono ?_; rintro en w4 ⟨rfl, hw4⟩; subst w4))
    go_ret
    exact chk_mk HE.out hB
  have HNB := Lib.hid hnb
  have HE := Lib.hid (show chkE m (ms.take k) = 6 by unfold chkE; rw [if_pos hnb, if_pos]; have h1 := HK.out; have h2 := HW.out; exact .inl h1)
  clear hnb
  go_wp2_with ((go_at_call 41; refine (name_is HNB.out hnm _).mono ?_; rintro en w4 ⟨rfl, hw4⟩; subst w4))
  go_ret
  exact chk_mk HE.out hB
set_option maxRecDepth 100000 in
set_option maxHeartbeats 8000000 in
theorem chk_klowx (ms : List Md) (A : Option Addr) (c k : Nat) (W : World) (hM : IsMs W A ms.length ms) (hc : ms.length ≤ c) (hl : ms.length ≤ 1000000) (hk : k < ms.length) (hnl : ∀ m ∈ ms, m.name.length ≤ 1000000000) (hdl : ∀ m ∈ ms, m.data.length ≤ 1000000000) (hkd : ms[k].kind < 1) (hwd : (ms[k].width ≠ 32 ∧ ms[k].width ≠ 39 ∧ ms[k].width ≠ 0)) : Calls Tryd.prog 25 #[.slice A ms.length c, .int .i64 k] W (ChkP ms[k] (ms.take k) W) := by
  have hnm := hnl _ (List.getElem_mem hk)
  have hdm := hdl _ (List.getElem_mem hk)
  obtain ⟨b, o, hA, hc'⟩ := hM.2 (by omega)
  subst hA
  obtain ⟨D, dc, hrg, -, -⟩ := hc' k hk
  obtain ⟨m, hm⟩ : ∃ m, ms[k] = m := ⟨_, rfl⟩
  rw [hm] at hrg hkd hwd hnm hdm ⊢
  have hrg2 : W.rangeAt b (o + k * 5) (mdV m D dc).toArray.toList := by simpa using hrg
  have k1 : (m.kind == 1) = false := by rw [beq_eq_false_iff_ne]; omega
  have k3 : (m.kind == 3) = false := by rw [beq_eq_false_iff_ne]; omega
  have kl : decide (m.kind < 1) = true := decide_eq_true (by omega)
  have kh : decide (3 < m.kind) = false := decide_eq_false (by omega)
  have w32 : (m.width != 32) = true := by rw [bne_iff_ne]; omega
  have w39 : (m.width != 39) = true := by rw [bne_iff_ne]; omega
  have w0 : (m.width != 0) = true := by rw [bne_iff_ne]; omega
  have HK := Lib.hid hkd
  have HW := Lib.hid hwd
  have hki : (k : Int) < ms.length := by omega
  have hk0 : (0 : Int) ≤ (k : Int) := by omega
  clear hkd hwd hc' hm hrg
  go_enter Tryd.func25, Tryd.ntmps25
  go_upto_region 2 with (first | ((with_reducible refine wp_load_g ?_ hrg2 Tryd.underlying35 rfl (info35 _ _ _) ?_ ?_); rfl; rfl) | ((with_reducible refine wp_row_store (L := (mdV m D dc).toArray) (Row.bornAt (g := W.heap.size) rfl 35 _) ?_ (info35 _ _ _) (mdV_one _ _ _) ?_ ?_ ?_); rfl; rfl; rfl; intro w3 u3 r3))
  have hB := Upd.below ((Below.refl W.heap.size W).alloc (Nat.le_refl _) (.cells ZM 35)) u3 (Nat.le_refl _)
  obtain ⟨c0, c1, c2, c3, c4⟩ := md_cells r3
  clear u3 hrg2
  cases hnb : nameB m.name
  · have HNB := Lib.hid hnb
    have HE := Lib.hid (show chkE m (ms.take k) = 63 by unfold chkE; rw [hnb]; rfl)
    clear hnb
    go_wp2_with ((go_at_call 41; refine (name_is HNB.out hnm _).mono ?_; rintro en w4 ⟨rfl, hw4⟩; subst w4))
    go_ret
    exact chk_mk HE.out hB
  have HNB := Lib.hid hnb
  have HE := Lib.hid (show chkE m (ms.take k) = 6 by unfold chkE; rw [if_pos hnb, if_pos]; have h1 := HK.out; have h2 := HW.out; exact .inl h1)
  clear hnb
  go_wp2_with ((go_at_call 41; refine (name_is HNB.out hnm _).mono ?_; rintro en w4 ⟨rfl, hw4⟩; subst w4))
  go_ret
  exact chk_mk HE.out hB
set_option maxRecDepth 100000 in
set_option maxHeartbeats 8000000 in
theorem chk_k1w32 (ms : List Md) (A : Option Addr) (c k : Nat) (W : World) (hM : IsMs W A ms.length ms) (hc : ms.length ≤ c) (hl : ms.length ≤ 1000000) (hk : k < ms.length) (hnl : ∀ m ∈ ms, m.name.length ≤ 1000000000) (hdl : ∀ m ∈ ms, m.data.length ≤ 1000000000) (hkd : ms[k].kind = 1) (hwd : ms[k].width = 32) : Calls Tryd.prog 25 #[.slice A ms.length c, .int .i64 k] W (ChkP ms[k] (ms.take k) W) := by
  have hnm := hnl _ (List.getElem_mem hk)
  have hdm := hdl _ (List.getElem_mem hk)
  obtain ⟨b, o, hA, hc'⟩ := hM.2 (by omega)
  subst hA
  obtain ⟨D, dc, hrg, -, -⟩ := hc' k hk
  obtain ⟨m, hm⟩ : ∃ m, ms[k] = m := ⟨_, rfl⟩
  rw [hm] at hrg hkd hwd hnm hdm ⊢
  have hrg2 : W.rangeAt b (o + k * 5) (mdV m D dc).toArray.toList := by simpa using hrg
  have k1 : (m.kind == 1) = true := by rw [beq_iff_eq]; omega
  have k3 : (m.kind == 3) = false := by rw [beq_eq_false_iff_ne]; omega
  have kl : decide (m.kind < 1) = false := decide_eq_false (by omega)
  have kh : decide (3 < m.kind) = false := decide_eq_false (by omega)
  have w32 : (m.width != 32) = false := by rw [bne_eq_false_iff_eq]; omega
  have w39 : (m.width != 39) = true := by rw [bne_iff_ne]; omega
  have w0 : (m.width != 0) = true := by rw [bne_iff_ne]; omega
  have HK := Lib.hid hkd
  have HW := Lib.hid hwd
  have hki : (k : Int) < ms.length := by omega
  have hk0 : (0 : Int) ≤ (k : Int) := by omega
  clear hkd hwd hc' hm hrg
  go_enter Tryd.func25, Tryd.ntmps25
  go_upto_region 2 with (first | ((with_reducible refine wp_load_g ?_ hrg2 Tryd.underlying35 rfl (info35 _ _ _) ?_ ?_); rfl; rfl) | ((with_reducible refine wp_row_store (L := (mdV m D dc).toArray) (Row.bornAt (g := W.heap.size) rfl 35 _) ?_ (info35 _ _ _) (mdV_one _ _ _) ?_ ?_ ?_); rfl; rfl; rfl; intro w3 u3 r3))
  have hB := Upd.below ((Below.refl W.heap.size W).alloc (Nat.le_refl _) (.cells ZM 35)) u3 (Nat.le_refl _)
  obtain ⟨c0, c1, c2, c3, c4⟩ := md_cells r3
  clear u3 hrg2
  obtain ⟨q8, hq8⟩ : ∃ q8, m.data.length / 8 = q8 := ⟨_, rfl⟩
  have hdv := tdiv8 m.data.length
  rw [hq8] at hdv
  have HQ8 := Lib.hid hq8
  have hwq : IntKind.i64.wrap (q8 : Int) = (q8 : Int) := by rw [IntKind.wrap_i64]; omega
  clear hq8
  cases hnb : nameB m.name
  · have HNB := Lib.hid hnb
    have HE := Lib.hid (show chkE m (ms.take k) = 63 by unfold chkE; rw [hnb]; rfl)
    clear hnb
    go_wp2_with ((go_at_call 41; refine (name_is HNB.out hnm _).mono ?_; rintro en w4 ⟨rfl, hw4⟩; subst w4))
    go_ret
    exact chk_mk HE.out hB
  have HNB := Lib.hid hnb
  have HR := Lib.hid (show ¬ (m.kind < 1 ∨ 3 < m.kind ∨ badW m = true) by have h1 := HK.out; have h2 := HW.out; unfold badW; simp [h1, h2])
  have HEN := Lib.hid (show entN m = (q8 : Int) by unfold entN; rw [if_pos HK.out, HQ8.out])
  have HNE := Lib.hid hnb
  clear hnb
  have hmd := tmod8 m.data.length
  obtain ⟨r8, hr8⟩ : ∃ r8, m.data.length % 8 = r8 := ⟨_, rfl⟩
  rw [hr8] at hmd
  have hr88 : r8 < 8 := by omega
  have hwr : IntKind.i64.wrap (r8 : Int) = (r8 : Int) := by rw [IntKind.wrap_i64]; omega
  have HR8 := Lib.hid hr8
  clear hr8
  rcases Nat.eq_zero_or_pos m.data.length with hz | hz
  · have HE := Lib.hid (show chkE m (ms.take k) = 59 by unfold chkE; rw [if_pos HNE.out, if_neg HR.out, if_pos ⟨HK.out, .inl hz⟩])
    have z0 : ((m.data.length : Int) == 0) = true := by rw [beq_iff_eq]; omega
    have z0n : (m.data.length == 0) = true := by rw [beq_iff_eq]; exact hz
    clear hz
    go_wp2_with ((go_at_call 41; refine (name_is HNB.out hnm _).mono ?_; rintro en w4 ⟨rfl, hw4⟩; subst w4))
    go_ret
    exact chk_mk HE.out hB
  have z0 : ((m.data.length : Int) == 0) = false := by rw [beq_eq_false_iff_ne]; omega
  have z0n : (m.data.length == 0) = false := by rw [beq_eq_false_iff_ne]; omega
  have HZ := Lib.hid hz
  clear hz
  rcases Nat.eq_zero_or_pos r8 with hr | hr
  rotate_left
  · have HE := Lib.hid (show chkE m (ms.take k) = 59 by unfold chkE; rw [if_pos HNE.out, if_neg HR.out, if_pos ⟨HK.out, .inr (by rw [HR8.out]; omega)⟩])
    have y0 : ((r8 : Int) != 0) = true := by rw [bne_iff_ne]; omega
    have y0n : (r8 != 0) = true := by rw [bne_iff_ne]; omega
    clear hr
    go_wp2_with ((go_at_call 41; refine (name_is HNB.out hnm _).mono ?_; rintro en w4 ⟨rfl, hw4⟩; subst w4))
    go_ret
    exact chk_mk HE.out hB
  have y0 : ((r8 : Int) != 0) = false := by rw [bne_eq_false_iff_eq]; omega
  have y0n : (r8 != 0) = false := by rw [bne_eq_false_iff_eq]; exact hr
  have HA8 := Lib.hid (show ¬ (m.kind = 1 ∧ (m.data.length = 0 ∨ m.data.length % 8 ≠ 0)) by have h1 := HR8.out; have h2 := HZ.out; omega)
  clear hr
  by_cases he : m.entry < 0
  · have HE := Lib.hid (show chkE m (ms.take k) = 6 by unfold chkE; rw [if_pos HNE.out, if_neg HR.out, if_neg HA8.out, if_pos (.inl he)])
    have x0 : decide (m.entry < 0) = true := decide_eq_true he
    clear he
    go_wp2_with ((go_at_call 41; refine (name_is HNB.out hnm _).mono ?_; rintro en w4 ⟨rfl, hw4⟩; subst w4))
    go_ret
    exact chk_mk HE.out hB
  by_cases he2 : (q8 : Int) ≤ m.entry
  · have HE := Lib.hid (show chkE m (ms.take k) = 6 by unfold chkE; rw [if_pos HNE.out, if_neg HR.out, if_neg HA8.out, if_pos (.inr (by rw [HEN.out]; exact he2))])
    have x0 : decide (m.entry < 0) = false := decide_eq_false he
    have x1 : decide ((q8 : Int) ≤ m.entry) = true := decide_eq_true he2
    clear he he2
    go_wp2_with ((go_at_call 41; refine (name_is HNB.out hnm _).mono ?_; rintro en w4 ⟨rfl, hw4⟩; subst w4))
    go_ret
    exact chk_mk HE.out hB
  have HE6 := Lib.hid (show ¬ (m.entry < 0 ∨ entN m ≤ m.entry) by rw [HEN.out]; omega)
  have x0 : decide (m.entry < 0) = false := decide_eq_false he
  have x1 : decide ((q8 : Int) ≤ m.entry) = false := decide_eq_false he2
  clear he he2
  have hMk := (hM.below hB).take k (by omega)
  have hkt : k = (ms.take k).length := by rw [List.length_take]; omega
  have hlk : (ms.take k).length ≤ 1000000 := by omega
  have HKT := Lib.hid hkt
  clear hkt
  obtain ⟨x, hx⟩ : ∃ x, fndK (ms.take k) m.name m.width = x := ⟨_, rfl⟩
  have hkc : (k : Int) ≤ (c : Int) := by omega
  have hkcn : k ≤ c := by omega
  go_upto_region 17 with ((go_at_call 41; refine (name_is HNB.out hnm _).mono ?_; rintro en w4 ⟨rfl, hw4⟩; subst w4))
  cases hfb : fndB (ms.take k) m.name m.width
  · have HFD := Lib.hid (⟨hx, hfb⟩ : fndK (ms.take k) m.name m.width = x ∧ fndB (ms.take k) m.name m.width = false)
    have HE := Lib.hid (show chkE m (ms.take k) = 0 by unfold chkE; rw [if_pos HNE.out, if_neg HR.out, if_neg HA8.out, if_neg HE6.out, hfb]; rfl)
    clear hx hfb
    refine wp_region_told (n := 91) (fun w' => Below w3.heap.size w3 w') (fun _ _ => True) (by kernel_rfl) (by kernel_rfl) (by rfl) (Below.refl _ _).drew ?_
    refine walk_pure (v := ?_) (fun _ => trivial) (fun _ => rfl) ?_ ?_; rotate_left; (focus (intro us w9 hS9 hF; clear hF; have r9 := r3.below hS9 r3.lt; obtain ⟨y0, y1, y2, y3, y4⟩ := md_cells r9; go_simp; (try with_reducible rfl); done)); simp only [Act.put, List.setIfInBounds_toArray, List.set_cons_zero, List.set_cons_succ, Nat.reduceAdd]
    refine walk_pure (v := ?_) (fun _ => trivial) (fun _ => rfl) ?_ ?_; rotate_left; (focus (intro us w9 hS9 hF; clear hF; have r9 := r3.below hS9 r3.lt; obtain ⟨y0, y1, y2, y3, y4⟩ := md_cells r9; go_simp; (try with_reducible rfl); done)); simp only [Act.put, List.setIfInBounds_toArray, List.set_cons_zero, List.set_cons_succ, Nat.reduceAdd]
    refine walk_pure (v := .slice (some ⟨b, o, none⟩) k c) (fun _ => trivial) (fun _ => rfl) ?_ ?_; (focus (intro us w9 hS9 hF; clear hF; go_simp; (try with_reducible rfl); done)); simp only [Act.put, List.setIfInBounds_toArray, List.set_cons_zero, List.set_cons_succ, Nat.reduceAdd]
    refine walk_pure (v := ?_) (fun _ => trivial) (fun _ => rfl) ?_ ?_; rotate_left; (focus (intro us w9 hS9 hF; clear hF; have r9 := r3.below hS9 r3.lt; obtain ⟨y0, y1, y2, y3, y4⟩ := md_cells r9; go_simp; (try with_reducible rfl); done)); simp only [Act.put, List.setIfInBounds_toArray, List.set_cons_zero, List.set_cons_succ, Nat.reduceAdd]
    refine walk_pure (v := ?_) (fun _ => trivial) (fun _ => rfl) ?_ ?_; rotate_left; (focus (intro us w9 hS9 hF; clear hF; have r9 := r3.below hS9 r3.lt; obtain ⟨y0, y1, y2, y3, y4⟩ := md_cells r9; go_simp; (try with_reducible rfl); done)); simp only [Act.put, List.setIfInBounds_toArray, List.set_cons_zero, List.set_cons_succ, Nat.reduceAdd]
    refine walk_pure (v := ?_) (fun _ => trivial) (fun _ => rfl) ?_ ?_; rotate_left; (focus (intro us w9 hS9 hF; clear hF; have r9 := r3.below hS9 r3.lt; obtain ⟨y0, y1, y2, y3, y4⟩ := md_cells r9; go_simp; (try with_reducible rfl); done)); simp only [Act.put, List.setIfInBounds_toArray, List.set_cons_zero, List.set_cons_succ, Nat.reduceAdd]
    refine walk_pure (v := ?_) (fun _ => trivial) (fun _ => rfl) ?_ ?_; rotate_left; (focus (intro us w9 hS9 hF; clear hF; have r9 := r3.below hS9 r3.lt; obtain ⟨y0, y1, y2, y3, y4⟩ := md_cells r9; go_simp; (try with_reducible rfl); done)); simp only [Act.put, List.setIfInBounds_toArray, List.set_cons_zero, List.set_cons_succ, Nat.reduceAdd]
    refine walk_fix (v := .tuple #[.int .i64 x, .bool false]) ?_ ?_; (focus (intro us w9 hS9 hF K hK; clear hF; go_simp; refine (find_is HFD.out (some ⟨b, o, none⟩) k c HKT.out w9 (hMk.below hS9) hlk).mono ?_; rintro en w' ⟨rfl, hbw⟩; exact hK _ (below_on hS9 hbw) trivial)); simp only [Act.put, List.setIfInBounds_toArray, List.set_cons_zero, List.set_cons_succ, Nat.reduceAdd]
    refine walk_pure (v := ?_) (fun _ => trivial) (fun _ => rfl) ?_ ?_; rotate_left; (focus (intro us w9 hS9 hF; clear hF; have r9 := r3.below hS9 r3.lt; obtain ⟨y0, y1, y2, y3, y4⟩ := md_cells r9; go_simp; (try with_reducible rfl); done)); simp only [Act.put, List.setIfInBounds_toArray, List.set_cons_zero, List.set_cons_succ, Nat.reduceAdd]
    refine walk_pure (v := .int .i64 x) (fun _ => trivial) (fun _ => rfl) ?_ ?_; (focus (intro us w9 hS9 hF; clear hF; go_simp; (try with_reducible rfl); done)); simp only [Act.put, List.setIfInBounds_toArray, List.set_cons_zero, List.set_cons_succ, Nat.reduceAdd]
    refine walk_pure (v := .bool false) (fun _ => trivial) (fun _ => rfl) ?_ ?_; (focus (intro us w9 hS9 hF; clear hF; go_simp; (try with_reducible rfl); done)); simp only [Act.put, List.setIfInBounds_toArray, List.set_cons_zero, List.set_cons_succ, Nat.reduceAdd]
    refine walk_pure (v := .int .i64 x) (fun _ => trivial) (fun _ => rfl) ?_ ?_; (focus (intro us w9 hS9 hF; clear hF; go_simp; (try with_reducible rfl); done)); simp only [Act.put, List.setIfInBounds_toArray, List.set_cons_zero, List.set_cons_succ, Nat.reduceAdd]
    refine walk_pure (v := .bool false) (fun _ => trivial) (fun _ => rfl) ?_ ?_; (focus (intro us w9 hS9 hF; clear hF; go_simp; (try with_reducible rfl); done)); simp only [Act.put, List.setIfInBounds_toArray, List.set_cons_zero, List.set_cons_succ, Nat.reduceAdd]
    refine walk_done fun us w9 hS9 hF => ?_
    clear hF
    have hB := hB.trans (hS9.mono hB.size)
    go_wp2
    go_ret
    exact chk_mk HE.out hB
  · have HFD := Lib.hid (⟨hx, hfb⟩ : fndK (ms.take k) m.name m.width = x ∧ fndB (ms.take k) m.name m.width = true)
    have HE := Lib.hid (show chkE m (ms.take k) = 56 by unfold chkE; rw [if_pos HNE.out, if_neg HR.out, if_neg HA8.out, if_neg HE6.out, hfb]; rfl)
    clear hx hfb
    refine wp_region_told (n := 91) (fun w' => Below w3.heap.size w3 w') (fun _ _ => True) (by kernel_rfl) (by kernel_rfl) (by rfl) (Below.refl _ _).drew ?_
    refine walk_pure (v := ?_) (fun _ => trivial) (fun _ => rfl) ?_ ?_; rotate_left; (focus (intro us w9 hS9 hF; clear hF; have r9 := r3.below hS9 r3.lt; obtain ⟨y0, y1, y2, y3, y4⟩ := md_cells r9; go_simp; (try with_reducible rfl); done)); simp only [Act.put, List.setIfInBounds_toArray, List.set_cons_zero, List.set_cons_succ, Nat.reduceAdd]
    refine walk_pure (v := ?_) (fun _ => trivial) (fun _ => rfl) ?_ ?_; rotate_left; (focus (intro us w9 hS9 hF; clear hF; have r9 := r3.below hS9 r3.lt; obtain ⟨y0, y1, y2, y3, y4⟩ := md_cells r9; go_simp; (try with_reducible rfl); done)); simp only [Act.put, List.setIfInBounds_toArray, List.set_cons_zero, List.set_cons_succ, Nat.reduceAdd]
    refine walk_pure (v := .slice (some ⟨b, o, none⟩) k c) (fun _ => trivial) (fun _ => rfl) ?_ ?_; (focus (intro us w9 hS9 hF; clear hF; go_simp; (try with_reducible rfl); done)); simp only [Act.put, List.setIfInBounds_toArray, List.set_cons_zero, List.set_cons_succ, Nat.reduceAdd]
    refine walk_pure (v := ?_) (fun _ => trivial) (fun _ => rfl) ?_ ?_; rotate_left; (focus (intro us w9 hS9 hF; clear hF; have r9 := r3.below hS9 r3.lt; obtain ⟨y0, y1, y2, y3, y4⟩ := md_cells r9; go_simp; (try with_reducible rfl); done)); simp only [Act.put, List.setIfInBounds_toArray, List.set_cons_zero, List.set_cons_succ, Nat.reduceAdd]
    refine walk_pure (v := ?_) (fun _ => trivial) (fun _ => rfl) ?_ ?_; rotate_left; (focus (intro us w9 hS9 hF; clear hF; have r9 := r3.below hS9 r3.lt; obtain ⟨y0, y1, y2, y3, y4⟩ := md_cells r9; go_simp; (try with_reducible rfl); done)); simp only [Act.put, List.setIfInBounds_toArray, List.set_cons_zero, List.set_cons_succ, Nat.reduceAdd]
    refine walk_pure (v := ?_) (fun _ => trivial) (fun _ => rfl) ?_ ?_; rotate_left; (focus (intro us w9 hS9 hF; clear hF; have r9 := r3.below hS9 r3.lt; obtain ⟨y0, y1, y2, y3, y4⟩ := md_cells r9; go_simp; (try with_reducible rfl); done)); simp only [Act.put, List.setIfInBounds_toArray, List.set_cons_zero, List.set_cons_succ, Nat.reduceAdd]
    refine walk_pure (v := ?_) (fun _ => trivial) (fun _ => rfl) ?_ ?_; rotate_left; (focus (intro us w9 hS9 hF; clear hF; have r9 := r3.below hS9 r3.lt; obtain ⟨y0, y1, y2, y3, y4⟩ := md_cells r9; go_simp; (try with_reducible rfl); done)); simp only [Act.put, List.setIfInBounds_toArray, List.set_cons_zero, List.set_cons_succ, Nat.reduceAdd]
    refine walk_fix (v := .tuple #[.int .i64 x, .bool true]) ?_ ?_; (focus (intro us w9 hS9 hF K hK; clear hF; go_simp; refine (find_is HFD.out (some ⟨b, o, none⟩) k c HKT.out w9 (hMk.below hS9) hlk).mono ?_; rintro en w' ⟨rfl, hbw⟩; exact hK _ (below_on hS9 hbw) trivial)); simp only [Act.put, List.setIfInBounds_toArray, List.set_cons_zero, List.set_cons_succ, Nat.reduceAdd]
    refine walk_pure (v := ?_) (fun _ => trivial) (fun _ => rfl) ?_ ?_; rotate_left; (focus (intro us w9 hS9 hF; clear hF; have r9 := r3.below hS9 r3.lt; obtain ⟨y0, y1, y2, y3, y4⟩ := md_cells r9; go_simp; (try with_reducible rfl); done)); simp only [Act.put, List.setIfInBounds_toArray, List.set_cons_zero, List.set_cons_succ, Nat.reduceAdd]
    refine walk_pure (v := .int .i64 x) (fun _ => trivial) (fun _ => rfl) ?_ ?_; (focus (intro us w9 hS9 hF; clear hF; go_simp; (try with_reducible rfl); done)); simp only [Act.put, List.setIfInBounds_toArray, List.set_cons_zero, List.set_cons_succ, Nat.reduceAdd]
    refine walk_pure (v := .bool true) (fun _ => trivial) (fun _ => rfl) ?_ ?_; (focus (intro us w9 hS9 hF; clear hF; go_simp; (try with_reducible rfl); done)); simp only [Act.put, List.setIfInBounds_toArray, List.set_cons_zero, List.set_cons_succ, Nat.reduceAdd]
    refine walk_pure (v := .int .i64 x) (fun _ => trivial) (fun _ => rfl) ?_ ?_; (focus (intro us w9 hS9 hF; clear hF; go_simp; (try with_reducible rfl); done)); simp only [Act.put, List.setIfInBounds_toArray, List.set_cons_zero, List.set_cons_succ, Nat.reduceAdd]
    refine walk_pure (v := .bool true) (fun _ => trivial) (fun _ => rfl) ?_ ?_; (focus (intro us w9 hS9 hF; clear hF; go_simp; (try with_reducible rfl); done)); simp only [Act.put, List.setIfInBounds_toArray, List.set_cons_zero, List.set_cons_succ, Nat.reduceAdd]
    refine walk_done fun us w9 hS9 hF => ?_
    clear hF
    have hB := hB.trans (hS9.mono hB.size)
    go_wp2
    go_ret
    exact chk_mk HE.out hB
set_option maxRecDepth 100000 in
set_option maxHeartbeats 8000000 in
theorem chk_k1w39 (ms : List Md) (A : Option Addr) (c k : Nat) (W : World) (hM : IsMs W A ms.length ms) (hc : ms.length ≤ c) (hl : ms.length ≤ 1000000) (hk : k < ms.length) (hnl : ∀ m ∈ ms, m.name.length ≤ 1000000000) (hdl : ∀ m ∈ ms, m.data.length ≤ 1000000000) (hkd : ms[k].kind = 1) (hwd : ms[k].width = 39) : Calls Tryd.prog 25 #[.slice A ms.length c, .int .i64 k] W (ChkP ms[k] (ms.take k) W) := by
  have hnm := hnl _ (List.getElem_mem hk)
  have hdm := hdl _ (List.getElem_mem hk)
  obtain ⟨b, o, hA, hc'⟩ := hM.2 (by omega)
  subst hA
  obtain ⟨D, dc, hrg, -, -⟩ := hc' k hk
  obtain ⟨m, hm⟩ : ∃ m, ms[k] = m := ⟨_, rfl⟩
  rw [hm] at hrg hkd hwd hnm hdm ⊢
  have hrg2 : W.rangeAt b (o + k * 5) (mdV m D dc).toArray.toList := by simpa using hrg
  have k1 : (m.kind == 1) = true := by rw [beq_iff_eq]; omega
  have k3 : (m.kind == 3) = false := by rw [beq_eq_false_iff_ne]; omega
  have kl : decide (m.kind < 1) = false := decide_eq_false (by omega)
  have kh : decide (3 < m.kind) = false := decide_eq_false (by omega)
  have w32 : (m.width != 32) = true := by rw [bne_iff_ne]; omega
  have w39 : (m.width != 39) = false := by rw [bne_eq_false_iff_eq]; omega
  have w0 : (m.width != 0) = true := by rw [bne_iff_ne]; omega
  have HK := Lib.hid hkd
  have HW := Lib.hid hwd
  have hki : (k : Int) < ms.length := by omega
  have hk0 : (0 : Int) ≤ (k : Int) := by omega
  clear hkd hwd hc' hm hrg
  go_enter Tryd.func25, Tryd.ntmps25
  go_upto_region 2 with (first | ((with_reducible refine wp_load_g ?_ hrg2 Tryd.underlying35 rfl (info35 _ _ _) ?_ ?_); rfl; rfl) | ((with_reducible refine wp_row_store (L := (mdV m D dc).toArray) (Row.bornAt (g := W.heap.size) rfl 35 _) ?_ (info35 _ _ _) (mdV_one _ _ _) ?_ ?_ ?_); rfl; rfl; rfl; intro w3 u3 r3))
  have hB := Upd.below ((Below.refl W.heap.size W).alloc (Nat.le_refl _) (.cells ZM 35)) u3 (Nat.le_refl _)
  obtain ⟨c0, c1, c2, c3, c4⟩ := md_cells r3
  clear u3 hrg2
  obtain ⟨q8, hq8⟩ : ∃ q8, m.data.length / 8 = q8 := ⟨_, rfl⟩
  have hdv := tdiv8 m.data.length
  rw [hq8] at hdv
  have HQ8 := Lib.hid hq8
  have hwq : IntKind.i64.wrap (q8 : Int) = (q8 : Int) := by rw [IntKind.wrap_i64]; omega
  clear hq8
  cases hnb : nameB m.name
  · have HNB := Lib.hid hnb
    have HE := Lib.hid (show chkE m (ms.take k) = 63 by unfold chkE; rw [hnb]; rfl)
    clear hnb
    go_wp2_with ((go_at_call 41; refine (name_is HNB.out hnm _).mono ?_; rintro en w4 ⟨rfl, hw4⟩; subst w4))
    go_ret
    exact chk_mk HE.out hB
  have HNB := Lib.hid hnb
  have HR := Lib.hid (show ¬ (m.kind < 1 ∨ 3 < m.kind ∨ badW m = true) by have h1 := HK.out; have h2 := HW.out; unfold badW; simp [h1, h2])
  have HEN := Lib.hid (show entN m = (q8 : Int) by unfold entN; rw [if_pos HK.out, HQ8.out])
  have HNE := Lib.hid hnb
  clear hnb
  have hmd := tmod8 m.data.length
  obtain ⟨r8, hr8⟩ : ∃ r8, m.data.length % 8 = r8 := ⟨_, rfl⟩
  rw [hr8] at hmd
  have hr88 : r8 < 8 := by omega
  have hwr : IntKind.i64.wrap (r8 : Int) = (r8 : Int) := by rw [IntKind.wrap_i64]; omega
  have HR8 := Lib.hid hr8
  clear hr8
  rcases Nat.eq_zero_or_pos m.data.length with hz | hz
  · have HE := Lib.hid (show chkE m (ms.take k) = 59 by unfold chkE; rw [if_pos HNE.out, if_neg HR.out, if_pos ⟨HK.out, .inl hz⟩])
    have z0 : ((m.data.length : Int) == 0) = true := by rw [beq_iff_eq]; omega
    have z0n : (m.data.length == 0) = true := by rw [beq_iff_eq]; exact hz
    clear hz
    go_wp2_with ((go_at_call 41; refine (name_is HNB.out hnm _).mono ?_; rintro en w4 ⟨rfl, hw4⟩; subst w4))
    go_ret
    exact chk_mk HE.out hB
  have z0 : ((m.data.length : Int) == 0) = false := by rw [beq_eq_false_iff_ne]; omega
  have z0n : (m.data.length == 0) = false := by rw [beq_eq_false_iff_ne]; omega
  have HZ := Lib.hid hz
  clear hz
  rcases Nat.eq_zero_or_pos r8 with hr | hr
  rotate_left
  · have HE := Lib.hid (show chkE m (ms.take k) = 59 by unfold chkE; rw [if_pos HNE.out, if_neg HR.out, if_pos ⟨HK.out, .inr (by rw [HR8.out]; omega)⟩])
    have y0 : ((r8 : Int) != 0) = true := by rw [bne_iff_ne]; omega
    have y0n : (r8 != 0) = true := by rw [bne_iff_ne]; omega
    clear hr
    go_wp2_with ((go_at_call 41; refine (name_is HNB.out hnm _).mono ?_; rintro en w4 ⟨rfl, hw4⟩; subst w4))
    go_ret
    exact chk_mk HE.out hB
  have y0 : ((r8 : Int) != 0) = false := by rw [bne_eq_false_iff_eq]; omega
  have y0n : (r8 != 0) = false := by rw [bne_eq_false_iff_eq]; exact hr
  have HA8 := Lib.hid (show ¬ (m.kind = 1 ∧ (m.data.length = 0 ∨ m.data.length % 8 ≠ 0)) by have h1 := HR8.out; have h2 := HZ.out; omega)
  clear hr
  by_cases he : m.entry < 0
  · have HE := Lib.hid (show chkE m (ms.take k) = 6 by unfold chkE; rw [if_pos HNE.out, if_neg HR.out, if_neg HA8.out, if_pos (.inl he)])
    have x0 : decide (m.entry < 0) = true := decide_eq_true he
    clear he
    go_wp2_with ((go_at_call 41; refine (name_is HNB.out hnm _).mono ?_; rintro en w4 ⟨rfl, hw4⟩; subst w4))
    go_ret
    exact chk_mk HE.out hB
  by_cases he2 : (q8 : Int) ≤ m.entry
  · have HE := Lib.hid (show chkE m (ms.take k) = 6 by unfold chkE; rw [if_pos HNE.out, if_neg HR.out, if_neg HA8.out, if_pos (.inr (by rw [HEN.out]; exact he2))])
    have x0 : decide (m.entry < 0) = false := decide_eq_false he
    have x1 : decide ((q8 : Int) ≤ m.entry) = true := decide_eq_true he2
    clear he he2
    go_wp2_with ((go_at_call 41; refine (name_is HNB.out hnm _).mono ?_; rintro en w4 ⟨rfl, hw4⟩; subst w4))
    go_ret
    exact chk_mk HE.out hB
  have HE6 := Lib.hid (show ¬ (m.entry < 0 ∨ entN m ≤ m.entry) by rw [HEN.out]; omega)
  have x0 : decide (m.entry < 0) = false := decide_eq_false he
  have x1 : decide ((q8 : Int) ≤ m.entry) = false := decide_eq_false he2
  clear he he2
  have hMk := (hM.below hB).take k (by omega)
  have hkt : k = (ms.take k).length := by rw [List.length_take]; omega
  have hlk : (ms.take k).length ≤ 1000000 := by omega
  have HKT := Lib.hid hkt
  clear hkt
  obtain ⟨x, hx⟩ : ∃ x, fndK (ms.take k) m.name m.width = x := ⟨_, rfl⟩
  have hkc : (k : Int) ≤ (c : Int) := by omega
  have hkcn : k ≤ c := by omega
  go_upto_region 17 with ((go_at_call 41; refine (name_is HNB.out hnm _).mono ?_; rintro en w4 ⟨rfl, hw4⟩; subst w4))
  cases hfb : fndB (ms.take k) m.name m.width
  · have HFD := Lib.hid (⟨hx, hfb⟩ : fndK (ms.take k) m.name m.width = x ∧ fndB (ms.take k) m.name m.width = false)
    have HE := Lib.hid (show chkE m (ms.take k) = 0 by unfold chkE; rw [if_pos HNE.out, if_neg HR.out, if_neg HA8.out, if_neg HE6.out, hfb]; rfl)
    clear hx hfb
    refine wp_region_told (n := 91) (fun w' => Below w3.heap.size w3 w') (fun _ _ => True) (by kernel_rfl) (by kernel_rfl) (by rfl) (Below.refl _ _).drew ?_
    refine walk_pure (v := ?_) (fun _ => trivial) (fun _ => rfl) ?_ ?_; rotate_left; (focus (intro us w9 hS9 hF; clear hF; have r9 := r3.below hS9 r3.lt; obtain ⟨y0, y1, y2, y3, y4⟩ := md_cells r9; go_simp; (try with_reducible rfl); done)); simp only [Act.put, List.setIfInBounds_toArray, List.set_cons_zero, List.set_cons_succ, Nat.reduceAdd]
    refine walk_pure (v := ?_) (fun _ => trivial) (fun _ => rfl) ?_ ?_; rotate_left; (focus (intro us w9 hS9 hF; clear hF; have r9 := r3.below hS9 r3.lt; obtain ⟨y0, y1, y2, y3, y4⟩ := md_cells r9; go_simp; (try with_reducible rfl); done)); simp only [Act.put, List.setIfInBounds_toArray, List.set_cons_zero, List.set_cons_succ, Nat.reduceAdd]
    refine walk_pure (v := .slice (some ⟨b, o, none⟩) k c) (fun _ => trivial) (fun _ => rfl) ?_ ?_; (focus (intro us w9 hS9 hF; clear hF; go_simp; (try with_reducible rfl); done)); simp only [Act.put, List.setIfInBounds_toArray, List.set_cons_zero, List.set_cons_succ, Nat.reduceAdd]
    refine walk_pure (v := ?_) (fun _ => trivial) (fun _ => rfl) ?_ ?_; rotate_left; (focus (intro us w9 hS9 hF; clear hF; have r9 := r3.below hS9 r3.lt; obtain ⟨y0, y1, y2, y3, y4⟩ := md_cells r9; go_simp; (try with_reducible rfl); done)); simp only [Act.put, List.setIfInBounds_toArray, List.set_cons_zero, List.set_cons_succ, Nat.reduceAdd]
    refine walk_pure (v := ?_) (fun _ => trivial) (fun _ => rfl) ?_ ?_; rotate_left; (focus (intro us w9 hS9 hF; clear hF; have r9 := r3.below hS9 r3.lt; obtain ⟨y0, y1, y2, y3, y4⟩ := md_cells r9; go_simp; (try with_reducible rfl); done)); simp only [Act.put, List.setIfInBounds_toArray, List.set_cons_zero, List.set_cons_succ, Nat.reduceAdd]
    refine walk_pure (v := ?_) (fun _ => trivial) (fun _ => rfl) ?_ ?_; rotate_left; (focus (intro us w9 hS9 hF; clear hF; have r9 := r3.below hS9 r3.lt; obtain ⟨y0, y1, y2, y3, y4⟩ := md_cells r9; go_simp; (try with_reducible rfl); done)); simp only [Act.put, List.setIfInBounds_toArray, List.set_cons_zero, List.set_cons_succ, Nat.reduceAdd]
    refine walk_pure (v := ?_) (fun _ => trivial) (fun _ => rfl) ?_ ?_; rotate_left; (focus (intro us w9 hS9 hF; clear hF; have r9 := r3.below hS9 r3.lt; obtain ⟨y0, y1, y2, y3, y4⟩ := md_cells r9; go_simp; (try with_reducible rfl); done)); simp only [Act.put, List.setIfInBounds_toArray, List.set_cons_zero, List.set_cons_succ, Nat.reduceAdd]
    refine walk_fix (v := .tuple #[.int .i64 x, .bool false]) ?_ ?_; (focus (intro us w9 hS9 hF K hK; clear hF; go_simp; refine (find_is HFD.out (some ⟨b, o, none⟩) k c HKT.out w9 (hMk.below hS9) hlk).mono ?_; rintro en w' ⟨rfl, hbw⟩; exact hK _ (below_on hS9 hbw) trivial)); simp only [Act.put, List.setIfInBounds_toArray, List.set_cons_zero, List.set_cons_succ, Nat.reduceAdd]
    refine walk_pure (v := ?_) (fun _ => trivial) (fun _ => rfl) ?_ ?_; rotate_left; (focus (intro us w9 hS9 hF; clear hF; have r9 := r3.below hS9 r3.lt; obtain ⟨y0, y1, y2, y3, y4⟩ := md_cells r9; go_simp; (try with_reducible rfl); done)); simp only [Act.put, List.setIfInBounds_toArray, List.set_cons_zero, List.set_cons_succ, Nat.reduceAdd]
    refine walk_pure (v := .int .i64 x) (fun _ => trivial) (fun _ => rfl) ?_ ?_; (focus (intro us w9 hS9 hF; clear hF; go_simp; (try with_reducible rfl); done)); simp only [Act.put, List.setIfInBounds_toArray, List.set_cons_zero, List.set_cons_succ, Nat.reduceAdd]
    refine walk_pure (v := .bool false) (fun _ => trivial) (fun _ => rfl) ?_ ?_; (focus (intro us w9 hS9 hF; clear hF; go_simp; (try with_reducible rfl); done)); simp only [Act.put, List.setIfInBounds_toArray, List.set_cons_zero, List.set_cons_succ, Nat.reduceAdd]
    refine walk_pure (v := .int .i64 x) (fun _ => trivial) (fun _ => rfl) ?_ ?_; (focus (intro us w9 hS9 hF; clear hF; go_simp; (try with_reducible rfl); done)); simp only [Act.put, List.setIfInBounds_toArray, List.set_cons_zero, List.set_cons_succ, Nat.reduceAdd]
    refine walk_pure (v := .bool false) (fun _ => trivial) (fun _ => rfl) ?_ ?_; (focus (intro us w9 hS9 hF; clear hF; go_simp; (try with_reducible rfl); done)); simp only [Act.put, List.setIfInBounds_toArray, List.set_cons_zero, List.set_cons_succ, Nat.reduceAdd]
    refine walk_done fun us w9 hS9 hF => ?_
    clear hF
    have hB := hB.trans (hS9.mono hB.size)
    go_wp2
    go_ret
    exact chk_mk HE.out hB
  · have HFD := Lib.hid (⟨hx, hfb⟩ : fndK (ms.take k) m.name m.width = x ∧ fndB (ms.take k) m.name m.width = true)
    have HE := Lib.hid (show chkE m (ms.take k) = 56 by unfold chkE; rw [if_pos HNE.out, if_neg HR.out, if_neg HA8.out, if_neg HE6.out, hfb]; rfl)
    clear hx hfb
    refine wp_region_told (n := 91) (fun w' => Below w3.heap.size w3 w') (fun _ _ => True) (by kernel_rfl) (by kernel_rfl) (by rfl) (Below.refl _ _).drew ?_
    refine walk_pure (v := ?_) (fun _ => trivial) (fun _ => rfl) ?_ ?_; rotate_left; (focus (intro us w9 hS9 hF; clear hF; have r9 := r3.below hS9 r3.lt; obtain ⟨y0, y1, y2, y3, y4⟩ := md_cells r9; go_simp; (try with_reducible rfl); done)); simp only [Act.put, List.setIfInBounds_toArray, List.set_cons_zero, List.set_cons_succ, Nat.reduceAdd]
    refine walk_pure (v := ?_) (fun _ => trivial) (fun _ => rfl) ?_ ?_; rotate_left; (focus (intro us w9 hS9 hF; clear hF; have r9 := r3.below hS9 r3.lt; obtain ⟨y0, y1, y2, y3, y4⟩ := md_cells r9; go_simp; (try with_reducible rfl); done)); simp only [Act.put, List.setIfInBounds_toArray, List.set_cons_zero, List.set_cons_succ, Nat.reduceAdd]
    refine walk_pure (v := .slice (some ⟨b, o, none⟩) k c) (fun _ => trivial) (fun _ => rfl) ?_ ?_; (focus (intro us w9 hS9 hF; clear hF; go_simp; (try with_reducible rfl); done)); simp only [Act.put, List.setIfInBounds_toArray, List.set_cons_zero, List.set_cons_succ, Nat.reduceAdd]
    refine walk_pure (v := ?_) (fun _ => trivial) (fun _ => rfl) ?_ ?_; rotate_left; (focus (intro us w9 hS9 hF; clear hF; have r9 := r3.below hS9 r3.lt; obtain ⟨y0, y1, y2, y3, y4⟩ := md_cells r9; go_simp; (try with_reducible rfl); done)); simp only [Act.put, List.setIfInBounds_toArray, List.set_cons_zero, List.set_cons_succ, Nat.reduceAdd]
    refine walk_pure (v := ?_) (fun _ => trivial) (fun _ => rfl) ?_ ?_; rotate_left; (focus (intro us w9 hS9 hF; clear hF; have r9 := r3.below hS9 r3.lt; obtain ⟨y0, y1, y2, y3, y4⟩ := md_cells r9; go_simp; (try with_reducible rfl); done)); simp only [Act.put, List.setIfInBounds_toArray, List.set_cons_zero, List.set_cons_succ, Nat.reduceAdd]
    refine walk_pure (v := ?_) (fun _ => trivial) (fun _ => rfl) ?_ ?_; rotate_left; (focus (intro us w9 hS9 hF; clear hF; have r9 := r3.below hS9 r3.lt; obtain ⟨y0, y1, y2, y3, y4⟩ := md_cells r9; go_simp; (try with_reducible rfl); done)); simp only [Act.put, List.setIfInBounds_toArray, List.set_cons_zero, List.set_cons_succ, Nat.reduceAdd]
    refine walk_pure (v := ?_) (fun _ => trivial) (fun _ => rfl) ?_ ?_; rotate_left; (focus (intro us w9 hS9 hF; clear hF; have r9 := r3.below hS9 r3.lt; obtain ⟨y0, y1, y2, y3, y4⟩ := md_cells r9; go_simp; (try with_reducible rfl); done)); simp only [Act.put, List.setIfInBounds_toArray, List.set_cons_zero, List.set_cons_succ, Nat.reduceAdd]
    refine walk_fix (v := .tuple #[.int .i64 x, .bool true]) ?_ ?_; (focus (intro us w9 hS9 hF K hK; clear hF; go_simp; refine (find_is HFD.out (some ⟨b, o, none⟩) k c HKT.out w9 (hMk.below hS9) hlk).mono ?_; rintro en w' ⟨rfl, hbw⟩; exact hK _ (below_on hS9 hbw) trivial)); simp only [Act.put, List.setIfInBounds_toArray, List.set_cons_zero, List.set_cons_succ, Nat.reduceAdd]
    refine walk_pure (v := ?_) (fun _ => trivial) (fun _ => rfl) ?_ ?_; rotate_left; (focus (intro us w9 hS9 hF; clear hF; have r9 := r3.below hS9 r3.lt; obtain ⟨y0, y1, y2, y3, y4⟩ := md_cells r9; go_simp; (try with_reducible rfl); done)); simp only [Act.put, List.setIfInBounds_toArray, List.set_cons_zero, List.set_cons_succ, Nat.reduceAdd]
    refine walk_pure (v := .int .i64 x) (fun _ => trivial) (fun _ => rfl) ?_ ?_; (focus (intro us w9 hS9 hF; clear hF; go_simp; (try with_reducible rfl); done)); simp only [Act.put, List.setIfInBounds_toArray, List.set_cons_zero, List.set_cons_succ, Nat.reduceAdd]
    refine walk_pure (v := .bool true) (fun _ => trivial) (fun _ => rfl) ?_ ?_; (focus (intro us w9 hS9 hF; clear hF; go_simp; (try with_reducible rfl); done)); simp only [Act.put, List.setIfInBounds_toArray, List.set_cons_zero, List.set_cons_succ, Nat.reduceAdd]
    refine walk_pure (v := .int .i64 x) (fun _ => trivial) (fun _ => rfl) ?_ ?_; (focus (intro us w9 hS9 hF; clear hF; go_simp; (try with_reducible rfl); done)); simp only [Act.put, List.setIfInBounds_toArray, List.set_cons_zero, List.set_cons_succ, Nat.reduceAdd]
    refine walk_pure (v := .bool true) (fun _ => trivial) (fun _ => rfl) ?_ ?_; (focus (intro us w9 hS9 hF; clear hF; go_simp; (try with_reducible rfl); done)); simp only [Act.put, List.setIfInBounds_toArray, List.set_cons_zero, List.set_cons_succ, Nat.reduceAdd]
    refine walk_done fun us w9 hS9 hF => ?_
    clear hF
    have hB := hB.trans (hS9.mono hB.size)
    go_wp2
    go_ret
    exact chk_mk HE.out hB
set_option maxRecDepth 100000 in
set_option maxHeartbeats 8000000 in
theorem chk_k1w0 (ms : List Md) (A : Option Addr) (c k : Nat) (W : World) (hM : IsMs W A ms.length ms) (hc : ms.length ≤ c) (hl : ms.length ≤ 1000000) (hk : k < ms.length) (hnl : ∀ m ∈ ms, m.name.length ≤ 1000000000) (hdl : ∀ m ∈ ms, m.data.length ≤ 1000000000) (hkd : ms[k].kind = 1) (hwd : ms[k].width = 0) : Calls Tryd.prog 25 #[.slice A ms.length c, .int .i64 k] W (ChkP ms[k] (ms.take k) W) := by
  have hnm := hnl _ (List.getElem_mem hk)
  have hdm := hdl _ (List.getElem_mem hk)
  obtain ⟨b, o, hA, hc'⟩ := hM.2 (by omega)
  subst hA
  obtain ⟨D, dc, hrg, -, -⟩ := hc' k hk
  obtain ⟨m, hm⟩ : ∃ m, ms[k] = m := ⟨_, rfl⟩
  rw [hm] at hrg hkd hwd hnm hdm ⊢
  have hrg2 : W.rangeAt b (o + k * 5) (mdV m D dc).toArray.toList := by simpa using hrg
  have k1 : (m.kind == 1) = true := by rw [beq_iff_eq]; omega
  have k3 : (m.kind == 3) = false := by rw [beq_eq_false_iff_ne]; omega
  have kl : decide (m.kind < 1) = false := decide_eq_false (by omega)
  have kh : decide (3 < m.kind) = false := decide_eq_false (by omega)
  have w32 : (m.width != 32) = true := by rw [bne_iff_ne]; omega
  have w39 : (m.width != 39) = true := by rw [bne_iff_ne]; omega
  have w0 : (m.width != 0) = false := by rw [bne_eq_false_iff_eq]; omega
  have HK := Lib.hid hkd
  have HW := Lib.hid hwd
  have hki : (k : Int) < ms.length := by omega
  have hk0 : (0 : Int) ≤ (k : Int) := by omega
  clear hkd hwd hc' hm hrg
  go_enter Tryd.func25, Tryd.ntmps25
  go_upto_region 2 with (first | ((with_reducible refine wp_load_g ?_ hrg2 Tryd.underlying35 rfl (info35 _ _ _) ?_ ?_); rfl; rfl) | ((with_reducible refine wp_row_store (L := (mdV m D dc).toArray) (Row.bornAt (g := W.heap.size) rfl 35 _) ?_ (info35 _ _ _) (mdV_one _ _ _) ?_ ?_ ?_); rfl; rfl; rfl; intro w3 u3 r3))
  have hB := Upd.below ((Below.refl W.heap.size W).alloc (Nat.le_refl _) (.cells ZM 35)) u3 (Nat.le_refl _)
  obtain ⟨c0, c1, c2, c3, c4⟩ := md_cells r3
  clear u3 hrg2
  obtain ⟨q8, hq8⟩ : ∃ q8, m.data.length / 8 = q8 := ⟨_, rfl⟩
  have hdv := tdiv8 m.data.length
  rw [hq8] at hdv
  have HQ8 := Lib.hid hq8
  have hwq : IntKind.i64.wrap (q8 : Int) = (q8 : Int) := by rw [IntKind.wrap_i64]; omega
  clear hq8
  cases hnb : nameB m.name
  · have HNB := Lib.hid hnb
    have HE := Lib.hid (show chkE m (ms.take k) = 63 by unfold chkE; rw [hnb]; rfl)
    clear hnb
    go_wp2_with ((go_at_call 41; refine (name_is HNB.out hnm _).mono ?_; rintro en w4 ⟨rfl, hw4⟩; subst w4))
    go_ret
    exact chk_mk HE.out hB
  have HNB := Lib.hid hnb
  have HE := Lib.hid (show chkE m (ms.take k) = 6 by unfold chkE; rw [if_pos hnb, if_pos]; have h1 := HK.out; have h2 := HW.out; refine .inr (.inr ?_); unfold badW; simp [h1, h2])
  clear hnb
  go_wp2_with ((go_at_call 41; refine (name_is HNB.out hnm _).mono ?_; rintro en w4 ⟨rfl, hw4⟩; subst w4))
  go_ret
  exact chk_mk HE.out hB
set_option maxRecDepth 100000 in
set_option maxHeartbeats 8000000 in
theorem chk_k1wx (ms : List Md) (A : Option Addr) (c k : Nat) (W : World) (hM : IsMs W A ms.length ms) (hc : ms.length ≤ c) (hl : ms.length ≤ 1000000) (hk : k < ms.length) (hnl : ∀ m ∈ ms, m.name.length ≤ 1000000000) (hdl : ∀ m ∈ ms, m.data.length ≤ 1000000000) (hkd : ms[k].kind = 1) (hwd : (ms[k].width ≠ 32 ∧ ms[k].width ≠ 39 ∧ ms[k].width ≠ 0)) : Calls Tryd.prog 25 #[.slice A ms.length c, .int .i64 k] W (ChkP ms[k] (ms.take k) W) := by
  have hnm := hnl _ (List.getElem_mem hk)
  have hdm := hdl _ (List.getElem_mem hk)
  obtain ⟨b, o, hA, hc'⟩ := hM.2 (by omega)
  subst hA
  obtain ⟨D, dc, hrg, -, -⟩ := hc' k hk
  obtain ⟨m, hm⟩ : ∃ m, ms[k] = m := ⟨_, rfl⟩
  rw [hm] at hrg hkd hwd hnm hdm ⊢
  have hrg2 : W.rangeAt b (o + k * 5) (mdV m D dc).toArray.toList := by simpa using hrg
  have k1 : (m.kind == 1) = true := by rw [beq_iff_eq]; omega
  have k3 : (m.kind == 3) = false := by rw [beq_eq_false_iff_ne]; omega
  have kl : decide (m.kind < 1) = false := decide_eq_false (by omega)
  have kh : decide (3 < m.kind) = false := decide_eq_false (by omega)
  have w32 : (m.width != 32) = true := by rw [bne_iff_ne]; omega
  have w39 : (m.width != 39) = true := by rw [bne_iff_ne]; omega
  have w0 : (m.width != 0) = true := by rw [bne_iff_ne]; omega
  have HK := Lib.hid hkd
  have HW := Lib.hid hwd
  have hki : (k : Int) < ms.length := by omega
  have hk0 : (0 : Int) ≤ (k : Int) := by omega
  clear hkd hwd hc' hm hrg
  go_enter Tryd.func25, Tryd.ntmps25
  go_upto_region 2 with (first | ((with_reducible refine wp_load_g ?_ hrg2 Tryd.underlying35 rfl (info35 _ _ _) ?_ ?_); rfl; rfl) | ((with_reducible refine wp_row_store (L := (mdV m D dc).toArray) (Row.bornAt (g := W.heap.size) rfl 35 _) ?_ (info35 _ _ _) (mdV_one _ _ _) ?_ ?_ ?_); rfl; rfl; rfl; intro w3 u3 r3))
  have hB := Upd.below ((Below.refl W.heap.size W).alloc (Nat.le_refl _) (.cells ZM 35)) u3 (Nat.le_refl _)
  obtain ⟨c0, c1, c2, c3, c4⟩ := md_cells r3
  clear u3 hrg2
  obtain ⟨q8, hq8⟩ : ∃ q8, m.data.length / 8 = q8 := ⟨_, rfl⟩
  have hdv := tdiv8 m.data.length
  rw [hq8] at hdv
  have HQ8 := Lib.hid hq8
  have hwq : IntKind.i64.wrap (q8 : Int) = (q8 : Int) := by rw [IntKind.wrap_i64]; omega
  clear hq8
  cases hnb : nameB m.name
  · have HNB := Lib.hid hnb
    have HE := Lib.hid (show chkE m (ms.take k) = 63 by unfold chkE; rw [hnb]; rfl)
    clear hnb
    go_wp2_with ((go_at_call 41; refine (name_is HNB.out hnm _).mono ?_; rintro en w4 ⟨rfl, hw4⟩; subst w4))
    go_ret
    exact chk_mk HE.out hB
  have HNB := Lib.hid hnb
  have HE := Lib.hid (show chkE m (ms.take k) = 6 by unfold chkE; rw [if_pos hnb, if_pos]; have h1 := HK.out; have h2 := HW.out; refine .inr (.inr ?_); unfold badW; simp [h1, h2])
  clear hnb
  go_wp2_with ((go_at_call 41; refine (name_is HNB.out hnm _).mono ?_; rintro en w4 ⟨rfl, hw4⟩; subst w4))
  go_ret
  exact chk_mk HE.out hB
set_option maxRecDepth 100000 in
set_option maxHeartbeats 8000000 in
theorem chk_k2w32 (ms : List Md) (A : Option Addr) (c k : Nat) (W : World) (hM : IsMs W A ms.length ms) (hc : ms.length ≤ c) (hl : ms.length ≤ 1000000) (hk : k < ms.length) (hnl : ∀ m ∈ ms, m.name.length ≤ 1000000000) (hdl : ∀ m ∈ ms, m.data.length ≤ 1000000000) (hkd : ms[k].kind = 2) (hwd : ms[k].width = 32) : Calls Tryd.prog 25 #[.slice A ms.length c, .int .i64 k] W (ChkP ms[k] (ms.take k) W) := by
  have hnm := hnl _ (List.getElem_mem hk)
  have hdm := hdl _ (List.getElem_mem hk)
  obtain ⟨b, o, hA, hc'⟩ := hM.2 (by omega)
  subst hA
  obtain ⟨D, dc, hrg, -, -⟩ := hc' k hk
  obtain ⟨m, hm⟩ : ∃ m, ms[k] = m := ⟨_, rfl⟩
  rw [hm] at hrg hkd hwd hnm hdm ⊢
  have hrg2 : W.rangeAt b (o + k * 5) (mdV m D dc).toArray.toList := by simpa using hrg
  have k1 : (m.kind == 1) = false := by rw [beq_eq_false_iff_ne]; omega
  have k3 : (m.kind == 3) = false := by rw [beq_eq_false_iff_ne]; omega
  have kl : decide (m.kind < 1) = false := decide_eq_false (by omega)
  have kh : decide (3 < m.kind) = false := decide_eq_false (by omega)
  have w32 : (m.width != 32) = false := by rw [bne_eq_false_iff_eq]; omega
  have w39 : (m.width != 39) = true := by rw [bne_iff_ne]; omega
  have w0 : (m.width != 0) = true := by rw [bne_iff_ne]; omega
  have HK := Lib.hid hkd
  have HW := Lib.hid hwd
  have hki : (k : Int) < ms.length := by omega
  have hk0 : (0 : Int) ≤ (k : Int) := by omega
  clear hkd hwd hc' hm hrg
  go_enter Tryd.func25, Tryd.ntmps25
  go_upto_region 2 with (first | ((with_reducible refine wp_load_g ?_ hrg2 Tryd.underlying35 rfl (info35 _ _ _) ?_ ?_); rfl; rfl) | ((with_reducible refine wp_row_store (L := (mdV m D dc).toArray) (Row.bornAt (g := W.heap.size) rfl 35 _) ?_ (info35 _ _ _) (mdV_one _ _ _) ?_ ?_ ?_); rfl; rfl; rfl; intro w3 u3 r3))
  have hB := Upd.below ((Below.refl W.heap.size W).alloc (Nat.le_refl _) (.cells ZM 35)) u3 (Nat.le_refl _)
  obtain ⟨c0, c1, c2, c3, c4⟩ := md_cells r3
  clear u3 hrg2
  cases hnb : nameB m.name
  · have HNB := Lib.hid hnb
    have HE := Lib.hid (show chkE m (ms.take k) = 63 by unfold chkE; rw [hnb]; rfl)
    clear hnb
    go_wp2_with ((go_at_call 41; refine (name_is HNB.out hnm _).mono ?_; rintro en w4 ⟨rfl, hw4⟩; subst w4))
    go_ret
    exact chk_mk HE.out hB
  have HNB := Lib.hid hnb
  have HR := Lib.hid (show ¬ (m.kind < 1 ∨ 3 < m.kind ∨ badW m = true) by have h1 := HK.out; have h2 := HW.out; unfold badW; simp [h1, h2])
  have HEN := Lib.hid (show entN m = 1 by unfold entN; rw [if_neg (by have := HK.out; omega)])
  have HNE := Lib.hid hnb
  clear hnb
  have HA8 := Lib.hid (show ¬ (m.kind = 1 ∧ (m.data.length = 0 ∨ m.data.length % 8 ≠ 0)) by have h1 := HK.out; omega)
  by_cases he : m.entry < 0
  · have HE := Lib.hid (show chkE m (ms.take k) = 6 by unfold chkE; rw [if_pos HNE.out, if_neg HR.out, if_neg HA8.out, if_pos (.inl he)])
    have x0 : decide (m.entry < 0) = true := decide_eq_true he
    clear he
    go_wp2_with ((go_at_call 41; refine (name_is HNB.out hnm _).mono ?_; rintro en w4 ⟨rfl, hw4⟩; subst w4))
    go_ret
    exact chk_mk HE.out hB
  by_cases he2 : 1 ≤ m.entry
  · have HE := Lib.hid (show chkE m (ms.take k) = 6 by unfold chkE; rw [if_pos HNE.out, if_neg HR.out, if_neg HA8.out, if_pos (.inr (by rw [HEN.out]; exact he2))])
    have x0 : decide (m.entry < 0) = false := decide_eq_false he
    have x1 : decide (1 ≤ m.entry) = true := decide_eq_true he2
    clear he he2
    go_wp2_with ((go_at_call 41; refine (name_is HNB.out hnm _).mono ?_; rintro en w4 ⟨rfl, hw4⟩; subst w4))
    go_ret
    exact chk_mk HE.out hB
  have HE6 := Lib.hid (show ¬ (m.entry < 0 ∨ entN m ≤ m.entry) by rw [HEN.out]; omega)
  have x0 : decide (m.entry < 0) = false := decide_eq_false he
  have x1 : decide (1 ≤ m.entry) = false := decide_eq_false he2
  clear he he2
  have hMk := (hM.below hB).take k (by omega)
  have hkt : k = (ms.take k).length := by rw [List.length_take]; omega
  have hlk : (ms.take k).length ≤ 1000000 := by omega
  have HKT := Lib.hid hkt
  clear hkt
  obtain ⟨x, hx⟩ : ∃ x, fndK (ms.take k) m.name m.width = x := ⟨_, rfl⟩
  have hkc : (k : Int) ≤ (c : Int) := by omega
  have hkcn : k ≤ c := by omega
  go_upto_region 17 with ((go_at_call 41; refine (name_is HNB.out hnm _).mono ?_; rintro en w4 ⟨rfl, hw4⟩; subst w4))
  cases hfb : fndB (ms.take k) m.name m.width
  · have HFD := Lib.hid (⟨hx, hfb⟩ : fndK (ms.take k) m.name m.width = x ∧ fndB (ms.take k) m.name m.width = false)
    have HE := Lib.hid (show chkE m (ms.take k) = 0 by unfold chkE; rw [if_pos HNE.out, if_neg HR.out, if_neg HA8.out, if_neg HE6.out, hfb]; rfl)
    clear hx hfb
    refine wp_region_told (n := 91) (fun w' => Below w3.heap.size w3 w') (fun _ _ => True) (by kernel_rfl) (by kernel_rfl) (by rfl) (Below.refl _ _).drew ?_
    refine walk_pure (v := ?_) (fun _ => trivial) (fun _ => rfl) ?_ ?_; rotate_left; (focus (intro us w9 hS9 hF; clear hF; have r9 := r3.below hS9 r3.lt; obtain ⟨y0, y1, y2, y3, y4⟩ := md_cells r9; go_simp; (try with_reducible rfl); done)); simp only [Act.put, List.setIfInBounds_toArray, List.set_cons_zero, List.set_cons_succ, Nat.reduceAdd]
    refine walk_pure (v := ?_) (fun _ => trivial) (fun _ => rfl) ?_ ?_; rotate_left; (focus (intro us w9 hS9 hF; clear hF; have r9 := r3.below hS9 r3.lt; obtain ⟨y0, y1, y2, y3, y4⟩ := md_cells r9; go_simp; (try with_reducible rfl); done)); simp only [Act.put, List.setIfInBounds_toArray, List.set_cons_zero, List.set_cons_succ, Nat.reduceAdd]
    refine walk_pure (v := .slice (some ⟨b, o, none⟩) k c) (fun _ => trivial) (fun _ => rfl) ?_ ?_; (focus (intro us w9 hS9 hF; clear hF; go_simp; (try with_reducible rfl); done)); simp only [Act.put, List.setIfInBounds_toArray, List.set_cons_zero, List.set_cons_succ, Nat.reduceAdd]
    refine walk_pure (v := ?_) (fun _ => trivial) (fun _ => rfl) ?_ ?_; rotate_left; (focus (intro us w9 hS9 hF; clear hF; have r9 := r3.below hS9 r3.lt; obtain ⟨y0, y1, y2, y3, y4⟩ := md_cells r9; go_simp; (try with_reducible rfl); done)); simp only [Act.put, List.setIfInBounds_toArray, List.set_cons_zero, List.set_cons_succ, Nat.reduceAdd]
    refine walk_pure (v := ?_) (fun _ => trivial) (fun _ => rfl) ?_ ?_; rotate_left; (focus (intro us w9 hS9 hF; clear hF; have r9 := r3.below hS9 r3.lt; obtain ⟨y0, y1, y2, y3, y4⟩ := md_cells r9; go_simp; (try with_reducible rfl); done)); simp only [Act.put, List.setIfInBounds_toArray, List.set_cons_zero, List.set_cons_succ, Nat.reduceAdd]
    refine walk_pure (v := ?_) (fun _ => trivial) (fun _ => rfl) ?_ ?_; rotate_left; (focus (intro us w9 hS9 hF; clear hF; have r9 := r3.below hS9 r3.lt; obtain ⟨y0, y1, y2, y3, y4⟩ := md_cells r9; go_simp; (try with_reducible rfl); done)); simp only [Act.put, List.setIfInBounds_toArray, List.set_cons_zero, List.set_cons_succ, Nat.reduceAdd]
    refine walk_pure (v := ?_) (fun _ => trivial) (fun _ => rfl) ?_ ?_; rotate_left; (focus (intro us w9 hS9 hF; clear hF; have r9 := r3.below hS9 r3.lt; obtain ⟨y0, y1, y2, y3, y4⟩ := md_cells r9; go_simp; (try with_reducible rfl); done)); simp only [Act.put, List.setIfInBounds_toArray, List.set_cons_zero, List.set_cons_succ, Nat.reduceAdd]
    refine walk_fix (v := .tuple #[.int .i64 x, .bool false]) ?_ ?_; (focus (intro us w9 hS9 hF K hK; clear hF; go_simp; refine (find_is HFD.out (some ⟨b, o, none⟩) k c HKT.out w9 (hMk.below hS9) hlk).mono ?_; rintro en w' ⟨rfl, hbw⟩; exact hK _ (below_on hS9 hbw) trivial)); simp only [Act.put, List.setIfInBounds_toArray, List.set_cons_zero, List.set_cons_succ, Nat.reduceAdd]
    refine walk_pure (v := ?_) (fun _ => trivial) (fun _ => rfl) ?_ ?_; rotate_left; (focus (intro us w9 hS9 hF; clear hF; have r9 := r3.below hS9 r3.lt; obtain ⟨y0, y1, y2, y3, y4⟩ := md_cells r9; go_simp; (try with_reducible rfl); done)); simp only [Act.put, List.setIfInBounds_toArray, List.set_cons_zero, List.set_cons_succ, Nat.reduceAdd]
    refine walk_pure (v := .int .i64 x) (fun _ => trivial) (fun _ => rfl) ?_ ?_; (focus (intro us w9 hS9 hF; clear hF; go_simp; (try with_reducible rfl); done)); simp only [Act.put, List.setIfInBounds_toArray, List.set_cons_zero, List.set_cons_succ, Nat.reduceAdd]
    refine walk_pure (v := .bool false) (fun _ => trivial) (fun _ => rfl) ?_ ?_; (focus (intro us w9 hS9 hF; clear hF; go_simp; (try with_reducible rfl); done)); simp only [Act.put, List.setIfInBounds_toArray, List.set_cons_zero, List.set_cons_succ, Nat.reduceAdd]
    refine walk_pure (v := .int .i64 x) (fun _ => trivial) (fun _ => rfl) ?_ ?_; (focus (intro us w9 hS9 hF; clear hF; go_simp; (try with_reducible rfl); done)); simp only [Act.put, List.setIfInBounds_toArray, List.set_cons_zero, List.set_cons_succ, Nat.reduceAdd]
    refine walk_pure (v := .bool false) (fun _ => trivial) (fun _ => rfl) ?_ ?_; (focus (intro us w9 hS9 hF; clear hF; go_simp; (try with_reducible rfl); done)); simp only [Act.put, List.setIfInBounds_toArray, List.set_cons_zero, List.set_cons_succ, Nat.reduceAdd]
    refine walk_done fun us w9 hS9 hF => ?_
    clear hF
    have hB := hB.trans (hS9.mono hB.size)
    go_wp2
    go_ret
    exact chk_mk HE.out hB
  · have HFD := Lib.hid (⟨hx, hfb⟩ : fndK (ms.take k) m.name m.width = x ∧ fndB (ms.take k) m.name m.width = true)
    have HE := Lib.hid (show chkE m (ms.take k) = 56 by unfold chkE; rw [if_pos HNE.out, if_neg HR.out, if_neg HA8.out, if_neg HE6.out, hfb]; rfl)
    clear hx hfb
    refine wp_region_told (n := 91) (fun w' => Below w3.heap.size w3 w') (fun _ _ => True) (by kernel_rfl) (by kernel_rfl) (by rfl) (Below.refl _ _).drew ?_
    refine walk_pure (v := ?_) (fun _ => trivial) (fun _ => rfl) ?_ ?_; rotate_left; (focus (intro us w9 hS9 hF; clear hF; have r9 := r3.below hS9 r3.lt; obtain ⟨y0, y1, y2, y3, y4⟩ := md_cells r9; go_simp; (try with_reducible rfl); done)); simp only [Act.put, List.setIfInBounds_toArray, List.set_cons_zero, List.set_cons_succ, Nat.reduceAdd]
    refine walk_pure (v := ?_) (fun _ => trivial) (fun _ => rfl) ?_ ?_; rotate_left; (focus (intro us w9 hS9 hF; clear hF; have r9 := r3.below hS9 r3.lt; obtain ⟨y0, y1, y2, y3, y4⟩ := md_cells r9; go_simp; (try with_reducible rfl); done)); simp only [Act.put, List.setIfInBounds_toArray, List.set_cons_zero, List.set_cons_succ, Nat.reduceAdd]
    refine walk_pure (v := .slice (some ⟨b, o, none⟩) k c) (fun _ => trivial) (fun _ => rfl) ?_ ?_; (focus (intro us w9 hS9 hF; clear hF; go_simp; (try with_reducible rfl); done)); simp only [Act.put, List.setIfInBounds_toArray, List.set_cons_zero, List.set_cons_succ, Nat.reduceAdd]
    refine walk_pure (v := ?_) (fun _ => trivial) (fun _ => rfl) ?_ ?_; rotate_left; (focus (intro us w9 hS9 hF; clear hF; have r9 := r3.below hS9 r3.lt; obtain ⟨y0, y1, y2, y3, y4⟩ := md_cells r9; go_simp; (try with_reducible rfl); done)); simp only [Act.put, List.setIfInBounds_toArray, List.set_cons_zero, List.set_cons_succ, Nat.reduceAdd]
    refine walk_pure (v := ?_) (fun _ => trivial) (fun _ => rfl) ?_ ?_; rotate_left; (focus (intro us w9 hS9 hF; clear hF; have r9 := r3.below hS9 r3.lt; obtain ⟨y0, y1, y2, y3, y4⟩ := md_cells r9; go_simp; (try with_reducible rfl); done)); simp only [Act.put, List.setIfInBounds_toArray, List.set_cons_zero, List.set_cons_succ, Nat.reduceAdd]
    refine walk_pure (v := ?_) (fun _ => trivial) (fun _ => rfl) ?_ ?_; rotate_left; (focus (intro us w9 hS9 hF; clear hF; have r9 := r3.below hS9 r3.lt; obtain ⟨y0, y1, y2, y3, y4⟩ := md_cells r9; go_simp; (try with_reducible rfl); done)); simp only [Act.put, List.setIfInBounds_toArray, List.set_cons_zero, List.set_cons_succ, Nat.reduceAdd]
    refine walk_pure (v := ?_) (fun _ => trivial) (fun _ => rfl) ?_ ?_; rotate_left; (focus (intro us w9 hS9 hF; clear hF; have r9 := r3.below hS9 r3.lt; obtain ⟨y0, y1, y2, y3, y4⟩ := md_cells r9; go_simp; (try with_reducible rfl); done)); simp only [Act.put, List.setIfInBounds_toArray, List.set_cons_zero, List.set_cons_succ, Nat.reduceAdd]
    refine walk_fix (v := .tuple #[.int .i64 x, .bool true]) ?_ ?_; (focus (intro us w9 hS9 hF K hK; clear hF; go_simp; refine (find_is HFD.out (some ⟨b, o, none⟩) k c HKT.out w9 (hMk.below hS9) hlk).mono ?_; rintro en w' ⟨rfl, hbw⟩; exact hK _ (below_on hS9 hbw) trivial)); simp only [Act.put, List.setIfInBounds_toArray, List.set_cons_zero, List.set_cons_succ, Nat.reduceAdd]
    refine walk_pure (v := ?_) (fun _ => trivial) (fun _ => rfl) ?_ ?_; rotate_left; (focus (intro us w9 hS9 hF; clear hF; have r9 := r3.below hS9 r3.lt; obtain ⟨y0, y1, y2, y3, y4⟩ := md_cells r9; go_simp; (try with_reducible rfl); done)); simp only [Act.put, List.setIfInBounds_toArray, List.set_cons_zero, List.set_cons_succ, Nat.reduceAdd]
    refine walk_pure (v := .int .i64 x) (fun _ => trivial) (fun _ => rfl) ?_ ?_; (focus (intro us w9 hS9 hF; clear hF; go_simp; (try with_reducible rfl); done)); simp only [Act.put, List.setIfInBounds_toArray, List.set_cons_zero, List.set_cons_succ, Nat.reduceAdd]
    refine walk_pure (v := .bool true) (fun _ => trivial) (fun _ => rfl) ?_ ?_; (focus (intro us w9 hS9 hF; clear hF; go_simp; (try with_reducible rfl); done)); simp only [Act.put, List.setIfInBounds_toArray, List.set_cons_zero, List.set_cons_succ, Nat.reduceAdd]
    refine walk_pure (v := .int .i64 x) (fun _ => trivial) (fun _ => rfl) ?_ ?_; (focus (intro us w9 hS9 hF; clear hF; go_simp; (try with_reducible rfl); done)); simp only [Act.put, List.setIfInBounds_toArray, List.set_cons_zero, List.set_cons_succ, Nat.reduceAdd]
    refine walk_pure (v := .bool true) (fun _ => trivial) (fun _ => rfl) ?_ ?_; (focus (intro us w9 hS9 hF; clear hF; go_simp; (try with_reducible rfl); done)); simp only [Act.put, List.setIfInBounds_toArray, List.set_cons_zero, List.set_cons_succ, Nat.reduceAdd]
    refine walk_done fun us w9 hS9 hF => ?_
    clear hF
    have hB := hB.trans (hS9.mono hB.size)
    go_wp2
    go_ret
    exact chk_mk HE.out hB
set_option maxRecDepth 100000 in
set_option maxHeartbeats 8000000 in
theorem chk_k2w39 (ms : List Md) (A : Option Addr) (c k : Nat) (W : World) (hM : IsMs W A ms.length ms) (hc : ms.length ≤ c) (hl : ms.length ≤ 1000000) (hk : k < ms.length) (hnl : ∀ m ∈ ms, m.name.length ≤ 1000000000) (hdl : ∀ m ∈ ms, m.data.length ≤ 1000000000) (hkd : ms[k].kind = 2) (hwd : ms[k].width = 39) : Calls Tryd.prog 25 #[.slice A ms.length c, .int .i64 k] W (ChkP ms[k] (ms.take k) W) := by
  have hnm := hnl _ (List.getElem_mem hk)
  have hdm := hdl _ (List.getElem_mem hk)
  obtain ⟨b, o, hA, hc'⟩ := hM.2 (by omega)
  subst hA
  obtain ⟨D, dc, hrg, -, -⟩ := hc' k hk
  obtain ⟨m, hm⟩ : ∃ m, ms[k] = m := ⟨_, rfl⟩
  rw [hm] at hrg hkd hwd hnm hdm ⊢
  have hrg2 : W.rangeAt b (o + k * 5) (mdV m D dc).toArray.toList := by simpa using hrg
  have k1 : (m.kind == 1) = false := by rw [beq_eq_false_iff_ne]; omega
  have k3 : (m.kind == 3) = false := by rw [beq_eq_false_iff_ne]; omega
  have kl : decide (m.kind < 1) = false := decide_eq_false (by omega)
  have kh : decide (3 < m.kind) = false := decide_eq_false (by omega)
  have w32 : (m.width != 32) = true := by rw [bne_iff_ne]; omega
  have w39 : (m.width != 39) = false := by rw [bne_eq_false_iff_eq]; omega
  have w0 : (m.width != 0) = true := by rw [bne_iff_ne]; omega
  have HK := Lib.hid hkd
  have HW := Lib.hid hwd
  have hki : (k : Int) < ms.length := by omega
  have hk0 : (0 : Int) ≤ (k : Int) := by omega
  clear hkd hwd hc' hm hrg
  go_enter Tryd.func25, Tryd.ntmps25
  go_upto_region 2 with (first | ((with_reducible refine wp_load_g ?_ hrg2 Tryd.underlying35 rfl (info35 _ _ _) ?_ ?_); rfl; rfl) | ((with_reducible refine wp_row_store (L := (mdV m D dc).toArray) (Row.bornAt (g := W.heap.size) rfl 35 _) ?_ (info35 _ _ _) (mdV_one _ _ _) ?_ ?_ ?_); rfl; rfl; rfl; intro w3 u3 r3))
  have hB := Upd.below ((Below.refl W.heap.size W).alloc (Nat.le_refl _) (.cells ZM 35)) u3 (Nat.le_refl _)
  obtain ⟨c0, c1, c2, c3, c4⟩ := md_cells r3
  clear u3 hrg2
  cases hnb : nameB m.name
  · have HNB := Lib.hid hnb
    have HE := Lib.hid (show chkE m (ms.take k) = 63 by unfold chkE; rw [hnb]; rfl)
    clear hnb
    go_wp2_with ((go_at_call 41; refine (name_is HNB.out hnm _).mono ?_; rintro en w4 ⟨rfl, hw4⟩; subst w4))
    go_ret
    exact chk_mk HE.out hB
  have HNB := Lib.hid hnb
  have HR := Lib.hid (show ¬ (m.kind < 1 ∨ 3 < m.kind ∨ badW m = true) by have h1 := HK.out; have h2 := HW.out; unfold badW; simp [h1, h2])
  have HEN := Lib.hid (show entN m = 1 by unfold entN; rw [if_neg (by have := HK.out; omega)])
  have HNE := Lib.hid hnb
  clear hnb
  have HA8 := Lib.hid (show ¬ (m.kind = 1 ∧ (m.data.length = 0 ∨ m.data.length % 8 ≠ 0)) by have h1 := HK.out; omega)
  by_cases he : m.entry < 0
  · have HE := Lib.hid (show chkE m (ms.take k) = 6 by unfold chkE; rw [if_pos HNE.out, if_neg HR.out, if_neg HA8.out, if_pos (.inl he)])
    have x0 : decide (m.entry < 0) = true := decide_eq_true he
    clear he
    go_wp2_with ((go_at_call 41; refine (name_is HNB.out hnm _).mono ?_; rintro en w4 ⟨rfl, hw4⟩; subst w4))
    go_ret
    exact chk_mk HE.out hB
  by_cases he2 : 1 ≤ m.entry
  · have HE := Lib.hid (show chkE m (ms.take k) = 6 by unfold chkE; rw [if_pos HNE.out, if_neg HR.out, if_neg HA8.out, if_pos (.inr (by rw [HEN.out]; exact he2))])
    have x0 : decide (m.entry < 0) = false := decide_eq_false he
    have x1 : decide (1 ≤ m.entry) = true := decide_eq_true he2
    clear he he2
    go_wp2_with ((go_at_call 41; refine (name_is HNB.out hnm _).mono ?_; rintro en w4 ⟨rfl, hw4⟩; subst w4))
    go_ret
    exact chk_mk HE.out hB
  have HE6 := Lib.hid (show ¬ (m.entry < 0 ∨ entN m ≤ m.entry) by rw [HEN.out]; omega)
  have x0 : decide (m.entry < 0) = false := decide_eq_false he
  have x1 : decide (1 ≤ m.entry) = false := decide_eq_false he2
  clear he he2
  have hMk := (hM.below hB).take k (by omega)
  have hkt : k = (ms.take k).length := by rw [List.length_take]; omega
  have hlk : (ms.take k).length ≤ 1000000 := by omega
  have HKT := Lib.hid hkt
  clear hkt
  obtain ⟨x, hx⟩ : ∃ x, fndK (ms.take k) m.name m.width = x := ⟨_, rfl⟩
  have hkc : (k : Int) ≤ (c : Int) := by omega
  have hkcn : k ≤ c := by omega
  go_upto_region 17 with ((go_at_call 41; refine (name_is HNB.out hnm _).mono ?_; rintro en w4 ⟨rfl, hw4⟩; subst w4))
  cases hfb : fndB (ms.take k) m.name m.width
  · have HFD := Lib.hid (⟨hx, hfb⟩ : fndK (ms.take k) m.name m.width = x ∧ fndB (ms.take k) m.name m.width = false)
    have HE := Lib.hid (show chkE m (ms.take k) = 0 by unfold chkE; rw [if_pos HNE.out, if_neg HR.out, if_neg HA8.out, if_neg HE6.out, hfb]; rfl)
    clear hx hfb
    refine wp_region_told (n := 91) (fun w' => Below w3.heap.size w3 w') (fun _ _ => True) (by kernel_rfl) (by kernel_rfl) (by rfl) (Below.refl _ _).drew ?_
    refine walk_pure (v := ?_) (fun _ => trivial) (fun _ => rfl) ?_ ?_; rotate_left; (focus (intro us w9 hS9 hF; clear hF; have r9 := r3.below hS9 r3.lt; obtain ⟨y0, y1, y2, y3, y4⟩ := md_cells r9; go_simp; (try with_reducible rfl); done)); simp only [Act.put, List.setIfInBounds_toArray, List.set_cons_zero, List.set_cons_succ, Nat.reduceAdd]
    refine walk_pure (v := ?_) (fun _ => trivial) (fun _ => rfl) ?_ ?_; rotate_left; (focus (intro us w9 hS9 hF; clear hF; have r9 := r3.below hS9 r3.lt; obtain ⟨y0, y1, y2, y3, y4⟩ := md_cells r9; go_simp; (try with_reducible rfl); done)); simp only [Act.put, List.setIfInBounds_toArray, List.set_cons_zero, List.set_cons_succ, Nat.reduceAdd]
    refine walk_pure (v := .slice (some ⟨b, o, none⟩) k c) (fun _ => trivial) (fun _ => rfl) ?_ ?_; (focus (intro us w9 hS9 hF; clear hF; go_simp; (try with_reducible rfl); done)); simp only [Act.put, List.setIfInBounds_toArray, List.set_cons_zero, List.set_cons_succ, Nat.reduceAdd]
    refine walk_pure (v := ?_) (fun _ => trivial) (fun _ => rfl) ?_ ?_; rotate_left; (focus (intro us w9 hS9 hF; clear hF; have r9 := r3.below hS9 r3.lt; obtain ⟨y0, y1, y2, y3, y4⟩ := md_cells r9; go_simp; (try with_reducible rfl); done)); simp only [Act.put, List.setIfInBounds_toArray, List.set_cons_zero, List.set_cons_succ, Nat.reduceAdd]
    refine walk_pure (v := ?_) (fun _ => trivial) (fun _ => rfl) ?_ ?_; rotate_left; (focus (intro us w9 hS9 hF; clear hF; have r9 := r3.below hS9 r3.lt; obtain ⟨y0, y1, y2, y3, y4⟩ := md_cells r9; go_simp; (try with_reducible rfl); done)); simp only [Act.put, List.setIfInBounds_toArray, List.set_cons_zero, List.set_cons_succ, Nat.reduceAdd]
    refine walk_pure (v := ?_) (fun _ => trivial) (fun _ => rfl) ?_ ?_; rotate_left; (focus (intro us w9 hS9 hF; clear hF; have r9 := r3.below hS9 r3.lt; obtain ⟨y0, y1, y2, y3, y4⟩ := md_cells r9; go_simp; (try with_reducible rfl); done)); simp only [Act.put, List.setIfInBounds_toArray, List.set_cons_zero, List.set_cons_succ, Nat.reduceAdd]
    refine walk_pure (v := ?_) (fun _ => trivial) (fun _ => rfl) ?_ ?_; rotate_left; (focus (intro us w9 hS9 hF; clear hF; have r9 := r3.below hS9 r3.lt; obtain ⟨y0, y1, y2, y3, y4⟩ := md_cells r9; go_simp; (try with_reducible rfl); done)); simp only [Act.put, List.setIfInBounds_toArray, List.set_cons_zero, List.set_cons_succ, Nat.reduceAdd]
    refine walk_fix (v := .tuple #[.int .i64 x, .bool false]) ?_ ?_; (focus (intro us w9 hS9 hF K hK; clear hF; go_simp; refine (find_is HFD.out (some ⟨b, o, none⟩) k c HKT.out w9 (hMk.below hS9) hlk).mono ?_; rintro en w' ⟨rfl, hbw⟩; exact hK _ (below_on hS9 hbw) trivial)); simp only [Act.put, List.setIfInBounds_toArray, List.set_cons_zero, List.set_cons_succ, Nat.reduceAdd]
    refine walk_pure (v := ?_) (fun _ => trivial) (fun _ => rfl) ?_ ?_; rotate_left; (focus (intro us w9 hS9 hF; clear hF; have r9 := r3.below hS9 r3.lt; obtain ⟨y0, y1, y2, y3, y4⟩ := md_cells r9; go_simp; (try with_reducible rfl); done)); simp only [Act.put, List.setIfInBounds_toArray, List.set_cons_zero, List.set_cons_succ, Nat.reduceAdd]
    refine walk_pure (v := .int .i64 x) (fun _ => trivial) (fun _ => rfl) ?_ ?_; (focus (intro us w9 hS9 hF; clear hF; go_simp; (try with_reducible rfl); done)); simp only [Act.put, List.setIfInBounds_toArray, List.set_cons_zero, List.set_cons_succ, Nat.reduceAdd]
    refine walk_pure (v := .bool false) (fun _ => trivial) (fun _ => rfl) ?_ ?_; (focus (intro us w9 hS9 hF; clear hF; go_simp; (try with_reducible rfl); done)); simp only [Act.put, List.setIfInBounds_toArray, List.set_cons_zero, List.set_cons_succ, Nat.reduceAdd]
    refine walk_pure (v := .int .i64 x) (fun _ => trivial) (fun _ => rfl) ?_ ?_; (focus (intro us w9 hS9 hF; clear hF; go_simp; (try with_reducible rfl); done)); simp only [Act.put, List.setIfInBounds_toArray, List.set_cons_zero, List.set_cons_succ, Nat.reduceAdd]
    refine walk_pure (v := .bool false) (fun _ => trivial) (fun _ => rfl) ?_ ?_; (focus (intro us w9 hS9 hF; clear hF; go_simp; (try with_reducible rfl); done)); simp only [Act.put, List.setIfInBounds_toArray, List.set_cons_zero, List.set_cons_succ, Nat.reduceAdd]
    refine walk_done fun us w9 hS9 hF => ?_
    clear hF
    have hB := hB.trans (hS9.mono hB.size)
    go_wp2
    go_ret
    exact chk_mk HE.out hB
  · have HFD := Lib.hid (⟨hx, hfb⟩ : fndK (ms.take k) m.name m.width = x ∧ fndB (ms.take k) m.name m.width = true)
    have HE := Lib.hid (show chkE m (ms.take k) = 56 by unfold chkE; rw [if_pos HNE.out, if_neg HR.out, if_neg HA8.out, if_neg HE6.out, hfb]; rfl)
    clear hx hfb
    refine wp_region_told (n := 91) (fun w' => Below w3.heap.size w3 w') (fun _ _ => True) (by kernel_rfl) (by kernel_rfl) (by rfl) (Below.refl _ _).drew ?_
    refine walk_pure (v := ?_) (fun _ => trivial) (fun _ => rfl) ?_ ?_; rotate_left; (focus (intro us w9 hS9 hF; clear hF; have r9 := r3.below hS9 r3.lt; obtain ⟨y0, y1, y2, y3, y4⟩ := md_cells r9; go_simp; (try with_reducible rfl); done)); simp only [Act.put, List.setIfInBounds_toArray, List.set_cons_zero, List.set_cons_succ, Nat.reduceAdd]
    refine walk_pure (v := ?_) (fun _ => trivial) (fun _ => rfl) ?_ ?_; rotate_left; (focus (intro us w9 hS9 hF; clear hF; have r9 := r3.below hS9 r3.lt; obtain ⟨y0, y1, y2, y3, y4⟩ := md_cells r9; go_simp; (try with_reducible rfl); done)); simp only [Act.put, List.setIfInBounds_toArray, List.set_cons_zero, List.set_cons_succ, Nat.reduceAdd]
    refine walk_pure (v := .slice (some ⟨b, o, none⟩) k c) (fun _ => trivial) (fun _ => rfl) ?_ ?_; (focus (intro us w9 hS9 hF; clear hF; go_simp; (try with_reducible rfl); done)); simp only [Act.put, List.setIfInBounds_toArray, List.set_cons_zero, List.set_cons_succ, Nat.reduceAdd]
    refine walk_pure (v := ?_) (fun _ => trivial) (fun _ => rfl) ?_ ?_; rotate_left; (focus (intro us w9 hS9 hF; clear hF; have r9 := r3.below hS9 r3.lt; obtain ⟨y0, y1, y2, y3, y4⟩ := md_cells r9; go_simp; (try with_reducible rfl); done)); simp only [Act.put, List.setIfInBounds_toArray, List.set_cons_zero, List.set_cons_succ, Nat.reduceAdd]
    refine walk_pure (v := ?_) (fun _ => trivial) (fun _ => rfl) ?_ ?_; rotate_left; (focus (intro us w9 hS9 hF; clear hF; have r9 := r3.below hS9 r3.lt; obtain ⟨y0, y1, y2, y3, y4⟩ := md_cells r9; go_simp; (try with_reducible rfl); done)); simp only [Act.put, List.setIfInBounds_toArray, List.set_cons_zero, List.set_cons_succ, Nat.reduceAdd]
    refine walk_pure (v := ?_) (fun _ => trivial) (fun _ => rfl) ?_ ?_; rotate_left; (focus (intro us w9 hS9 hF; clear hF; have r9 := r3.below hS9 r3.lt; obtain ⟨y0, y1, y2, y3, y4⟩ := md_cells r9; go_simp; (try with_reducible rfl); done)); simp only [Act.put, List.setIfInBounds_toArray, List.set_cons_zero, List.set_cons_succ, Nat.reduceAdd]
    refine walk_pure (v := ?_) (fun _ => trivial) (fun _ => rfl) ?_ ?_; rotate_left; (focus (intro us w9 hS9 hF; clear hF; have r9 := r3.below hS9 r3.lt; obtain ⟨y0, y1, y2, y3, y4⟩ := md_cells r9; go_simp; (try with_reducible rfl); done)); simp only [Act.put, List.setIfInBounds_toArray, List.set_cons_zero, List.set_cons_succ, Nat.reduceAdd]
    refine walk_fix (v := .tuple #[.int .i64 x, .bool true]) ?_ ?_; (focus (intro us w9 hS9 hF K hK; clear hF; go_simp; refine (find_is HFD.out (some ⟨b, o, none⟩) k c HKT.out w9 (hMk.below hS9) hlk).mono ?_; rintro en w' ⟨rfl, hbw⟩; exact hK _ (below_on hS9 hbw) trivial)); simp only [Act.put, List.setIfInBounds_toArray, List.set_cons_zero, List.set_cons_succ, Nat.reduceAdd]
    refine walk_pure (v := ?_) (fun _ => trivial) (fun _ => rfl) ?_ ?_; rotate_left; (focus (intro us w9 hS9 hF; clear hF; have r9 := r3.below hS9 r3.lt; obtain ⟨y0, y1, y2, y3, y4⟩ := md_cells r9; go_simp; (try with_reducible rfl); done)); simp only [Act.put, List.setIfInBounds_toArray, List.set_cons_zero, List.set_cons_succ, Nat.reduceAdd]
    refine walk_pure (v := .int .i64 x) (fun _ => trivial) (fun _ => rfl) ?_ ?_; (focus (intro us w9 hS9 hF; clear hF; go_simp; (try with_reducible rfl); done)); simp only [Act.put, List.setIfInBounds_toArray, List.set_cons_zero, List.set_cons_succ, Nat.reduceAdd]
    refine walk_pure (v := .bool true) (fun _ => trivial) (fun _ => rfl) ?_ ?_; (focus (intro us w9 hS9 hF; clear hF; go_simp; (try with_reducible rfl); done)); simp only [Act.put, List.setIfInBounds_toArray, List.set_cons_zero, List.set_cons_succ, Nat.reduceAdd]
    refine walk_pure (v := .int .i64 x) (fun _ => trivial) (fun _ => rfl) ?_ ?_; (focus (intro us w9 hS9 hF; clear hF; go_simp; (try with_reducible rfl); done)); simp only [Act.put, List.setIfInBounds_toArray, List.set_cons_zero, List.set_cons_succ, Nat.reduceAdd]
    refine walk_pure (v := .bool true) (fun _ => trivial) (fun _ => rfl) ?_ ?_; (focus (intro us w9 hS9 hF; clear hF; go_simp; (try with_reducible rfl); done)); simp only [Act.put, List.setIfInBounds_toArray, List.set_cons_zero, List.set_cons_succ, Nat.reduceAdd]
    refine walk_done fun us w9 hS9 hF => ?_
    clear hF
    have hB := hB.trans (hS9.mono hB.size)
    go_wp2
    go_ret
    exact chk_mk HE.out hB
set_option maxRecDepth 100000 in
set_option maxHeartbeats 8000000 in
theorem chk_k2w0 (ms : List Md) (A : Option Addr) (c k : Nat) (W : World) (hM : IsMs W A ms.length ms) (hc : ms.length ≤ c) (hl : ms.length ≤ 1000000) (hk : k < ms.length) (hnl : ∀ m ∈ ms, m.name.length ≤ 1000000000) (hdl : ∀ m ∈ ms, m.data.length ≤ 1000000000) (hkd : ms[k].kind = 2) (hwd : ms[k].width = 0) : Calls Tryd.prog 25 #[.slice A ms.length c, .int .i64 k] W (ChkP ms[k] (ms.take k) W) := by
  have hnm := hnl _ (List.getElem_mem hk)
  have hdm := hdl _ (List.getElem_mem hk)
  obtain ⟨b, o, hA, hc'⟩ := hM.2 (by omega)
  subst hA
  obtain ⟨D, dc, hrg, -, -⟩ := hc' k hk
  obtain ⟨m, hm⟩ : ∃ m, ms[k] = m := ⟨_, rfl⟩
  rw [hm] at hrg hkd hwd hnm hdm ⊢
  have hrg2 : W.rangeAt b (o + k * 5) (mdV m D dc).toArray.toList := by simpa using hrg
  have k1 : (m.kind == 1) = false := by rw [beq_eq_false_iff_ne]; omega
  have k3 : (m.kind == 3) = false := by rw [beq_eq_false_iff_ne]; omega
  have kl : decide (m.kind < 1) = false := decide_eq_false (by omega)
  have kh : decide (3 < m.kind) = false := decide_eq_false (by omega)
  have w32 : (m.width != 32) = true := by rw [bne_iff_ne]; omega
  have w39 : (m.width != 39) = true := by rw [bne_iff_ne]; omega
  have w0 : (m.width != 0) = false := by rw [bne_eq_false_iff_eq]; omega
  have HK := Lib.hid hkd
  have HW := Lib.hid hwd
  have hki : (k : Int) < ms.length := by omega
  have hk0 : (0 : Int) ≤ (k : Int) := by omega
  clear hkd hwd hc' hm hrg
  go_enter Tryd.func25, Tryd.ntmps25
  go_upto_region 2 with (first | ((with_reducible refine wp_load_g ?_ hrg2 Tryd.underlying35 rfl (info35 _ _ _) ?_ ?_); rfl; rfl) | ((with_reducible refine wp_row_store (L := (mdV m D dc).toArray) (Row.bornAt (g := W.heap.size) rfl 35 _) ?_ (info35 _ _ _) (mdV_one _ _ _) ?_ ?_ ?_); rfl; rfl; rfl; intro w3 u3 r3))
  have hB := Upd.below ((Below.refl W.heap.size W).alloc (Nat.le_refl _) (.cells ZM 35)) u3 (Nat.le_refl _)
  obtain ⟨c0, c1, c2, c3, c4⟩ := md_cells r3
  clear u3 hrg2
  cases hnb : nameB m.name
  · have HNB := Lib.hid hnb
    have HE := Lib.hid (show chkE m (ms.take k) = 63 by unfold chkE; rw [hnb]; rfl)
    clear hnb
    go_wp2_with ((go_at_call 41; refine (name_is HNB.out hnm _).mono ?_; rintro en w4 ⟨rfl, hw4⟩; subst w4))
    go_ret
    exact chk_mk HE.out hB
  have HNB := Lib.hid hnb
  have HE := Lib.hid (show chkE m (ms.take k) = 6 by unfold chkE; rw [if_pos hnb, if_pos]; have h1 := HK.out; have h2 := HW.out; refine .inr (.inr ?_); unfold badW; simp [h1, h2])
  clear hnb
  go_wp2_with ((go_at_call 41; refine (name_is HNB.out hnm _).mono ?_; rintro en w4 ⟨rfl, hw4⟩; subst w4))
  go_ret
  exact chk_mk HE.out hB
set_option maxRecDepth 100000 in
set_option maxHeartbeats 8000000 in
theorem chk_k2wx (ms : List Md) (A : Option Addr) (c k : Nat) (W : World) (hM : IsMs W A ms.length ms) (hc : ms.length ≤ c) (hl : ms.length ≤ 1000000) (hk : k < ms.length) (hnl : ∀ m ∈ ms, m.name.length ≤ 1000000000) (hdl : ∀ m ∈ ms, m.data.length ≤ 1000000000) (hkd : ms[k].kind = 2) (hwd : (ms[k].width ≠ 32 ∧ ms[k].width ≠ 39 ∧ ms[k].width ≠ 0)) : Calls Tryd.prog 25 #[.slice A ms.length c, .int .i64 k] W (ChkP ms[k] (ms.take k) W) := by
  have hnm := hnl _ (List.getElem_mem hk)
  have hdm := hdl _ (List.getElem_mem hk)
  obtain ⟨b, o, hA, hc'⟩ := hM.2 (by omega)
  subst hA
  obtain ⟨D, dc, hrg, -, -⟩ := hc' k hk
  obtain ⟨m, hm⟩ : ∃ m, ms[k] = m := ⟨_, rfl⟩
  rw [hm] at hrg hkd hwd hnm hdm ⊢
  have hrg2 : W.rangeAt b (o + k * 5) (mdV m D dc).toArray.toList := by simpa using hrg
  have k1 : (m.kind == 1) = false := by rw [beq_eq_false_iff_ne]; omega
  have k3 : (m.kind == 3) = false := by rw [beq_eq_false_iff_ne]; omega
  have kl : decide (m.kind < 1) = false := decide_eq_false (by omega)
  have kh : decide (3 < m.kind) = false := decide_eq_false (by omega)
  have w32 : (m.width != 32) = true := by rw [bne_iff_ne]; omega
  have w39 : (m.width != 39) = true := by rw [bne_iff_ne]; omega
  have w0 : (m.width != 0) = true := by rw [bne_iff_ne]; omega
  have HK := Lib.hid hkd
  have HW := Lib.hid hwd
  have hki : (k : Int) < ms.length := by omega
  have hk0 : (0 : Int) ≤ (k : Int) := by omega
  clear hkd hwd hc' hm hrg
  go_enter Tryd.func25, Tryd.ntmps25
  go_upto_region 2 with (first | ((with_reducible refine wp_load_g ?_ hrg2 Tryd.underlying35 rfl (info35 _ _ _) ?_ ?_); rfl; rfl) | ((with_reducible refine wp_row_store (L := (mdV m D dc).toArray) (Row.bornAt (g := W.heap.size) rfl 35 _) ?_ (info35 _ _ _) (mdV_one _ _ _) ?_ ?_ ?_); rfl; rfl; rfl; intro w3 u3 r3))
  have hB := Upd.below ((Below.refl W.heap.size W).alloc (Nat.le_refl _) (.cells ZM 35)) u3 (Nat.le_refl _)
  obtain ⟨c0, c1, c2, c3, c4⟩ := md_cells r3
  clear u3 hrg2
  cases hnb : nameB m.name
  · have HNB := Lib.hid hnb
    have HE := Lib.hid (show chkE m (ms.take k) = 63 by unfold chkE; rw [hnb]; rfl)
    clear hnb
    go_wp2_with ((go_at_call 41; refine (name_is HNB.out hnm _).mono ?_; rintro en w4 ⟨rfl, hw4⟩; subst w4))
    go_ret
    exact chk_mk HE.out hB
  have HNB := Lib.hid hnb
  have HE := Lib.hid (show chkE m (ms.take k) = 6 by unfold chkE; rw [if_pos hnb, if_pos]; have h1 := HK.out; have h2 := HW.out; refine .inr (.inr ?_); unfold badW; simp [h1, h2])
  clear hnb
  go_wp2_with ((go_at_call 41; refine (name_is HNB.out hnm _).mono ?_; rintro en w4 ⟨rfl, hw4⟩; subst w4))
  go_ret
  exact chk_mk HE.out hB
set_option maxRecDepth 100000 in
set_option maxHeartbeats 8000000 in
theorem chk_k3w32 (ms : List Md) (A : Option Addr) (c k : Nat) (W : World) (hM : IsMs W A ms.length ms) (hc : ms.length ≤ c) (hl : ms.length ≤ 1000000) (hk : k < ms.length) (hnl : ∀ m ∈ ms, m.name.length ≤ 1000000000) (hdl : ∀ m ∈ ms, m.data.length ≤ 1000000000) (hkd : ms[k].kind = 3) (hwd : ms[k].width = 32) : Calls Tryd.prog 25 #[.slice A ms.length c, .int .i64 k] W (ChkP ms[k] (ms.take k) W) := by
  have hnm := hnl _ (List.getElem_mem hk)
  have hdm := hdl _ (List.getElem_mem hk)
  obtain ⟨b, o, hA, hc'⟩ := hM.2 (by omega)
  subst hA
  obtain ⟨D, dc, hrg, -, -⟩ := hc' k hk
  obtain ⟨m, hm⟩ : ∃ m, ms[k] = m := ⟨_, rfl⟩
  rw [hm] at hrg hkd hwd hnm hdm ⊢
  have hrg2 : W.rangeAt b (o + k * 5) (mdV m D dc).toArray.toList := by simpa using hrg
  have k1 : (m.kind == 1) = false := by rw [beq_eq_false_iff_ne]; omega
  have k3 : (m.kind == 3) = true := by rw [beq_iff_eq]; omega
  have kl : decide (m.kind < 1) = false := decide_eq_false (by omega)
  have kh : decide (3 < m.kind) = false := decide_eq_false (by omega)
  have w32 : (m.width != 32) = false := by rw [bne_eq_false_iff_eq]; omega
  have w39 : (m.width != 39) = true := by rw [bne_iff_ne]; omega
  have w0 : (m.width != 0) = true := by rw [bne_iff_ne]; omega
  have HK := Lib.hid hkd
  have HW := Lib.hid hwd
  have hki : (k : Int) < ms.length := by omega
  have hk0 : (0 : Int) ≤ (k : Int) := by omega
  clear hkd hwd hc' hm hrg
  go_enter Tryd.func25, Tryd.ntmps25
  go_upto_region 2 with (first | ((with_reducible refine wp_load_g ?_ hrg2 Tryd.underlying35 rfl (info35 _ _ _) ?_ ?_); rfl; rfl) | ((with_reducible refine wp_row_store (L := (mdV m D dc).toArray) (Row.bornAt (g := W.heap.size) rfl 35 _) ?_ (info35 _ _ _) (mdV_one _ _ _) ?_ ?_ ?_); rfl; rfl; rfl; intro w3 u3 r3))
  have hB := Upd.below ((Below.refl W.heap.size W).alloc (Nat.le_refl _) (.cells ZM 35)) u3 (Nat.le_refl _)
  obtain ⟨c0, c1, c2, c3, c4⟩ := md_cells r3
  clear u3 hrg2
  cases hnb : nameB m.name
  · have HNB := Lib.hid hnb
    have HE := Lib.hid (show chkE m (ms.take k) = 63 by unfold chkE; rw [hnb]; rfl)
    clear hnb
    go_wp2_with ((go_at_call 41; refine (name_is HNB.out hnm _).mono ?_; rintro en w4 ⟨rfl, hw4⟩; subst w4))
    go_ret
    exact chk_mk HE.out hB
  have HNB := Lib.hid hnb
  have HE := Lib.hid (show chkE m (ms.take k) = 6 by unfold chkE; rw [if_pos hnb, if_pos]; have h1 := HK.out; have h2 := HW.out; refine .inr (.inr ?_); unfold badW; simp [h1, h2])
  clear hnb
  go_wp2_with ((go_at_call 41; refine (name_is HNB.out hnm _).mono ?_; rintro en w4 ⟨rfl, hw4⟩; subst w4))
  go_ret
  exact chk_mk HE.out hB
set_option maxRecDepth 100000 in
set_option maxHeartbeats 8000000 in
theorem chk_k3w39 (ms : List Md) (A : Option Addr) (c k : Nat) (W : World) (hM : IsMs W A ms.length ms) (hc : ms.length ≤ c) (hl : ms.length ≤ 1000000) (hk : k < ms.length) (hnl : ∀ m ∈ ms, m.name.length ≤ 1000000000) (hdl : ∀ m ∈ ms, m.data.length ≤ 1000000000) (hkd : ms[k].kind = 3) (hwd : ms[k].width = 39) : Calls Tryd.prog 25 #[.slice A ms.length c, .int .i64 k] W (ChkP ms[k] (ms.take k) W) := by
  have hnm := hnl _ (List.getElem_mem hk)
  have hdm := hdl _ (List.getElem_mem hk)
  obtain ⟨b, o, hA, hc'⟩ := hM.2 (by omega)
  subst hA
  obtain ⟨D, dc, hrg, -, -⟩ := hc' k hk
  obtain ⟨m, hm⟩ : ∃ m, ms[k] = m := ⟨_, rfl⟩
  rw [hm] at hrg hkd hwd hnm hdm ⊢
  have hrg2 : W.rangeAt b (o + k * 5) (mdV m D dc).toArray.toList := by simpa using hrg
  have k1 : (m.kind == 1) = false := by rw [beq_eq_false_iff_ne]; omega
  have k3 : (m.kind == 3) = true := by rw [beq_iff_eq]; omega
  have kl : decide (m.kind < 1) = false := decide_eq_false (by omega)
  have kh : decide (3 < m.kind) = false := decide_eq_false (by omega)
  have w32 : (m.width != 32) = true := by rw [bne_iff_ne]; omega
  have w39 : (m.width != 39) = false := by rw [bne_eq_false_iff_eq]; omega
  have w0 : (m.width != 0) = true := by rw [bne_iff_ne]; omega
  have HK := Lib.hid hkd
  have HW := Lib.hid hwd
  have hki : (k : Int) < ms.length := by omega
  have hk0 : (0 : Int) ≤ (k : Int) := by omega
  clear hkd hwd hc' hm hrg
  go_enter Tryd.func25, Tryd.ntmps25
  go_upto_region 2 with (first | ((with_reducible refine wp_load_g ?_ hrg2 Tryd.underlying35 rfl (info35 _ _ _) ?_ ?_); rfl; rfl) | ((with_reducible refine wp_row_store (L := (mdV m D dc).toArray) (Row.bornAt (g := W.heap.size) rfl 35 _) ?_ (info35 _ _ _) (mdV_one _ _ _) ?_ ?_ ?_); rfl; rfl; rfl; intro w3 u3 r3))
  have hB := Upd.below ((Below.refl W.heap.size W).alloc (Nat.le_refl _) (.cells ZM 35)) u3 (Nat.le_refl _)
  obtain ⟨c0, c1, c2, c3, c4⟩ := md_cells r3
  clear u3 hrg2
  cases hnb : nameB m.name
  · have HNB := Lib.hid hnb
    have HE := Lib.hid (show chkE m (ms.take k) = 63 by unfold chkE; rw [hnb]; rfl)
    clear hnb
    go_wp2_with ((go_at_call 41; refine (name_is HNB.out hnm _).mono ?_; rintro en w4 ⟨rfl, hw4⟩; subst w4))
    go_ret
    exact chk_mk HE.out hB
  have HNB := Lib.hid hnb
  have HE := Lib.hid (show chkE m (ms.take k) = 6 by unfold chkE; rw [if_pos hnb, if_pos]; have h1 := HK.out; have h2 := HW.out; refine .inr (.inr ?_); unfold badW; simp [h1, h2])
  clear hnb
  go_wp2_with ((go_at_call 41; refine (name_is HNB.out hnm _).mono ?_; rintro en w4 ⟨rfl, hw4⟩; subst w4))
  go_ret
  exact chk_mk HE.out hB
set_option maxRecDepth 100000 in
set_option maxHeartbeats 8000000 in
theorem chk_k3w0 (ms : List Md) (A : Option Addr) (c k : Nat) (W : World) (hM : IsMs W A ms.length ms) (hc : ms.length ≤ c) (hl : ms.length ≤ 1000000) (hk : k < ms.length) (hnl : ∀ m ∈ ms, m.name.length ≤ 1000000000) (hdl : ∀ m ∈ ms, m.data.length ≤ 1000000000) (hkd : ms[k].kind = 3) (hwd : ms[k].width = 0) : Calls Tryd.prog 25 #[.slice A ms.length c, .int .i64 k] W (ChkP ms[k] (ms.take k) W) := by
  have hnm := hnl _ (List.getElem_mem hk)
  have hdm := hdl _ (List.getElem_mem hk)
  obtain ⟨b, o, hA, hc'⟩ := hM.2 (by omega)
  subst hA
  obtain ⟨D, dc, hrg, -, -⟩ := hc' k hk
  obtain ⟨m, hm⟩ : ∃ m, ms[k] = m := ⟨_, rfl⟩
  rw [hm] at hrg hkd hwd hnm hdm ⊢
  have hrg2 : W.rangeAt b (o + k * 5) (mdV m D dc).toArray.toList := by simpa using hrg
  have k1 : (m.kind == 1) = false := by rw [beq_eq_false_iff_ne]; omega
  have k3 : (m.kind == 3) = true := by rw [beq_iff_eq]; omega
  have kl : decide (m.kind < 1) = false := decide_eq_false (by omega)
  have kh : decide (3 < m.kind) = false := decide_eq_false (by omega)
  have w32 : (m.width != 32) = true := by rw [bne_iff_ne]; omega
  have w39 : (m.width != 39) = true := by rw [bne_iff_ne]; omega
  have w0 : (m.width != 0) = false := by rw [bne_eq_false_iff_eq]; omega
  have HK := Lib.hid hkd
  have HW := Lib.hid hwd
  have hki : (k : Int) < ms.length := by omega
  have hk0 : (0 : Int) ≤ (k : Int) := by omega
  clear hkd hwd hc' hm hrg
  go_enter Tryd.func25, Tryd.ntmps25
  go_upto_region 2 with (first | ((with_reducible refine wp_load_g ?_ hrg2 Tryd.underlying35 rfl (info35 _ _ _) ?_ ?_); rfl; rfl) | ((with_reducible refine wp_row_store (L := (mdV m D dc).toArray) (Row.bornAt (g := W.heap.size) rfl 35 _) ?_ (info35 _ _ _) (mdV_one _ _ _) ?_ ?_ ?_); rfl; rfl; rfl; intro w3 u3 r3))
  have hB := Upd.below ((Below.refl W.heap.size W).alloc (Nat.le_refl _) (.cells ZM 35)) u3 (Nat.le_refl _)
  obtain ⟨c0, c1, c2, c3, c4⟩ := md_cells r3
  clear u3 hrg2
  cases hnb : nameB m.name
  · have HNB := Lib.hid hnb
    have HE := Lib.hid (show chkE m (ms.take k) = 63 by unfold chkE; rw [hnb]; rfl)
    clear hnb
    go_wp2_with ((go_at_call 41; refine (name_is HNB.out hnm _).mono ?_; rintro en w4 ⟨rfl, hw4⟩; subst w4))
    go_ret
    exact chk_mk HE.out hB
  have HNB := Lib.hid hnb
  have HR := Lib.hid (show ¬ (m.kind < 1 ∨ 3 < m.kind ∨ badW m = true) by have h1 := HK.out; have h2 := HW.out; unfold badW; simp [h1, h2])
  have HEN := Lib.hid (show entN m = 1 by unfold entN; rw [if_neg (by have := HK.out; omega)])
  have HNE := Lib.hid hnb
  clear hnb
  have HA8 := Lib.hid (show ¬ (m.kind = 1 ∧ (m.data.length = 0 ∨ m.data.length % 8 ≠ 0)) by have h1 := HK.out; omega)
  by_cases he : m.entry < 0
  · have HE := Lib.hid (show chkE m (ms.take k) = 6 by unfold chkE; rw [if_pos HNE.out, if_neg HR.out, if_neg HA8.out, if_pos (.inl he)])
    have x0 : decide (m.entry < 0) = true := decide_eq_true he
    clear he
    go_wp2_with ((go_at_call 41; refine (name_is HNB.out hnm _).mono ?_; rintro en w4 ⟨rfl, hw4⟩; subst w4))
    go_ret
    exact chk_mk HE.out hB
  by_cases he2 : 1 ≤ m.entry
  · have HE := Lib.hid (show chkE m (ms.take k) = 6 by unfold chkE; rw [if_pos HNE.out, if_neg HR.out, if_neg HA8.out, if_pos (.inr (by rw [HEN.out]; exact he2))])
    have x0 : decide (m.entry < 0) = false := decide_eq_false he
    have x1 : decide (1 ≤ m.entry) = true := decide_eq_true he2
    clear he he2
    go_wp2_with ((go_at_call 41; refine (name_is HNB.out hnm _).mono ?_; rintro en w4 ⟨rfl, hw4⟩; subst w4))
    go_ret
    exact chk_mk HE.out hB
  have HE6 := Lib.hid (show ¬ (m.entry < 0 ∨ entN m ≤ m.entry) by rw [HEN.out]; omega)
  have x0 : decide (m.entry < 0) = false := decide_eq_false he
  have x1 : decide (1 ≤ m.entry) = false := decide_eq_false he2
  clear he he2
  have hMk := (hM.below hB).take k (by omega)
  have hkt : k = (ms.take k).length := by rw [List.length_take]; omega
  have hlk : (ms.take k).length ≤ 1000000 := by omega
  have HKT := Lib.hid hkt
  clear hkt
  obtain ⟨x, hx⟩ : ∃ x, fndK (ms.take k) m.name m.width = x := ⟨_, rfl⟩
  have hkc : (k : Int) ≤ (c : Int) := by omega
  have hkcn : k ≤ c := by omega
  go_upto_region 17 with ((go_at_call 41; refine (name_is HNB.out hnm _).mono ?_; rintro en w4 ⟨rfl, hw4⟩; subst w4))
  cases hfb : fndB (ms.take k) m.name m.width
  · have HFD := Lib.hid (⟨hx, hfb⟩ : fndK (ms.take k) m.name m.width = x ∧ fndB (ms.take k) m.name m.width = false)
    have HE := Lib.hid (show chkE m (ms.take k) = 0 by unfold chkE; rw [if_pos HNE.out, if_neg HR.out, if_neg HA8.out, if_neg HE6.out, hfb]; rfl)
    clear hx hfb
    refine wp_region_told (n := 91) (fun w' => Below w3.heap.size w3 w') (fun _ _ => True) (by kernel_rfl) (by kernel_rfl) (by rfl) (Below.refl _ _).drew ?_
    refine walk_pure (v := ?_) (fun _ => trivial) (fun _ => rfl) ?_ ?_; rotate_left; (focus (intro us w9 hS9 hF; clear hF; have r9 := r3.below hS9 r3.lt; obtain ⟨y0, y1, y2, y3, y4⟩ := md_cells r9; go_simp; (try with_reducible rfl); done)); simp only [Act.put, List.setIfInBounds_toArray, List.set_cons_zero, List.set_cons_succ, Nat.reduceAdd]
    refine walk_pure (v := ?_) (fun _ => trivial) (fun _ => rfl) ?_ ?_; rotate_left; (focus (intro us w9 hS9 hF; clear hF; have r9 := r3.below hS9 r3.lt; obtain ⟨y0, y1, y2, y3, y4⟩ := md_cells r9; go_simp; (try with_reducible rfl); done)); simp only [Act.put, List.setIfInBounds_toArray, List.set_cons_zero, List.set_cons_succ, Nat.reduceAdd]
    refine walk_pure (v := .slice (some ⟨b, o, none⟩) k c) (fun _ => trivial) (fun _ => rfl) ?_ ?_; (focus (intro us w9 hS9 hF; clear hF; go_simp; (try with_reducible rfl); done)); simp only [Act.put, List.setIfInBounds_toArray, List.set_cons_zero, List.set_cons_succ, Nat.reduceAdd]
    refine walk_pure (v := ?_) (fun _ => trivial) (fun _ => rfl) ?_ ?_; rotate_left; (focus (intro us w9 hS9 hF; clear hF; have r9 := r3.below hS9 r3.lt; obtain ⟨y0, y1, y2, y3, y4⟩ := md_cells r9; go_simp; (try with_reducible rfl); done)); simp only [Act.put, List.setIfInBounds_toArray, List.set_cons_zero, List.set_cons_succ, Nat.reduceAdd]
    refine walk_pure (v := ?_) (fun _ => trivial) (fun _ => rfl) ?_ ?_; rotate_left; (focus (intro us w9 hS9 hF; clear hF; have r9 := r3.below hS9 r3.lt; obtain ⟨y0, y1, y2, y3, y4⟩ := md_cells r9; go_simp; (try with_reducible rfl); done)); simp only [Act.put, List.setIfInBounds_toArray, List.set_cons_zero, List.set_cons_succ, Nat.reduceAdd]
    refine walk_pure (v := ?_) (fun _ => trivial) (fun _ => rfl) ?_ ?_; rotate_left; (focus (intro us w9 hS9 hF; clear hF; have r9 := r3.below hS9 r3.lt; obtain ⟨y0, y1, y2, y3, y4⟩ := md_cells r9; go_simp; (try with_reducible rfl); done)); simp only [Act.put, List.setIfInBounds_toArray, List.set_cons_zero, List.set_cons_succ, Nat.reduceAdd]
    refine walk_pure (v := ?_) (fun _ => trivial) (fun _ => rfl) ?_ ?_; rotate_left; (focus (intro us w9 hS9 hF; clear hF; have r9 := r3.below hS9 r3.lt; obtain ⟨y0, y1, y2, y3, y4⟩ := md_cells r9; go_simp; (try with_reducible rfl); done)); simp only [Act.put, List.setIfInBounds_toArray, List.set_cons_zero, List.set_cons_succ, Nat.reduceAdd]
    refine walk_fix (v := .tuple #[.int .i64 x, .bool false]) ?_ ?_; (focus (intro us w9 hS9 hF K hK; clear hF; go_simp; refine (find_is HFD.out (some ⟨b, o, none⟩) k c HKT.out w9 (hMk.below hS9) hlk).mono ?_; rintro en w' ⟨rfl, hbw⟩; exact hK _ (below_on hS9 hbw) trivial)); simp only [Act.put, List.setIfInBounds_toArray, List.set_cons_zero, List.set_cons_succ, Nat.reduceAdd]
    refine walk_pure (v := ?_) (fun _ => trivial) (fun _ => rfl) ?_ ?_; rotate_left; (focus (intro us w9 hS9 hF; clear hF; have r9 := r3.below hS9 r3.lt; obtain ⟨y0, y1, y2, y3, y4⟩ := md_cells r9; go_simp; (try with_reducible rfl); done)); simp only [Act.put, List.setIfInBounds_toArray, List.set_cons_zero, List.set_cons_succ, Nat.reduceAdd]
    refine walk_pure (v := .int .i64 x) (fun _ => trivial) (fun _ => rfl) ?_ ?_; (focus (intro us w9 hS9 hF; clear hF; go_simp; (try with_reducible rfl); done)); simp only [Act.put, List.setIfInBounds_toArray, List.set_cons_zero, List.set_cons_succ, Nat.reduceAdd]
    refine walk_pure (v := .bool false) (fun _ => trivial) (fun _ => rfl) ?_ ?_; (focus (intro us w9 hS9 hF; clear hF; go_simp; (try with_reducible rfl); done)); simp only [Act.put, List.setIfInBounds_toArray, List.set_cons_zero, List.set_cons_succ, Nat.reduceAdd]
    refine walk_pure (v := .int .i64 x) (fun _ => trivial) (fun _ => rfl) ?_ ?_; (focus (intro us w9 hS9 hF; clear hF; go_simp; (try with_reducible rfl); done)); simp only [Act.put, List.setIfInBounds_toArray, List.set_cons_zero, List.set_cons_succ, Nat.reduceAdd]
    refine walk_pure (v := .bool false) (fun _ => trivial) (fun _ => rfl) ?_ ?_; (focus (intro us w9 hS9 hF; clear hF; go_simp; (try with_reducible rfl); done)); simp only [Act.put, List.setIfInBounds_toArray, List.set_cons_zero, List.set_cons_succ, Nat.reduceAdd]
    refine walk_done fun us w9 hS9 hF => ?_
    clear hF
    have hB := hB.trans (hS9.mono hB.size)
    go_wp2
    go_ret
    exact chk_mk HE.out hB
  · have HFD := Lib.hid (⟨hx, hfb⟩ : fndK (ms.take k) m.name m.width = x ∧ fndB (ms.take k) m.name m.width = true)
    have HE := Lib.hid (show chkE m (ms.take k) = 56 by unfold chkE; rw [if_pos HNE.out, if_neg HR.out, if_neg HA8.out, if_neg HE6.out, hfb]; rfl)
    clear hx hfb
    refine wp_region_told (n := 91) (fun w' => Below w3.heap.size w3 w') (fun _ _ => True) (by kernel_rfl) (by kernel_rfl) (by rfl) (Below.refl _ _).drew ?_
    refine walk_pure (v := ?_) (fun _ => trivial) (fun _ => rfl) ?_ ?_; rotate_left; (focus (intro us w9 hS9 hF; clear hF; have r9 := r3.below hS9 r3.lt; obtain ⟨y0, y1, y2, y3, y4⟩ := md_cells r9; go_simp; (try with_reducible rfl); done)); simp only [Act.put, List.setIfInBounds_toArray, List.set_cons_zero, List.set_cons_succ, Nat.reduceAdd]
    refine walk_pure (v := ?_) (fun _ => trivial) (fun _ => rfl) ?_ ?_; rotate_left; (focus (intro us w9 hS9 hF; clear hF; have r9 := r3.below hS9 r3.lt; obtain ⟨y0, y1, y2, y3, y4⟩ := md_cells r9; go_simp; (try with_reducible rfl); done)); simp only [Act.put, List.setIfInBounds_toArray, List.set_cons_zero, List.set_cons_succ, Nat.reduceAdd]
    refine walk_pure (v := .slice (some ⟨b, o, none⟩) k c) (fun _ => trivial) (fun _ => rfl) ?_ ?_; (focus (intro us w9 hS9 hF; clear hF; go_simp; (try with_reducible rfl); done)); simp only [Act.put, List.setIfInBounds_toArray, List.set_cons_zero, List.set_cons_succ, Nat.reduceAdd]
    refine walk_pure (v := ?_) (fun _ => trivial) (fun _ => rfl) ?_ ?_; rotate_left; (focus (intro us w9 hS9 hF; clear hF; have r9 := r3.below hS9 r3.lt; obtain ⟨y0, y1, y2, y3, y4⟩ := md_cells r9; go_simp; (try with_reducible rfl); done)); simp only [Act.put, List.setIfInBounds_toArray, List.set_cons_zero, List.set_cons_succ, Nat.reduceAdd]
    refine walk_pure (v := ?_) (fun _ => trivial) (fun _ => rfl) ?_ ?_; rotate_left; (focus (intro us w9 hS9 hF; clear hF; have r9 := r3.below hS9 r3.lt; obtain ⟨y0, y1, y2, y3, y4⟩ := md_cells r9; go_simp; (try with_reducible rfl); done)); simp only [Act.put, List.setIfInBounds_toArray, List.set_cons_zero, List.set_cons_succ, Nat.reduceAdd]
    refine walk_pure (v := ?_) (fun _ => trivial) (fun _ => rfl) ?_ ?_; rotate_left; (focus (intro us w9 hS9 hF; clear hF; have r9 := r3.below hS9 r3.lt; obtain ⟨y0, y1, y2, y3, y4⟩ := md_cells r9; go_simp; (try with_reducible rfl); done)); simp only [Act.put, List.setIfInBounds_toArray, List.set_cons_zero, List.set_cons_succ, Nat.reduceAdd]
    refine walk_pure (v := ?_) (fun _ => trivial) (fun _ => rfl) ?_ ?_; rotate_left; (focus (intro us w9 hS9 hF; clear hF; have r9 := r3.below hS9 r3.lt; obtain ⟨y0, y1, y2, y3, y4⟩ := md_cells r9; go_simp; (try with_reducible rfl); done)); simp only [Act.put, List.setIfInBounds_toArray, List.set_cons_zero, List.set_cons_succ, Nat.reduceAdd]
    refine walk_fix (v := .tuple #[.int .i64 x, .bool true]) ?_ ?_; (focus (intro us w9 hS9 hF K hK; clear hF; go_simp; refine (find_is HFD.out (some ⟨b, o, none⟩) k c HKT.out w9 (hMk.below hS9) hlk).mono ?_; rintro en w' ⟨rfl, hbw⟩; exact hK _ (below_on hS9 hbw) trivial)); simp only [Act.put, List.setIfInBounds_toArray, List.set_cons_zero, List.set_cons_succ, Nat.reduceAdd]
    refine walk_pure (v := ?_) (fun _ => trivial) (fun _ => rfl) ?_ ?_; rotate_left; (focus (intro us w9 hS9 hF; clear hF; have r9 := r3.below hS9 r3.lt; obtain ⟨y0, y1, y2, y3, y4⟩ := md_cells r9; go_simp; (try with_reducible rfl); done)); simp only [Act.put, List.setIfInBounds_toArray, List.set_cons_zero, List.set_cons_succ, Nat.reduceAdd]
    refine walk_pure (v := .int .i64 x) (fun _ => trivial) (fun _ => rfl) ?_ ?_; (focus (intro us w9 hS9 hF; clear hF; go_simp; (try with_reducible rfl); done)); simp only [Act.put, List.setIfInBounds_toArray, List.set_cons_zero, List.set_cons_succ, Nat.reduceAdd]
    refine walk_pure (v := .bool true) (fun _ => trivial) (fun _ => rfl) ?_ ?_; (focus (intro us w9 hS9 hF; clear hF; go_simp; (try with_reducible rfl); done)); simp only [Act.put, List.setIfInBounds_toArray, List.set_cons_zero, List.set_cons_succ, Nat.reduceAdd]
    refine walk_pure (v := .int .i64 x) (fun _ => trivial) (fun _ => rfl) ?_ ?_; (focus (intro us w9 hS9 hF; clear hF; go_simp; (try with_reducible rfl); done)); simp only [Act.put, List.setIfInBounds_toArray, List.set_cons_zero, List.set_cons_succ, Nat.reduceAdd]
    refine walk_pure (v := .bool true) (fun _ => trivial) (fun _ => rfl) ?_ ?_; (focus (intro us w9 hS9 hF; clear hF; go_simp; (try with_reducible rfl); done)); simp only [Act.put, List.setIfInBounds_toArray, List.set_cons_zero, List.set_cons_succ, Nat.reduceAdd]
    refine walk_done fun us w9 hS9 hF => ?_
    clear hF
    have hB := hB.trans (hS9.mono hB.size)
    go_wp2
    go_ret
    exact chk_mk HE.out hB
set_option maxRecDepth 100000 in
set_option maxHeartbeats 8000000 in
theorem chk_k3wx (ms : List Md) (A : Option Addr) (c k : Nat) (W : World) (hM : IsMs W A ms.length ms) (hc : ms.length ≤ c) (hl : ms.length ≤ 1000000) (hk : k < ms.length) (hnl : ∀ m ∈ ms, m.name.length ≤ 1000000000) (hdl : ∀ m ∈ ms, m.data.length ≤ 1000000000) (hkd : ms[k].kind = 3) (hwd : (ms[k].width ≠ 32 ∧ ms[k].width ≠ 39 ∧ ms[k].width ≠ 0)) : Calls Tryd.prog 25 #[.slice A ms.length c, .int .i64 k] W (ChkP ms[k] (ms.take k) W) := by
  have hnm := hnl _ (List.getElem_mem hk)
  have hdm := hdl _ (List.getElem_mem hk)
  obtain ⟨b, o, hA, hc'⟩ := hM.2 (by omega)
  subst hA
  obtain ⟨D, dc, hrg, -, -⟩ := hc' k hk
  obtain ⟨m, hm⟩ : ∃ m, ms[k] = m := ⟨_, rfl⟩
  rw [hm] at hrg hkd hwd hnm hdm ⊢
  have hrg2 : W.rangeAt b (o + k * 5) (mdV m D dc).toArray.toList := by simpa using hrg
  have k1 : (m.kind == 1) = false := by rw [beq_eq_false_iff_ne]; omega
  have k3 : (m.kind == 3) = true := by rw [beq_iff_eq]; omega
  have kl : decide (m.kind < 1) = false := decide_eq_false (by omega)
  have kh : decide (3 < m.kind) = false := decide_eq_false (by omega)
  have w32 : (m.width != 32) = true := by rw [bne_iff_ne]; omega
  have w39 : (m.width != 39) = true := by rw [bne_iff_ne]; omega
  have w0 : (m.width != 0) = true := by rw [bne_iff_ne]; omega
  have HK := Lib.hid hkd
  have HW := Lib.hid hwd
  have hki : (k : Int) < ms.length := by omega
  have hk0 : (0 : Int) ≤ (k : Int) := by omega
  clear hkd hwd hc' hm hrg
  go_enter Tryd.func25, Tryd.ntmps25
  go_upto_region 2 with (first | ((with_reducible refine wp_load_g ?_ hrg2 Tryd.underlying35 rfl (info35 _ _ _) ?_ ?_); rfl; rfl) | ((with_reducible refine wp_row_store (L := (mdV m D dc).toArray) (Row.bornAt (g := W.heap.size) rfl 35 _) ?_ (info35 _ _ _) (mdV_one _ _ _) ?_ ?_ ?_); rfl; rfl; rfl; intro w3 u3 r3))
  have hB := Upd.below ((Below.refl W.heap.size W).alloc (Nat.le_refl _) (.cells ZM 35)) u3 (Nat.le_refl _)
  obtain ⟨c0, c1, c2, c3, c4⟩ := md_cells r3
  clear u3 hrg2
  cases hnb : nameB m.name
  · have HNB := Lib.hid hnb
    have HE := Lib.hid (show chkE m (ms.take k) = 63 by unfold chkE; rw [hnb]; rfl)
    clear hnb
    go_wp2_with ((go_at_call 41; refine (name_is HNB.out hnm _).mono ?_; rintro en w4 ⟨rfl, hw4⟩; subst w4))
    go_ret
    exact chk_mk HE.out hB
  have HNB := Lib.hid hnb
  have HE := Lib.hid (show chkE m (ms.take k) = 6 by unfold chkE; rw [if_pos hnb, if_pos]; have h1 := HK.out; have h2 := HW.out; refine .inr (.inr ?_); unfold badW; simp [h1, h2])
  clear hnb
  go_wp2_with ((go_at_call 41; refine (name_is HNB.out hnm _).mono ?_; rintro en w4 ⟨rfl, hw4⟩; subst w4))
  go_ret
  exact chk_mk HE.out hB
set_option maxRecDepth 100000 in
set_option maxHeartbeats 8000000 in
theorem chk_khiw32 (ms : List Md) (A : Option Addr) (c k : Nat) (W : World) (hM : IsMs W A ms.length ms) (hc : ms.length ≤ c) (hl : ms.length ≤ 1000000) (hk : k < ms.length) (hnl : ∀ m ∈ ms, m.name.length ≤ 1000000000) (hdl : ∀ m ∈ ms, m.data.length ≤ 1000000000) (hkd : 3 < ms[k].kind) (hwd : ms[k].width = 32) : Calls Tryd.prog 25 #[.slice A ms.length c, .int .i64 k] W (ChkP ms[k] (ms.take k) W) := by
  have hnm := hnl _ (List.getElem_mem hk)
  have hdm := hdl _ (List.getElem_mem hk)
  obtain ⟨b, o, hA, hc'⟩ := hM.2 (by omega)
  subst hA
  obtain ⟨D, dc, hrg, -, -⟩ := hc' k hk
  obtain ⟨m, hm⟩ : ∃ m, ms[k] = m := ⟨_, rfl⟩
  rw [hm] at hrg hkd hwd hnm hdm ⊢
  have hrg2 : W.rangeAt b (o + k * 5) (mdV m D dc).toArray.toList := by simpa using hrg
  have k1 : (m.kind == 1) = false := by rw [beq_eq_false_iff_ne]; omega
  have k3 : (m.kind == 3) = false := by rw [beq_eq_false_iff_ne]; omega
  have kl : decide (m.kind < 1) = false := decide_eq_false (by omega)
  have kh : decide (3 < m.kind) = true := decide_eq_true (by omega)
  have w32 : (m.width != 32) = false := by rw [bne_eq_false_iff_eq]; omega
  have w39 : (m.width != 39) = true := by rw [bne_iff_ne]; omega
  have w0 : (m.width != 0) = true := by rw [bne_iff_ne]; omega
  have HK := Lib.hid hkd
  have HW := Lib.hid hwd
  have hki : (k : Int) < ms.length := by omega
  have hk0 : (0 : Int) ≤ (k : Int) := by omega
  clear hkd hwd hc' hm hrg
  go_enter Tryd.func25, Tryd.ntmps25
  go_upto_region 2 with (first | ((with_reducible refine wp_load_g ?_ hrg2 Tryd.underlying35 rfl (info35 _ _ _) ?_ ?_); rfl; rfl) | ((with_reducible refine wp_row_store (L := (mdV m D dc).toArray) (Row.bornAt (g := W.heap.size) rfl 35 _) ?_ (info35 _ _ _) (mdV_one _ _ _) ?_ ?_ ?_); rfl; rfl; rfl; intro w3 u3 r3))
  have hB := Upd.below ((Below.refl W.heap.size W).alloc (Nat.le_refl _) (.cells ZM 35)) u3 (Nat.le_refl _)
  obtain ⟨c0, c1, c2, c3, c4⟩ := md_cells r3
  clear u3 hrg2
  cases hnb : nameB m.name
  · have HNB := Lib.hid hnb
    have HE := Lib.hid (show chkE m (ms.take k) = 63 by unfold chkE; rw [hnb]; rfl)
    clear hnb
    go_wp2_with ((go_at_call 41; refine (name_is HNB.out hnm _).mono ?_; rintro en w4 ⟨rfl, hw4⟩; subst w4))
    go_ret
    exact chk_mk HE.out hB
  have HNB := Lib.hid hnb
  have HE := Lib.hid (show chkE m (ms.take k) = 6 by unfold chkE; rw [if_pos hnb, if_pos]; have h1 := HK.out; have h2 := HW.out; exact .inr (.inl h1))
  clear hnb
  go_wp2_with ((go_at_call 41; refine (name_is HNB.out hnm _).mono ?_; rintro en w4 ⟨rfl, hw4⟩; subst w4))
  go_ret
  exact chk_mk HE.out hB
set_option maxRecDepth 100000 in
set_option maxHeartbeats 8000000 in
theorem chk_khiw39 (ms : List Md) (A : Option Addr) (c k : Nat) (W : World) (hM : IsMs W A ms.length ms) (hc : ms.length ≤ c) (hl : ms.length ≤ 1000000) (hk : k < ms.length) (hnl : ∀ m ∈ ms, m.name.length ≤ 1000000000) (hdl : ∀ m ∈ ms, m.data.length ≤ 1000000000) (hkd : 3 < ms[k].kind) (hwd : ms[k].width = 39) : Calls Tryd.prog 25 #[.slice A ms.length c, .int .i64 k] W (ChkP ms[k] (ms.take k) W) := by
  have hnm := hnl _ (List.getElem_mem hk)
  have hdm := hdl _ (List.getElem_mem hk)
  obtain ⟨b, o, hA, hc'⟩ := hM.2 (by omega)
  subst hA
  obtain ⟨D, dc, hrg, -, -⟩ := hc' k hk
  obtain ⟨m, hm⟩ : ∃ m, ms[k] = m := ⟨_, rfl⟩
  rw [hm] at hrg hkd hwd hnm hdm ⊢
  have hrg2 : W.rangeAt b (o + k * 5) (mdV m D dc).toArray.toList := by simpa using hrg
  have k1 : (m.kind == 1) = false := by rw [beq_eq_false_iff_ne]; omega
  have k3 : (m.kind == 3) = false := by rw [beq_eq_false_iff_ne]; omega
  have kl : decide (m.kind < 1) = false := decide_eq_false (by omega)
  have kh : decide (3 < m.kind) = true := decide_eq_true (by omega)
  have w32 : (m.width != 32) = true := by rw [bne_iff_ne]; omega
  have w39 : (m.width != 39) = false := by rw [bne_eq_false_iff_eq]; omega
  have w0 : (m.width != 0) = true := by rw [bne_iff_ne]; omega
  have HK := Lib.hid hkd
  have HW := Lib.hid hwd
  have hki : (k : Int) < ms.length := by omega
  have hk0 : (0 : Int) ≤ (k : Int) := by omega
  clear hkd hwd hc' hm hrg
  go_enter Tryd.func25, Tryd.ntmps25
  go_upto_region 2 with (first | ((with_reducible refine wp_load_g ?_ hrg2 Tryd.underlying35 rfl (info35 _ _ _) ?_ ?_); rfl; rfl) | ((with_reducible refine wp_row_store (L := (mdV m D dc).toArray) (Row.bornAt (g := W.heap.size) rfl 35 _) ?_ (info35 _ _ _) (mdV_one _ _ _) ?_ ?_ ?_); rfl; rfl; rfl; intro w3 u3 r3))
  have hB := Upd.below ((Below.refl W.heap.size W).alloc (Nat.le_refl _) (.cells ZM 35)) u3 (Nat.le_refl _)
  obtain ⟨c0, c1, c2, c3, c4⟩ := md_cells r3
  clear u3 hrg2
  cases hnb : nameB m.name
  · have HNB := Lib.hid hnb
    have HE := Lib.hid (show chkE m (ms.take k) = 63 by unfold chkE; rw [hnb]; rfl)
    clear hnb
    go_wp2_with ((go_at_call 41; refine (name_is HNB.out hnm _).mono ?_; rintro en w4 ⟨rfl, hw4⟩; subst w4))
    go_ret
    exact chk_mk HE.out hB
  have HNB := Lib.hid hnb
  have HE := Lib.hid (show chkE m (ms.take k) = 6 by unfold chkE; rw [if_pos hnb, if_pos]; have h1 := HK.out; have h2 := HW.out; exact .inr (.inl h1))
  clear hnb
  go_wp2_with ((go_at_call 41; refine (name_is HNB.out hnm _).mono ?_; rintro en w4 ⟨rfl, hw4⟩; subst w4))
  go_ret
  exact chk_mk HE.out hB
set_option maxRecDepth 100000 in
set_option maxHeartbeats 8000000 in
theorem chk_khiw0 (ms : List Md) (A : Option Addr) (c k : Nat) (W : World) (hM : IsMs W A ms.length ms) (hc : ms.length ≤ c) (hl : ms.length ≤ 1000000) (hk : k < ms.length) (hnl : ∀ m ∈ ms, m.name.length ≤ 1000000000) (hdl : ∀ m ∈ ms, m.data.length ≤ 1000000000) (hkd : 3 < ms[k].kind) (hwd : ms[k].width = 0) : Calls Tryd.prog 25 #[.slice A ms.length c, .int .i64 k] W (ChkP ms[k] (ms.take k) W) := by
  have hnm := hnl _ (List.getElem_mem hk)
  have hdm := hdl _ (List.getElem_mem hk)
  obtain ⟨b, o, hA, hc'⟩ := hM.2 (by omega)
  subst hA
  obtain ⟨D, dc, hrg, -, -⟩ := hc' k hk
  obtain ⟨m, hm⟩ : ∃ m, ms[k] = m := ⟨_, rfl⟩
  rw [hm] at hrg hkd hwd hnm hdm ⊢
  have hrg2 : W.rangeAt b (o + k * 5) (mdV m D dc).toArray.toList := by simpa using hrg
  have k1 : (m.kind == 1) = false := by rw [beq_eq_false_iff_ne]; omega
  have k3 : (m.kind == 3) = false := by rw [beq_eq_false_iff_ne]; omega
  have kl : decide (m.kind < 1) = false := decide_eq_false (by omega)
  have kh : decide (3 < m.kind) = true := decide_eq_true (by omega)
  have w32 : (m.width != 32) = true := by rw [bne_iff_ne]; omega
  have w39 : (m.width != 39) = true := by rw [bne_iff_ne]; omega
  have w0 : (m.width != 0) = false := by rw [bne_eq_false_iff_eq]; omega
  have HK := Lib.hid hkd
  have HW := Lib.hid hwd
  have hki : (k : Int) < ms.length := by omega
  have hk0 : (0 : Int) ≤ (k : Int) := by omega
  clear hkd hwd hc' hm hrg
  go_enter Tryd.func25, Tryd.ntmps25
  go_upto_region 2 with (first | ((with_reducible refine wp_load_g ?_ hrg2 Tryd.underlying35 rfl (info35 _ _ _) ?_ ?_); rfl; rfl) | ((with_reducible refine wp_row_store (L := (mdV m D dc).toArray) (Row.bornAt (g := W.heap.size) rfl 35 _) ?_ (info35 _ _ _) (mdV_one _ _ _) ?_ ?_ ?_); rfl; rfl; rfl; intro w3 u3 r3))
  have hB := Upd.below ((Below.refl W.heap.size W).alloc (Nat.le_refl _) (.cells ZM 35)) u3 (Nat.le_refl _)
  obtain ⟨c0, c1, c2, c3, c4⟩ := md_cells r3
  clear u3 hrg2
  cases hnb : nameB m.name
  · have HNB := Lib.hid hnb
    have HE := Lib.hid (show chkE m (ms.take k) = 63 by unfold chkE; rw [hnb]; rfl)
    clear hnb
    go_wp2_with ((go_at_call 41; refine (name_is HNB.out hnm _).mono ?_; rintro en w4 ⟨rfl, hw4⟩; subst w4))
    go_ret
    exact chk_mk HE.out hB
  have HNB := Lib.hid hnb
  have HE := Lib.hid (show chkE m (ms.take k) = 6 by unfold chkE; rw [if_pos hnb, if_pos]; have h1 := HK.out; have h2 := HW.out; exact .inr (.inl h1))
  clear hnb
  go_wp2_with ((go_at_call 41; refine (name_is HNB.out hnm _).mono ?_; rintro en w4 ⟨rfl, hw4⟩; subst w4))
  go_ret
  exact chk_mk HE.out hB
set_option maxRecDepth 100000 in
set_option maxHeartbeats 8000000 in
theorem chk_khiwx (ms : List Md) (A : Option Addr) (c k : Nat) (W : World) (hM : IsMs W A ms.length ms) (hc : ms.length ≤ c) (hl : ms.length ≤ 1000000) (hk : k < ms.length) (hnl : ∀ m ∈ ms, m.name.length ≤ 1000000000) (hdl : ∀ m ∈ ms, m.data.length ≤ 1000000000) (hkd : 3 < ms[k].kind) (hwd : (ms[k].width ≠ 32 ∧ ms[k].width ≠ 39 ∧ ms[k].width ≠ 0)) : Calls Tryd.prog 25 #[.slice A ms.length c, .int .i64 k] W (ChkP ms[k] (ms.take k) W) := by
  have hnm := hnl _ (List.getElem_mem hk)
  have hdm := hdl _ (List.getElem_mem hk)
  obtain ⟨b, o, hA, hc'⟩ := hM.2 (by omega)
  subst hA
  obtain ⟨D, dc, hrg, -, -⟩ := hc' k hk
  obtain ⟨m, hm⟩ : ∃ m, ms[k] = m := ⟨_, rfl⟩
  rw [hm] at hrg hkd hwd hnm hdm ⊢
  have hrg2 : W.rangeAt b (o + k * 5) (mdV m D dc).toArray.toList := by simpa using hrg
  have k1 : (m.kind == 1) = false := by rw [beq_eq_false_iff_ne]; omega
  have k3 : (m.kind == 3) = false := by rw [beq_eq_false_iff_ne]; omega
  have kl : decide (m.kind < 1) = false := decide_eq_false (by omega)
  have kh : decide (3 < m.kind) = true := decide_eq_true (by omega)
  have w32 : (m.width != 32) = true := by rw [bne_iff_ne]; omega
  have w39 : (m.width != 39) = true := by rw [bne_iff_ne]; omega
  have w0 : (m.width != 0) = true := by rw [bne_iff_ne]; omega
  have HK := Lib.hid hkd
  have HW := Lib.hid hwd
  have hki : (k : Int) < ms.length := by omega
  have hk0 : (0 : Int) ≤ (k : Int) := by omega
  clear hkd hwd hc' hm hrg
  go_enter Tryd.func25, Tryd.ntmps25
  go_upto_region 2 with (first | ((with_reducible refine wp_load_g ?_ hrg2 Tryd.underlying35 rfl (info35 _ _ _) ?_ ?_); rfl; rfl) | ((with_reducible refine wp_row_store (L := (mdV m D dc).toArray) (Row.bornAt (g := W.heap.size) rfl 35 _) ?_ (info35 _ _ _) (mdV_one _ _ _) ?_ ?_ ?_); rfl; rfl; rfl; intro w3 u3 r3))
  have hB := Upd.below ((Below.refl W.heap.size W).alloc (Nat.le_refl _) (.cells ZM 35)) u3 (Nat.le_refl _)
  obtain ⟨c0, c1, c2, c3, c4⟩ := md_cells r3
  clear u3 hrg2
  cases hnb : nameB m.name
  · have HNB := Lib.hid hnb
    have HE := Lib.hid (show chkE m (ms.take k) = 63 by unfold chkE; rw [hnb]; rfl)
    clear hnb
    go_wp2_with ((go_at_call 41; refine (name_is HNB.out hnm _).mono ?_; rintro en w4 ⟨rfl, hw4⟩; subst w4))
    go_ret
    exact chk_mk HE.out hB
  have HNB := Lib.hid hnb
  have HE := Lib.hid (show chkE m (ms.take k) = 6 by unfold chkE; rw [if_pos hnb, if_pos]; have h1 := HK.out; have h2 := HW.out; exact .inr (.inl h1))
  clear hnb
  go_wp2_with ((go_at_call 41; refine (name_is HNB.out hnm _).mono ?_; rintro en w4 ⟨rfl, hw4⟩; subst w4))
  go_ret
  exact chk_mk HE.out hB
theorem check25 (ms : List Md) (A : Option Addr) (c k : Nat) (W : World) (hM : IsMs W A ms.length ms) (hc : ms.length ≤ c) (hl : ms.length ≤ 1000000) (hk : k < ms.length) (hnl : ∀ m ∈ ms, m.name.length ≤ 1000000000) (hdl : ∀ m ∈ ms, m.data.length ≤ 1000000000) : Calls Tryd.prog 25 #[.slice A ms.length c, .int .i64 k] W (ChkP ms[k] (ms.take k) W) := by
  rcases (by omega : ms[k].kind < 1 ∨ ms[k].kind = 1 ∨ ms[k].kind = 2 ∨ ms[k].kind = 3 ∨ 3 < ms[k].kind) with hkd | hkd | hkd | hkd | hkd
  · by_cases h1 : ms[k].width = 32
    · exact chk_klow32 ms A c k W hM hc hl hk hnl hdl hkd h1
    by_cases h2 : ms[k].width = 39
    · exact chk_klow39 ms A c k W hM hc hl hk hnl hdl hkd h2
    by_cases h3 : ms[k].width = 0
    · exact chk_klow0 ms A c k W hM hc hl hk hnl hdl hkd h3
    exact chk_klowx ms A c k W hM hc hl hk hnl hdl hkd ⟨h1, h2, h3⟩
  · by_cases h1 : ms[k].width = 32
    · exact chk_k1w32 ms A c k W hM hc hl hk hnl hdl hkd h1
    by_cases h2 : ms[k].width = 39
    · exact chk_k1w39 ms A c k W hM hc hl hk hnl hdl hkd h2
    by_cases h3 : ms[k].width = 0
    · exact chk_k1w0 ms A c k W hM hc hl hk hnl hdl hkd h3
    exact chk_k1wx ms A c k W hM hc hl hk hnl hdl hkd ⟨h1, h2, h3⟩
  · by_cases h1 : ms[k].width = 32
    · exact chk_k2w32 ms A c k W hM hc hl hk hnl hdl hkd h1
    by_cases h2 : ms[k].width = 39
    · exact chk_k2w39 ms A c k W hM hc hl hk hnl hdl hkd h2
    by_cases h3 : ms[k].width = 0
    · exact chk_k2w0 ms A c k W hM hc hl hk hnl hdl hkd h3
    exact chk_k2wx ms A c k W hM hc hl hk hnl hdl hkd ⟨h1, h2, h3⟩
  · by_cases h1 : ms[k].width = 32
    · exact chk_k3w32 ms A c k W hM hc hl hk hnl hdl hkd h1
    by_cases h2 : ms[k].width = 39
    · exact chk_k3w39 ms A c k W hM hc hl hk hnl hdl hkd h2
    by_cases h3 : ms[k].width = 0
    · exact chk_k3w0 ms A c k W hM hc hl hk hnl hdl hkd h3
    exact chk_k3wx ms A c k W hM hc hl hk hnl hdl hkd ⟨h1, h2, h3⟩
  · by_cases h1 : ms[k].width = 32
    · exact chk_khiw32 ms A c k W hM hc hl hk hnl hdl hkd h1
    by_cases h2 : ms[k].width = 39
    · exact chk_khiw39 ms A c k W hM hc hl hk hnl hdl hkd h2
    by_cases h3 : ms[k].width = 0
    · exact chk_khiw0 ms A c k W hM hc hl hk hnl hdl hkd h3
    exact chk_khiwx ms A c k W hM hc hl hk hnl hdl hkd ⟨h1, h2, h3⟩
end Go.Proofs.YtigbmlgllgcbhaaDoor
