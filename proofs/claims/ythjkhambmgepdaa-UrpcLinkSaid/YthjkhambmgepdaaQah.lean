/- Texts Ug, without what this claim does not use. -/
import Derived.Test.YthjkhambmgepdaaQaf
import Derived.Test.YthjkhambmgepdaaQag
namespace Go.Proofs.Ythjkhambmgepdaa
section
open Go.RowKit
set_option linter.unusedVariables false
set_option linter.unusedSimpArgs false
theorem results_c3 {P : Program} {fn : Func} {p u v x : Tmp} {ty1 : TypeId} {d1 : TypeDesc} (h : fn.results = #[.cell p ty1, .tmp u, .tmp v, .tmp x]) {tmps : Array Value} {w : World} {g1 : Nat} {t1 : TypeId} {cs1 : Array Value}
    (h1 : tmps.getD p undef = .pointer (some ⟨g1, 0, none⟩)) (r1 : Row w g1 t1 cs1)
    (u1 : P.underlying ty1 = some d1) (k1 : d1.isRow = true) (i1 : (P.info? ty1).map (·.size) = some cs1.size) :
    (results fn tmps).run P w = .ok (.tuple #[.agg cs1, tmps.getD u undef, tmps.getD v undef, tmps.getD x undef]) w := by
  have l1 := run_loadVar_mid (P := P) w g1 0 ty1 cs1.toList d1 r1.range u1 k1 (by simpa using i1)
  simp only [Array.toArray_toList] at l1
  simp only [Array.getD_eq_getD_getElem?] at h1
  simp [results, h, h1, asAddr, l1]
theorem results_c2 {P : Program} {fn : Func} {p u v : Tmp} {ty1 : TypeId} {d1 : TypeDesc} (h : fn.results = #[.cell p ty1, .tmp u, .tmp v]) {tmps : Array Value} {w : World} {g1 : Nat} {t1 : TypeId} {cs1 : Array Value}
    (h1 : tmps.getD p undef = .pointer (some ⟨g1, 0, none⟩)) (r1 : Row w g1 t1 cs1)
    (u1 : P.underlying ty1 = some d1) (k1 : d1.isRow = true) (i1 : (P.info? ty1).map (·.size) = some cs1.size) :
    (results fn tmps).run P w = .ok (.tuple #[.agg cs1, tmps.getD u undef, tmps.getD v undef]) w := by
  have l1 := run_loadVar_mid (P := P) w g1 0 ty1 cs1.toList d1 r1.range u1 k1 (by simpa using i1)
  simp only [Array.toArray_toList] at l1
  simp only [Array.getD_eq_getD_getElem?] at h1
  simp [results, h, h1, asAddr, l1]
theorem results_cc1 {P : Program} {fn : Func} {p q u : Tmp} {ty1 ty2 : TypeId} {d1 d2 : TypeDesc} (h : fn.results = #[.cell p ty1, .cell q ty2, .tmp u]) {tmps : Array Value} {w : World} {g1 g2 : Nat} {t1 t2 : TypeId} {cs1 cs2 : Array Value}
    (h1 : tmps.getD p undef = .pointer (some ⟨g1, 0, none⟩)) (h2 : tmps.getD q undef = .pointer (some ⟨g2, 0, none⟩)) (r1 : Row w g1 t1 cs1) (r2 : Row w g2 t2 cs2)
    (u1 : P.underlying ty1 = some d1) (u2 : P.underlying ty2 = some d2) (k1 : d1.isRow = true) (k2 : d2.isRow = true) (i1 : (P.info? ty1).map (·.size) = some cs1.size) (i2 : (P.info? ty2).map (·.size) = some cs2.size) :
    (results fn tmps).run P w = .ok (.tuple #[.agg cs1, .agg cs2, tmps.getD u undef]) w := by
  have l1 := run_loadVar_mid (P := P) w g1 0 ty1 cs1.toList d1 r1.range u1 k1 (by simpa using i1)
  have l2 := run_loadVar_mid (P := P) w g2 0 ty2 cs2.toList d2 r2.range u2 k2 (by simpa using i2)
  simp only [Array.toArray_toList] at l1 l2
  simp only [Array.getD_eq_getD_getElem?] at h1 h2
  simp [results, h, h1, h2, asAddr, l1, l2]
theorem encode_ok (m : RM) (A : Option Addr) (c : Nat) (W : World) (hv : m.ok = true) (hA : IsB W A m.b.length m.b) : Calls Try.prog 63 #[.agg (RMV m A c)] W (fun en W' => ∃ g l, en = .returned (.tuple #[.slice (some ⟨g, 0, none⟩) l l, .int .i64 0]) ∧ W.heap.size ≤ g ∧ l = m.by.length ∧ IsB W' (some ⟨g, 0, none⟩) l m.by ∧ Below W.heap.size W W') := by
  refine (encode m A c W hA).mono ?_
  rintro en W' ⟨hb, ⟨h, -⟩ | ⟨-, g, l, hg, hl, he, hI⟩⟩
  · rw [hv] at h
    cases h
  · exact ⟨g, l, he, hg, hl, hI, hb⟩
theorem OwnU.app {w8 w9 : World} {base : Nat} {e e' : UE} {A5 B5 A9 : Option Addr} {c5 d5 c9 n9 : Nat} {l : List Int} (ho : OwnU w8 base e A5 c5 B5 d5) (h9 : OwnN w9 base 3 A9 n9 c9 l) (hg : w8.grownBy w9 (Value.slice A5 e.cs.length c5).ownBlock) (hat : (Value.slice A9 n9 c9).ownBlock = (Value.slice A5 e.cs.length c5).ownBlock ∨ (Value.slice A9 n9 c9).ownBlock = some w8.heap.size) (hn : n9 = e'.cs.length) (h1 : e'.cs = l) (h2 : e'.ss = e.ss) : OwnU w9 base e' A9 c9 B5 d5 := by
  refine ⟨?_, ?_, ?_⟩
  · rw [← hn, h1]; exact h9
  · rw [h2]
    refine World.ownsRow.kept ho.b hg ?_
    cases B5 with
    | none => exact .inl rfl
    | some b =>
      refine .inr ?_
      cases A5 with
      | none => intro h; cases h
      | some a => intro h; exact ho.ap a b rfl rfl (by injection h with h; exact h.symm)
  · intro a b ha hb
    subst ha hb
    rcases hat with h | h
    · cases A5 with
      | none => cases h
      | some a5 =>
        have : a.block = a5.block := by injection h
        rw [this]
        exact ho.ap a5 b rfl rfl
    · have h3 : a.block = w8.heap.size := by injection h
      have h4 := (World.ownsRow.lt ho.b b.block rfl).2
      omega
def rqM (n s : Int) (b : List UInt8) : RM := ⟨1, n, s, 0, b⟩
def calE (e : UE) (s : Int) (b : List UInt8) : Int := if uE e = 0 then (if (rqM 1 s b).ok = true then (if (e.cs.length : Int) = e.cr then 65 else if e.la = 1099511627776 then 15 else 0) else 1) else uE e
def calU (e : UE) : UE := { e with la := e.la + 1, cs := e.cs ++ [e.la + 1] }
def CalP (e : UE) (s : Int) (b : List UInt8) (W : World) (en : Ending) (W' : World) : Prop := Below W.heap.size W W' ∧
  ((calE e s b ≠ 0 ∧ en = .returned (.tuple #[.agg ZU, .int .i64 0, .slice none 0 0, .int .i64 (calE e s b)])) ∨
   (calE e s b = 0 ∧ ∃ A c B d g l, en = .returned (.tuple #[.agg (UEV (calU e) A c B d), .int .i64 (e.la + 1), .slice (some ⟨g, 0, none⟩) l l, .int .i64 0]) ∧ OwnU W' W.heap.size (calU e) A c B d ∧ W.heap.size ≤ g ∧ l = (rqM (e.la + 1) s b).by.length ∧ IsB W' (some ⟨g, 0, none⟩) l (rqM (e.la + 1) s b).by))
theorem cal_no {e : UE} {s : Int} {b : List UInt8} {x : Int} {W W' : World} (h : calE e s b = x) (hx : x ≠ 0) (hb : Below W.heap.size W W') : CalP e s b W (.returned (.tuple #[.agg ZU, .int .i64 0, .slice none 0 0, .int .i64 x])) W' := ⟨hb, .inl ⟨by rw [h]; exact hx, by rw [h]⟩⟩
theorem uE_ne {e : UE} : uE e = 0 → uV e = true ∧ e.dd = false := by
  unfold uE
  cases h : uV e <;> cases h2 : e.dd <;> simp
theorem uV_bd {e : UE} (h : uV e = true) : 1 ≤ e.cr ∧ e.cr ≤ 16 ∧ 0 ≤ e.la ∧ e.la ≤ 1099511627776 ∧ 0 ≤ e.se ∧ e.se ≤ 1099511627776 ∧ (e.cs.length : Int) ≤ e.cr ∧ (e.ss.length : Int) ≤ e.cr := by
  unfold uV bdB numB at h
  simp only [Bool.and_eq_true, decide_eq_true_eq] at h
  omega
set_option maxRecDepth 100000 in
theorem iface_nil (w : World) : (binOp .eql 169 .nilIface .nilIface).run Try.prog w = .ok (.bool true) w := rfl
set_option maxRecDepth 100000 in
theorem iface_186 (w : World) (v : Value) : (binOp .eql 169 (.iface 186 v) .nilIface).run Try.prog w = .ok (.bool false) w := rfl
set_option maxRecDepth 100000 in
theorem iface_188 (w : World) (v : Value) : (binOp .eql 169 (.iface 188 v) .nilIface).run Try.prog w = .ok (.bool false) w := rfl
theorem ok_req {n s : Int} {b : List UInt8} {m : Int} (h : (rqM n s b).ok = true) (h1 : 1 ≤ m) (h2 : m ≤ 1099511627776) : (rqM m s b).ok = true := by
  have hk := RM.ok_iff.1 h
  exact RM.ok_iff.2 ⟨h1, h2, hk.b, hk.c⟩
set_option maxRecDepth 100000 in
set_option maxHeartbeats 8000000 in
theorem call_chk (e : UE) (A B : Option Addr) (c d : Nat) (s : Int) (D : Option Addr) (dc : Nat) (b : List UInt8) (W : World) (hH : HeldU W e A c B d) (hD : IsB W D b.length b) (x : Int) (hx : uE e = x) (h0 : x ≠ 0) : Calls Try.prog 76 #[.agg (UEV e A c B d), .int .i64 s, .slice D b.length dc] W (CalP e s b W) := by
  have HC := Lib.hid (show calE e s b = x by unfold calE; rw [if_neg (by omega), hx])
  have HE := Lib.hid hx
  have H0 := Lib.hid h0
  have dx : (x != 0) = true := nt h0
  clear hx h0
  have hB1 := ((Below.refl W.heap.size W).alloc (Nat.le_refl _) (.cells (UEV e A c B d) 112)).alloc (by simp) (.cells ZU 112)
  have r1 := (Row.born W 112 (UEV e A c B d)).alloc (.cells ZU 112)
  have r2 : Row ((W.alloc (.cells (UEV e A c B d) 112)).alloc (.cells ZU 112)) (W.heap.size + 1) 112 ZU := by
    have h := Row.born (W.alloc (.cells (UEV e A c B d) 112)) 112 ZU
    have e1 : (W.alloc (.cells (UEV e A c B d) 112)).heap.size = W.heap.size + 1 := by simp
    rwa [e1] at h
  have hH1 := hH.below hB1
  go_enter Try.func76, Try.ntmps76
  go_upto_region 1 with (fail)
  change Code.wp _ _ _ _ ((W.alloc (.cells (UEV e A c B d) 112)).alloc (.cells ZU 112))
  generalize (W.alloc (.cells (UEV e A c B d) 112)).alloc (.cells ZU 112) = w1 at *
  have hl1 := r1.lt
  have hl2 := r2.lt
  go_wp2_with (first | ((with_reducible refine wp_load_g ?_ r1.range Try.underlying112 rfl (uev_info _ _ _ _ _) ?_ ?_); rfl; rfl) | (go_at_call 122; (with_reducible refine (check_is HE.out hH1).mono ?_); rintro en w2 ⟨rfl, hb2⟩; have r1 := r1.below hb2 hl1; have r2 := r2.below hb2 hl2; have hB2 := hB1.trans (hb2.mono hB1.size)) | ((with_reducible refine wp_row_store (L := ZU) r2 rfl zu_info zu_one ?_ ?_ ?_); rfl; rfl; intro w9 u9 r9))
  refine bodyPost_ret (results_c3 rfl rfl r9 Try.underlying112 rfl zu_info) rfl ?_
  exact cal_no HC.out H0.out (Upd.below hB2 u9 (by omega))
set_option maxRecDepth 100000 in
set_option maxHeartbeats 8000000 in
theorem call_inv (e : UE) (A B : Option Addr) (c d : Nat) (s : Int) (D : Option Addr) (dc : Nat) (b : List UInt8) (W : World) (hH : HeldU W e A c B d) (hD : IsB W D b.length b) (hx : uE e = 0) (hv : (rqM 1 s b).ok = false) : Calls Try.prog 76 #[.agg (UEV e A c B d), .int .i64 s, .slice D b.length dc] W (CalP e s b W) := by
  have HC := Lib.hid (show calE e s b = 1 by unfold calE; rw [if_pos hx, hv]; rfl)
  have HE := Lib.hid hx
  have HV := Lib.hid (clV_bad (A := D) (c := dc) hv)
  clear hx hv
  have hq0 := iface_nil
  have hq1 := iface_186
  have hq2 := iface_188
  have hB1 := ((Below.refl W.heap.size W).alloc (Nat.le_refl _) (.cells (UEV e A c B d) 112)).alloc (by simp) (.cells ZU 112)
  have r1 := (Row.born W 112 (UEV e A c B d)).alloc (.cells ZU 112)
  have r2 : Row ((W.alloc (.cells (UEV e A c B d) 112)).alloc (.cells ZU 112)) (W.heap.size + 1) 112 ZU := by
    have h := Row.born (W.alloc (.cells (UEV e A c B d) 112)) 112 ZU
    have e1 : (W.alloc (.cells (UEV e A c B d) 112)).heap.size = W.heap.size + 1 := by simp
    rwa [e1] at h
  have hH1 := hH.below hB1
  go_enter Try.func76, Try.ntmps76
  go_upto_region 1 with (fail)
  change Code.wp _ _ _ _ ((W.alloc (.cells (UEV e A c B d) 112)).alloc (.cells ZU 112))
  generalize (W.alloc (.cells (UEV e A c B d) 112)).alloc (.cells ZU 112) = w1 at *
  have hl1 := r1.lt
  have hl2 := r2.lt
  go_upto_region 5 with (first | ((with_reducible refine wp_load_g ?_ r1.range Try.underlying112 rfl (uev_info _ _ _ _ _) ?_ ?_); rfl; rfl) | (go_at_call 122; (with_reducible refine (check_is HE.out hH1).mono ?_); rintro en w2 ⟨rfl, hb2⟩; have r1 := r1.below hb2 hl1; have r2 := r2.below hb2 hl2; have hB2 := hB1.trans (hb2.mono hB1.size)))
  have hal := (Below.refl w2.heap.size w2).alloc (Nat.le_refl _) (.cells (RMV (rqM 1 s b) D dc) 97)
  have r3 := Row.born w2 97 (RMV (rqM 1 s b) D dc)
  change Code.wp _ _ _ _ (w2.alloc (.cells (RMV (rqM 1 s b) D dc) 97))
  have r1 := r1.below hal r1.lt
  have r2 := r2.below hal r2.lt
  have hB3 := hB2.trans (hal.mono hB2.size)
  have hg3 : W.heap.size + 2 ≤ w2.heap.size := by have := r2.lt; have := hl2; have := hb2.size; omega
  generalize w2.alloc (.cells (RMV (rqM 1 s b) D dc) 97) = w3 at *
  generalize w2.heap.size = g3 at *
  have hl1 := r1.lt
  have hl2 := r2.lt
  have hl3 := r3.lt
  clear hal hB2 hb2 hB1 hH1
  go_wp2_with (first | ((with_reducible refine wp_load_g ?_ r3.range Try.underlying97 rfl (rmv_info _ _ _) ?_ ?_); rfl; rfl) | (go_at_call 112; (with_reducible refine (classify (rqM 1 s b) D dc _).mono ?_); rintro en w4 ⟨rfl, hb4⟩; rw [HV.out]; have r1 := r1.below hb4 hl1; have r2 := r2.below hb4 hl2; have r3 := r3.below hb4 hl3; have hB4 := hB3.trans (hb4.mono hB3.size)) | ((with_reducible refine wp_row_store (L := ZU) r2 rfl zu_info zu_one ?_ ?_ ?_); rfl; rfl; intro w9 u9 r9))
  refine bodyPost_ret (results_c3 rfl rfl r9 Try.underlying112 rfl zu_info) rfl ?_
  exact cal_no HC.out (by omega) (Upd.below hB4 u9 (by omega))
set_option maxRecDepth 100000 in
set_option maxHeartbeats 8000000 in
theorem call_full (e : UE) (A B : Option Addr) (c d : Nat) (s : Int) (D : Option Addr) (dc : Nat) (b : List UInt8) (W : World) (hH : HeldU W e A c B d) (hD : IsB W D b.length b) (hx : uE e = 0) (hv : (rqM 1 s b).ok = true) (hl : (e.cs.length : Int) = e.cr) : Calls Try.prog 76 #[.agg (UEV e A c B d), .int .i64 s, .slice D b.length dc] W (CalP e s b W) := by
  have HC := Lib.hid (show calE e s b = 65 by unfold calE; rw [if_pos hx, if_pos hv, if_pos hl])
  have HE := Lib.hid hx
  obtain ⟨v, hv2⟩ := clV_some (A := D) (c := dc) hv
  have HV := Lib.hid (show clV (rqM 1 s b) D dc = .iface 186 v by
    rcases hv2 with h | h
    · exact h
    · unfold clV at h
      rw [if_pos hv] at h
      cases h)
  have dl : ((e.cs.length : Int) == e.cr) = true := et hl
  clear hx hv hv2 hl 
  have hq0 := iface_nil
  have hq1 := iface_186
  have hq2 := iface_188
  have hB1 := ((Below.refl W.heap.size W).alloc (Nat.le_refl _) (.cells (UEV e A c B d) 112)).alloc (by simp) (.cells ZU 112)
  have r1 := (Row.born W 112 (UEV e A c B d)).alloc (.cells ZU 112)
  have r2 : Row ((W.alloc (.cells (UEV e A c B d) 112)).alloc (.cells ZU 112)) (W.heap.size + 1) 112 ZU := by
    have h := Row.born (W.alloc (.cells (UEV e A c B d) 112)) 112 ZU
    have e1 : (W.alloc (.cells (UEV e A c B d) 112)).heap.size = W.heap.size + 1 := by simp
    rwa [e1] at h
  have hH1 := hH.below hB1
  go_enter Try.func76, Try.ntmps76
  go_upto_region 1 with (fail)
  change Code.wp _ _ _ _ ((W.alloc (.cells (UEV e A c B d) 112)).alloc (.cells ZU 112))
  generalize (W.alloc (.cells (UEV e A c B d) 112)).alloc (.cells ZU 112) = w1 at *
  have hl1 := r1.lt
  have hl2 := r2.lt
  go_upto_region 5 with (first | ((with_reducible refine wp_load_g ?_ r1.range Try.underlying112 rfl (uev_info _ _ _ _ _) ?_ ?_); rfl; rfl) | (go_at_call 122; (with_reducible refine (check_is HE.out hH1).mono ?_); rintro en w2 ⟨rfl, hb2⟩; have r1 := r1.below hb2 hl1; have r2 := r2.below hb2 hl2; have hB2 := hB1.trans (hb2.mono hB1.size)))
  have hal := (Below.refl w2.heap.size w2).alloc (Nat.le_refl _) (.cells (RMV (rqM 1 s b) D dc) 97)
  have r3 := Row.born w2 97 (RMV (rqM 1 s b) D dc)
  change Code.wp _ _ _ _ (w2.alloc (.cells (RMV (rqM 1 s b) D dc) 97))
  have r1 := r1.below hal r1.lt
  have r2 := r2.below hal r2.lt
  have hB3 := hB2.trans (hal.mono hB2.size)
  have hg3 : W.heap.size + 2 ≤ w2.heap.size := by have := r2.lt; have := hl2; have := hb2.size; omega
  generalize w2.alloc (.cells (RMV (rqM 1 s b) D dc) 97) = w3 at *
  generalize w2.heap.size = g3 at *
  have hl1 := r1.lt
  have hl2 := r2.lt
  have hl3 := r3.lt
  clear hal hB2 hb2 hB1 hH1
  go_upto_region 7 with (first | ((with_reducible refine wp_load_g ?_ r3.range Try.underlying97 rfl (rmv_info _ _ _) ?_ ?_); rfl; rfl) | (go_at_call 112; (with_reducible refine (classify (rqM 1 s b) D dc _).mono ?_); rintro en w4 ⟨rfl, hb4⟩; rw [HV.out]; have r1 := r1.below hb4 hl1; have r2 := r2.below hb4 hl2; have r3 := r3.below hb4 hl3; have hB4 := hB3.trans (hb4.mono hB3.size)))
  obtain ⟨⟨c0, c1, -⟩, c3, -, -⟩ := uev_cells r1
  go_wp2_with ((with_reducible refine wp_row_store (L := ZU) r2 rfl zu_info zu_one ?_ ?_ ?_); rfl; rfl; intro w9 u9 r9)
  refine bodyPost_ret (results_c3 rfl rfl r9 Try.underlying112 rfl zu_info) rfl ?_
  exact cal_no HC.out (by omega) (Upd.below hB4 u9 (by omega))
set_option maxRecDepth 100000 in
set_option maxHeartbeats 8000000 in
theorem call_lim (e : UE) (A B : Option Addr) (c d : Nat) (s : Int) (D : Option Addr) (dc : Nat) (b : List UInt8) (W : World) (hH : HeldU W e A c B d) (hD : IsB W D b.length b) (hx : uE e = 0) (hv : (rqM 1 s b).ok = true) (hl : (e.cs.length : Int) ≠ e.cr) (hm : e.la = 1099511627776) : Calls Try.prog 76 #[.agg (UEV e A c B d), .int .i64 s, .slice D b.length dc] W (CalP e s b W) := by
  have HC := Lib.hid (show calE e s b = 15 by unfold calE; rw [if_pos hx, if_pos hv, if_neg hl, if_pos hm])
  have HE := Lib.hid hx
  obtain ⟨v, hv2⟩ := clV_some (A := D) (c := dc) hv
  have HV := Lib.hid (show clV (rqM 1 s b) D dc = .iface 186 v by
    rcases hv2 with h | h
    · exact h
    · unfold clV at h
      rw [if_pos hv] at h
      cases h)
  have dl : ((e.cs.length : Int) == e.cr) = false := ef hl
  have dm : (e.la == 1099511627776) = true := et hm
  clear hx hv hv2 hl hm
  have hq0 := iface_nil
  have hq1 := iface_186
  have hq2 := iface_188
  have hB1 := ((Below.refl W.heap.size W).alloc (Nat.le_refl _) (.cells (UEV e A c B d) 112)).alloc (by simp) (.cells ZU 112)
  have r1 := (Row.born W 112 (UEV e A c B d)).alloc (.cells ZU 112)
  have r2 : Row ((W.alloc (.cells (UEV e A c B d) 112)).alloc (.cells ZU 112)) (W.heap.size + 1) 112 ZU := by
    have h := Row.born (W.alloc (.cells (UEV e A c B d) 112)) 112 ZU
    have e1 : (W.alloc (.cells (UEV e A c B d) 112)).heap.size = W.heap.size + 1 := by simp
    rwa [e1] at h
  have hH1 := hH.below hB1
  go_enter Try.func76, Try.ntmps76
  go_upto_region 1 with (fail)
  change Code.wp _ _ _ _ ((W.alloc (.cells (UEV e A c B d) 112)).alloc (.cells ZU 112))
  generalize (W.alloc (.cells (UEV e A c B d) 112)).alloc (.cells ZU 112) = w1 at *
  have hl1 := r1.lt
  have hl2 := r2.lt
  go_upto_region 5 with (first | ((with_reducible refine wp_load_g ?_ r1.range Try.underlying112 rfl (uev_info _ _ _ _ _) ?_ ?_); rfl; rfl) | (go_at_call 122; (with_reducible refine (check_is HE.out hH1).mono ?_); rintro en w2 ⟨rfl, hb2⟩; have r1 := r1.below hb2 hl1; have r2 := r2.below hb2 hl2; have hB2 := hB1.trans (hb2.mono hB1.size)))
  have hal := (Below.refl w2.heap.size w2).alloc (Nat.le_refl _) (.cells (RMV (rqM 1 s b) D dc) 97)
  have r3 := Row.born w2 97 (RMV (rqM 1 s b) D dc)
  change Code.wp _ _ _ _ (w2.alloc (.cells (RMV (rqM 1 s b) D dc) 97))
  have r1 := r1.below hal r1.lt
  have r2 := r2.below hal r2.lt
  have hB3 := hB2.trans (hal.mono hB2.size)
  have hg3 : W.heap.size + 2 ≤ w2.heap.size := by have := r2.lt; have := hl2; have := hb2.size; omega
  generalize w2.alloc (.cells (RMV (rqM 1 s b) D dc) 97) = w3 at *
  generalize w2.heap.size = g3 at *
  have hl1 := r1.lt
  have hl2 := r2.lt
  have hl3 := r3.lt
  clear hal hB2 hb2 hB1 hH1
  go_upto_region 7 with (first | ((with_reducible refine wp_load_g ?_ r3.range Try.underlying97 rfl (rmv_info _ _ _) ?_ ?_); rfl; rfl) | (go_at_call 112; (with_reducible refine (classify (rqM 1 s b) D dc _).mono ?_); rintro en w4 ⟨rfl, hb4⟩; rw [HV.out]; have r1 := r1.below hb4 hl1; have r2 := r2.below hb4 hl2; have r3 := r3.below hb4 hl3; have hB4 := hB3.trans (hb4.mono hB3.size)))
  obtain ⟨⟨c0, c1, -⟩, c3, -, -⟩ := uev_cells r1
  go_wp2_with ((with_reducible refine wp_row_store (L := ZU) r2 rfl zu_info zu_one ?_ ?_ ?_); rfl; rfl; intro w9 u9 r9)
  refine bodyPost_ret (results_c3 rfl rfl r9 Try.underlying112 rfl zu_info) rfl ?_
  exact cal_no HC.out (by omega) (Upd.below hB4 u9 (by omega))
set_option maxRecDepth 100000 in
set_option maxHeartbeats 8000000 in
theorem call_ok (e : UE) (A B : Option Addr) (c d : Nat) (s : Int) (D : Option Addr) (dc : Nat) (b : List UInt8) (W : World) (hH : HeldU W e A c B d) (hD : IsB W D b.length b) (hx : uE e = 0) (hv : (rqM 1 s b).ok = true) (hl : (e.cs.length : Int) ≠ e.cr) (hm : e.la ≠ 1099511627776) : Calls Try.prog 76 #[.agg (UEV e A c B d), .int .i64 s, .slice D b.length dc] W (CalP e s b W) := by
  have HC := Lib.hid (show calE e s b = 0 by unfold calE; rw [if_pos hx, if_pos hv, if_neg hl, if_neg hm])
  have HE := Lib.hid hx
  have hbd := uV_bd (uE_ne hx).1
  obtain ⟨v, hv2⟩ := clV_some (A := D) (c := dc) hv
  have HV := Lib.hid (show clV (rqM 1 s b) D dc = .iface 186 v by
    rcases hv2 with h | h
    · exact h
    · unfold clV at h
      rw [if_pos hv] at h
      cases h)
  have HOK := Lib.hid (ok_req (m := e.la + 1) hv (by omega) (by omega))
  have dl : ((e.cs.length : Int) == e.cr) = false := ef hl
  have dm : (e.la == 1099511627776) = false := ef hm
  have hla : IntKind.i64.wrap (e.la + 1) = e.la + 1 := by rw [IntKind.wrap_i64]; omega
  clear hx hv hv2 hl hm
  have hq0 := iface_nil
  have hq1 := iface_186
  have hq2 := iface_188
  have hB1 := ((Below.refl W.heap.size W).alloc (Nat.le_refl _) (.cells (UEV e A c B d) 112)).alloc (by simp) (.cells ZU 112)
  have r1 := (Row.born W 112 (UEV e A c B d)).alloc (.cells ZU 112)
  have r2 : Row ((W.alloc (.cells (UEV e A c B d) 112)).alloc (.cells ZU 112)) (W.heap.size + 1) 112 ZU := by
    have h := Row.born (W.alloc (.cells (UEV e A c B d) 112)) 112 ZU
    have e1 : (W.alloc (.cells (UEV e A c B d) 112)).heap.size = W.heap.size + 1 := by simp
    rwa [e1] at h
  have hH1 := hH.below hB1
  go_enter Try.func76, Try.ntmps76
  go_upto_region 1 with (fail)
  change Code.wp _ _ _ _ ((W.alloc (.cells (UEV e A c B d) 112)).alloc (.cells ZU 112))
  generalize (W.alloc (.cells (UEV e A c B d) 112)).alloc (.cells ZU 112) = w1 at *
  have hl1 := r1.lt
  have hl2 := r2.lt
  go_upto_region 5 with (first | ((with_reducible refine wp_load_g ?_ r1.range Try.underlying112 rfl (uev_info _ _ _ _ _) ?_ ?_); rfl; rfl) | (go_at_call 122; (with_reducible refine (check_is HE.out hH1).mono ?_); rintro en w2 ⟨rfl, hb2⟩; have r1 := r1.below hb2 hl1; have r2 := r2.below hb2 hl2; have hB2 := hB1.trans (hb2.mono hB1.size)))
  have hal := (Below.refl w2.heap.size w2).alloc (Nat.le_refl _) (.cells (RMV (rqM 1 s b) D dc) 97)
  have r3 := Row.born w2 97 (RMV (rqM 1 s b) D dc)
  change Code.wp _ _ _ _ (w2.alloc (.cells (RMV (rqM 1 s b) D dc) 97))
  have r1 := r1.below hal r1.lt
  have r2 := r2.below hal r2.lt
  have hB3 := hB2.trans (hal.mono hB2.size)
  have hg3 : W.heap.size + 2 ≤ w2.heap.size := by have := r2.lt; have := hl2; have := hb2.size; omega
  generalize w2.alloc (.cells (RMV (rqM 1 s b) D dc) 97) = w3 at *
  generalize w2.heap.size = g3 at *
  have hl1 := r1.lt
  have hl2 := r2.lt
  have hl3 := r3.lt
  clear hal hB2 hb2 hB1 hH1
  go_upto_region 7 with (first | ((with_reducible refine wp_load_g ?_ r3.range Try.underlying97 rfl (rmv_info _ _ _) ?_ ?_); rfl; rfl) | (go_at_call 112; (with_reducible refine (classify (rqM 1 s b) D dc _).mono ?_); rintro en w4 ⟨rfl, hb4⟩; rw [HV.out]; have r1 := r1.below hb4 hl1; have r2 := r2.below hb4 hl2; have r3 := r3.below hb4 hl3; have hB4 := hB3.trans (hb4.mono hB3.size)))
  obtain ⟨⟨c0, c1, -⟩, c3, -, -⟩ := uev_cells r1
  have hl1 := r1.lt
  have hl2 := r2.lt
  have hl3 := r3.lt
  have hH4 := hH.below hB4
  go_upto_region 12 with (first | ((with_reducible refine wp_load_g ?_ r1.range Try.underlying112 rfl (uev_info _ _ _ _ _) ?_ ?_); rfl; rfl) | (go_at_call 123; (with_reducible refine (cloneU e A B c d _ hH4).mono ?_); rintro en w5 ⟨A5, c5, B5, d5, rfl, ho5, hb5⟩; have r2 := r2.below hb5 hl2) | ((with_reducible refine wp_row_store (L := UEV e A5 c5 B5 d5) r2 rfl (uev_info _ _ _ _ _) (uev_one _ _ _ _ _) ?_ ?_ ?_); rfl; rfl; intro w6 u6 r6))
  have r3 := (r3.below hb5 hl3).upd u6 (by omega)
  have ho6 := ho5.keeps (Keeps.upd (ts := [112]) u6 r2 (by simp)) (by decide)
  have hB6 := Upd.below (hB4.trans (hb5.mono hB4.size)) u6 (by omega)
  have hb46 : w4.heap.size ≤ w6.heap.size := by rw [u6.size]; exact hb5.size
  have hgl : W.heap.size + 2 ≤ w4.heap.size := by omega
  have hg34 : g3 < w4.heap.size := hl3
  clear c0 c1 c3 r1 r2 u6 hb5 ho5 hB4 hH4 hb4 hB3 hl1 hl2 hl3
  generalize w4.heap.size = b4 at *
  have hW : W.heap.size ≤ b4 := by omega
  -- the count
  have q1 : w6.cell? ⟨W.heap.size + 1, 1, none⟩ = some (.int .i64 e.la) := r6.cell 1
  have f1 := r6.frozen 1
  go_upto_region 13 with (fail)
  have u7 := Upd.setCell w6 (W.heap.size + 1) 1 (.int .i64 (e.la + 1))
  have r7 := r6.set 1 (.int .i64 (e.la + 1))
  have e7 : (UEV e A5 c5 B5 d5).setIfInBounds 1 (.int .i64 (e.la + 1)) = UEV { e with la := e.la + 1 } A5 c5 B5 d5 := by simp [UEV]
  rw [e7] at r7
  have r3 := r3.upd u7 (by omega)
  have ho7 := ho6.keeps (Keeps.upd (ts := [112]) u7 r6 (by simp)) (by decide)
  have hB7 := Upd.below hB6 u7 (by omega)
  have hs7 : b4 ≤ (w6.setCell ⟨W.heap.size + 1, 1, none⟩ (.int .i64 (e.la + 1))).heap.size := by rw [u7.size]; exact hb46
  clear q1 f1 e7 r6 ho6 hB6 u7 hb46
  generalize w6.setCell ⟨W.heap.size + 1, 1, none⟩ (.int .i64 (e.la + 1)) = w7 at *
  -- the list
  have c1 : w7.cell? ⟨W.heap.size + 1, 1, none⟩ = some (.int .i64 (e.la + 1)) := r7.cell 1
  have c3 : w7.cell? ⟨W.heap.size + 1, 3, none⟩ = some (.slice A5 e.cs.length c5) := r7.cell 3
  have hal8 := (Below.refl w7.heap.size w7).alloc (Nat.le_refl _) (.cells #[.int .i64 (e.la + 1)] 3)
  have hI8 : IsN (w7.alloc (.cells #[.int .i64 (e.la + 1)] 3)) (some ⟨w7.heap.size, 0, none⟩) 1 [e.la + 1] := IsN.of_row (bs := [e.la + 1]) (Row.born w7 3 #[.int .i64 (e.la + 1)])
  have ho8 := ho7.below hal8
  have r8 := r7.below hal8 r7.lt
  have r3 := r3.below hal8 r3.lt
  have hB8 := hB7.trans (hal8.mono hB7.size)
  have hs8 : b4 ≤ (w7.alloc (.cells #[.int .i64 (e.la + 1)] 3)).heap.size := Nat.le_trans hs7 hal8.size
  have hlen : (e.cs.length + 1) * 8 ≤ 140737488355328 := by have := hH.al; omega
  have f3 := r8.frozen 3
  go_upto_region 14 with (at_builtin; (refine wp_append_n (P := Try.prog) rfl _ _ 52 rfl Try.underlying52 info_n ho8.a hI8 hlen hs8 rfl rfl ?_); intro A9 n9 c9 w9 hn9 ho9 hb9 hg9 hat9; have r9 := r8.below hb9 (by omega); have r39 := r3.below hb9 hg34; have c3 : w9.cell? ⟨W.heap.size + 1, 3, none⟩ = some (.slice A5 e.cs.length c5) := r9.cell 3; have f3 := r9.frozen 3)
  have hB9 := hB8.trans (hb9.mono hW)
  have ho10 := OwnU.app (e' := calU e) ho8 ho9 hg9 hat9 (by rw [hn9.out]; simp [calU]) rfl rfl
  have u10 := Upd.setCell w9 (W.heap.size + 1) 3 (.slice A9 n9 c9)
  have r10 := r9.set 3 (.slice A9 n9 c9)
  have e10 : (UEV { e with la := e.la + 1 } A5 c5 B5 d5).setIfInBounds 3 (.slice A9 n9 c9) = UEV (calU e) A9 c9 B5 d5 := by simp [UEV, calU, hn9.out]
  rw [e10] at r10
  have r3 := r39.upd u10 (by omega)
  have ho10 := ho10.keeps (Keeps.upd (ts := [112]) u10 r9 (by simp)) (by decide)
  have hB10 := Upd.below hB9 u10 (by omega)
  clear e10 r9 r39 ho8 ho9 hg9 hat9 hb9 r8 r7 hI8 hal8 hB7 hB8 hB9 c1 f3 ho7 hs7 hs8 u10 hn9
  generalize w9.setCell ⟨W.heap.size + 1, 3, none⟩ (.slice A9 n9 c9) = w10 at *
  -- the message
  have c1 : w10.cell? ⟨W.heap.size + 1, 1, none⟩ = some (.int .i64 (e.la + 1)) := r10.cell 1
  have q1 : w10.cell? ⟨g3, 1, none⟩ = some (.int .i64 1) := r3.cell 1
  have f1 := r3.frozen 1
  go_upto_region 15 with (fail)
  have u11 := Upd.setCell w10 g3 1 (.int .i64 (e.la + 1))
  have r11 := r3.set 1 (.int .i64 (e.la + 1))
  have e11 : (RMV (rqM 1 s b) D dc).setIfInBounds 1 (.int .i64 (e.la + 1)) = RMV (rqM (e.la + 1) s b) D dc := by simp [RMV, rqM]
  rw [e11] at r11
  have ho11 := ho10.keeps (Keeps.upd (ts := [97]) u11 r3 (by simp)) (by decide)
  have r12 := r10.upd u11 (by omega)
  have hB11 := Upd.below hB10 u11 (by omega)
  clear e11 c1 q1 f1 r3 r10 ho10 hB10 u11
  generalize w10.setCell ⟨g3, 1, none⟩ (.int .i64 (e.la + 1)) = w11 at *
  have hD11 : IsB w11 D (rqM (e.la + 1) s b).b.length (rqM (e.la + 1) s b).b := hD.below hB11
  have hl12 := r12.lt
  have hl11 := r11.lt
  go_upto_region 16 with (first | ((with_reducible refine wp_load_g ?_ r11.range Try.underlying97 rfl (rmv_info _ _ _) ?_ ?_); rfl; rfl) | (go_at_call 63; (with_reducible refine (encode_ok (rqM (e.la + 1) s b) D dc w11 HOK.out hD11).mono ?_); rintro en w12 ⟨g12, l12, rfl, hg12, rfl, hI12, hb12⟩))
  have r12 := r12.below hb12 hl12
  have r11 := r11.below hb12 hl11
  have ho12 := ho11.below hb12
  have hB12 := hB11.trans (hb12.mono hB11.size)
  have hg12 : W.heap.size ≤ g12 := Nat.le_trans hB11.size hg12
  have hne : g12 ≠ W.heap.size + 1 := by omega
  clear ho11 hB11 hb12 hD11 hl11 hl12
  have r11 : Row w12.drew g3 97 (RMV (rqM (e.la + 1) s b) D dc) := r11
  have r12 : Row w12.drew (W.heap.size + 1) 112 (UEV (calU e) A9 c9 B5 d5) := r12
  have hI12 : IsB w12.drew (some ⟨g12, 0, none⟩) (rqM (e.la + 1) s b).by.length (rqM (e.la + 1) s b).by := hI12
  have ho12 : OwnU w12.drew b4 (calU e) A9 c9 B5 d5 := ho12.below ((Below.refl _ _).drew)
  have hB12 : Below W.heap.size W w12.drew := hB12.drew
  refine wp_region_late (n := 65) [5] (fun _ _ w' => Upd w12.drew w' (W.heap.size + 1) ∧ Row w' (W.heap.size + 1) 112 (UEV (calU e) A9 c9 B5 d5)) (fun _ _ => True) (by kernel_rfl) (by kernel_rfl) (by rfl) (fun _ _ _ _ _ h => h) ⟨Upd.refl _ _, r12⟩ ?_
  refine late_pure (by simp) (fun w => trivial) (v := .agg (UEV (calU e) A9 c9 B5 d5)) (fun _ => rfl) ?_ ?_; (focus (intro c9 us w9 hm9 hS9 hF; exact exec_load_g hS9.2.range Try.underlying112 rfl (uev_info _ _ _ _ _) rfl)); simp only [Act.put, zA, zB, zC, Nat.reduceAdd]
  refine late_pure (by simp) (fun w => trivial) (v := ?_) (fun _ => rfl) ?_ ?_; rotate_left; (focus (intro c9 us w9 hm9 hS9 hF; clear hF hm9 hS9; go_simp; (try with_reducible rfl); done)); simp only [Act.put, zA, zB, zC, Nat.reduceAdd]
  refine late_pure (by simp) (fun w => trivial) (v := ?_) (fun _ => rfl) ?_ ?_; rotate_left; (focus (intro c9 us w9 hm9 hS9 hF; have q1 : w9.cell? ⟨g3, 1, none⟩ = some (.int .i64 (e.la + 1)) := (r11.upd hS9.1 (by omega)).cell 1; clear hF hm9 hS9; go_simp; (try with_reducible rfl); done)); simp only [Act.put, zA, zB, zC, Nat.reduceAdd]
  iterate 2 (refine late_pure (by simp) (fun w => trivial) (v := ?_) (fun _ => rfl) ?_ ?_; rotate_left; (focus (intro c9 us w9 hm9 hS9 hF; clear hF hm9 hS9; go_simp; (try with_reducible rfl); done)); simp only [Act.put, zA, zB, zC, Nat.reduceAdd])
  refine late_store rfl ?_ ?_; (focus (intro us w9 hS9 hF K hK; clear hF; rw [if_pos (by rfl)]; exact step_put (L := UEV (calU e) A9 c9 B5 d5) hS9.2 rfl (uev_info _ _ _ _ _) (uev_one _ _ _ _ _) rfl rfl (fun w9 u9 r9 => hK w9 ⟨hS9.1.trans u9, r9⟩ trivial))); (try simp only [Nat.reduceAdd])
  iterate 3 (refine late_pure (by simp) (fun w => trivial) (v := ?_) (fun _ => rfl) ?_ ?_; rotate_left; (focus (intro c9 us w9 hm9 hS9 hF; clear hF hm9 hS9; go_simp; (try with_reducible rfl); done)); simp only [Act.put, zA, zB, zC, Nat.reduceAdd])
  refine late_done fun us wz hSz hF => ?_
  obtain ⟨uz, rz⟩ := hSz
  clear hF
  go_wp2
  refine bodyPost_ret (results_c3 rfl rfl rz Try.underlying112 rfl (uev_info _ _ _ _ _)) rfl ?_
  have hoz := ho12.keeps (Keeps.upd (ts := [112]) uz r12 (by simp)) (by decide)
  refine ⟨Upd.below hB12 uz (by omega), .inr ⟨HC.out, A9, c9, B5, d5, g12, _, rfl, ⟨hoz.a.lower hW, hoz.b.lower hW, hoz.ap⟩, hg12, rfl, ?_⟩⟩
  exact isB_kept hI12 fun b o e h0 => uz.block b (fun h => hne (by injection e with e; injection e with e1 e2; omega))
theorem callU (e : UE) (A B : Option Addr) (c d : Nat) (s : Int) (D : Option Addr) (dc : Nat) (b : List UInt8) (W : World) (hH : HeldU W e A c B d) (hD : IsB W D b.length b) : Calls Try.prog 76 #[.agg (UEV e A c B d), .int .i64 s, .slice D b.length dc] W (CalP e s b W) := by
  by_cases hx : uE e = 0
  · cases hv : (rqM 1 s b).ok
    · exact call_inv e A B c d s D dc b W hH hD hx hv
    · by_cases hl : (e.cs.length : Int) = e.cr
      · exact call_full e A B c d s D dc b W hH hD hx hv hl
      · by_cases hm : e.la = 1099511627776
        · exact call_lim e A B c d s D dc b W hH hD hx hv hl hm
        · exact call_ok e A B c d s D dc b W hH hD hx hv hl hm
  · exact call_chk e A B c d s D dc b W hH hD _ rfl hx
end
end Go.Proofs.Ythjkhambmgepdaa
