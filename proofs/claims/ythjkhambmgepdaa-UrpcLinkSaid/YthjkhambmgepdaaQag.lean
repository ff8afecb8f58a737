/- Texts Uc Ud, without what this claim does not use. -/
import Derived.Test.YthjkhambmgepdaaQae
namespace Go.Proofs.Ythjkhambmgepdaa
section
open Go.RowKit
set_option linter.unusedVariables false
def NB (W : World) (bs : List UInt8) (en : Ending) (W' : World) : Prop := ∃ g m, W.heap.size ≤ g ∧ en = .returned (.slice (some ⟨g, 0, none⟩) m m) ∧ IsB W' (some ⟨g, 0, none⟩) m bs ∧ Below W.heap.size W W'
theorem NB.of {W : World} {T : TypeId} {bs : List UInt8} {en : Ending} {W' : World} (h : NewB W T bs en W') : NB W bs en W' := by
  obtain ⟨g, m, hg, hm, he, hr, hb⟩ := h
  refine ⟨g, m, hg, he, ?_, hb⟩
  rw [hm.out]
  exact IsB.of_row hr
theorem uv_is (A : Option Addr) (n c : Nat) (bs : List UInt8) (v : Nat) (w : World) (hA : IsB w A n bs) (hn : n ≤ 1000000) (hv : v < 18446744073709551616) : Calls Try.prog 113 #[.slice A n c, .int .u64 (v : Int)] w (NB w (bs ++ uB v)) :=
  (append_uvarint A n c bs v (sz v) w hA (by omega) hv (sz_grp v)).mono fun _ _ h => NB.of h
theorem uv_as {v : Int} {x : Nat} (hx : v = (x : Int)) (A : Option Addr) (n c : Nat) (bs : List UInt8) (w : World) (hA : IsB w A n bs) (hn : n ≤ 1000000) (hv : x < 18446744073709551616) : Calls Try.prog 113 #[.slice A n c, .int .u64 v] w (NB w (bs ++ uB x)) := by
  subst hx
  exact uv_is A n c bs x w hA hn hv
theorem ab_is (A : Option Addr) (n c : Nat) (bs : List UInt8) (B : Option Addr) (d : Nat) (ps : List UInt8) (w : World) (hA : IsB w A n bs) (hn : n ≤ 1000000) (hB : IsB w B ps.length ps) (hm : ps.length ≤ 1000000) : Calls Try.prog 114 #[.slice A n c, .slice B ps.length d] w (NB w (bs ++ (uB ps.length ++ ps))) :=
  (append_bytes A n c bs B ps.length d ps (sz ps.length) w hA hn hB hm (sz_grp _)).mono fun _ _ h => NB.of h
def EncP (m : RM) (W : World) (en : Ending) (W' : World) : Prop := Below W.heap.size W W' ∧ ((m.ok = false ∧ en = .returned (.tuple #[.slice none 0 0, .int .i64 1])) ∨ (m.ok = true ∧ ∃ g l, W.heap.size ≤ g ∧ l = m.by.length ∧ en = .returned (.tuple #[.slice (some ⟨g, 0, none⟩) l l, .int .i64 0]) ∧ IsB W' (some ⟨g, 0, none⟩) l m.by))
set_option maxRecDepth 100000 in
set_option maxHeartbeats 4000000 in
theorem encode_bad (m : RM) (A : Option Addr) (c : Nat) (W : World) (hv : m.ok = false) : Calls Try.prog 63 #[.agg (RMV m A c)] W (EncP m W) := by
  have HV := Lib.hid hv
  have HC := Lib.hid (clV_bad (A := A) (c := c) hv)
  clear hv
  have hB1 := (Below.refl W.heap.size W).alloc (Nat.le_refl _) (.cells (RMV m A c) 97)
  have r1 := Row.born W 97 (RMV m A c)
  have hq0 : ∀ (w : World), (binOp .eql 169 .nilIface .nilIface).run Try.prog w = .ok (.bool true) w := fun _ => rfl
  have hq1 : ∀ (w : World) (v : Value), (binOp .eql 169 (.iface 186 v) .nilIface).run Try.prog w = .ok (.bool false) w := fun _ _ => rfl
  have hq2 : ∀ (w : World) (v : Value), (binOp .eql 169 (.iface 188 v) .nilIface).run Try.prog w = .ok (.bool false) w := fun _ _ => rfl
  have hl1 := r1.lt
  go_enter Try.func63, Try.ntmps63
  go_upto_region 1 with (fail)
  generalize W.alloc (.cells (RMV m A c) 97) = w1 at *
  go_wp2_with (first | ((with_reducible refine wp_load_g ?_ r1.range Try.underlying97 rfl (rmv_info _ _ _) ?_ ?_); rfl; rfl) | (go_at_call 112; (with_reducible refine (classify _ A c _).mono ?_); rintro en w2 ⟨rfl, hb2⟩; rw [HC.out]))
  refine bodyPost_ret (v := .tuple #[.slice none 0 0, .int .i64 1]) (by simp [results, Try.results63, go_sem]) rfl ?_
  exact ⟨hB1.trans (hb2.mono hB1.size), .inl ⟨HV.out, rfl⟩⟩
set_option maxRecDepth 100000 in
set_option maxHeartbeats 4000000 in
theorem encode_req (n s : Nat) (b : List UInt8) (A : Option Addr) (c : Nat) (W : World) (hv : (RM.mk 1 (n : Int) (s : Int) 0 b).ok = true) (hA : IsB W A b.length b) : Calls Try.prog 63 #[.agg (RMV (RM.mk 1 (n : Int) (s : Int) 0 b) A c)] W (EncP (RM.mk 1 (n : Int) (s : Int) 0 b) W) := by
  have HV := Lib.hid hv
  have hok := RM.ok_iff.1 hv
  have hn1 : (n : Int) ≤ 1099511627776 := hok.n1
  have hb0 : b.length ≤ 65536 := hok.b
  have hs1 := hok.d
  have hs2 : 0 ≤ (s : Int) ∧ (s : Int) ≤ 65535 := hs1
  have HC := Lib.hid (show clV (RM.mk 1 (n : Int) (s : Int) 0 b) A c = .iface 186 (.agg #[.int .i64 (n : Int), .int .i64 (s : Int), .slice A b.length c]) by
    unfold clV
    rw [if_pos hv]
    rfl)
  have HBY := Lib.hid (show RM.by (RM.mk 1 (n : Int) (s : Int) 0 b) = uB 1 ++ (uB n ++ (uB s ++ (uB b.length ++ b))) by unfold RM.by RM.d; simp)
  have hm : ∀ w : World, (method 320 186 (.agg #[.int .i64 (n : Int), .int .i64 (s : Int), .slice A b.length c]) "multikernel/urpc.fields").run Try.prog w = .ok (159, .agg #[.int .i64 (n : Int), .int .i64 (s : Int), .slice A b.length c]) w := fun _ => by kernel_rfl
  have wn : IntKind.u64.wrap (n : Int) = (n : Int) := by rw [IntKind.wrap_u64]; omega
  have ws : IntKind.u64.wrap (s : Int) = (s : Int) := by rw [IntKind.wrap_u64]; omega
  have HN := Lib.hid (show n < 18446744073709551616 by omega)
  have HS := Lib.hid (show s < 18446744073709551616 by omega)
  have hn8 := uB_small n HN.out
  have hs8 := uB_small s HS.out
  have hk8 := uB_small 1 (by omega)
  clear hv hok hs1
  have hB1 := (Below.refl W.heap.size W).alloc (Nat.le_refl _) (.cells (RMV (RM.mk 1 (n : Int) (s : Int) 0 b) A c) 97)
  have r1 := Row.born W 97 (RMV (RM.mk 1 (n : Int) (s : Int) 0 b) A c)
  have hq0 : ∀ (w : World), (binOp .eql 169 .nilIface .nilIface).run Try.prog w = .ok (.bool true) w := fun _ => rfl
  have hq1 : ∀ (w : World) (v : Value), (binOp .eql 169 (.iface 186 v) .nilIface).run Try.prog w = .ok (.bool false) w := fun _ _ => rfl
  have hq2 : ∀ (w : World) (v : Value), (binOp .eql 169 (.iface 188 v) .nilIface).run Try.prog w = .ok (.bool false) w := fun _ _ => rfl
  have hl1 := r1.lt
  go_enter Try.func63, Try.ntmps63
  go_upto_region 1 with (fail)
  generalize W.alloc (.cells (RMV (RM.mk 1 (n : Int) (s : Int) 0 b) A c) 97) = w1 at *
  go_upto_region 4 with (first | ((with_reducible refine wp_load_g ?_ r1.range Try.underlying97 rfl (rmv_info _ _ _) ?_ ?_); rfl; rfl) | (go_at_call 112; (with_reducible refine (classify _ A c _).mono ?_); rintro en w2 ⟨rfl, hb2⟩; rw [HC.out]))
  have r1 := r1.below hb2 hl1
  have hB2 := hB1.trans (hb2.mono hB1.size)
  have hl2 := r1.lt
  clear hB1 hb2
  go_upto_region 5 with (go_at_call 159; refine (fields_186 _ _ _ _ _ _).mono ?_; rintro en w3 ⟨rfl, hb3⟩)
  have r1 := r1.below hb3 hl2
  have hl3 := r1.lt
  have hB3 := hB2.trans (hb3.mono hB2.size)
  have c0 : w3.cell? ⟨W.heap.size, 0, none⟩ = some (.int .i64 1) := r1.cell 0
  clear hB2 hb3 hl2
  go_upto_region 6 with (go_at_call 113; (with_reducible refine (uv_as (v := 1) (x := 1) rfl none 0 0 [] _ (IsB.nil _ _) (by omega) (by omega)).mono ?_); rintro en w4 ⟨g4, m4, hg4, rfl, hI4, hb4⟩)
  rw [List.nil_append] at hI4
  have r1 := r1.below hb4 hl3
  have hl4 := r1.lt
  have hB4 := hB3.trans (hb4.mono hB3.size)
  have hm4 : m4 ≤ 10 := by rw [hI4.1]; exact hk8
  clear hB3 hb4 hl3 c0
  go_upto_region 7 with (go_at_call 113; (with_reducible refine (uv_is _ m4 _ _ n _ hI4 (by omega) HN.out).mono ?_); rintro en w5 ⟨g5, m5, hg5, rfl, hI5, hb5⟩)
  have r1 := r1.below hb5 hl4
  have hl5 := r1.lt
  have hB5 := hB4.trans (hb5.mono hB4.size)
  have hm5 : m5 ≤ 20 := by rw [hI5.1, List.length_append]; omega
  clear hB4 hb5 hl4
  go_upto_region 8 with (go_at_call 113; (with_reducible refine (uv_is _ m5 _ _ s _ hI5 (by omega) HS.out).mono ?_); rintro en w6 ⟨g6, m6, hg6, rfl, hI6, hb6⟩)
  have r1 := r1.below hb6 hl5
  have hB6 := hB5.trans (hb6.mono hB5.size)
  have hm6 : m6 ≤ 30 := by rw [hI6.1, List.length_append, List.length_append]; omega
  have hA6 := hA.below hB6
  have c4 : w6.cell? ⟨W.heap.size, 4, none⟩ = some (.slice A b.length c) := r1.cell 4
  clear hB5 hb6 hl5 r1
  go_wp2_with (go_at_call 114; (with_reducible refine (ab_is _ m6 _ _ _ _ b _ hI6 (by omega) hA6 (by omega)).mono ?_); rintro en w7 ⟨g7, m7, hg7, rfl, hI7, hb7⟩)
  refine bodyPost_ret (v := .tuple #[.slice (some ⟨g7, 0, none⟩) m7 m7, .int .i64 0]) (by simp [results, Try.results63, go_sem]) rfl ?_
  have e1 : (uB 1 ++ uB n ++ uB s ++ (uB b.length ++ b)) = RM.by (RM.mk 1 (n : Int) (s : Int) 0 b) := by rw [HBY.out]; simp only [List.append_assoc]
  rw [e1] at hI7
  exact ⟨hB6.trans (hb7.mono hB6.size), .inr ⟨HV.out, g7, m7, Nat.le_trans hB6.size hg7, hI7.1, rfl, hI7⟩⟩
set_option maxRecDepth 100000 in
set_option maxHeartbeats 4000000 in
theorem encode_rep (n s : Nat) (b : List UInt8) (A : Option Addr) (c : Nat) (W : World) (hv : (RM.mk 2 (n : Int) 0 (s : Int) b).ok = true) (hA : IsB W A b.length b) : Calls Try.prog 63 #[.agg (RMV (RM.mk 2 (n : Int) 0 (s : Int) b) A c)] W (EncP (RM.mk 2 (n : Int) 0 (s : Int) b) W) := by
  have HV := Lib.hid hv
  have hok := RM.ok_iff.1 hv
  have hn1 : (n : Int) ≤ 1099511627776 := hok.n1
  have hb0 : b.length ≤ 65536 := hok.b
  have hs1 := hok.d
  have hs2 : 0 ≤ (s : Int) ∧ (s : Int) ≤ 65535 := hs1
  have HC := Lib.hid (show clV (RM.mk 2 (n : Int) 0 (s : Int) b) A c = .iface 188 (.agg #[.int .i64 (n : Int), .int .i64 (s : Int), .slice A b.length c]) by
    unfold clV
    rw [if_pos hv]
    rfl)
  have HBY := Lib.hid (show RM.by (RM.mk 2 (n : Int) 0 (s : Int) b) = uB 2 ++ (uB n ++ (uB s ++ (uB b.length ++ b))) by unfold RM.by RM.d; simp)
  have hm : ∀ w : World, (method 320 188 (.agg #[.int .i64 (n : Int), .int .i64 (s : Int), .slice A b.length c]) "multikernel/urpc.fields").run Try.prog w = .ok (160, .agg #[.int .i64 (n : Int), .int .i64 (s : Int), .slice A b.length c]) w := fun _ => by kernel_rfl
  have wn : IntKind.u64.wrap (n : Int) = (n : Int) := by rw [IntKind.wrap_u64]; omega
  have ws : IntKind.u64.wrap (s : Int) = (s : Int) := by rw [IntKind.wrap_u64]; omega
  have HN := Lib.hid (show n < 18446744073709551616 by omega)
  have HS := Lib.hid (show s < 18446744073709551616 by omega)
  have hn8 := uB_small n HN.out
  have hs8 := uB_small s HS.out
  have hk8 := uB_small 2 (by omega)
  clear hv hok hs1
  have hB1 := (Below.refl W.heap.size W).alloc (Nat.le_refl _) (.cells (RMV (RM.mk 2 (n : Int) 0 (s : Int) b) A c) 97)
  have r1 := Row.born W 97 (RMV (RM.mk 2 (n : Int) 0 (s : Int) b) A c)
  have hq0 : ∀ (w : World), (binOp .eql 169 .nilIface .nilIface).run Try.prog w = .ok (.bool true) w := fun _ => rfl
  have hq1 : ∀ (w : World) (v : Value), (binOp .eql 169 (.iface 186 v) .nilIface).run Try.prog w = .ok (.bool false) w := fun _ _ => rfl
  have hq2 : ∀ (w : World) (v : Value), (binOp .eql 169 (.iface 188 v) .nilIface).run Try.prog w = .ok (.bool false) w := fun _ _ => rfl
  have hl1 := r1.lt
  go_enter Try.func63, Try.ntmps63
  go_upto_region 1 with (fail)
  generalize W.alloc (.cells (RMV (RM.mk 2 (n : Int) 0 (s : Int) b) A c) 97) = w1 at *
  go_upto_region 4 with (first | ((with_reducible refine wp_load_g ?_ r1.range Try.underlying97 rfl (rmv_info _ _ _) ?_ ?_); rfl; rfl) | (go_at_call 112; (with_reducible refine (classify _ A c _).mono ?_); rintro en w2 ⟨rfl, hb2⟩; rw [HC.out]))
  have r1 := r1.below hb2 hl1
  have hB2 := hB1.trans (hb2.mono hB1.size)
  have hl2 := r1.lt
  clear hB1 hb2
  go_upto_region 5 with (go_at_call 160; refine (fields_188 _ _ _ _ _ _).mono ?_; rintro en w3 ⟨rfl, hb3⟩)
  have r1 := r1.below hb3 hl2
  have hl3 := r1.lt
  have hB3 := hB2.trans (hb3.mono hB2.size)
  have c0 : w3.cell? ⟨W.heap.size, 0, none⟩ = some (.int .i64 2) := r1.cell 0
  clear hB2 hb3 hl2
  go_upto_region 6 with (go_at_call 113; (with_reducible refine (uv_as (v := 2) (x := 2) rfl none 0 0 [] _ (IsB.nil _ _) (by omega) (by omega)).mono ?_); rintro en w4 ⟨g4, m4, hg4, rfl, hI4, hb4⟩)
  rw [List.nil_append] at hI4
  have r1 := r1.below hb4 hl3
  have hl4 := r1.lt
  have hB4 := hB3.trans (hb4.mono hB3.size)
  have hm4 : m4 ≤ 10 := by rw [hI4.1]; exact hk8
  clear hB3 hb4 hl3 c0
  go_upto_region 7 with (go_at_call 113; (with_reducible refine (uv_is _ m4 _ _ n _ hI4 (by omega) HN.out).mono ?_); rintro en w5 ⟨g5, m5, hg5, rfl, hI5, hb5⟩)
  have r1 := r1.below hb5 hl4
  have hl5 := r1.lt
  have hB5 := hB4.trans (hb5.mono hB4.size)
  have hm5 : m5 ≤ 20 := by rw [hI5.1, List.length_append]; omega
  clear hB4 hb5 hl4
  go_upto_region 8 with (go_at_call 113; (with_reducible refine (uv_is _ m5 _ _ s _ hI5 (by omega) HS.out).mono ?_); rintro en w6 ⟨g6, m6, hg6, rfl, hI6, hb6⟩)
  have r1 := r1.below hb6 hl5
  have hB6 := hB5.trans (hb6.mono hB5.size)
  have hm6 : m6 ≤ 30 := by rw [hI6.1, List.length_append, List.length_append]; omega
  have hA6 := hA.below hB6
  have c4 : w6.cell? ⟨W.heap.size, 4, none⟩ = some (.slice A b.length c) := r1.cell 4
  clear hB5 hb6 hl5 r1
  go_wp2_with (go_at_call 114; (with_reducible refine (ab_is _ m6 _ _ _ _ b _ hI6 (by omega) hA6 (by omega)).mono ?_); rintro en w7 ⟨g7, m7, hg7, rfl, hI7, hb7⟩)
  refine bodyPost_ret (v := .tuple #[.slice (some ⟨g7, 0, none⟩) m7 m7, .int .i64 0]) (by simp [results, Try.results63, go_sem]) rfl ?_
  have e1 : (uB 2 ++ uB n ++ uB s ++ (uB b.length ++ b)) = RM.by (RM.mk 2 (n : Int) 0 (s : Int) b) := by rw [HBY.out]; simp only [List.append_assoc]
  rw [e1] at hI7
  exact ⟨hB6.trans (hb7.mono hB6.size), .inr ⟨HV.out, g7, m7, Nat.le_trans hB6.size hg7, hI7.1, rfl, hI7⟩⟩
theorem encode (m : RM) (A : Option Addr) (c : Nat) (W : World) (hA : IsB W A m.b.length m.b) : Calls Try.prog 63 #[.agg (RMV m A c)] W (EncP m W) := by
  cases hv : m.ok
  · exact encode_bad m A c W hv
  · have hok := RM.ok_iff.1 hv
    obtain ⟨k, n, s, e, b⟩ := m
    obtain ⟨h1, h2, h3, h4⟩ := hok
    simp only at h1 h2 h3 h4
    obtain ⟨n', rfl⟩ := Int.eq_ofNat_of_zero_le (show 0 ≤ n by omega)
    rcases h4 with ⟨rfl, h5, h6, rfl⟩ | ⟨rfl, rfl, h6, h7, h8⟩
    · obtain ⟨s', rfl⟩ := Int.eq_ofNat_of_zero_le h5
      exact encode_req n' s' b A c W hv hA
    · obtain ⟨s', rfl⟩ := Int.eq_ofNat_of_zero_le h6
      exact encode_rep n' s' b A c W hv hA
end
section
open Go.RowKit
set_option linter.unusedVariables false
set_option linter.unusedSimpArgs false
def rm0 : RM := ⟨0, 0, 0, 0, []⟩
def ZRm : Array Value := RMV rm0 none 0
def DecP (bs : List UInt8) (W : World) (en : Ending) (W' : World) : Prop := Below W.heap.size W W' ∧ ((dOk bs = false ∧ en = .returned (.tuple #[.agg ZRm, .int .i64 14])) ∨ (dOk bs = true ∧ ∃ A c, en = .returned (.tuple #[.agg (RMV (dM bs) A c), .int .i64 0]) ∧ OwnB W' W.heap.size 5 A (dM bs).b.length c (dM bs).b))
def dS (bs : List UInt8) : Nat → Nat × Nat × Nat
  | 0 => dK bs
  | 1 => dN bs
  | _ => dT bs
def dAt (bs : List UInt8) : Nat → Nat
  | 0 => 0
  | j + 1 => (dS bs j).2.1
def arr3 (bs : List UInt8) (j : Nat) : Array Value := #[.int .u64 (if 0 < j then ((dK bs).1 : Int) else 0), .int .u64 (if 1 < j then ((dN bs).1 : Int) else 0), .int .u64 (if 2 < j then ((dT bs).1 : Int) else 0)]
theorem dS_at (bs : List UInt8) : ∀ j, j < 3 → uvR bs (dAt bs j : Nat) = dS bs j
  | 0, _ => rfl
  | 1, _ => rfl
  | 2, _ => rfl
theorem dOk_s {bs : List UInt8} (h : dOk bs = true) : ∀ j, j < 3 → dO (dS bs j) = true := by
  unfold dOk at h
  simp only [Bool.and_eq_true] at h
  intro j hj
  rcases (by omega : j = 0 ∨ j = 1 ∨ j = 2) with rfl | rfl | rfl
  · exact h.1
  · exact h.2.1
  · exact h.2.2.1
theorem dOk_no {bs : List UInt8} {j : Nat} (hj : j < 3) (h : dO (dS bs j) = false) : dOk bs = false := by
  cases hv : dOk bs
  · rfl
  · rw [dOk_s hv j hj] at h
    cases h
theorem dO_e {r : Nat × Nat × Nat} (h : r.2.2 ≠ 0) : dO r = false := by unfold dO; rw [decide_eq_false h]; rfl
theorem dO_b {r : Nat × Nat × Nat} (h : 1099511627776 < r.1) : dO r = false := by unfold dO; rw [decide_eq_false (by omega : ¬ r.1 ≤ 1099511627776)]; simp
theorem dO_y {r : Nat × Nat × Nat} (h : r.2.2 = 0) (h2 : r.1 ≤ 1099511627776) : dO r = true := by unfold dO; rw [decide_eq_true h, decide_eq_true h2]; rfl
theorem dO_is {r : Nat × Nat × Nat} (h : dO r = true) : r.2.2 = 0 ∧ r.1 ≤ 1099511627776 := by unfold dO at h; simpa using h
theorem dOk_mk {bs : List UInt8} (h : ∀ j, j < 3 → dO (dS bs j) = true) (h2 : (dB bs).2.2 = 0) (h3 : (dB bs).2.1 = bs.length) : dOk bs = (dM bs).ok := by
  unfold dOk
  rw [show dO (dK bs) = true from h 0 (by omega), show dO (dN bs) = true from h 1 (by omega), show dO (dT bs) = true from h 2 (by omega), decide_eq_true h2, decide_eq_true h3]
  simp
theorem dOk_nb {bs : List UInt8} (h2 : (dB bs).2.2 ≠ 0) : dOk bs = false := by unfold dOk; simp [h2]
theorem dOk_nl {bs : List UInt8} (h2 : (dB bs).2.1 ≠ bs.length) : dOk bs = false := by unfold dOk; simp [h2]
theorem dec_no {bs : List UInt8} {W W' : World} (hb : Below W.heap.size W W') (h : dOk bs = false) : DecP bs W (.returned (.tuple #[.agg ZRm, .int .i64 14])) W' := ⟨hb, .inl ⟨h, rfl⟩⟩
theorem clV_some {m : RM} {A : Option Addr} {c : Nat} (h : m.ok = true) : ∃ v, clV m A c = .iface 186 v ∨ clV m A c = .iface 188 v := by
  unfold clV
  rw [if_pos h]
  split
  · exact ⟨_, .inl rfl⟩
  · exact ⟨_, .inr rfl⟩
theorem isB_kept {w w' : World} {A : Option Addr} {n : Nat} {bs : List UInt8} (h : IsB w A n bs) (hb : ∀ b o, A = some ⟨b, o, none⟩ → 0 < n → w'.heap[b]? = w.heap[b]?) : IsB w' A n bs := by
  refine ⟨h.1, fun hn => ?_⟩
  obtain ⟨b, o, e, hc⟩ := h.2 hn
  refine ⟨b, o, e, fun i hi => ?_⟩
  rw [← hc i hi]
  have h1 := hb b o e hn
  simp only [World.cell?, h1]
theorem zrm_info : (Try.prog.info? 97).map (·.size) = some ZRm.size := info97
theorem zrm_one : ZRm.all (·.oneCell') = true := rmv_one _ _ _
theorem arr_set {bs : List UInt8} : ∀ j, j < 3 → (arr3 bs j).setIfInBounds j (.int .u64 ((dS bs j).1 : Int)) = arr3 bs (j + 1)
  | 0, _ => by simp [arr3, dS]
  | 1, _ => by simp [arr3, dS]
  | 2, _ => by simp [arr3, dS]
theorem arr_cell {bs : List UInt8} : ∀ j, j < 3 → ∃ x, (arr3 bs j)[j]? = some x
  | 0, _ => ⟨_, rfl⟩
  | 1, _ => ⟨_, rfl⟩
  | 2, _ => ⟨_, rfl⟩
set_option maxRecDepth 100000 in
set_option maxHeartbeats 8000000 in
theorem decode (A : Option Addr) (n c : Nat) (bs : List UInt8) (W : World) (hA : IsB W A n bs) (hn : n ≤ 1000000) (hc : n ≤ c) : Calls Try.prog 64 #[.slice A n c] W (DecP bs W) := by
  have hl := Lib.hid hA.1
  have hB1 := ((Below.refl W.heap.size W).alloc (Nat.le_refl _) (.cells ZRm 97)).alloc (by simp) (.cells (arr3 bs 0) 175)
  have r1 := (Row.born W 97 ZRm).alloc (.cells (arr3 bs 0) 175)
  have r2 : Row ((W.alloc (.cells ZRm 97)).alloc (.cells (arr3 bs 0) 175)) (W.heap.size + 1) 175 (arr3 bs 0) := by
    have h := Row.born (W.alloc (.cells ZRm 97)) 175 (arr3 bs 0)
    have e1 : (W.alloc (.cells ZRm 97)).heap.size = W.heap.size + 1 := by simp
    rwa [e1] at h
  have hq0 : ∀ (w : World), (binOp .eql 169 .nilIface .nilIface).run Try.prog w = .ok (.bool true) w := fun _ => rfl
  have hq1 : ∀ (w : World) (v : Value), (binOp .eql 169 (.iface 186 v) .nilIface).run Try.prog w = .ok (.bool false) w := fun _ _ => rfl
  have hq2 : ∀ (w : World) (v : Value), (binOp .eql 169 (.iface 188 v) .nilIface).run Try.prog w = .ok (.bool false) w := fun _ _ => rfl
  go_enter Try.func64, Try.ntmps64
  go_upto_region 4 with (fail)
  change Code.wp _ _ _ _ ((W.alloc (.cells ZRm 97)).alloc (.cells (arr3 bs 0) 175))
  generalize (W.alloc (.cells ZRm 97)).alloc (.cells (arr3 bs 0) 175) = w1 at *
  go_loopw [14, 5] (fun i at_ wr => ∃ j : Nat, j ≤ 3 ∧ i = .int .i64 j ∧ at_ = .int .i64 (dAt bs j : Nat) ∧ (∀ k, k < j → dO (dS bs k) = true) ∧ Row wr W.heap.size 97 ZRm ∧ Row wr (W.heap.size + 1) 175 (arr3 bs j) ∧ Below W.heap.size W wr) (fun i _ _ => 3 - (intOf i).toNat)
  case atStart => exact ⟨0, by omega, rfl, rfl, fun k hk => by omega, r1, r2, hB1⟩
  case round =>
    clear r1 r2 hB1
    obtain ⟨j, hj, rfl, rfl, hd, r2, r4, hB⟩ := hrel
    rcases Nat.lt_or_ge j 3 with hj3 | hj3
    · have dj : decide (j < 3) = true := decide_eq_true hj3
      have dji : decide ((j : Int) < 3) = true := decide_eq_true (by omega)
      have hji : (j : Int) < 3 := by omega
      have hat : dAt bs j < 9223372036854775808 := by
        rcases Nat.eq_zero_or_pos j with h0 | h0
        · subst h0; show 0 < _; omega
        · obtain ⟨i, rfl⟩ : ∃ i, j = i + 1 := ⟨j - 1, by omega⟩
          have h9 := dO_is (hd i (by omega))
          have h8 := uvR_next (bs := bs) (off := (dAt bs i : Nat)) (by rw [dS_at bs i (by omega)]; exact h9.1)
          rw [dS_at bs i (by omega)] at h8
          have hl := hl.out
          show (dS bs i).2.1 < _
          omega
      have HU := Lib.hid (uvarint01 A n c bs (dAt bs j : Nat) wr (hA.below hB) (by omega) (by omega) (by omega))
      have HS := Lib.hid (dS_at bs j hj3)
      go_upto_region 6 with (fail)
      go_upto_region 7 with (go_at_call 115; refine HU.out.mono ?_; rintro en w' ⟨rfl, h9⟩; rw [h9]; clear h9; rw [HS.out])
      obtain ⟨v, nx, er, hr⟩ : ∃ v nx er, dS bs j = (v, nx, er) := ⟨_, _, _, rfl⟩
      have hA1 := dAt bs (j + 1)
      have HR := Lib.hid hr
      rw [hr]
      dsimp only
      clear hr HS HU hat
      by_cases he : er = 0
      · subst he
        rcases Nat.lt_or_ge 1099511627776 v with hv | hv
        · have dv : decide (1099511627776 < v) = true := decide_eq_true hv
          have dvi : decide ((1099511627776 : Int) < (v : Int)) = true := decide_eq_true (by omega)
          have HX := Lib.hid (dOk_no hj3 (dO_b (show 1099511627776 < (dS bs j).1 by rw [HR.out]; exact hv)))
          clear hd HR
          go_wp2_with ((with_reducible refine wp_row_store (L := ZRm) r2 rfl zrm_info zrm_one ?_ ?_ ?_); rfl; rfl; intro w9 u9 r9)
          refine bodyPost_ret (results_ct rfl rfl r9 Try.underlying97 rfl zrm_info) rfl ?_
          exact dec_no (Upd.below hB u9 (Nat.le_refl _)) HX.out
        · have dv : decide (1099511627776 < v) = false := decide_eq_false (by omega)
          have dvi : decide ((1099511627776 : Int) < (v : Int)) = false := decide_eq_false (by omega)
          have HX := Lib.hid (show dO (dS bs j) = true by rw [HR.out]; exact dO_y rfl hv)
          have hfz := r4.frozen j
          obtain ⟨x0, hx0⟩ := arr_cell (bs := bs) j hj3
          have hcx : wr.cell? ⟨W.heap.size + 1, j, none⟩ = some x0 := (r4.cell j).trans hx0
          have u5 := Upd.setCell wr (W.heap.size + 1) j (.int .u64 (v : Int))
          have r5 := r4.set j (.int .u64 (v : Int))
          have e5 : (arr3 bs j).setIfInBounds j (.int .u64 (v : Int)) = arr3 bs (j + 1) := by
            have h := arr_set (bs := bs) j hj3
            rw [HR.out] at h
            exact h
          rw [e5] at r5
          have r6 := r2.upd u5 (by omega)
          have hB6 := Upd.below hB u5 (by omega)
          have HAT := Lib.hid (show dAt bs (j + 1) = nx by show (dS bs j).2.1 = nx; rw [HR.out])
          clear hx0 e5 r4 r2
          go_wp2
          refine ⟨⟨j + 1, by omega, by go_num, by rw [HAT.out], fun k hk => ?_, r6, r5, hB6⟩, by simp [intOf]; omega⟩
          rcases Nat.lt_or_ge k j with h | h
          · exact hd k h
          · obtain rfl : k = j := by omega
            exact HX.out
      · have de : ((er : Int) != 0) = true := by simpa using he
        have HX := Lib.hid (dOk_no hj3 (dO_e (show (dS bs j).2.2 ≠ 0 by rw [HR.out]; exact he)))
        clear hd HR he
        go_wp2_with ((with_reducible refine wp_row_store (L := ZRm) r2 rfl zrm_info zrm_one ?_ ?_ ?_); rfl; rfl; intro w9 u9 r9)
        refine bodyPost_ret (results_ct rfl rfl r9 Try.underlying97 rfl zrm_info) rfl ?_
        exact dec_no (Upd.below hB u9 (Nat.le_refl _)) HX.out
    · obtain rfl : j = 3 := by omega
      have hat : dAt bs 3 < 9223372036854775808 := by
        have h9 := dO_is (hd 2 (by omega))
        have h8 := uvR_next (bs := bs) (off := (dAt bs 2 : Nat)) (by rw [dS_at bs 2 (by omega)]; exact h9.1)
        rw [dS_at bs 2 (by omega)] at h8
        have hl := hl.out
        show (dS bs 2).2.1 < _
        omega
      have v0 := (dO_is (hd 0 (by omega))).2
      have v1 := (dO_is (hd 1 (by omega))).2
      have v2 := (dO_is (hd 2 (by omega))).2
      have HU := Lib.hid (bytes01 A n c bs (dAt bs 3 : Nat) 65536 wr (hA.below hB) hc hn (by omega) (by omega) (by omega) (by omega))
      have HD := Lib.hid hd
      clear hd hat
      go_upto_region 12 with (go_at_call 116; refine HU.out.mono ?_; rintro en w5 ⟨A5, n5, c5, rfl, hI5, hb5⟩)
      have r2 := r2.below hb5 r2.lt
      have r4 := r4.below hb5 r4.lt
      have hB5s := hB.size
      have hB := hB.trans (hb5.mono hB.size)
      have HW5 := Lib.hid hB5s
      have hdB : bR bs (dAt bs 3 : Nat) 65536 = dB bs := rfl
      rw [hdB] at hI5 ⊢
      clear hdB hb5 HU hB5s
      obtain ⟨p5, e5, x5, hr⟩ : ∃ p e x, dB bs = (p, e, x) := ⟨_, _, _, rfl⟩
      have HR := Lib.hid hr
      rw [hr] at hI5 ⊢
      dsimp only at hI5 ⊢
      clear hr
      by_cases hx : x5 = 0
      · subst hx
        by_cases he : e5 = n
        · subst he
          have hpl := hI5.len
          have hok : dOk bs = (dM bs).ok := dOk_mk HD.out (by rw [HR.out]) (by rw [HR.out]; exact hl.out)
          have HOK := Lib.hid hok
          subst hpl
          obtain ⟨vk, hvk⟩ : ∃ v, (dK bs).1 = v := ⟨_, rfl⟩
          obtain ⟨vn, hvn⟩ : ∃ v, (dN bs).1 = v := ⟨_, rfl⟩
          obtain ⟨vt, hvt⟩ : ∃ v, (dT bs).1 = v := ⟨_, rfl⟩
          have v0 : (dK bs).1 ≤ 1099511627776 := v0
          have v1 : (dN bs).1 ≤ 1099511627776 := v1
          have v2 : (dT bs).1 ≤ 1099511627776 := v2
          have HK := Lib.hid hvk
          have HN := Lib.hid hvn
          have HT := Lib.hid hvt
          rw [hvk] at v0
          rw [hvn] at v1
          rw [hvt] at v2
          have ea : arr3 bs 3 = #[.int .u64 (vk : Int), .int .u64 (vn : Int), .int .u64 (vt : Int)] := by rw [← hvk, ← hvn, ← hvt]; simp [arr3]
          rw [ea] at r4
          clear hvk hvn hvt hok ea HD
          have a0 : w5.cell? ⟨W.heap.size + 1, 0, none⟩ = some (.int .u64 (vk : Int)) := r4.cell 0
          have a1 : w5.cell? ⟨W.heap.size + 1, 1, none⟩ = some (.int .u64 (vn : Int)) := r4.cell 1
          have a2 : w5.cell? ⟨W.heap.size + 1, 2, none⟩ = some (.int .u64 (vt : Int)) := r4.cell 2
          have wk : IntKind.i64.wrap (vk : Int) = (vk : Int) := by rw [IntKind.wrap_i64]; omega
          have wn : IntKind.i64.wrap (vn : Int) = (vn : Int) := by rw [IntKind.wrap_i64]; omega
          have wt : IntKind.i64.wrap (vt : Int) = (vt : Int) := by rw [IntKind.wrap_i64]; omega
          have hg5 := hB.size
          by_cases hk2 : vk = 2
          · skip
            subst hk2
            have dk : ((2 : Int) == 2) = true := rfl
            have HM := Lib.hid (show dM bs = ⟨2, (vn : Int), 0, (vt : Int), p5⟩ by
              unfold dM
              rw [HK.out, HN.out, HT.out, HR.out]
              rfl)
            clear HK HN HT HR
            go_upto_region 15 with (fail)
            have hal := (Below.refl w5.heap.size w5).alloc (Nat.le_refl _) (.cells (RMV ⟨2, (vn : Int), 0, 0, p5⟩ A5 c5) 97)
            have r7 := Row.born w5 97 (RMV ⟨2, (vn : Int), 0, 0, p5⟩ A5 c5)
            change Code.wp _ _ _ _ (w5.alloc (.cells (RMV ⟨2, (vn : Int), 0, 0, p5⟩ A5 c5) 97))
            generalize w5.alloc (.cells (RMV ⟨2, (vn : Int), 0, 0, p5⟩ A5 c5) 97) = w7 at *
            have r4 := r4.below hal r4.lt
            have c0 : w7.cell? ⟨w5.heap.size, 0, none⟩ = some (.int .i64 2) := r7.cell 0
            have c3 : w7.cell? ⟨w5.heap.size, 3, none⟩ = some (.int .i64 0) := r7.cell 3
            have f7 := r7.frozen 3
            clear a0 a1 a2 wk
            have a2 : w7.cell? ⟨W.heap.size + 1, 2, none⟩ = some (.int .u64 (vt : Int)) := r4.cell 2
            have r8 := r7.set 3 (.int .i64 (vt : Int))
            have u8 := Upd.setCell w7 w5.heap.size 3 (.int .i64 (vt : Int))
            have e8 : (RMV ⟨2, (vn : Int), 0, 0, p5⟩ A5 c5).setIfInBounds 3 (.int .i64 (vt : Int)) = RMV (dM bs) A5 c5 := by rw [HM.out]; simp [RMV]
            rw [e8] at r8
            have hal8 := Upd.below hal u8 (Nat.le_refl _)
            have r2 := r2.below hal8 r2.lt
            have hB := hB.trans (hal8.mono hB.size)
            have hI8 := hI5.below hal8
            have hpb : p5.length = (dM bs).b.length := by rw [HM.out]
            have hpc : p5 = (dM bs).b := by rw [HM.out]
            rw [hpb, hpc] at hI8
            have HPB := Lib.hid hpb
            clear hpb hpc hal hal8 e8 r4 hI5 u8
            go_upto_region 18 with (fail)
            generalize w7.setCell ⟨w5.heap.size, 3, none⟩ (.int .i64 (vt : Int)) = w8 at *
            generalize w5.heap.size = g7 at *
            clear c0 c3 f7 a2 r7 HM
            cases hv : (dM bs).ok
            · have HC := Lib.hid (clV_bad (A := A5) (c := c5) hv)
              have HX := Lib.hid (show dOk bs = false by rw [HOK.out]; exact hv)
              clear hv
              go_upto_region 19 with (first | ((with_reducible refine wp_load_g ?_ r8.range Try.underlying97 rfl (rmv_info _ _ _) ?_ ?_); rfl; rfl) | (go_at_call 112; (with_reducible refine (classify _ A5 c5 _).mono ?_); rintro en wq ⟨rfl, hbq⟩; rw [HC.out]))
              have r2 := r2.below hbq r2.lt
              have hB := hB.trans (hbq.mono hB.size)
              clear r8 hbq
              go_wp2_with ((with_reducible refine wp_row_store (L := ZRm) r2 rfl zrm_info zrm_one ?_ ?_ ?_); rfl; rfl; intro w9 u9 r9)
              refine bodyPost_ret (results_ct rfl rfl r9 Try.underlying97 rfl zrm_info) rfl ?_
              exact dec_no (Upd.below hB u9 (Nat.le_refl _)) HX.out
            · have HX := Lib.hid (show dOk bs = true by rw [HOK.out]; exact hv)
              obtain ⟨v, hv2⟩ := clV_some (A := A5) (c := c5) hv
              clear hv
              rcases hv2 with hv2 | hv2
              all_goals
                have HC := Lib.hid hv2
                clear hv2
                go_wp2_with (first | ((with_reducible refine wp_load_g ?_ r8.range Try.underlying97 rfl (rmv_info _ _ _) ?_ ?_); rfl; rfl) | (go_at_call 112; (with_reducible refine (classify _ A5 c5 _).mono ?_); rintro en wq ⟨rfl, hbq⟩; rw [HC.out]; have r2 := r2.below hbq r2.lt; have r8 := r8.below hbq r8.lt; have hI9 := hI8.below hbq; have hB := hB.trans (hbq.mono hB.size)) | ((with_reducible refine wp_row_store (L := RMV (dM bs) A5 c5) r2 rfl (rmv_info _ _ _) (rmv_one _ _ _) ?_ ?_ ?_); rfl; rfl; intro w9 u9 r9))
                refine bodyPost_ret (results_ct rfl rfl r9 Try.underlying97 rfl (rmv_info _ _ _)) rfl ?_
                exact ⟨Upd.below hB u9 (Nat.le_refl _), .inr ⟨HX.out, A5, c5, rfl, (hI9.keeps (Keeps.upd (ts := [97]) u9 r2 (by simp)) (by decide)).lower HW5.out⟩⟩
          · skip
            have dk : ((vk : Int) == 2) = false := ef (by omega)
            have HM := Lib.hid (show dM bs = ⟨(vk : Int), (vn : Int), (vt : Int), 0, p5⟩ by
              unfold dM
              rw [HK.out, HN.out, HT.out, HR.out]
              rw [if_neg hk2, if_neg hk2])
            clear hk2 HK HN HT HR
            go_upto_region 15 with (fail)
            have hal := (Below.refl w5.heap.size w5).alloc (Nat.le_refl _) (.cells (RMV ⟨(vk : Int), (vn : Int), 0, 0, p5⟩ A5 c5) 97)
            have r7 := Row.born w5 97 (RMV ⟨(vk : Int), (vn : Int), 0, 0, p5⟩ A5 c5)
            change Code.wp _ _ _ _ (w5.alloc (.cells (RMV ⟨(vk : Int), (vn : Int), 0, 0, p5⟩ A5 c5) 97))
            generalize w5.alloc (.cells (RMV ⟨(vk : Int), (vn : Int), 0, 0, p5⟩ A5 c5) 97) = w7 at *
            have r4 := r4.below hal r4.lt
            have c0 : w7.cell? ⟨w5.heap.size, 0, none⟩ = some (.int .i64 (vk : Int)) := r7.cell 0
            have c2 : w7.cell? ⟨w5.heap.size, 2, none⟩ = some (.int .i64 0) := r7.cell 2
            have f7 := r7.frozen 2
            clear a0 a1 a2 wk
            have a2 : w7.cell? ⟨W.heap.size + 1, 2, none⟩ = some (.int .u64 (vt : Int)) := r4.cell 2
            have r8 := r7.set 2 (.int .i64 (vt : Int))
            have u8 := Upd.setCell w7 w5.heap.size 2 (.int .i64 (vt : Int))
            have e8 : (RMV ⟨(vk : Int), (vn : Int), 0, 0, p5⟩ A5 c5).setIfInBounds 2 (.int .i64 (vt : Int)) = RMV (dM bs) A5 c5 := by rw [HM.out]; simp [RMV]
            rw [e8] at r8
            have hal8 := Upd.below hal u8 (Nat.le_refl _)
            have r2 := r2.below hal8 r2.lt
            have hB := hB.trans (hal8.mono hB.size)
            have hI8 := hI5.below hal8
            have hpb : p5.length = (dM bs).b.length := by rw [HM.out]
            have hpc : p5 = (dM bs).b := by rw [HM.out]
            rw [hpb, hpc] at hI8
            have HPB := Lib.hid hpb
            clear hpb hpc hal hal8 e8 r4 hI5 u8
            go_upto_region 18 with (fail)
            generalize w7.setCell ⟨w5.heap.size, 2, none⟩ (.int .i64 (vt : Int)) = w8 at *
            generalize w5.heap.size = g7 at *
            clear c0 c2 f7 a2 r7 HM
            cases hv : (dM bs).ok
            · have HC := Lib.hid (clV_bad (A := A5) (c := c5) hv)
              have HX := Lib.hid (show dOk bs = false by rw [HOK.out]; exact hv)
              clear hv
              go_upto_region 19 with (first | ((with_reducible refine wp_load_g ?_ r8.range Try.underlying97 rfl (rmv_info _ _ _) ?_ ?_); rfl; rfl) | (go_at_call 112; (with_reducible refine (classify _ A5 c5 _).mono ?_); rintro en wq ⟨rfl, hbq⟩; rw [HC.out]))
              have r2 := r2.below hbq r2.lt
              have hB := hB.trans (hbq.mono hB.size)
              clear r8 hbq
              go_wp2_with ((with_reducible refine wp_row_store (L := ZRm) r2 rfl zrm_info zrm_one ?_ ?_ ?_); rfl; rfl; intro w9 u9 r9)
              refine bodyPost_ret (results_ct rfl rfl r9 Try.underlying97 rfl zrm_info) rfl ?_
              exact dec_no (Upd.below hB u9 (Nat.le_refl _)) HX.out
            · have HX := Lib.hid (show dOk bs = true by rw [HOK.out]; exact hv)
              obtain ⟨v, hv2⟩ := clV_some (A := A5) (c := c5) hv
              clear hv
              rcases hv2 with hv2 | hv2
              all_goals
                have HC := Lib.hid hv2
                clear hv2
                go_wp2_with (first | ((with_reducible refine wp_load_g ?_ r8.range Try.underlying97 rfl (rmv_info _ _ _) ?_ ?_); rfl; rfl) | (go_at_call 112; (with_reducible refine (classify _ A5 c5 _).mono ?_); rintro en wq ⟨rfl, hbq⟩; rw [HC.out]; have r2 := r2.below hbq r2.lt; have r8 := r8.below hbq r8.lt; have hI9 := hI8.below hbq; have hB := hB.trans (hbq.mono hB.size)) | ((with_reducible refine wp_row_store (L := RMV (dM bs) A5 c5) r2 rfl (rmv_info _ _ _) (rmv_one _ _ _) ?_ ?_ ?_); rfl; rfl; intro w9 u9 r9))
                refine bodyPost_ret (results_ct rfl rfl r9 Try.underlying97 rfl (rmv_info _ _ _)) rfl ?_
                exact ⟨Upd.below hB u9 (Nat.le_refl _), .inr ⟨HX.out, A5, c5, rfl, (hI9.keeps (Keeps.upd (ts := [97]) u9 r2 (by simp)) (by decide)).lower HW5.out⟩⟩
        · have de : ((e5 : Int) != (n : Int)) = true := nt (by omega)
          have HX := Lib.hid (dOk_nl (show (dB bs).2.1 ≠ bs.length by rw [HR.out]; exact fun h => he (h.trans hl.out.symm)))
          clear HD HR he
          go_wp2_with ((with_reducible refine wp_row_store (L := ZRm) r2 rfl zrm_info zrm_one ?_ ?_ ?_); rfl; rfl; intro w9 u9 r9)
          refine bodyPost_ret (results_ct rfl rfl r9 Try.underlying97 rfl zrm_info) rfl ?_
          exact dec_no (Upd.below hB u9 (Nat.le_refl _)) HX.out
      · have de : ((x5 : Int) != 0) = true := nt (by omega)
        have HX := Lib.hid (dOk_nb (show (dB bs).2.2 ≠ 0 by rw [HR.out]; exact hx))
        clear HD HR hx
        go_wp2_with ((with_reducible refine wp_row_store (L := ZRm) r2 rfl zrm_info zrm_one ?_ ?_ ?_); rfl; rfl; intro w9 u9 r9)
        refine bodyPost_ret (results_ct rfl rfl r9 Try.underlying97 rfl zrm_info) rfl ?_
        exact dec_no (Upd.below hB u9 (Nat.le_refl _)) HX.out
end
end Go.Proofs.Ythjkhambmgepdaa
