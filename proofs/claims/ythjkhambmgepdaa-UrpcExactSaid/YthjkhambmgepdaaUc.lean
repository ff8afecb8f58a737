/- urpc: Encode. -/
import Derived.Test.YthjkhambmgepdaaUb
namespace Go.Proofs.Ythjkhambmgepdaa
open Go.RowKit
set_option linter.unusedVariables false
/-- New bytes. -/
def NB (W : World) (bs : List UInt8) (en : Ending) (W' : World) : Prop := ∃ g m, W.heap.size ≤ g ∧ en = .returned (.slice (some ⟨g, 0, none⟩) m m) ∧ IsB W' (some ⟨g, 0, none⟩) m bs ∧ Below W.heap.size W W'
theorem NB.of {W : World} {T : TypeId} {bs : List UInt8} {en : Ending} {W' : World} (h : NewB W T bs en W') : NB W bs en W' := by
  obtain ⟨g, m, hg, hm, he, hr, hb⟩ := h
  refine ⟨g, m, hg, he, ?_, hb⟩
  rw [hm.out]
  exact IsB.of_row hr
theorem uv_is (A : Option Addr) (n c : Nat) (bs : List UInt8) (v : Nat) (w : World) (hA : IsB w A n bs) (hn : n ≤ 1000000) (hv : v < 18446744073709551616) : Calls Try.prog 113 #[.slice A n c, .int .u64 (v : Int)] w (NB w (bs ++ uB v)) :=
  (append_uvarint A n c bs v (sz v) w hA (by omega) hv (sz_grp v)).mono fun _ _ h => NB.of h
theorem uv_as {v : Int} {x : Nat} (hx : v = (x : Int)) (A : Option Addr) (n c : Nat) (bs : List UInt8) (w : World) (hA : IsB w A n bs) (hn : n ≤ 1000000) (hv : x < 18446744073709551616) : Calls Try.prog 113 #[.slice A n c, .int .u64 v] w (NB w (bs ++ uB x)) := by
  subst hx
  exact uv_is A n c bs x w hA hn hv
theorem ab_is (A : Option Addr) (n c : Nat) (bs : List UInt8) (B : Option Addr) (d : Nat) (ps : List UInt8) (w : World) (hA : IsB w A n bs) (hn : n ≤ 1000000) (hB : IsB w B ps.length ps) (hm : ps.length ≤ 1000000) : Calls Try.prog 114 #[.slice A n c, .slice B ps.length d] w (NB w (bs ++ (uB ps.length ++ ps))) :=
  (append_bytes A n c bs B ps.length d ps (sz ps.length) w hA hn hB hm (sz_grp _)).mono fun _ _ h => NB.of h
def EncP (m : RM) (W : World) (en : Ending) (W' : World) : Prop := Below W.heap.size W W' ∧ ((m.ok = false ∧ en = .returned (.tuple #[.slice none 0 0, .int .i64 1])) ∨ (m.ok = true ∧ ∃ g l, W.heap.size ≤ g ∧ l = m.by.length ∧ en = .returned (.tuple #[.slice (some ⟨g, 0, none⟩) l l, .int .i64 0]) ∧ IsB W' (some ⟨g, 0, none⟩) l m.by))
set_option maxRecDepth 100000 in
set_option maxHeartbeats 4000000 in
theorem encode_bad (m : RM) (A : Option Addr) (c : Nat) (W : World) (hv : m.ok = false) : Calls Try.prog 63 #[.agg (RMV m A c)] W (EncP m W) := by
  have HV := Lib.hid hv
  have HC := Lib.hid (clV_bad (A := A) (c := c) hv)
  clear hv
  have hB1 := (Below.refl W.heap.size W).alloc (Nat.le_refl _) (.cells (RMV m A c) 97)
  have r1 := Row.born W 97 (RMV m A c)
  have hq0 : ∀ (w : World), (binOp .eql 169 .nilIface .nilIface).run Try.prog w = .ok (.bool true) w := fun _ => rfl
  have hq1 : ∀ (w : World) (v : Value), (binOp .eql 169 (.iface 186 v) .nilIface).run Try.prog w = .ok (.bool false) w := fun _ _ => rfl
  have hq2 : ∀ (w : World) (v : Value), (binOp .eql 169 (.iface 188 v) .nilIface).run Try.prog w = .ok (.bool false) w := fun _ _ => rfl
  have hl1 := r1.lt
  go_enter Try.func63, Try.ntmps63
  go_upto_region 1 with (fail)
  generalize W.alloc (.cells (RMV m A c) 97) = w1 at *
  go_wp2_with (first | ((with_reducible refine wp_load_g ?_ r1.range Try.underlying97 rfl (rmv_info _ _ _) ?_ ?_); rfl; rfl) | (go_at_call 112; (with_reducible refine (classify _ A c _).mono ?_); rintro en w2 ⟨rfl, hb2⟩; rw [HC.out]))
  refine bodyPost_ret (v := .tuple #[.slice none 0 0, .int .i64 1]) (by simp [results, Try.results63, go_sem]) rfl ?_
  exact ⟨hB1.trans (hb2.mono hB1.size), .inl ⟨HV.out, rfl⟩⟩
set_option maxRecDepth 100000 in
set_option maxHeartbeats 4000000 in
theorem encode_req (n s : Nat) (b : List UInt8) (A : Option Addr) (c : Nat) (W : World) (hv : (RM.mk 1 (n : Int) (s : Int) 0 b).ok = true) (hA : IsB W A b.length b) : Calls Try.prog 63 #[.agg (RMV (RM.mk 1 (n : Int) (s : Int) 0 b) A c)] W (EncP (RM.mk 1 (n : Int) (s : Int) 0 b) W) := by
  have HV := Lib.hid hv
  have hok := RM.ok_iff.1 hv
  have hn1 : (n : Int) ≤ 1099511627776 := hok.n1
  have hb0 : b.length ≤ 65536 := hok.b
  have hs1 := hok.d
  have hs2 : 0 ≤ (s : Int) ∧ (s : Int) ≤ 65535 := hs1
  have HC := Lib.hid (show clV (RM.mk 1 (n : Int) (s : Int) 0 b) A c = .iface 186 (.agg #[.int .i64 (n : Int), .int .i64 (s : Int), .slice A b.length c]) by
    unfold clV
    rw [if_pos hv]
    rfl)
  have HBY := Lib.hid (show RM.by (RM.mk 1 (n : Int) (s : Int) 0 b) = uB 1 ++ (uB n ++ (uB s ++ (uB b.length ++ b))) by unfold RM.by RM.d; simp)
  have hm : ∀ w : World, (method 320 186 (.agg #[.int .i64 (n : Int), .int .i64 (s : Int), .slice A b.length c]) "multikernel/urpc.fields").run Try.prog w = .ok (159, .agg #[.int .i64 (n : Int), .int .i64 (s : Int), .slice A b.length c]) w := fun _ => by kernel_rfl
  have wn : IntKind.u64.wrap (n : Int) = (n : Int) := by rw [IntKind.wrap_u64]; omega
  have ws : IntKind.u64.wrap (s : Int) = (s : Int) := by rw [IntKind.wrap_u64]; omega
  have HN := Lib.hid (show n < 18446744073709551616 by omega)
  have HS := Lib.hid (show s < 18446744073709551616 by omega)
  have hn8 := uB_small n HN.out
  have hs8 := uB_small s HS.out
  have hk8 := uB_small 1 (by omega)
  clear hv hok hs1
  have hB1 := (Below.refl W.heap.size W).alloc (Nat.le_refl _) (.cells (RMV (RM.mk 1 (n : Int) (s : Int) 0 b) A c) 97)
  have r1 := Row.born W 97 (RMV (RM.mk 1 (n : Int) (s : Int) 0 b) A c)
  have hq0 : ∀ (w : World), (binOp .eql 169 .nilIface .nilIface).run Try.prog w = .ok (.bool true) w := fun _ => rfl
  have hq1 : ∀ (w : World) (v : Value), (binOp .eql 169 (.iface 186 v) .nilIface).run Try.prog w = .ok (.bool false) w := fun _ _ => rfl
  have hq2 : ∀ (w : World) (v : Value), (binOp .eql 169 (.iface 188 v) .nilIface).run Try.prog w = .ok (.bool false) w := fun _ _ => rfl
  have hl1 := r1.lt
  go_enter Try.func63, Try.ntmps63
  go_upto_region 1 with (fail)
  generalize W.alloc (.cells (RMV (RM.mk 1 (n : Int) (s : Int) 0 b) A c) 97) = w1 at *
  go_upto_region 4 with (first | ((with_reducible refine wp_load_g ?_ r1.range Try.underlying97 rfl (rmv_info _ _ _) ?_ ?_); rfl; rfl) | (go_at_call 112; (with_reducible refine (classify _ A c _).mono ?_); rintro en w2 ⟨rfl, hb2⟩; rw [HC.out]))
  have r1 := r1.below hb2 hl1
  have hB2 := hB1.trans (hb2.mono hB1.size)
  have hl2 := r1.lt
  clear hB1 hb2
  go_upto_region 5 with (go_at_call 159; refine (fields_186 _ _ _ _ _ _).mono ?_; rintro en w3 ⟨rfl, hb3⟩)
  have r1 := r1.below hb3 hl2
  have hl3 := r1.lt
  have hB3 := hB2.trans (hb3.mono hB2.size)
  have c0 : w3.cell? ⟨W.heap.size, 0, none⟩ = some (.int .i64 1) := r1.cell 0
  clear hB2 hb3 hl2
  go_upto_region 6 with (go_at_call 113; (with_reducible refine (uv_as (v := 1) (x := 1) rfl none 0 0 [] _ (IsB.nil _ _) (by omega) (by omega)).mono ?_); rintro en w4 ⟨g4, m4, hg4, rfl, hI4, hb4⟩)
  rw [List.nil_append] at hI4
  have r1 := r1.below hb4 hl3
  have hl4 := r1.lt
  have hB4 := hB3.trans (hb4.mono hB3.size)
  have hm4 : m4 ≤ 10 := by rw [hI4.1]; exact hk8
  clear hB3 hb4 hl3 c0
  go_upto_region 7 with (go_at_call 113; (with_reducible refine (uv_is _ m4 _ _ n _ hI4 (by omega) HN.out).mono ?_); rintro en w5 ⟨g5, m5, hg5, rfl, hI5, hb5⟩)
  have r1 := r1.below hb5 hl4
  have hl5 := r1.lt
  have hB5 := hB4.trans (hb5.mono hB4.size)
  have hm5 : m5 ≤ 20 := by rw [hI5.1, List.length_append]; omega
  clear hB4 hb5 hl4
  go_upto_region 8 with (go_at_call 113; (with_reducible refine (uv_is _ m5 _ _ s _ hI5 (by omega) HS.out).mono ?_); rintro en w6 ⟨g6, m6, hg6, rfl, hI6, hb6⟩)
  have r1 := r1.below hb6 hl5
  have hB6 := hB5.trans (hb6.mono hB5.size)
  have hm6 : m6 ≤ 30 := by rw [hI6.1, List.length_append, List.length_append]; omega
  have hA6 := hA.below hB6
  have c4 : w6.cell? ⟨W.heap.size, 4, none⟩ = some (.slice A b.length c) := r1.cell 4
  clear hB5 hb6 hl5 r1
  go_wp2_with (go_at_call 114; (with_reducible refine (ab_is _ m6 _ _ _ _ b _ hI6 (by omega) hA6 (by omega)).mono ?_); rintro en w7 ⟨g7, m7, hg7, rfl, hI7, hb7⟩)
  refine bodyPost_ret (v := .tuple #[.slice (some ⟨g7, 0, none⟩) m7 m7, .int .i64 0]) (by simp [results, Try.results63, go_sem]) rfl ?_
  have e1 : (uB 1 ++ uB n ++ uB s ++ (uB b.length ++ b)) = RM.by (RM.mk 1 (n : Int) (s : Int) 0 b) := by rw [HBY.out]; simp only [List.append_assoc]
  rw [e1] at hI7
  exact ⟨hB6.trans (hb7.mono hB6.size), .inr ⟨HV.out, g7, m7, Nat.le_trans hB6.size hg7, hI7.1, rfl, hI7⟩⟩
set_option maxRecDepth 100000 in
set_option maxHeartbeats 4000000 in
theorem encode_rep (n s : Nat) (b : List UInt8) (A : Option Addr) (c : Nat) (W : World) (hv : (RM.mk 2 (n : Int) 0 (s : Int) b).ok = true) (hA : IsB W A b.length b) : Calls Try.prog 63 #[.agg (RMV (RM.mk 2 (n : Int) 0 (s : Int) b) A c)] W (EncP (RM.mk 2 (n : Int) 0 (s : Int) b) W) := by
  have HV := Lib.hid hv
  have hok := RM.ok_iff.1 hv
  have hn1 : (n : Int) ≤ 1099511627776 := hok.n1
  have hb0 : b.length ≤ 65536 := hok.b
  have hs1 := hok.d
  have hs2 : 0 ≤ (s : Int) ∧ (s : Int) ≤ 65535 := hs1
  have HC := Lib.hid (show clV (RM.mk 2 (n : Int) 0 (s : Int) b) A c = .iface 188 (.agg #[.int .i64 (n : Int), .int .i64 (s : Int), .slice A b.length c]) by
    unfold clV
    rw [if_pos hv]
    rfl)
  have HBY := Lib.hid (show RM.by (RM.mk 2 (n : Int) 0 (s : Int) b) = uB 2 ++ (uB n ++ (uB s ++ (uB b.length ++ b))) by unfold RM.by RM.d; simp)
  have hm : ∀ w : World, (method 320 188 (.agg #[.int .i64 (n : Int), .int .i64 (s : Int), .slice A b.length c]) "multikernel/urpc.fields").run Try.prog w = .ok (160, .agg #[.int .i64 (n : Int), .int .i64 (s : Int), .slice A b.length c]) w := fun _ => by kernel_rfl
  have wn : IntKind.u64.wrap (n : Int) = (n : Int) := by rw [IntKind.wrap_u64]; omega
  have ws : IntKind.u64.wrap (s : Int) = (s : Int) := by rw [IntKind.wrap_u64]; omega
  have HN := Lib.hid (show n < 18446744073709551616 by omega)
  have HS := Lib.hid (show s < 18446744073709551616 by omega)
  have hn8 := uB_small n HN.out
  have hs8 := uB_small s HS.out
  have hk8 := uB_small 2 (by omega)
  clear hv hok hs1
  have hB1 := (Below.refl W.heap.size W).alloc (Nat.le_refl _) (.cells (RMV (RM.mk 2 (n : Int) 0 (s : Int) b) A c) 97)
  have r1 := Row.born W 97 (RMV (RM.mk 2 (n : Int) 0 (s : Int) b) A c)
  have hq0 : ∀ (w : World), (binOp .eql 169 .nilIface .nilIface).run Try.prog w = .ok (.bool true) w := fun _ => rfl
  have hq1 : ∀ (w : World) (v : Value), (binOp .eql 169 (.iface 186 v) .nilIface).run Try.prog w = .ok (.bool false) w := fun _ _ => rfl
  have hq2 : ∀ (w : World) (v : Value), (binOp .eql 169 (.iface 188 v) .nilIface).run Try.prog w = .ok (.bool false) w := fun _ _ => rfl
  have hl1 := r1.lt
  go_enter Try.func63, Try.ntmps63
  go_upto_region 1 with (fail)
  generalize W.alloc (.cells (RMV (RM.mk 2 (n : Int) 0 (s : Int) b) A c) 97) = w1 at *
  go_upto_region 4 with (first | ((with_reducible refine wp_load_g ?_ r1.range Try.underlying97 rfl (rmv_info _ _ _) ?_ ?_); rfl; rfl) | (go_at_call 112; (with_reducible refine (classify _ A c _).mono ?_); rintro en w2 ⟨rfl, hb2⟩; rw [HC.out]))
  have r1 := r1.below hb2 hl1
  have hB2 := hB1.trans (hb2.mono hB1.size)
  have hl2 := r1.lt
  clear hB1 hb2
  go_upto_region 5 with (go_at_call 160; refine (fields_188 _ _ _ _ _ _).mono ?_; rintro en w3 ⟨rfl, hb3⟩)
  have r1 := r1.below hb3 hl2
  have hl3 := r1.lt
  have hB3 := hB2.trans (hb3.mono hB2.size)
  have c0 : w3.cell? ⟨W.heap.size, 0, none⟩ = some (.int .i64 2) := r1.cell 0
  clear hB2 hb3 hl2
  go_upto_region 6 with (go_at_call 113; (with_reducible refine (uv_as (v := 2) (x := 2) rfl none 0 0 [] _ (IsB.nil _ _) (by omega) (by omega)).mono ?_); rintro en w4 ⟨g4, m4, hg4, rfl, hI4, hb4⟩)
  rw [List.nil_append] at hI4
  have r1 := r1.below hb4 hl3
  have hl4 := r1.lt
  have hB4 := hB3.trans (hb4.mono hB3.size)
  have hm4 : m4 ≤ 10 := by rw [hI4.1]; exact hk8
  clear hB3 hb4 hl3 c0
  go_upto_region 7 with (go_at_call 113; (with_reducible refine (uv_is _ m4 _ _ n _ hI4 (by omega) HN.out).mono ?_); rintro en w5 ⟨g5, m5, hg5, rfl, hI5, hb5⟩)
  have r1 := r1.below hb5 hl4
  have hl5 := r1.lt
  have hB5 := hB4.trans (hb5.mono hB4.size)
  have hm5 : m5 ≤ 20 := by rw [hI5.1, List.length_append]; omega
  clear hB4 hb5 hl4
  go_upto_region 8 with (go_at_call 113; (with_reducible refine (uv_is _ m5 _ _ s _ hI5 (by omega) HS.out).mono ?_); rintro en w6 ⟨g6, m6, hg6, rfl, hI6, hb6⟩)
  have r1 := r1.below hb6 hl5
  have hB6 := hB5.trans (hb6.mono hB5.size)
  have hm6 : m6 ≤ 30 := by rw [hI6.1, List.length_append, List.length_append]; omega
  have hA6 := hA.below hB6
  have c4 : w6.cell? ⟨W.heap.size, 4, none⟩ = some (.slice A b.length c) := r1.cell 4
  clear hB5 hb6 hl5 r1
  go_wp2_with (go_at_call 114; (with_reducible refine (ab_is _ m6 _ _ _ _ b _ hI6 (by omega) hA6 (by omega)).mono ?_); rintro en w7 ⟨g7, m7, hg7, rfl, hI7, hb7⟩)
  refine bodyPost_ret (v := .tuple #[.slice (some ⟨g7, 0, none⟩) m7 m7, .int .i64 0]) (by simp [results, Try.results63, go_sem]) rfl ?_
  have e1 : (uB 2 ++ uB n ++ uB s ++ (uB b.length ++ b)) = RM.by (RM.mk 2 (n : Int) 0 (s : Int) b) := by rw [HBY.out]; simp only [List.append_assoc]
  rw [e1] at hI7
  exact ⟨hB6.trans (hb7.mono hB6.size), .inr ⟨HV.out, g7, m7, Nat.le_trans hB6.size hg7, hI7.1, rfl, hI7⟩⟩
theorem encode (m : RM) (A : Option Addr) (c : Nat) (W : World) (hA : IsB W A m.b.length m.b) : Calls Try.prog 63 #[.agg (RMV m A c)] W (EncP m W) := by
  cases hv : m.ok
  · exact encode_bad m A c W hv
  · have hok := RM.ok_iff.1 hv
    obtain ⟨k, n, s, e, b⟩ := m
    obtain ⟨h1, h2, h3, h4⟩ := hok
    simp only at h1 h2 h3 h4
    obtain ⟨n', rfl⟩ := Int.eq_ofNat_of_zero_le (show 0 ≤ n by omega)
    rcases h4 with ⟨rfl, h5, h6, rfl⟩ | ⟨rfl, rfl, h6, h7, h8⟩
    · obtain ⟨s', rfl⟩ := Int.eq_ofNat_of_zero_le h5
      exact encode_req n' s' b A c W hv hA
    · obtain ⟨s', rfl⟩ := Int.eq_ofNat_of_zero_le h6
      exact encode_rep n' s' b A c W hv hA
end Go.Proofs.Ythjkhambmgepdaa
