/- Texts Fa, without what this claim does not use. -/
import Derived.Test.YthjkhambmgepdaaKah
namespace Go.Proofs.Ythjkhambmgepdaa
section
open Go.RowKit
set_option linter.unusedVariables false
set_option linter.unusedSimpArgs false
def EndP (e : LE) (W : World) (en : Ending) (W' : World) : Prop := en = .returned (.bool (vE e)) ∧ Below W.heap.size W W'
theorem end_mk {e : LE} {b : Bool} {W W' : World} (h : vE e = b) (hb : Below W.heap.size W W') : EndP e W (.returned (.bool b)) W' := ⟨by rw [h], hb⟩
theorem sender_is {n s a : Int} {b : Bool} (hv : vs n s a = b) (hs : 0 ≤ s) (hs1 : s < 18446744073709551616) (ha : 0 ≤ a) (W : World) : Calls Try.prog 99 #[.agg #[.int .i64 n, .int .u64 s, .int .u64 a]] W (fun en W' => en = .returned (.bool b) ∧ Below W.heap.size W W') :=
  (sender_ref n s a hs hs1 ha W).mono fun en W' h => by rw [← hv]; exact h
theorem receiver_is {n x : Int} {b : Bool} (hv : vr n x = b) (W : World) : Calls Try.prog 100 #[.agg #[.int .i64 n, .int .u64 x]] W (fun en W' => en = .returned (.bool b) ∧ Below W.heap.size W W') :=
  (receiver_ref n x W).mono fun en W' h => by rw [← hv]; exact h
theorem vE_of {e : LE} (h1 : vs e.n e.s e.a = true) (h2 : vr e.rn e.rc = true) (h3 : e.n = e.rn) (h4 : e.q.length ≤ 64) (h5 : e.told ≤ e.rc) : vE e = (qOk (e.q.drop 0) && (offOk e.off e.q && partOk e.want e.pt)) := by
  unfold vE soundB compB
  rw [h1, h2, decide_eq_true h4, decide_eq_true h5, show (e.n == e.rn) = true by simp [h3]]
  simp [Bool.and_assoc]
set_option maxRecDepth 100000 in
set_option maxHeartbeats 8000000 in
theorem end_v1 (e : LE) (A B : Option Addr) (c d : Nat) (W : World) (ht : e.ty) (hH : Held W e A c B d) (hv1 : vs e.n e.s e.a = false) : Calls Try.prog 106 #[.agg (LEV e A c B d)] W (EndP e W) := by
  have HE := Lib.hid (show vE e = false by unfold vE soundB; rw [hv1]; simp)
  have HV1 := Lib.hid hv1

  clear hv1
  have hB1 := (Below.refl W.heap.size W).alloc (Nat.le_refl _) (.cells (LEV e A c B d) 69)
  have r1 := Row.born W 69 (LEV e A c B d)
  have hl1 := r1.lt
  go_enter Try.func106, Try.ntmps106
  go_upto_region 1 with (fail)
  generalize W.alloc (.cells (LEV e A c B d) 69) = w1 at *
  obtain ⟨⟨c0, c1, c2, c3, c4⟩, ⟨c5, c6, c7, c8, c9⟩, fz⟩ := end_cells r1
  go_wp2_with (first | (go_at_call 99; refine (sender_is HV1.out ht.s0 ht.s1 ht.a0 _).mono ?_; rintro en w2 ⟨rfl, hb2⟩; have r1 := r1.below hb2 hl1; have hl1 := r1.lt; have hB1 := hB1.trans (hb2.mono hB1.size); obtain ⟨⟨c0, c1, c2, c3, c4⟩, ⟨c5, c6, c7, c8, c9⟩, fz⟩ := end_cells r1) | (go_at_call 100; refine (receiver_is HV2.out _).mono ?_; rintro en w3 ⟨rfl, hb3⟩; have r1 := r1.below hb3 hl1; have hl1 := r1.lt; have hB1 := hB1.trans (hb3.mono hB1.size); obtain ⟨⟨c0, c1, c2, c3, c4⟩, ⟨c5, c6, c7, c8, c9⟩, fz⟩ := end_cells r1))
  go_ret
  exact end_mk HE.out hB1
set_option maxRecDepth 100000 in
set_option maxHeartbeats 8000000 in
theorem end_v2 (e : LE) (A B : Option Addr) (c d : Nat) (W : World) (ht : e.ty) (hH : Held W e A c B d) (hv1 : vs e.n e.s e.a = true) (hv2 : vr e.rn e.rc = false) : Calls Try.prog 106 #[.agg (LEV e A c B d)] W (EndP e W) := by
  have HE := Lib.hid (show vE e = false by unfold vE compB; rw [hv2]; simp)
  have HV1 := Lib.hid hv1
  have HV2 := Lib.hid hv2
  clear hv1 hv2
  have hB1 := (Below.refl W.heap.size W).alloc (Nat.le_refl _) (.cells (LEV e A c B d) 69)
  have r1 := Row.born W 69 (LEV e A c B d)
  have hl1 := r1.lt
  go_enter Try.func106, Try.ntmps106
  go_upto_region 1 with (fail)
  generalize W.alloc (.cells (LEV e A c B d) 69) = w1 at *
  obtain ⟨⟨c0, c1, c2, c3, c4⟩, ⟨c5, c6, c7, c8, c9⟩, fz⟩ := end_cells r1
  go_wp2_with (first | (go_at_call 99; refine (sender_is HV1.out ht.s0 ht.s1 ht.a0 _).mono ?_; rintro en w2 ⟨rfl, hb2⟩; have r1 := r1.below hb2 hl1; have hl1 := r1.lt; have hB1 := hB1.trans (hb2.mono hB1.size); obtain ⟨⟨c0, c1, c2, c3, c4⟩, ⟨c5, c6, c7, c8, c9⟩, fz⟩ := end_cells r1) | (go_at_call 100; refine (receiver_is HV2.out _).mono ?_; rintro en w3 ⟨rfl, hb3⟩; have r1 := r1.below hb3 hl1; have hl1 := r1.lt; have hB1 := hB1.trans (hb3.mono hB1.size); obtain ⟨⟨c0, c1, c2, c3, c4⟩, ⟨c5, c6, c7, c8, c9⟩, fz⟩ := end_cells r1))
  go_ret
  exact end_mk HE.out hB1
set_option maxRecDepth 100000 in
set_option maxHeartbeats 8000000 in
theorem end_v3 (e : LE) (A B : Option Addr) (c d : Nat) (W : World) (ht : e.ty) (hH : Held W e A c B d) (hv1 : vs e.n e.s e.a = true) (hv2 : vr e.rn e.rc = true) (hn : e.n ≠ e.rn) : Calls Try.prog 106 #[.agg (LEV e A c B d)] W (EndP e W) := by
  have HE := Lib.hid (show vE e = false by unfold vE; simp [hn])
  have HV1 := Lib.hid hv1
  have HV2 := Lib.hid hv2
  have dn : (e.n != e.rn) = true := by simpa using hn
  clear hv1 hv2 hn
  have hB1 := (Below.refl W.heap.size W).alloc (Nat.le_refl _) (.cells (LEV e A c B d) 69)
  have r1 := Row.born W 69 (LEV e A c B d)
  have hl1 := r1.lt
  go_enter Try.func106, Try.ntmps106
  go_upto_region 1 with (fail)
  generalize W.alloc (.cells (LEV e A c B d) 69) = w1 at *
  obtain ⟨⟨c0, c1, c2, c3, c4⟩, ⟨c5, c6, c7, c8, c9⟩, fz⟩ := end_cells r1
  go_wp2_with (first | (go_at_call 99; refine (sender_is HV1.out ht.s0 ht.s1 ht.a0 _).mono ?_; rintro en w2 ⟨rfl, hb2⟩; have r1 := r1.below hb2 hl1; have hl1 := r1.lt; have hB1 := hB1.trans (hb2.mono hB1.size); obtain ⟨⟨c0, c1, c2, c3, c4⟩, ⟨c5, c6, c7, c8, c9⟩, fz⟩ := end_cells r1) | (go_at_call 100; refine (receiver_is HV2.out _).mono ?_; rintro en w3 ⟨rfl, hb3⟩; have r1 := r1.below hb3 hl1; have hl1 := r1.lt; have hB1 := hB1.trans (hb3.mono hB1.size); obtain ⟨⟨c0, c1, c2, c3, c4⟩, ⟨c5, c6, c7, c8, c9⟩, fz⟩ := end_cells r1))
  go_ret
  exact end_mk HE.out hB1
set_option maxRecDepth 100000 in
set_option maxHeartbeats 8000000 in
theorem end_v4 (e : LE) (A B : Option Addr) (c d : Nat) (W : World) (ht : e.ty) (hH : Held W e A c B d) (hv1 : vs e.n e.s e.a = true) (hv2 : vr e.rn e.rc = true) (hn : e.n = e.rn) (hq : 64 < e.q.length) : Calls Try.prog 106 #[.agg (LEV e A c B d)] W (EndP e W) := by
  have HE := Lib.hid (show vE e = false by unfold vE soundB; rw [decide_eq_false (by omega : ¬ e.q.length ≤ 64)]; simp)
  have HV1 := Lib.hid hv1
  have HV2 := Lib.hid hv2
  have dn : (e.n != e.rn) = false := by simpa using hn
  have dq : decide (64 < e.q.length) = true := decide_eq_true hq
  have dqi : decide ((64 : Int) < (e.q.length : Int)) = true := decide_eq_true (by omega)
  clear hv1 hv2 hn hq
  have hB1 := (Below.refl W.heap.size W).alloc (Nat.le_refl _) (.cells (LEV e A c B d) 69)
  have r1 := Row.born W 69 (LEV e A c B d)
  have hl1 := r1.lt
  go_enter Try.func106, Try.ntmps106
  go_upto_region 1 with (fail)
  generalize W.alloc (.cells (LEV e A c B d) 69) = w1 at *
  obtain ⟨⟨c0, c1, c2, c3, c4⟩, ⟨c5, c6, c7, c8, c9⟩, fz⟩ := end_cells r1
  go_wp2_with (first | (go_at_call 99; refine (sender_is HV1.out ht.s0 ht.s1 ht.a0 _).mono ?_; rintro en w2 ⟨rfl, hb2⟩; have r1 := r1.below hb2 hl1; have hl1 := r1.lt; have hB1 := hB1.trans (hb2.mono hB1.size); obtain ⟨⟨c0, c1, c2, c3, c4⟩, ⟨c5, c6, c7, c8, c9⟩, fz⟩ := end_cells r1) | (go_at_call 100; refine (receiver_is HV2.out _).mono ?_; rintro en w3 ⟨rfl, hb3⟩; have r1 := r1.below hb3 hl1; have hl1 := r1.lt; have hB1 := hB1.trans (hb3.mono hB1.size); obtain ⟨⟨c0, c1, c2, c3, c4⟩, ⟨c5, c6, c7, c8, c9⟩, fz⟩ := end_cells r1))
  go_ret
  exact end_mk HE.out hB1
set_option maxRecDepth 100000 in
set_option maxHeartbeats 8000000 in
theorem end_v5 (e : LE) (A B : Option Addr) (c d : Nat) (W : World) (ht : e.ty) (hH : Held W e A c B d) (hv1 : vs e.n e.s e.a = true) (hv2 : vr e.rn e.rc = true) (hn : e.n = e.rn) (hq : e.q.length ≤ 64) (hd : e.rc < e.told) : Calls Try.prog 106 #[.agg (LEV e A c B d)] W (EndP e W) := by
  have HE := Lib.hid (show vE e = false by unfold vE compB; rw [decide_eq_false (by omega : ¬ e.told ≤ e.rc)]; simp)
  have HV1 := Lib.hid hv1
  have HV2 := Lib.hid hv2
  have dn : (e.n != e.rn) = false := by simpa using hn
  have dq : decide (64 < e.q.length) = false := decide_eq_false (by omega)
  have dqi : decide ((64 : Int) < (e.q.length : Int)) = false := decide_eq_false (by omega)
  have dd : decide (e.rc < e.told) = true := decide_eq_true hd
  clear hv1 hv2 hn hq hd
  have hB1 := (Below.refl W.heap.size W).alloc (Nat.le_refl _) (.cells (LEV e A c B d) 69)
  have r1 := Row.born W 69 (LEV e A c B d)
  have hl1 := r1.lt
  go_enter Try.func106, Try.ntmps106
  go_upto_region 1 with (fail)
  generalize W.alloc (.cells (LEV e A c B d) 69) = w1 at *
  obtain ⟨⟨c0, c1, c2, c3, c4⟩, ⟨c5, c6, c7, c8, c9⟩, fz⟩ := end_cells r1
  go_wp2_with (first | (go_at_call 99; refine (sender_is HV1.out ht.s0 ht.s1 ht.a0 _).mono ?_; rintro en w2 ⟨rfl, hb2⟩; have r1 := r1.below hb2 hl1; have hl1 := r1.lt; have hB1 := hB1.trans (hb2.mono hB1.size); obtain ⟨⟨c0, c1, c2, c3, c4⟩, ⟨c5, c6, c7, c8, c9⟩, fz⟩ := end_cells r1) | (go_at_call 100; refine (receiver_is HV2.out _).mono ?_; rintro en w3 ⟨rfl, hb3⟩; have r1 := r1.below hb3 hl1; have hl1 := r1.lt; have hB1 := hB1.trans (hb3.mono hB1.size); obtain ⟨⟨c0, c1, c2, c3, c4⟩, ⟨c5, c6, c7, c8, c9⟩, fz⟩ := end_cells r1))
  go_ret
  exact end_mk HE.out hB1
set_option maxRecDepth 100000 in
set_option maxHeartbeats 8000000 in
theorem end_ok (e : LE) (A B : Option Addr) (c d : Nat) (W : World) (ht : e.ty) (hH : Held W e A c B d) (hv1 : vs e.n e.s e.a = true) (hv2 : vr e.rn e.rc = true) (hn : e.n = e.rn) (hq : e.q.length ≤ 64) (hd : e.told ≤ e.rc) : Calls Try.prog 106 #[.agg (LEV e A c B d)] W (EndP e W) := by
  have HS := Lib.hid (vE_of hv1 hv2 hn hq hd)
  have HV1 := Lib.hid hv1
  have HV2 := Lib.hid hv2
  have dn : (e.n != e.rn) = false := by simpa using hn
  have dq : decide (64 < e.q.length) = false := decide_eq_false (by omega)
  have dqi : decide ((64 : Int) < (e.q.length : Int)) = false := decide_eq_false (by omega)
  have dd : decide (e.rc < e.told) = false := decide_eq_false (by omega)
  clear hv1 hv2 hn hq hd
  have hB1 := (Below.refl W.heap.size W).alloc (Nat.le_refl _) (.cells (LEV e A c B d) 69)
  have r1 := Row.born W 69 (LEV e A c B d)
  have hl1 := r1.lt
  go_enter Try.func106, Try.ntmps106
  go_upto_region 1 with (fail)
  generalize W.alloc (.cells (LEV e A c B d) 69) = w1 at *
  obtain ⟨⟨c0, c1, c2, c3, c4⟩, ⟨c5, c6, c7, c8, c9⟩, fz⟩ := end_cells r1
  go_upto_region 4 with (first | (go_at_call 99; refine (sender_is HV1.out ht.s0 ht.s1 ht.a0 _).mono ?_; rintro en w2 ⟨rfl, hb2⟩; have r1 := r1.below hb2 hl1; have hl1 := r1.lt; have hB1 := hB1.trans (hb2.mono hB1.size); obtain ⟨⟨c0, c1, c2, c3, c4⟩, ⟨c5, c6, c7, c8, c9⟩, fz⟩ := end_cells r1) | (go_at_call 100; refine (receiver_is HV2.out _).mono ?_; rintro en w3 ⟨rfl, hb3⟩; have r1 := r1.below hb3 hl1; have hl1 := r1.lt; have hB1 := hB1.trans (hb3.mono hB1.size); obtain ⟨⟨c0, c1, c2, c3, c4⟩, ⟨c5, c6, c7, c8, c9⟩, fz⟩ := end_cells r1))
  have hq1 := hH.q.below hB1
  have hql := ht.ql
  go_loop [3] (fun i => ∃ j : Nat, j ≤ e.q.length ∧ i = .int .i64 j ∧ Hid (vE e = (qOk (e.q.drop j) && (offOk e.off e.q && partOk e.want e.pt)))) (fun i => e.q.length - (intOf i).toNat)
  case atStart => exact ⟨0, by omega, rfl, HS⟩
  case round =>
    clear HS dn dq dqi dd
    obtain ⟨j, hj, rfl, HS⟩ := hrel
    rcases Nat.lt_or_ge j e.q.length with hjl | hjl
    · have hd1 : decide (j < e.q.length) = true := by simpa using hjl
      have hji : (j : Int) < e.q.length := by omega
      obtain ⟨b, o, hA, hrow⟩ := hq1.2 (by omega)
      subst hA
      obtain ⟨Ar, Cr, x, -, -, -⟩ := hrow j hjl
      have hat := qOk_at hjl
      clear hrow
      generalize e.q[j].length = L at *
      by_cases hL : 1048576 < L
      · have hd2 : decide (1048576 < L) = true := by simpa using hL
        have HF := Lib.hid (show vE e = false by rw [HS.out, hat, decide_eq_false (by omega : ¬ L ≤ 1048576)]; simp)
        clear hat
        go_wp2
        go_ret
        exact end_mk HF.out hB1
      · have hd2 : decide (1048576 < L) = false := by simpa using hL
        have HN := Lib.hid (show vE e = (qOk (e.q.drop (j + 1)) && (offOk e.off e.q && partOk e.want e.pt)) by rw [HS.out, hat, decide_eq_true (by omega : L ≤ 1048576)]; simp)
        clear hat HS
        go_wp2
        go_round
        case rel => exact ⟨j + 1, by omega, by go_num, HN⟩
        case measure => simp [intOf]; omega
    · have hd1 : decide (e.q.length < e.q.length) = false := by simp
      have hd3 : decide (j < e.q.length) = false := by simpa using hjl
      have HM := Lib.hid (show vE e = (offOk e.off e.q && partOk e.want e.pt) by rw [HS.out, List.drop_eq_nil_of_le hjl]; simp [qOk])
      clear HS
      go_upto_region 8 with (fail)
      have hBx := hB1.drew
      have r1w : Row w3.drew W.heap.size 69 (LEV e A c B d) := r1
      clear c0 c1 c2 c3 c4 c5 c6 c7 c8 c9 fz
      obtain ⟨⟨c0, c1, c2, c3, c4⟩, ⟨c5, c6, c7, c8, c9⟩, fz⟩ := end_cells r1w
      have e0 := ht.o0
      have e1 := ht.o1
      by_cases hoff : e.off = -1
      · have ho : (e.off == -1) = true := by simpa using hoff
        have hon : (e.off != -1) = false := by simpa using hoff
        have HN := Lib.hid (show vE e = partOk e.want e.pt by rw [HM.out]; unfold offOk; rw [ho]; simp)
        clear hoff HM
        refine wp_region_told (n := 89) (fun w' => w' = w3.drew) (fun _ _ => True) (by kernel_rfl) (by kernel_rfl) (by rfl) rfl ?_
        repeat (first | (refine walk_pure (v := ?_) (fun _ => trivial) (fun _ => rfl) ?_ ?_; rotate_left; (focus (intro us w9 hS9 hF; subst hS9; clear hF; go_simp; (try with_reducible rfl); done)); simp only [Act.put, List.setIfInBounds_toArray, List.set_cons_zero, List.set_cons_succ, Nat.reduceAdd]) | (refine walk_skip (fun _ => trivial) (fun _ => rfl) ?_; simp only [Act.put, List.setIfInBounds_toArray, List.set_cons_zero, List.set_cons_succ, Nat.reduceAdd]))
        refine walk_done fun us w9 hS9 hF => ?_
        subst hS9
        clear hF
        go_upto_region 10 with (fail)
        have e9 := ht.pl
        by_cases hw : e.want = -1
        · have dw : (e.want == -1) = true := by simpa using hw
          by_cases hp : e.pt.length = 0
          · have HX := Lib.hid (show vE e = true by rw [HN.out]; unfold partOk; rw [if_pos hw]; simpa using hp)
            have dp : (e.pt.length == 0) = true := by simpa using hp
            have dpi : ((e.pt.length : Int) == 0) = true := by rw [beq_iff_eq]; omega
            clear hw hp
            go_wp2
            go_ret
            exact end_mk HX.out hBx
          · have HX := Lib.hid (show vE e = false by rw [HN.out]; unfold partOk; rw [if_pos hw]; simpa using hp)
            have dp : (e.pt.length == 0) = false := by simpa using hp
            have dpi : ((e.pt.length : Int) == 0) = false := by rw [beq_eq_false_iff_ne]; omega
            clear hw hp
            go_wp2
            go_ret
            exact end_mk HX.out hBx
        · have dw : (e.want == -1) = false := by simpa using hw
          by_cases hp : e.want ≤ 1048576
          · have HX := Lib.hid (show vE e = cutB e.pt.length e.want by rw [HN.out]; unfold partOk; rw [if_neg hw, decide_eq_true hp]; simp)
            have dp : decide (e.want ≤ 1048576) = true := decide_eq_true hp
            clear hw hp
            go_wp2_with (go_at_call 139; refine (cut_ref _ _ (by omega) _).mono ?_; rintro en wq ⟨rfl, rfl⟩)
            go_ret
            exact end_mk HX.out hBx
          · have HX := Lib.hid (show vE e = false by rw [HN.out]; unfold partOk; rw [if_neg hw, decide_eq_false hp]; simp)
            have dp : decide (e.want ≤ 1048576) = false := decide_eq_false hp
            clear hw hp
            go_wp2
            go_ret
            exact end_mk HX.out hBx
      · have ho : (e.off == -1) = false := by simpa using hoff
        have hon : (e.off != -1) = true := by simpa using hoff
        clear hoff
        by_cases h0 : e.q.length = 0
        · have h1 : decide (0 < e.q.length) = false := decide_eq_false (by omega)
          have h00 : (e.q.length == 0) = true := by simpa using h0
          have h01 : ((e.q.length : Int) == 0) = true := by rw [beq_iff_eq]; omega
          have HO := Lib.hid (show vE e = false by rw [HM.out]; unfold offOk; rw [ho, h1]; simp)
          clear h0
          refine wp_region_told (n := 89) (fun w' => w' = w3.drew) (fun _ _ => True) (by kernel_rfl) (by kernel_rfl) (by rfl) rfl ?_
          repeat (first | (refine walk_pure (v := ?_) (fun _ => trivial) (fun _ => rfl) ?_ ?_; rotate_left; (focus (intro us w9 hS9 hF; subst hS9; clear hF; go_simp; (try with_reducible rfl); done)); simp only [Act.put, List.setIfInBounds_toArray, List.set_cons_zero, List.set_cons_succ, Nat.reduceAdd]) | (refine walk_skip (fun _ => trivial) (fun _ => rfl) ?_; simp only [Act.put, List.setIfInBounds_toArray, List.set_cons_zero, List.set_cons_succ, Nat.reduceAdd]))
          refine walk_done fun us w9 hS9 hF => ?_
          subst hS9
          clear hF
          go_wp2
          go_ret
          exact end_mk HO.out hBx
        · have h1 : decide (0 < e.q.length) = true := decide_eq_true (by omega)
          have h00 : (e.q.length == 0) = false := by simpa using h0
          have h01 : ((e.q.length : Int) == 0) = false := by rw [beq_eq_false_iff_ne]; omega
          have h2 : 0 < e.q.length := by omega
          have h2i : (0 : Int) < e.q.length := by omega
          obtain ⟨b, o, hA, hrow⟩ := hq1.2 h2
          subst hA
          obtain ⟨Ar, Cr, x, -, -, -⟩ := hrow 0 h2
          have hhd := headD_len h2
          have HO := Lib.hid (show vE e = (cutB e.off e.q[0].length && partOk e.want e.pt) by rw [HM.out]; unfold offOk; rw [ho, h1, hhd]; simp)
          have x : w3.drew.cell? ⟨b, o, none⟩ = some (.slice Ar e.q[0].length Cr) := x
          clear hrow hhd h0
          generalize e.q[0].length = L at *
          cases hcut : cutB e.off L
          · have HZ := Lib.hid (show vE e = false by rw [HO.out, hcut]; simp)
            have HC := Lib.hid hcut
            clear hcut HO
            refine wp_region_told (n := 89) (fun w' => w' = w3.drew) (fun _ _ => True) (by kernel_rfl) (by kernel_rfl) (by rfl) rfl ?_
            repeat (first | (refine walk_pure (v := ?_) (fun _ => trivial) (fun _ => rfl) ?_ ?_; rotate_left; (focus (intro us w9 hS9 hF; subst hS9; clear hF; go_simp; (try with_reducible rfl); done)); simp only [Act.put, List.setIfInBounds_toArray, List.set_cons_zero, List.set_cons_succ, Nat.reduceAdd]) | (refine walk_skip (fun _ => trivial) (fun _ => rfl) ?_; simp only [Act.put, List.setIfInBounds_toArray, List.set_cons_zero, List.set_cons_succ, Nat.reduceAdd]))
            refine walk_fix (v := .bool (false)) ?_ ?_; (focus (intro us w9 hS9 hF K hK; subst hS9; go_simp; refine (cut_ref _ _ e1 _).mono ?_; rintro e' w' ⟨h9, rfl⟩; rw [HC.out] at h9; subst h9; exact hK _ rfl trivial)); simp only [Act.put, List.setIfInBounds_toArray, List.set_cons_zero, List.set_cons_succ, Nat.reduceAdd]
            repeat (first | (refine walk_pure (v := ?_) (fun _ => trivial) (fun _ => rfl) ?_ ?_; rotate_left; (focus (intro us w9 hS9 hF; subst hS9; clear hF; go_simp; (try with_reducible rfl); done)); simp only [Act.put, List.setIfInBounds_toArray, List.set_cons_zero, List.set_cons_succ, Nat.reduceAdd]) | (refine walk_skip (fun _ => trivial) (fun _ => rfl) ?_; simp only [Act.put, List.setIfInBounds_toArray, List.set_cons_zero, List.set_cons_succ, Nat.reduceAdd]))
            refine walk_done fun us w9 hS9 hF => ?_
            subst hS9
            clear hF
            go_wp2
            go_ret
            exact end_mk HZ.out hBx
          · have HN := Lib.hid (show vE e = partOk e.want e.pt by rw [HO.out, hcut]; simp)
            have HC := Lib.hid hcut
            clear hcut HO
            refine wp_region_told (n := 89) (fun w' => w' = w3.drew) (fun _ _ => True) (by kernel_rfl) (by kernel_rfl) (by rfl) rfl ?_
            repeat (first | (refine walk_pure (v := ?_) (fun _ => trivial) (fun _ => rfl) ?_ ?_; rotate_left; (focus (intro us w9 hS9 hF; subst hS9; clear hF; go_simp; (try with_reducible rfl); done)); simp only [Act.put, List.setIfInBounds_toArray, List.set_cons_zero, List.set_cons_succ, Nat.reduceAdd]) | (refine walk_skip (fun _ => trivial) (fun _ => rfl) ?_; simp only [Act.put, List.setIfInBounds_toArray, List.set_cons_zero, List.set_cons_succ, Nat.reduceAdd]))
            refine walk_fix (v := .bool (true)) ?_ ?_; (focus (intro us w9 hS9 hF K hK; subst hS9; go_simp; refine (cut_ref _ _ e1 _).mono ?_; rintro e' w' ⟨h9, rfl⟩; rw [HC.out] at h9; subst h9; exact hK _ rfl trivial)); simp only [Act.put, List.setIfInBounds_toArray, List.set_cons_zero, List.set_cons_succ, Nat.reduceAdd]
            repeat (first | (refine walk_pure (v := ?_) (fun _ => trivial) (fun _ => rfl) ?_ ?_; rotate_left; (focus (intro us w9 hS9 hF; subst hS9; clear hF; go_simp; (try with_reducible rfl); done)); simp only [Act.put, List.setIfInBounds_toArray, List.set_cons_zero, List.set_cons_succ, Nat.reduceAdd]) | (refine walk_skip (fun _ => trivial) (fun _ => rfl) ?_; simp only [Act.put, List.setIfInBounds_toArray, List.set_cons_zero, List.set_cons_succ, Nat.reduceAdd]))
            refine walk_done fun us w9 hS9 hF => ?_
            subst hS9
            clear hF
            go_upto_region 10 with (fail)
            have e9 := ht.pl
            by_cases hw : e.want = -1
            · have dw : (e.want == -1) = true := by simpa using hw
              by_cases hp : e.pt.length = 0
              · have HX := Lib.hid (show vE e = true by rw [HN.out]; unfold partOk; rw [if_pos hw]; simpa using hp)
                have dp : (e.pt.length == 0) = true := by simpa using hp
                have dpi : ((e.pt.length : Int) == 0) = true := by rw [beq_iff_eq]; omega
                clear hw hp
                go_wp2
                go_ret
                exact end_mk HX.out hBx
              · have HX := Lib.hid (show vE e = false by rw [HN.out]; unfold partOk; rw [if_pos hw]; simpa using hp)
                have dp : (e.pt.length == 0) = false := by simpa using hp
                have dpi : ((e.pt.length : Int) == 0) = false := by rw [beq_eq_false_iff_ne]; omega
                clear hw hp
                go_wp2
                go_ret
                exact end_mk HX.out hBx
            · have dw : (e.want == -1) = false := by simpa using hw
              by_cases hp : e.want ≤ 1048576
              · have HX := Lib.hid (show vE e = cutB e.pt.length e.want by rw [HN.out]; unfold partOk; rw [if_neg hw, decide_eq_true hp]; simp)
                have dp : decide (e.want ≤ 1048576) = true := decide_eq_true hp
                clear hw hp
                go_wp2_with (go_at_call 139; refine (cut_ref _ _ (by omega) _).mono ?_; rintro en wq ⟨rfl, rfl⟩)
                go_ret
                exact end_mk HX.out hBx
              · have HX := Lib.hid (show vE e = false by rw [HN.out]; unfold partOk; rw [if_neg hw, decide_eq_false hp]; simp)
                have dp : decide (e.want ≤ 1048576) = false := decide_eq_false hp
                clear hw hp
                go_wp2
                go_ret
                exact end_mk HX.out hBx
theorem end_ref (e : LE) (A B : Option Addr) (c d : Nat) (W : World) (ht : e.ty) (hH : Held W e A c B d) : Calls Try.prog 106 #[.agg (LEV e A c B d)] W (EndP e W) := by
  cases hv1 : vs e.n e.s e.a
  · exact end_v1 e A B c d W ht hH hv1
  cases hv2 : vr e.rn e.rc
  · exact end_v2 e A B c d W ht hH hv1 hv2
  by_cases hn : e.n = e.rn
  · rcases Nat.lt_or_ge 64 e.q.length with hq | hq
    · exact end_v4 e A B c d W ht hH hv1 hv2 hn hq
    · rcases Int.lt_or_le e.rc e.told with hd | hd
      · exact end_v5 e A B c d W ht hH hv1 hv2 hn hq hd
      · exact end_ok e A B c d W ht hH hv1 hv2 hn hq hd
  · exact end_v3 e A B c d W ht hH hv1 hv2 hn
theorem end_is {e : LE} {A B : Option Addr} {c d : Nat} {W : World} {b : Bool} (hv : vE e = b) (ht : e.ty) (hH : Held W e A c B d) : Calls Try.prog 106 #[.agg (LEV e A c B d)] W (fun en W' => en = .returned (.bool b) ∧ Below W.heap.size W W') :=
  (end_ref e A B c d W ht hH).mono fun en W' h => by rw [← hv]; exact h
set_option maxRecDepth 100000 in
set_option maxHeartbeats 8000000 in
theorem pend_no_r (e : LE) (A B : Option Addr) (c d : Nat) (W : World) (ht : e.ty) (hH : Held W e A c B d) (hv : vE e = false) : Calls Try.prog 56 #[.agg (LEV e A c B d)] W (fun en W' => en = .returned (.int .i64 0) ∧ Below W.heap.size W W') := by
  have HV := Lib.hid hv
  clear hv
  have hB1 := (Below.refl W.heap.size W).alloc (Nat.le_refl _) (.cells (LEV e A c B d) 69)
  have r1 := Row.born W 69 (LEV e A c B d)
  have hl1 := r1.lt
  go_enter Try.func56, Try.ntmps56
  go_upto_region 1 with (fail)
  generalize W.alloc (.cells (LEV e A c B d) 69) = w1 at *
  have hH1 := hH.below hB1
  go_wp2_with (first | ((with_reducible refine wp_load_g ?_ r1.range Try.underlying69 rfl (lev_info _ _ _ _ _) ?_ ?_); rfl; rfl) | (go_at_call 106; (with_reducible refine (end_is HV.out ht hH1).mono ?_); rintro en w2 ⟨rfl, hb⟩))
  go_ret
  exact ⟨rfl, hB1.trans (hb.mono hB1.size)⟩
set_option maxRecDepth 100000 in
set_option maxHeartbeats 4000000 in
theorem pend_yes_r (e : LE) (A B : Option Addr) (c d : Nat) (W : World) (ht : e.ty) (hH : Held W e A c B d) (hv : vE e = true) : Calls Try.prog 56 #[.agg (LEV e A c B d)] W (fun en W' => en = .returned (.int .i64 e.q.length) ∧ Below W.heap.size W W') := by
  have HV := Lib.hid hv
  clear hv
  have hB1 := (Below.refl W.heap.size W).alloc (Nat.le_refl _) (.cells (LEV e A c B d) 69)
  have r1 := Row.born W 69 (LEV e A c B d)
  have hl1 := r1.lt
  go_enter Try.func56, Try.ntmps56
  go_upto_region 1 with (fail)
  generalize W.alloc (.cells (LEV e A c B d) 69) = w1 at *
  have hH1 := hH.below hB1
  go_upto_region 3 with (first | ((with_reducible refine wp_load_g ?_ r1.range Try.underlying69 rfl (lev_info _ _ _ _ _) ?_ ?_); rfl; rfl) | (go_at_call 106; (with_reducible refine (end_is HV.out ht hH1).mono ?_); rintro en w2 ⟨rfl, hb⟩))
  have r1 := r1.below hb hl1
  have hB2 := hB1.trans (hb.mono hB1.size)
  obtain ⟨-, ⟨c5, c6, c7, c8, c9⟩, -⟩ := end_cells r1
  go_wp2
  go_ret
  exact ⟨rfl, hB2⟩
theorem pending_r (e : LE) (A B : Option Addr) (c d : Nat) (W : World) (ht : e.ty) (hH : Held W e A c B d) : Calls Try.prog 56 #[.agg (LEV e A c B d)] W (fun en W' => en = .returned (.int .i64 (pendE e)) ∧ Below W.heap.size W W') := by
  cases hv : vE e
  · rw [show pendE e = 0 by simp [pendE, hv]]
    exact pend_no_r e A B c d W ht hH hv
  · rw [show pendE e = (e.q.length : Int) by simp [pendE, hv]]
    exact pend_yes_r e A B c d W ht hH hv
set_option maxRecDepth 100000 in
set_option maxHeartbeats 4000000 in
theorem idle_v_r (e : LE) (A B : Option Addr) (c d : Nat) (W : World) (ht : e.ty) (hH : Held W e A c B d) (hv : vE e = false) : Calls Try.prog 55 #[.agg (LEV e A c B d)] W (IdP e W) := by
  have HI := Lib.hid (show idleE e = false by simp [idleE, hv])
  have HV := Lib.hid hv
  clear hv
  have hB1 := (Below.refl W.heap.size W).alloc (Nat.le_refl _) (.cells (LEV e A c B d) 69)
  have r1 := Row.born W 69 (LEV e A c B d)
  have hl1 := r1.lt
  go_enter Try.func55, Try.ntmps55
  go_upto_region 1 with (fail)
  generalize W.alloc (.cells (LEV e A c B d) 69) = w1 at *
  have hH1 := hH.below hB1
  obtain ⟨-, ⟨c5, c6, c7, c8, c9⟩, -⟩ := end_cells r1
  go_wp2_with (first | ((with_reducible refine wp_load_g ?_ r1.range Try.underlying69 rfl (lev_info _ _ _ _ _) ?_ ?_); rfl; rfl) | (go_at_call 106; (with_reducible refine (end_is HV.out ht hH1).mono ?_); rintro en w2 ⟨rfl, hb⟩; have r2 := r1.below hb hl1; obtain ⟨-, ⟨d5, d6, d7, d8, d9⟩, -⟩ := end_cells r2))
  go_ret
  exact id_mk HI.out (hB1.trans (hb.mono hB1.size))
set_option maxRecDepth 100000 in
set_option maxHeartbeats 4000000 in
theorem idle_q_r (e : LE) (A B : Option Addr) (c d : Nat) (W : World) (ht : e.ty) (hH : Held W e A c B d) (hv : vE e = true) (hq : e.q.length ≠ 0) : Calls Try.prog 55 #[.agg (LEV e A c B d)] W (IdP e W) := by
  have HI := Lib.hid (show idleE e = false by simp [idleE, hq])
  have HV := Lib.hid hv
  have hq1 : ((e.q.length : Int) == 0) = false := by rw [beq_eq_false_iff_ne]; omega
  have hq2 : (e.q.length == 0) = false := by simpa using hq
  clear hv hq
  have hB1 := (Below.refl W.heap.size W).alloc (Nat.le_refl _) (.cells (LEV e A c B d) 69)
  have r1 := Row.born W 69 (LEV e A c B d)
  have hl1 := r1.lt
  go_enter Try.func55, Try.ntmps55
  go_upto_region 1 with (fail)
  generalize W.alloc (.cells (LEV e A c B d) 69) = w1 at *
  have hH1 := hH.below hB1
  obtain ⟨-, ⟨c5, c6, c7, c8, c9⟩, -⟩ := end_cells r1
  go_wp2_with (first | ((with_reducible refine wp_load_g ?_ r1.range Try.underlying69 rfl (lev_info _ _ _ _ _) ?_ ?_); rfl; rfl) | (go_at_call 106; (with_reducible refine (end_is HV.out ht hH1).mono ?_); rintro en w2 ⟨rfl, hb⟩; have r2 := r1.below hb hl1; obtain ⟨-, ⟨d5, d6, d7, d8, d9⟩, -⟩ := end_cells r2))
  go_ret
  exact id_mk HI.out (hB1.trans (hb.mono hB1.size))
set_option maxRecDepth 100000 in
set_option maxHeartbeats 4000000 in
theorem idle_w_r (e : LE) (A B : Option Addr) (c d : Nat) (W : World) (ht : e.ty) (hH : Held W e A c B d) (hv : vE e = true) (hq : e.q.length = 0) (hw : (e.want == -1) = false) : Calls Try.prog 55 #[.agg (LEV e A c B d)] W (IdP e W) := by
  have HI := Lib.hid (show idleE e = false by simp [idleE, hw])
  have HV := Lib.hid hv
  have hq1 : ((e.q.length : Int) == 0) = true := by rw [beq_iff_eq]; omega
  have hq2 : (e.q.length == 0) = true := by simpa using hq
  clear hv hq
  have hB1 := (Below.refl W.heap.size W).alloc (Nat.le_refl _) (.cells (LEV e A c B d) 69)
  have r1 := Row.born W 69 (LEV e A c B d)
  have hl1 := r1.lt
  go_enter Try.func55, Try.ntmps55
  go_upto_region 1 with (fail)
  generalize W.alloc (.cells (LEV e A c B d) 69) = w1 at *
  have hH1 := hH.below hB1
  obtain ⟨-, ⟨c5, c6, c7, c8, c9⟩, -⟩ := end_cells r1
  go_wp2_with (first | ((with_reducible refine wp_load_g ?_ r1.range Try.underlying69 rfl (lev_info _ _ _ _ _) ?_ ?_); rfl; rfl) | (go_at_call 106; (with_reducible refine (end_is HV.out ht hH1).mono ?_); rintro en w2 ⟨rfl, hb⟩; have r2 := r1.below hb hl1; obtain ⟨-, ⟨d5, d6, d7, d8, d9⟩, -⟩ := end_cells r2))
  go_ret
  exact id_mk HI.out (hB1.trans (hb.mono hB1.size))
set_option maxRecDepth 100000 in
set_option maxHeartbeats 4000000 in
theorem idle_y_r (e : LE) (A B : Option Addr) (c d : Nat) (W : World) (ht : e.ty) (hH : Held W e A c B d) (hv : vE e = true) (hq : e.q.length = 0) (hw : (e.want == -1) = true) : Calls Try.prog 55 #[.agg (LEV e A c B d)] W (IdP e W) := by
  have HI := Lib.hid (show idleE e = true by simp [idleE, hv, hq, hw])
  have HV := Lib.hid hv
  have hq1 : ((e.q.length : Int) == 0) = true := by rw [beq_iff_eq]; omega
  have hq2 : (e.q.length == 0) = true := by simpa using hq
  clear hv hq
  have hB1 := (Below.refl W.heap.size W).alloc (Nat.le_refl _) (.cells (LEV e A c B d) 69)
  have r1 := Row.born W 69 (LEV e A c B d)
  have hl1 := r1.lt
  go_enter Try.func55, Try.ntmps55
  go_upto_region 1 with (fail)
  generalize W.alloc (.cells (LEV e A c B d) 69) = w1 at *
  have hH1 := hH.below hB1
  obtain ⟨-, ⟨c5, c6, c7, c8, c9⟩, -⟩ := end_cells r1
  go_wp2_with (first | ((with_reducible refine wp_load_g ?_ r1.range Try.underlying69 rfl (lev_info _ _ _ _ _) ?_ ?_); rfl; rfl) | (go_at_call 106; (with_reducible refine (end_is HV.out ht hH1).mono ?_); rintro en w2 ⟨rfl, hb⟩; have r2 := r1.below hb hl1; obtain ⟨-, ⟨d5, d6, d7, d8, d9⟩, -⟩ := end_cells r2))
  go_ret
  exact id_mk HI.out (hB1.trans (hb.mono hB1.size))
theorem idle_r (e : LE) (A B : Option Addr) (c d : Nat) (W : World) (ht : e.ty) (hH : Held W e A c B d) : Calls Try.prog 55 #[.agg (LEV e A c B d)] W (IdP e W) := by
  cases hv : vE e
  · exact idle_v_r e A B c d W ht hH hv
  · by_cases hq : e.q.length = 0
    · cases hw : e.want == -1
      · exact idle_w_r e A B c d W ht hH hv hq hw
      · exact idle_y_r e A B c d W ht hH hv hq hw
    · exact idle_q_r e A B c d W ht hH hv hq
end
end Go.Proofs.Ythjkhambmgepdaa
