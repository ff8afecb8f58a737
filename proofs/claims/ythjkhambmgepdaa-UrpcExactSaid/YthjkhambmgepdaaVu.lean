/- urpc's reference: rising, ValidUrpc. -/
import Derived.Test.YthjkhambmgepdaaUf
namespace Go.Proofs.Ythjkhambmgepdaa
open Go.RowKit
set_option linter.unusedVariables false
set_option linter.unusedSimpArgs false
def RsP (last : Int) (l : List Int) (W : World) (en : Ending) (W' : World) : Prop := en = .returned (.bool (upB last 0 l)) ∧ Below W.heap.size W W'
theorem rs_mk {last : Int} {l : List Int} {v : Bool} {W W' : World} (h : upB last 0 l = v) (hb : Below W.heap.size W W') : RsP last l W (.returned (.bool v)) W' := ⟨by rw [h], hb⟩
set_option maxRecDepth 100000 in
set_option maxHeartbeats 8000000 in
theorem rising_n (last : Int) (A : Option Addr) (n c : Nat) (l : List Int) (W : World) (hA : IsN W A n l) (hn : n ≤ 1000000) : Calls Try.prog 121 #[.slice A n c, .int .i64 last] W (RsP last l W) := by
  have hl := Lib.hid hA.1
  have HA := Lib.hid hA
  clear hA
  go_enter Try.func121, Try.ntmps121
  go_upto_region 2 with (fail)
  go_loopw [5] (fun i wr => ∃ j : Nat, j ≤ n ∧ i = .int .i64 j ∧ Below W.heap.size W wr ∧ upB last 0 l = upB last (prevI l j) (l.drop j)) (fun i _ => n - (intOf i).toNat)
  case atStart => exact ⟨0, by omega, rfl, Below.refl _ _, rfl⟩
  case round =>
    obtain ⟨j, hj, rfl, hB, hU⟩ := hrel
    rcases Nat.lt_or_ge j n with hjn | hjn
    · have dj : decide (j < n) = true := decide_eq_true hjn
      have dji : decide ((j : Int) < (n : Int)) = true := decide_eq_true (by omega)
      have hji : (j : Int) < n := by omega
      have HA2 := Lib.hid (HA.out.below hB)
      obtain ⟨b, o, rfl⟩ := HA.out.form (by omega)
      obtain ⟨x, hx, hcx⟩ := HA2.out.idx hjn
      have hjl : j < l.length := by have := hl.out; omega
      have hxe : l[j] = x := by rw [List.getElem?_eq_getElem hjl] at hx; injection hx
      have hat := upB_at (last := last) hjl
      rw [hxe] at hat
      rw [hat] at hU
      have HU := Lib.hid hU
      have HX := Lib.hid hx
      have hpj : prevI l (j + 1) = x := by show (l[j]?).getD 0 = _; rw [hx]; rfl
      have HP := Lib.hid hpj
      clear hU hat hx hxe hpj
      go_upto_region 4 with (fail)
      rcases Int.lt_or_le x 1 with a1 | a1
      · have d1 : decide (x < 1) = true := dt a1
        have HV := Lib.hid (show upB last 0 l = false by rw [HU.out, df (by omega : ¬ 1 ≤ x)]; rfl)
        clear HU a1
        have hcx : wr.drew.cell? ⟨b, o + j, none⟩ = some (.int .i64 x) := hcx
        refine wp_region_told (n := 41) (fun w' => w' = wr.drew) (fun _ _ => True) (by kernel_rfl) (by kernel_rfl) (by rfl) rfl ?_
        repeat (first | (refine walk_pure (v := ?_) (fun _ => trivial) (fun _ => rfl) ?_ ?_; rotate_left; (focus (intro us w9 hS9 hF; subst hS9; clear hF; go_simp; (try with_reducible rfl); done)); simp only [Act.put, List.setIfInBounds_toArray, List.set_cons_zero, List.set_cons_succ, Nat.reduceAdd]) | (refine walk_skip (fun _ => trivial) (fun _ => rfl) ?_; simp only [Act.put, List.setIfInBounds_toArray, List.set_cons_zero, List.set_cons_succ, Nat.reduceAdd]))
        refine walk_done fun us w9 hS9 hF => ?_
        subst hS9
        clear hF
        go_wp2
        go_ret
        exact rs_mk HV.out hB.drew
      have d1 : decide (x < 1) = false := df (by omega)
      rcases Int.lt_or_le last x with a2 | a2
      · have d2 : decide (last < x) = true := dt a2
        have HV := Lib.hid (show upB last 0 l = false by rw [HU.out, df (by omega : ¬ x ≤ last)]; simp)
        clear HU a2
        have hcx : wr.drew.cell? ⟨b, o + j, none⟩ = some (.int .i64 x) := hcx
        refine wp_region_told (n := 41) (fun w' => w' = wr.drew) (fun _ _ => True) (by kernel_rfl) (by kernel_rfl) (by rfl) rfl ?_
        repeat (first | (refine walk_pure (v := ?_) (fun _ => trivial) (fun _ => rfl) ?_ ?_; rotate_left; (focus (intro us w9 hS9 hF; subst hS9; clear hF; go_simp; (try with_reducible rfl); done)); simp only [Act.put, List.setIfInBounds_toArray, List.set_cons_zero, List.set_cons_succ, Nat.reduceAdd]) | (refine walk_skip (fun _ => trivial) (fun _ => rfl) ?_; simp only [Act.put, List.setIfInBounds_toArray, List.set_cons_zero, List.set_cons_succ, Nat.reduceAdd]))
        refine walk_done fun us w9 hS9 hF => ?_
        subst hS9
        clear hF
        go_wp2
        go_ret
        exact rs_mk HV.out hB.drew
      have d2 : decide (last < x) = false := df (by omega)
      rcases Nat.eq_zero_or_pos j with hz | hz
      · have hpz : prevI l j = 0 := by rw [hz]; rfl
        have HY := Lib.hid (show upB last 0 l = upB last (prevI l (j + 1)) (l.drop (j + 1)) by rw [HU.out, dt a1, dt a2, dt (show prevI l j < x by omega)]; rfl)
        have dj0 : decide ((0 : Int) < (j : Int)) = false := df (by omega)
        have djn0 : decide (0 < j) = false := df (by omega)
        clear HU hpz hz
        have hcx : wr.drew.cell? ⟨b, o + j, none⟩ = some (.int .i64 x) := hcx
        refine wp_region_told (n := 41) (fun w' => w' = wr.drew) (fun _ _ => True) (by kernel_rfl) (by kernel_rfl) (by rfl) rfl ?_
        repeat (first | (refine walk_pure (v := ?_) (fun _ => trivial) (fun _ => rfl) ?_ ?_; rotate_left; (focus (intro us w9 hS9 hF; subst hS9; clear hF; go_simp; (try with_reducible rfl); done)); simp only [Act.put, List.setIfInBounds_toArray, List.set_cons_zero, List.set_cons_succ, Nat.reduceAdd]) | (refine walk_skip (fun _ => trivial) (fun _ => rfl) ?_; simp only [Act.put, List.setIfInBounds_toArray, List.set_cons_zero, List.set_cons_succ, Nat.reduceAdd]))
        refine walk_done fun us w9 hS9 hF => ?_
        subst hS9
        clear hF
        go_wp2
        exact ⟨⟨j + 1, by omega, by go_num, hB.drew, HY.out⟩, by simp [intOf]; omega⟩
      · obtain ⟨i, hi⟩ : ∃ i, j = i + 1 := ⟨j - 1, by omega⟩
        have dj0 : decide ((0 : Int) < (j : Int)) = true := dt (by omega)
        have djn0 : decide (0 < j) = true := dt (by omega)
        have wi : IntKind.i64.wrap ((j : Int) - 1) = (i : Int) := by rw [IntKind.wrap_i64]; omega
        have hii : (i : Int) < n := by omega
        have hi0 : (0 : Int) ≤ (i : Int) := by omega
        obtain ⟨y, hy, hcy⟩ := HA2.out.idx (show i < n by omega)
        have hpy : prevI l j = y := by rw [hi]; show (l[i]?).getD 0 = _; rw [hy]; rfl
        rw [hpy] at HU
        have HI := Lib.hid hi
        clear hi
        rcases Int.lt_or_le y x with a3 | a3
        · have d3 : decide (x ≤ y) = false := df (by omega)
          have HY := Lib.hid (show upB last 0 l = upB last (prevI l (j + 1)) (l.drop (j + 1)) by rw [HU.out, dt a1, dt a2, dt a3]; simp)
          clear HU hy hpy
          have hcx : wr.drew.cell? ⟨b, o + j, none⟩ = some (.int .i64 x) := hcx
          have hcy : wr.drew.cell? ⟨b, o + i, none⟩ = some (.int .i64 y) := hcy
          refine wp_region_told (n := 41) (fun w' => w' = wr.drew) (fun _ _ => True) (by kernel_rfl) (by kernel_rfl) (by rfl) rfl ?_
          repeat (first | (refine walk_pure (v := ?_) (fun _ => trivial) (fun _ => rfl) ?_ ?_; rotate_left; (focus (intro us w9 hS9 hF; subst hS9; clear hF; go_simp; (try with_reducible rfl); done)); simp only [Act.put, List.setIfInBounds_toArray, List.set_cons_zero, List.set_cons_succ, Nat.reduceAdd]) | (refine walk_skip (fun _ => trivial) (fun _ => rfl) ?_; simp only [Act.put, List.setIfInBounds_toArray, List.set_cons_zero, List.set_cons_succ, Nat.reduceAdd]))
          refine walk_done fun us w9 hS9 hF => ?_
          subst hS9
          clear hF
          go_wp2
          exact ⟨⟨j + 1, by omega, by go_num, hB.drew, HY.out⟩, by simp [intOf]; omega⟩
        · have d3 : decide (x ≤ y) = true := dt a3
          have HV := Lib.hid (show upB last 0 l = false by rw [HU.out, df (by omega : ¬ y < x)]; simp)
          clear HU hy hpy
          have hcx : wr.drew.cell? ⟨b, o + j, none⟩ = some (.int .i64 x) := hcx
          have hcy : wr.drew.cell? ⟨b, o + i, none⟩ = some (.int .i64 y) := hcy
          refine wp_region_told (n := 41) (fun w' => w' = wr.drew) (fun _ _ => True) (by kernel_rfl) (by kernel_rfl) (by rfl) rfl ?_
          repeat (first | (refine walk_pure (v := ?_) (fun _ => trivial) (fun _ => rfl) ?_ ?_; rotate_left; (focus (intro us w9 hS9 hF; subst hS9; clear hF; go_simp; (try with_reducible rfl); done)); simp only [Act.put, List.setIfInBounds_toArray, List.set_cons_zero, List.set_cons_succ, Nat.reduceAdd]) | (refine walk_skip (fun _ => trivial) (fun _ => rfl) ?_; simp only [Act.put, List.setIfInBounds_toArray, List.set_cons_zero, List.set_cons_succ, Nat.reduceAdd]))
          refine walk_done fun us w9 hS9 hF => ?_
          subst hS9
          clear hF
          go_wp2
          go_ret
          exact rs_mk HV.out hB.drew
    · have e0 : j = n := by omega
      have HV := Lib.hid (show upB last 0 l = true by
        rw [hU, List.drop_of_length_le (by have := hl.out; omega)]
        rfl)
      have dj : decide (j < n) = false := decide_eq_false (by omega)
      have dji : decide ((j : Int) < (n : Int)) = false := decide_eq_false (by omega)
      clear hU e0
      go_wp2
      go_ret
      exact rs_mk HV.out hB
def VrU (e : UE) (W : World) (en : Ending) (W' : World) : Prop := en = .returned (.bool (uV e)) ∧ Below W.heap.size W W'
theorem vru_mk {e : UE} {v : Bool} {W W' : World} (h : uV e = v) (hb : Below W.heap.size W W') : VrU e W (.returned (.bool v)) W' := ⟨by rw [h], hb⟩
set_option maxRecDepth 100000 in
set_option maxHeartbeats 8000000 in
theorem vru_0 (e : UE) (A B : Option Addr) (c d : Nat) (W : World) (hH : HeldU W e A c B d) (h : e.cr < 1) : Calls Try.prog 75 #[.agg (UEV e A c B d)] W (VrU e W) := by
  have HV := Lib.hid (show uV e = false by
    unfold uV bdB numB
    simp only [df (show ¬ 1 ≤ e.cr by omega)]
    simp)
  have d0 : decide (1 ≤ e.cr) = false := df (by omega)
  clear h
  have hal := hH.al
  have hbl := hH.bl
  have hB1 := (Below.refl W.heap.size W).alloc (Nat.le_refl _) (.cells (UEV e A c B d) 112)
  have r1 := Row.born W 112 (UEV e A c B d)
  have hH1 := hH.below hB1
  have hl1 := r1.lt
  obtain ⟨⟨c0, c1, c2⟩, c3, c4, c5⟩ := uev_cells r1
  clear r1 hH
  go_enter Try.func75, Try.ntmps75
  go_wp2
  all_goals (first | (exfalso; rename_i hq _ _; injection hq with hq; cases hq; done) | (exfalso; rename_i hq _; injection hq with hq; cases hq; done) | (go_ret; exact vru_mk HV.out hB1))
set_option maxRecDepth 100000 in
set_option maxHeartbeats 8000000 in
theorem vru_1 (e : UE) (A B : Option Addr) (c d : Nat) (W : World) (hH : HeldU W e A c B d) (h : 1 ≤ e.cr ∧ 16 < e.cr) : Calls Try.prog 75 #[.agg (UEV e A c B d)] W (VrU e W) := by
  have HV := Lib.hid (show uV e = false by
    unfold uV bdB numB
    simp only [dt (show 1 ≤ e.cr by omega), df (show ¬ e.cr ≤ 16 by omega)]
    simp)
  have d0 : decide (1 ≤ e.cr) = true := dt (by omega)
  have d1 : decide (e.cr ≤ 16) = false := df (by omega)
  clear h
  have hal := hH.al
  have hbl := hH.bl
  have hB1 := (Below.refl W.heap.size W).alloc (Nat.le_refl _) (.cells (UEV e A c B d) 112)
  have r1 := Row.born W 112 (UEV e A c B d)
  have hH1 := hH.below hB1
  have hl1 := r1.lt
  obtain ⟨⟨c0, c1, c2⟩, c3, c4, c5⟩ := uev_cells r1
  clear r1 hH
  go_enter Try.func75, Try.ntmps75
  go_wp2
  all_goals (first | (exfalso; rename_i hq _ _; injection hq with hq; cases hq; done) | (exfalso; rename_i hq _; injection hq with hq; cases hq; done) | (go_ret; exact vru_mk HV.out hB1))
set_option maxRecDepth 100000 in
set_option maxHeartbeats 8000000 in
theorem vru_2 (e : UE) (A B : Option Addr) (c d : Nat) (W : World) (hH : HeldU W e A c B d) (h : 1 ≤ e.cr ∧ e.cr ≤ 16 ∧ e.la < 0) : Calls Try.prog 75 #[.agg (UEV e A c B d)] W (VrU e W) := by
  have HV := Lib.hid (show uV e = false by
    unfold uV bdB numB
    simp only [dt (show 1 ≤ e.cr by omega), dt (show e.cr ≤ 16 by omega), df (show ¬ 0 ≤ e.la by omega)]
    simp)
  have d0 : decide (1 ≤ e.cr) = true := dt (by omega)
  have d1 : decide (e.cr ≤ 16) = true := dt (by omega)
  have d2 : decide (0 ≤ e.la) = false := df (by omega)
  clear h
  have hal := hH.al
  have hbl := hH.bl
  have hB1 := (Below.refl W.heap.size W).alloc (Nat.le_refl _) (.cells (UEV e A c B d) 112)
  have r1 := Row.born W 112 (UEV e A c B d)
  have hH1 := hH.below hB1
  have hl1 := r1.lt
  obtain ⟨⟨c0, c1, c2⟩, c3, c4, c5⟩ := uev_cells r1
  clear r1 hH
  go_enter Try.func75, Try.ntmps75
  go_wp2
  all_goals (first | (exfalso; rename_i hq _ _; injection hq with hq; cases hq; done) | (exfalso; rename_i hq _; injection hq with hq; cases hq; done) | (go_ret; exact vru_mk HV.out hB1))
set_option maxRecDepth 100000 in
set_option maxHeartbeats 8000000 in
theorem vru_3 (e : UE) (A B : Option Addr) (c d : Nat) (W : World) (hH : HeldU W e A c B d) (h : 1 ≤ e.cr ∧ e.cr ≤ 16 ∧ 0 ≤ e.la ∧ 1099511627776 < e.la) : Calls Try.prog 75 #[.agg (UEV e A c B d)] W (VrU e W) := by
  have HV := Lib.hid (show uV e = false by
    unfold uV bdB numB
    simp only [dt (show 1 ≤ e.cr by omega), dt (show e.cr ≤ 16 by omega), dt (show 0 ≤ e.la by omega), df (show ¬ e.la ≤ 1099511627776 by omega)]
    simp)
  have d0 : decide (1 ≤ e.cr) = true := dt (by omega)
  have d1 : decide (e.cr ≤ 16) = true := dt (by omega)
  have d2 : decide (0 ≤ e.la) = true := dt (by omega)
  have d3 : decide (e.la ≤ 1099511627776) = false := df (by omega)
  clear h
  have hal := hH.al
  have hbl := hH.bl
  have hB1 := (Below.refl W.heap.size W).alloc (Nat.le_refl _) (.cells (UEV e A c B d) 112)
  have r1 := Row.born W 112 (UEV e A c B d)
  have hH1 := hH.below hB1
  have hl1 := r1.lt
  obtain ⟨⟨c0, c1, c2⟩, c3, c4, c5⟩ := uev_cells r1
  clear r1 hH
  go_enter Try.func75, Try.ntmps75
  go_wp2
  all_goals (first | (exfalso; rename_i hq _ _; injection hq with hq; cases hq; done) | (exfalso; rename_i hq _; injection hq with hq; cases hq; done) | (go_ret; exact vru_mk HV.out hB1))
set_option maxRecDepth 100000 in
set_option maxHeartbeats 8000000 in
theorem vru_4 (e : UE) (A B : Option Addr) (c d : Nat) (W : World) (hH : HeldU W e A c B d) (h : 1 ≤ e.cr ∧ e.cr ≤ 16 ∧ 0 ≤ e.la ∧ e.la ≤ 1099511627776 ∧ e.se < 0) : Calls Try.prog 75 #[.agg (UEV e A c B d)] W (VrU e W) := by
  have HV := Lib.hid (show uV e = false by
    unfold uV bdB numB
    simp only [dt (show 1 ≤ e.cr by omega), dt (show e.cr ≤ 16 by omega), dt (show 0 ≤ e.la by omega), dt (show e.la ≤ 1099511627776 by omega), df (show ¬ 0 ≤ e.se by omega)]
    simp)
  have d0 : decide (1 ≤ e.cr) = true := dt (by omega)
  have d1 : decide (e.cr ≤ 16) = true := dt (by omega)
  have d2 : decide (0 ≤ e.la) = true := dt (by omega)
  have d3 : decide (e.la ≤ 1099511627776) = true := dt (by omega)
  have d4 : decide (0 ≤ e.se) = false := df (by omega)
  clear h
  have hal := hH.al
  have hbl := hH.bl
  have hB1 := (Below.refl W.heap.size W).alloc (Nat.le_refl _) (.cells (UEV e A c B d) 112)
  have r1 := Row.born W 112 (UEV e A c B d)
  have hH1 := hH.below hB1
  have hl1 := r1.lt
  obtain ⟨⟨c0, c1, c2⟩, c3, c4, c5⟩ := uev_cells r1
  clear r1 hH
  go_enter Try.func75, Try.ntmps75
  go_wp2
  all_goals (first | (exfalso; rename_i hq _ _; injection hq with hq; cases hq; done) | (exfalso; rename_i hq _; injection hq with hq; cases hq; done) | (go_ret; exact vru_mk HV.out hB1))
set_option maxRecDepth 100000 in
set_option maxHeartbeats 8000000 in
theorem vru_5 (e : UE) (A B : Option Addr) (c d : Nat) (W : World) (hH : HeldU W e A c B d) (h : 1 ≤ e.cr ∧ e.cr ≤ 16 ∧ 0 ≤ e.la ∧ e.la ≤ 1099511627776 ∧ 0 ≤ e.se ∧ 1099511627776 < e.se) : Calls Try.prog 75 #[.agg (UEV e A c B d)] W (VrU e W) := by
  have HV := Lib.hid (show uV e = false by
    unfold uV bdB numB
    simp only [dt (show 1 ≤ e.cr by omega), dt (show e.cr ≤ 16 by omega), dt (show 0 ≤ e.la by omega), dt (show e.la ≤ 1099511627776 by omega), dt (show 0 ≤ e.se by omega), df (show ¬ e.se ≤ 1099511627776 by omega)]
    simp)
  have d0 : decide (1 ≤ e.cr) = true := dt (by omega)
  have d1 : decide (e.cr ≤ 16) = true := dt (by omega)
  have d2 : decide (0 ≤ e.la) = true := dt (by omega)
  have d3 : decide (e.la ≤ 1099511627776) = true := dt (by omega)
  have d4 : decide (0 ≤ e.se) = true := dt (by omega)
  have d5 : decide (e.se ≤ 1099511627776) = false := df (by omega)
  clear h
  have hal := hH.al
  have hbl := hH.bl
  have hB1 := (Below.refl W.heap.size W).alloc (Nat.le_refl _) (.cells (UEV e A c B d) 112)
  have r1 := Row.born W 112 (UEV e A c B d)
  have hH1 := hH.below hB1
  have hl1 := r1.lt
  obtain ⟨⟨c0, c1, c2⟩, c3, c4, c5⟩ := uev_cells r1
  clear r1 hH
  go_enter Try.func75, Try.ntmps75
  go_wp2
  all_goals (first | (exfalso; rename_i hq _ _; injection hq with hq; cases hq; done) | (exfalso; rename_i hq _; injection hq with hq; cases hq; done) | (go_ret; exact vru_mk HV.out hB1))
set_option maxRecDepth 100000 in
set_option maxHeartbeats 8000000 in
theorem vru_6 (e : UE) (A B : Option Addr) (c d : Nat) (W : World) (hH : HeldU W e A c B d) (h : 1 ≤ e.cr ∧ e.cr ≤ 16 ∧ 0 ≤ e.la ∧ e.la ≤ 1099511627776 ∧ 0 ≤ e.se ∧ e.se ≤ 1099511627776 ∧ e.cr < (e.cs.length : Int)) : Calls Try.prog 75 #[.agg (UEV e A c B d)] W (VrU e W) := by
  have HV := Lib.hid (show uV e = false by
    unfold uV bdB numB
    simp only [dt (show 1 ≤ e.cr by omega), dt (show e.cr ≤ 16 by omega), dt (show 0 ≤ e.la by omega), dt (show e.la ≤ 1099511627776 by omega), dt (show 0 ≤ e.se by omega), dt (show e.se ≤ 1099511627776 by omega), df (show ¬ (e.cs.length : Int) ≤ e.cr by omega)]
    simp)
  have d0 : decide (1 ≤ e.cr) = true := dt (by omega)
  have d1 : decide (e.cr ≤ 16) = true := dt (by omega)
  have d2 : decide (0 ≤ e.la) = true := dt (by omega)
  have d3 : decide (e.la ≤ 1099511627776) = true := dt (by omega)
  have d4 : decide (0 ≤ e.se) = true := dt (by omega)
  have d5 : decide (e.se ≤ 1099511627776) = true := dt (by omega)
  have d6 : decide ((e.cs.length : Int) ≤ e.cr) = false := df (by omega)
  clear h
  have hal := hH.al
  have hbl := hH.bl
  have hB1 := (Below.refl W.heap.size W).alloc (Nat.le_refl _) (.cells (UEV e A c B d) 112)
  have r1 := Row.born W 112 (UEV e A c B d)
  have hH1 := hH.below hB1
  have hl1 := r1.lt
  obtain ⟨⟨c0, c1, c2⟩, c3, c4, c5⟩ := uev_cells r1
  clear r1 hH
  go_enter Try.func75, Try.ntmps75
  go_wp2
  all_goals (first | (exfalso; rename_i hq _ _; injection hq with hq; cases hq; done) | (exfalso; rename_i hq _; injection hq with hq; cases hq; done) | (go_ret; exact vru_mk HV.out hB1))
set_option maxRecDepth 100000 in
set_option maxHeartbeats 8000000 in
theorem vru_7 (e : UE) (A B : Option Addr) (c d : Nat) (W : World) (hH : HeldU W e A c B d) (h : 1 ≤ e.cr ∧ e.cr ≤ 16 ∧ 0 ≤ e.la ∧ e.la ≤ 1099511627776 ∧ 0 ≤ e.se ∧ e.se ≤ 1099511627776 ∧ (e.cs.length : Int) ≤ e.cr ∧ e.cr < (e.ss.length : Int)) : Calls Try.prog 75 #[.agg (UEV e A c B d)] W (VrU e W) := by
  have HV := Lib.hid (show uV e = false by
    unfold uV bdB numB
    simp only [dt (show 1 ≤ e.cr by omega), dt (show e.cr ≤ 16 by omega), dt (show 0 ≤ e.la by omega), dt (show e.la ≤ 1099511627776 by omega), dt (show 0 ≤ e.se by omega), dt (show e.se ≤ 1099511627776 by omega), dt (show (e.cs.length : Int) ≤ e.cr by omega), df (show ¬ (e.ss.length : Int) ≤ e.cr by omega)]
    simp)
  have d0 : decide (1 ≤ e.cr) = true := dt (by omega)
  have d1 : decide (e.cr ≤ 16) = true := dt (by omega)
  have d2 : decide (0 ≤ e.la) = true := dt (by omega)
  have d3 : decide (e.la ≤ 1099511627776) = true := dt (by omega)
  have d4 : decide (0 ≤ e.se) = true := dt (by omega)
  have d5 : decide (e.se ≤ 1099511627776) = true := dt (by omega)
  have d6 : decide ((e.cs.length : Int) ≤ e.cr) = true := dt (by omega)
  have d7 : decide ((e.ss.length : Int) ≤ e.cr) = false := df (by omega)
  clear h
  have hal := hH.al
  have hbl := hH.bl
  have hB1 := (Below.refl W.heap.size W).alloc (Nat.le_refl _) (.cells (UEV e A c B d) 112)
  have r1 := Row.born W 112 (UEV e A c B d)
  have hH1 := hH.below hB1
  have hl1 := r1.lt
  obtain ⟨⟨c0, c1, c2⟩, c3, c4, c5⟩ := uev_cells r1
  clear r1 hH
  go_enter Try.func75, Try.ntmps75
  go_wp2
  all_goals (first | (exfalso; rename_i hq _ _; injection hq with hq; cases hq; done) | (exfalso; rename_i hq _; injection hq with hq; cases hq; done) | (go_ret; exact vru_mk HV.out hB1))
set_option maxRecDepth 100000 in
set_option maxHeartbeats 8000000 in
theorem vru_8 (e : UE) (A B : Option Addr) (c d : Nat) (W : World) (hH : HeldU W e A c B d) (h : 1 ≤ e.cr ∧ e.cr ≤ 16 ∧ 0 ≤ e.la ∧ e.la ≤ 1099511627776 ∧ 0 ≤ e.se ∧ e.se ≤ 1099511627776 ∧ (e.cs.length : Int) ≤ e.cr ∧ (e.ss.length : Int) ≤ e.cr ∧ upB e.la 0 e.cs = false) : Calls Try.prog 75 #[.agg (UEV e A c B d)] W (VrU e W) := by
  have HV := Lib.hid (show uV e = false by
    unfold uV bdB numB
    simp only [dt (show 1 ≤ e.cr by omega), dt (show e.cr ≤ 16 by omega), dt (show 0 ≤ e.la by omega), dt (show e.la ≤ 1099511627776 by omega), dt (show 0 ≤ e.se by omega), dt (show e.se ≤ 1099511627776 by omega), dt (show (e.cs.length : Int) ≤ e.cr by omega), dt (show (e.ss.length : Int) ≤ e.cr by omega), h.2.2.2.2.2.2.2.2]
    simp)
  have d0 : decide (1 ≤ e.cr) = true := dt (by omega)
  have d1 : decide (e.cr ≤ 16) = true := dt (by omega)
  have d2 : decide (0 ≤ e.la) = true := dt (by omega)
  have d3 : decide (e.la ≤ 1099511627776) = true := dt (by omega)
  have d4 : decide (0 ≤ e.se) = true := dt (by omega)
  have d5 : decide (e.se ≤ 1099511627776) = true := dt (by omega)
  have d6 : decide ((e.cs.length : Int) ≤ e.cr) = true := dt (by omega)
  have d7 : decide ((e.ss.length : Int) ≤ e.cr) = true := dt (by omega)
  have HN1 := Lib.hid (show upB e.la 0 e.cs = false from h.2.2.2.2.2.2.2.2)
  clear h
  have hal := hH.al
  have hbl := hH.bl
  have hB1 := (Below.refl W.heap.size W).alloc (Nat.le_refl _) (.cells (UEV e A c B d) 112)
  have r1 := Row.born W 112 (UEV e A c B d)
  have hH1 := hH.below hB1
  have hl1 := r1.lt
  obtain ⟨⟨c0, c1, c2⟩, c3, c4, c5⟩ := uev_cells r1
  clear r1 hH
  go_enter Try.func75, Try.ntmps75
  go_wp2_with (first | (go_at_call 121; (with_reducible refine (rising_n e.la A _ c e.cs _ hH1.a (by omega)).mono ?_); rintro en w2 ⟨rfl, hb2⟩; rw [HN1.out]; replace c1 := (hb2.cell (p := ⟨W.heap.size, 1, none⟩) hl1).trans c1; replace c2 := (hb2.cell (p := ⟨W.heap.size, 2, none⟩) hl1).trans c2; replace c3 := (hb2.cell (p := ⟨W.heap.size, 3, none⟩) hl1).trans c3; replace c4 := (hb2.cell (p := ⟨W.heap.size, 4, none⟩) hl1).trans c4; replace c5 := (hb2.cell (p := ⟨W.heap.size, 5, none⟩) hl1).trans c5; have hH2 := hH1.below hb2; have hl2 := Nat.lt_of_lt_of_le hl1 hb2.size; have hB2 := hB1.trans (hb2.mono hB1.size)) | (go_at_call 121; (with_reducible refine (rising_n e.se B _ d e.ss _ hH2.b (by omega)).mono ?_); rintro en w3 ⟨rfl, hb3⟩; rw [HN2.out]; replace c3 := (hb3.cell (p := ⟨W.heap.size, 3, none⟩) hl2).trans c3; replace c4 := (hb3.cell (p := ⟨W.heap.size, 4, none⟩) hl2).trans c4; replace c5 := (hb3.cell (p := ⟨W.heap.size, 5, none⟩) hl2).trans c5; have hB3 := hB2.trans (hb3.mono hB2.size)))
  all_goals (first | (exfalso; rename_i hq _ _; injection hq with hq; cases hq; done) | (exfalso; rename_i hq _; injection hq with hq; cases hq; done) | (go_ret; exact vru_mk HV.out hB2))
set_option maxRecDepth 100000 in
set_option maxHeartbeats 8000000 in
theorem vru_9 (e : UE) (A B : Option Addr) (c d : Nat) (W : World) (hH : HeldU W e A c B d) (h : 1 ≤ e.cr ∧ e.cr ≤ 16 ∧ 0 ≤ e.la ∧ e.la ≤ 1099511627776 ∧ 0 ≤ e.se ∧ e.se ≤ 1099511627776 ∧ (e.cs.length : Int) ≤ e.cr ∧ (e.ss.length : Int) ≤ e.cr ∧ upB e.la 0 e.cs = true ∧ upB e.se 0 e.ss = false) : Calls Try.prog 75 #[.agg (UEV e A c B d)] W (VrU e W) := by
  have HV := Lib.hid (show uV e = false by
    unfold uV bdB numB
    simp only [dt (show 1 ≤ e.cr by omega), dt (show e.cr ≤ 16 by omega), dt (show 0 ≤ e.la by omega), dt (show e.la ≤ 1099511627776 by omega), dt (show 0 ≤ e.se by omega), dt (show e.se ≤ 1099511627776 by omega), dt (show (e.cs.length : Int) ≤ e.cr by omega), dt (show (e.ss.length : Int) ≤ e.cr by omega), h.2.2.2.2.2.2.2.2.1, h.2.2.2.2.2.2.2.2.2]
    simp)
  have d0 : decide (1 ≤ e.cr) = true := dt (by omega)
  have d1 : decide (e.cr ≤ 16) = true := dt (by omega)
  have d2 : decide (0 ≤ e.la) = true := dt (by omega)
  have d3 : decide (e.la ≤ 1099511627776) = true := dt (by omega)
  have d4 : decide (0 ≤ e.se) = true := dt (by omega)
  have d5 : decide (e.se ≤ 1099511627776) = true := dt (by omega)
  have d6 : decide ((e.cs.length : Int) ≤ e.cr) = true := dt (by omega)
  have d7 : decide ((e.ss.length : Int) ≤ e.cr) = true := dt (by omega)
  have HN1 := Lib.hid (show upB e.la 0 e.cs = true from h.2.2.2.2.2.2.2.2.1)
  have HN2 := Lib.hid (show upB e.se 0 e.ss = false from h.2.2.2.2.2.2.2.2.2)
  clear h
  have hal := hH.al
  have hbl := hH.bl
  have hB1 := (Below.refl W.heap.size W).alloc (Nat.le_refl _) (.cells (UEV e A c B d) 112)
  have r1 := Row.born W 112 (UEV e A c B d)
  have hH1 := hH.below hB1
  have hl1 := r1.lt
  obtain ⟨⟨c0, c1, c2⟩, c3, c4, c5⟩ := uev_cells r1
  clear r1 hH
  go_enter Try.func75, Try.ntmps75
  go_wp2_with (first | (go_at_call 121; (with_reducible refine (rising_n e.la A _ c e.cs _ hH1.a (by omega)).mono ?_); rintro en w2 ⟨rfl, hb2⟩; rw [HN1.out]; replace c1 := (hb2.cell (p := ⟨W.heap.size, 1, none⟩) hl1).trans c1; replace c2 := (hb2.cell (p := ⟨W.heap.size, 2, none⟩) hl1).trans c2; replace c3 := (hb2.cell (p := ⟨W.heap.size, 3, none⟩) hl1).trans c3; replace c4 := (hb2.cell (p := ⟨W.heap.size, 4, none⟩) hl1).trans c4; replace c5 := (hb2.cell (p := ⟨W.heap.size, 5, none⟩) hl1).trans c5; have hH2 := hH1.below hb2; have hl2 := Nat.lt_of_lt_of_le hl1 hb2.size; have hB2 := hB1.trans (hb2.mono hB1.size)) | (go_at_call 121; (with_reducible refine (rising_n e.se B _ d e.ss _ hH2.b (by omega)).mono ?_); rintro en w3 ⟨rfl, hb3⟩; rw [HN2.out]; replace c3 := (hb3.cell (p := ⟨W.heap.size, 3, none⟩) hl2).trans c3; replace c4 := (hb3.cell (p := ⟨W.heap.size, 4, none⟩) hl2).trans c4; replace c5 := (hb3.cell (p := ⟨W.heap.size, 5, none⟩) hl2).trans c5; have hB3 := hB2.trans (hb3.mono hB2.size)))
  all_goals (first | (exfalso; rename_i hq _ _; injection hq with hq; cases hq; done) | (exfalso; rename_i hq _; injection hq with hq; cases hq; done) | (go_ret; exact vru_mk HV.out hB3))
set_option maxRecDepth 100000 in
set_option maxHeartbeats 8000000 in
theorem vru_10 (e : UE) (A B : Option Addr) (c d : Nat) (W : World) (hH : HeldU W e A c B d) (h : 1 ≤ e.cr ∧ e.cr ≤ 16 ∧ 0 ≤ e.la ∧ e.la ≤ 1099511627776 ∧ 0 ≤ e.se ∧ e.se ≤ 1099511627776 ∧ (e.cs.length : Int) ≤ e.cr ∧ (e.ss.length : Int) ≤ e.cr ∧ upB e.la 0 e.cs = true ∧ upB e.se 0 e.ss = true ∧ e.dd = false) : Calls Try.prog 75 #[.agg (UEV e A c B d)] W (VrU e W) := by
  have HV := Lib.hid (show uV e = true by
    unfold uV bdB numB
    simp only [dt (show 1 ≤ e.cr by omega), dt (show e.cr ≤ 16 by omega), dt (show 0 ≤ e.la by omega), dt (show e.la ≤ 1099511627776 by omega), dt (show 0 ≤ e.se by omega), dt (show e.se ≤ 1099511627776 by omega), dt (show (e.cs.length : Int) ≤ e.cr by omega), dt (show (e.ss.length : Int) ≤ e.cr by omega), h.2.2.2.2.2.2.2.2.1, h.2.2.2.2.2.2.2.2.2.1, h.2.2.2.2.2.2.2.2.2.2]
    simp)
  have d0 : decide (1 ≤ e.cr) = true := dt (by omega)
  have d1 : decide (e.cr ≤ 16) = true := dt (by omega)
  have d2 : decide (0 ≤ e.la) = true := dt (by omega)
  have d3 : decide (e.la ≤ 1099511627776) = true := dt (by omega)
  have d4 : decide (0 ≤ e.se) = true := dt (by omega)
  have d5 : decide (e.se ≤ 1099511627776) = true := dt (by omega)
  have d6 : decide ((e.cs.length : Int) ≤ e.cr) = true := dt (by omega)
  have d7 : decide ((e.ss.length : Int) ≤ e.cr) = true := dt (by omega)
  have HN1 := Lib.hid (show upB e.la 0 e.cs = true from h.2.2.2.2.2.2.2.2.1)
  have HN2 := Lib.hid (show upB e.se 0 e.ss = true from h.2.2.2.2.2.2.2.2.2.1)
  have hdd : e.dd = false := h.2.2.2.2.2.2.2.2.2.2
  clear h
  have hal := hH.al
  have hbl := hH.bl
  have hB1 := (Below.refl W.heap.size W).alloc (Nat.le_refl _) (.cells (UEV e A c B d) 112)
  have r1 := Row.born W 112 (UEV e A c B d)
  have hH1 := hH.below hB1
  have hl1 := r1.lt
  obtain ⟨⟨c0, c1, c2⟩, c3, c4, c5⟩ := uev_cells r1
  rw [hdd] at c5
  clear hdd
  clear r1 hH
  go_enter Try.func75, Try.ntmps75
  go_wp2_with (first | (go_at_call 121; (with_reducible refine (rising_n e.la A _ c e.cs _ hH1.a (by omega)).mono ?_); rintro en w2 ⟨rfl, hb2⟩; rw [HN1.out]; replace c1 := (hb2.cell (p := ⟨W.heap.size, 1, none⟩) hl1).trans c1; replace c2 := (hb2.cell (p := ⟨W.heap.size, 2, none⟩) hl1).trans c2; replace c3 := (hb2.cell (p := ⟨W.heap.size, 3, none⟩) hl1).trans c3; replace c4 := (hb2.cell (p := ⟨W.heap.size, 4, none⟩) hl1).trans c4; replace c5 := (hb2.cell (p := ⟨W.heap.size, 5, none⟩) hl1).trans c5; have hH2 := hH1.below hb2; have hl2 := Nat.lt_of_lt_of_le hl1 hb2.size; have hB2 := hB1.trans (hb2.mono hB1.size)) | (go_at_call 121; (with_reducible refine (rising_n e.se B _ d e.ss _ hH2.b (by omega)).mono ?_); rintro en w3 ⟨rfl, hb3⟩; rw [HN2.out]; replace c3 := (hb3.cell (p := ⟨W.heap.size, 3, none⟩) hl2).trans c3; replace c4 := (hb3.cell (p := ⟨W.heap.size, 4, none⟩) hl2).trans c4; replace c5 := (hb3.cell (p := ⟨W.heap.size, 5, none⟩) hl2).trans c5; have hB3 := hB2.trans (hb3.mono hB2.size)))
  all_goals (first | (exfalso; rename_i hq _ _; injection hq with hq; cases hq; done) | (exfalso; rename_i hq _; injection hq with hq; cases hq; done) | (go_ret; exact vru_mk HV.out hB3))
set_option maxRecDepth 100000 in
set_option maxHeartbeats 8000000 in
theorem vru_11 (e : UE) (A B : Option Addr) (c d : Nat) (W : World) (hH : HeldU W e A c B d) (h : 1 ≤ e.cr ∧ e.cr ≤ 16 ∧ 0 ≤ e.la ∧ e.la ≤ 1099511627776 ∧ 0 ≤ e.se ∧ e.se ≤ 1099511627776 ∧ (e.cs.length : Int) ≤ e.cr ∧ (e.ss.length : Int) ≤ e.cr ∧ upB e.la 0 e.cs = true ∧ upB e.se 0 e.ss = true ∧ e.dd = true ∧ e.cs.length ≠ 0) : Calls Try.prog 75 #[.agg (UEV e A c B d)] W (VrU e W) := by
  have HV := Lib.hid (show uV e = false by
    unfold uV bdB numB
    simp only [dt (show 1 ≤ e.cr by omega), dt (show e.cr ≤ 16 by omega), dt (show 0 ≤ e.la by omega), dt (show e.la ≤ 1099511627776 by omega), dt (show 0 ≤ e.se by omega), dt (show e.se ≤ 1099511627776 by omega), dt (show (e.cs.length : Int) ≤ e.cr by omega), dt (show (e.ss.length : Int) ≤ e.cr by omega), h.2.2.2.2.2.2.2.2.1, h.2.2.2.2.2.2.2.2.2.1, h.2.2.2.2.2.2.2.2.2.2.1, df (show ¬ e.cs.length + e.ss.length = 0 by omega)]
    simp)
  have d0 : decide (1 ≤ e.cr) = true := dt (by omega)
  have d1 : decide (e.cr ≤ 16) = true := dt (by omega)
  have d2 : decide (0 ≤ e.la) = true := dt (by omega)
  have d3 : decide (e.la ≤ 1099511627776) = true := dt (by omega)
  have d4 : decide (0 ≤ e.se) = true := dt (by omega)
  have d5 : decide (e.se ≤ 1099511627776) = true := dt (by omega)
  have d6 : decide ((e.cs.length : Int) ≤ e.cr) = true := dt (by omega)
  have d7 : decide ((e.ss.length : Int) ≤ e.cr) = true := dt (by omega)
  have HN1 := Lib.hid (show upB e.la 0 e.cs = true from h.2.2.2.2.2.2.2.2.1)
  have HN2 := Lib.hid (show upB e.se 0 e.ss = true from h.2.2.2.2.2.2.2.2.2.1)
  have hdd : e.dd = true := h.2.2.2.2.2.2.2.2.2.2.1
  have dz : ((e.cs.length : Int) == 0) = false := ef (by omega)
  clear h
  have hal := hH.al
  have hbl := hH.bl
  have hB1 := (Below.refl W.heap.size W).alloc (Nat.le_refl _) (.cells (UEV e A c B d) 112)
  have r1 := Row.born W 112 (UEV e A c B d)
  have hH1 := hH.below hB1
  have hl1 := r1.lt
  obtain ⟨⟨c0, c1, c2⟩, c3, c4, c5⟩ := uev_cells r1
  rw [hdd] at c5
  clear hdd
  clear r1 hH
  go_enter Try.func75, Try.ntmps75
  go_wp2_with (first | (go_at_call 121; (with_reducible refine (rising_n e.la A _ c e.cs _ hH1.a (by omega)).mono ?_); rintro en w2 ⟨rfl, hb2⟩; rw [HN1.out]; replace c1 := (hb2.cell (p := ⟨W.heap.size, 1, none⟩) hl1).trans c1; replace c2 := (hb2.cell (p := ⟨W.heap.size, 2, none⟩) hl1).trans c2; replace c3 := (hb2.cell (p := ⟨W.heap.size, 3, none⟩) hl1).trans c3; replace c4 := (hb2.cell (p := ⟨W.heap.size, 4, none⟩) hl1).trans c4; replace c5 := (hb2.cell (p := ⟨W.heap.size, 5, none⟩) hl1).trans c5; have hH2 := hH1.below hb2; have hl2 := Nat.lt_of_lt_of_le hl1 hb2.size; have hB2 := hB1.trans (hb2.mono hB1.size)) | (go_at_call 121; (with_reducible refine (rising_n e.se B _ d e.ss _ hH2.b (by omega)).mono ?_); rintro en w3 ⟨rfl, hb3⟩; rw [HN2.out]; replace c3 := (hb3.cell (p := ⟨W.heap.size, 3, none⟩) hl2).trans c3; replace c4 := (hb3.cell (p := ⟨W.heap.size, 4, none⟩) hl2).trans c4; replace c5 := (hb3.cell (p := ⟨W.heap.size, 5, none⟩) hl2).trans c5; have hB3 := hB2.trans (hb3.mono hB2.size)))
  all_goals (first | (exfalso; rename_i hq _ _; injection hq with hq; cases hq; done) | (exfalso; rename_i hq _; injection hq with hq; cases hq; done) | (go_ret; exact vru_mk HV.out hB3))
set_option maxRecDepth 100000 in
set_option maxHeartbeats 8000000 in
theorem vru_12 (e : UE) (A B : Option Addr) (c d : Nat) (W : World) (hH : HeldU W e A c B d) (h : 1 ≤ e.cr ∧ e.cr ≤ 16 ∧ 0 ≤ e.la ∧ e.la ≤ 1099511627776 ∧ 0 ≤ e.se ∧ e.se ≤ 1099511627776 ∧ (e.cs.length : Int) ≤ e.cr ∧ (e.ss.length : Int) ≤ e.cr ∧ upB e.la 0 e.cs = true ∧ upB e.se 0 e.ss = true ∧ e.dd = true ∧ e.cs.length = 0 ∧ e.ss.length ≠ 0) : Calls Try.prog 75 #[.agg (UEV e A c B d)] W (VrU e W) := by
  have HV := Lib.hid (show uV e = false by
    unfold uV bdB numB
    simp only [dt (show 1 ≤ e.cr by omega), dt (show e.cr ≤ 16 by omega), dt (show 0 ≤ e.la by omega), dt (show e.la ≤ 1099511627776 by omega), dt (show 0 ≤ e.se by omega), dt (show e.se ≤ 1099511627776 by omega), dt (show (e.cs.length : Int) ≤ e.cr by omega), dt (show (e.ss.length : Int) ≤ e.cr by omega), h.2.2.2.2.2.2.2.2.1, h.2.2.2.2.2.2.2.2.2.1, h.2.2.2.2.2.2.2.2.2.2.1, df (show ¬ e.cs.length + e.ss.length = 0 by omega)]
    simp)
  have d0 : decide (1 ≤ e.cr) = true := dt (by omega)
  have d1 : decide (e.cr ≤ 16) = true := dt (by omega)
  have d2 : decide (0 ≤ e.la) = true := dt (by omega)
  have d3 : decide (e.la ≤ 1099511627776) = true := dt (by omega)
  have d4 : decide (0 ≤ e.se) = true := dt (by omega)
  have d5 : decide (e.se ≤ 1099511627776) = true := dt (by omega)
  have d6 : decide ((e.cs.length : Int) ≤ e.cr) = true := dt (by omega)
  have d7 : decide ((e.ss.length : Int) ≤ e.cr) = true := dt (by omega)
  have HN1 := Lib.hid (show upB e.la 0 e.cs = true from h.2.2.2.2.2.2.2.2.1)
  have HN2 := Lib.hid (show upB e.se 0 e.ss = true from h.2.2.2.2.2.2.2.2.2.1)
  have hdd : e.dd = true := h.2.2.2.2.2.2.2.2.2.2.1
  have dz : ((e.cs.length : Int) == 0) = true := et (by omega)
  have dy : ((e.ss.length : Int) == 0) = false := ef (by omega)
  clear h
  have hal := hH.al
  have hbl := hH.bl
  have hB1 := (Below.refl W.heap.size W).alloc (Nat.le_refl _) (.cells (UEV e A c B d) 112)
  have r1 := Row.born W 112 (UEV e A c B d)
  have hH1 := hH.below hB1
  have hl1 := r1.lt
  obtain ⟨⟨c0, c1, c2⟩, c3, c4, c5⟩ := uev_cells r1
  rw [hdd] at c5
  clear hdd
  clear r1 hH
  go_enter Try.func75, Try.ntmps75
  go_wp2_with (first | (go_at_call 121; (with_reducible refine (rising_n e.la A _ c e.cs _ hH1.a (by omega)).mono ?_); rintro en w2 ⟨rfl, hb2⟩; rw [HN1.out]; replace c1 := (hb2.cell (p := ⟨W.heap.size, 1, none⟩) hl1).trans c1; replace c2 := (hb2.cell (p := ⟨W.heap.size, 2, none⟩) hl1).trans c2; replace c3 := (hb2.cell (p := ⟨W.heap.size, 3, none⟩) hl1).trans c3; replace c4 := (hb2.cell (p := ⟨W.heap.size, 4, none⟩) hl1).trans c4; replace c5 := (hb2.cell (p := ⟨W.heap.size, 5, none⟩) hl1).trans c5; have hH2 := hH1.below hb2; have hl2 := Nat.lt_of_lt_of_le hl1 hb2.size; have hB2 := hB1.trans (hb2.mono hB1.size)) | (go_at_call 121; (with_reducible refine (rising_n e.se B _ d e.ss _ hH2.b (by omega)).mono ?_); rintro en w3 ⟨rfl, hb3⟩; rw [HN2.out]; replace c3 := (hb3.cell (p := ⟨W.heap.size, 3, none⟩) hl2).trans c3; replace c4 := (hb3.cell (p := ⟨W.heap.size, 4, none⟩) hl2).trans c4; replace c5 := (hb3.cell (p := ⟨W.heap.size, 5, none⟩) hl2).trans c5; have hB3 := hB2.trans (hb3.mono hB2.size)))
  all_goals (first | (exfalso; rename_i hq _ _; injection hq with hq; cases hq; done) | (exfalso; rename_i hq _; injection hq with hq; cases hq; done) | (go_ret; exact vru_mk HV.out hB3))
set_option maxRecDepth 100000 in
set_option maxHeartbeats 8000000 in
theorem vru_13 (e : UE) (A B : Option Addr) (c d : Nat) (W : World) (hH : HeldU W e A c B d) (h : 1 ≤ e.cr ∧ e.cr ≤ 16 ∧ 0 ≤ e.la ∧ e.la ≤ 1099511627776 ∧ 0 ≤ e.se ∧ e.se ≤ 1099511627776 ∧ (e.cs.length : Int) ≤ e.cr ∧ (e.ss.length : Int) ≤ e.cr ∧ upB e.la 0 e.cs = true ∧ upB e.se 0 e.ss = true ∧ e.dd = true ∧ e.cs.length = 0 ∧ e.ss.length = 0) : Calls Try.prog 75 #[.agg (UEV e A c B d)] W (VrU e W) := by
  have HV := Lib.hid (show uV e = true by
    unfold uV bdB numB
    simp only [dt (show 1 ≤ e.cr by omega), dt (show e.cr ≤ 16 by omega), dt (show 0 ≤ e.la by omega), dt (show e.la ≤ 1099511627776 by omega), dt (show 0 ≤ e.se by omega), dt (show e.se ≤ 1099511627776 by omega), dt (show (e.cs.length : Int) ≤ e.cr by omega), dt (show (e.ss.length : Int) ≤ e.cr by omega), h.2.2.2.2.2.2.2.2.1, h.2.2.2.2.2.2.2.2.2.1, h.2.2.2.2.2.2.2.2.2.2.1, dt (show e.cs.length + e.ss.length = 0 by omega)]
    simp)
  have d0 : decide (1 ≤ e.cr) = true := dt (by omega)
  have d1 : decide (e.cr ≤ 16) = true := dt (by omega)
  have d2 : decide (0 ≤ e.la) = true := dt (by omega)
  have d3 : decide (e.la ≤ 1099511627776) = true := dt (by omega)
  have d4 : decide (0 ≤ e.se) = true := dt (by omega)
  have d5 : decide (e.se ≤ 1099511627776) = true := dt (by omega)
  have d6 : decide ((e.cs.length : Int) ≤ e.cr) = true := dt (by omega)
  have d7 : decide ((e.ss.length : Int) ≤ e.cr) = true := dt (by omega)
  have HN1 := Lib.hid (show upB e.la 0 e.cs = true from h.2.2.2.2.2.2.2.2.1)
  have HN2 := Lib.hid (show upB e.se 0 e.ss = true from h.2.2.2.2.2.2.2.2.2.1)
  have hdd : e.dd = true := h.2.2.2.2.2.2.2.2.2.2.1
  have dz : ((e.cs.length : Int) == 0) = true := et (by omega)
  have dy : ((e.ss.length : Int) == 0) = true := et (by omega)
  clear h
  have hal := hH.al
  have hbl := hH.bl
  have hB1 := (Below.refl W.heap.size W).alloc (Nat.le_refl _) (.cells (UEV e A c B d) 112)
  have r1 := Row.born W 112 (UEV e A c B d)
  have hH1 := hH.below hB1
  have hl1 := r1.lt
  obtain ⟨⟨c0, c1, c2⟩, c3, c4, c5⟩ := uev_cells r1
  rw [hdd] at c5
  clear hdd
  clear r1 hH
  go_enter Try.func75, Try.ntmps75
  go_wp2_with (first | (go_at_call 121; (with_reducible refine (rising_n e.la A _ c e.cs _ hH1.a (by omega)).mono ?_); rintro en w2 ⟨rfl, hb2⟩; rw [HN1.out]; replace c1 := (hb2.cell (p := ⟨W.heap.size, 1, none⟩) hl1).trans c1; replace c2 := (hb2.cell (p := ⟨W.heap.size, 2, none⟩) hl1).trans c2; replace c3 := (hb2.cell (p := ⟨W.heap.size, 3, none⟩) hl1).trans c3; replace c4 := (hb2.cell (p := ⟨W.heap.size, 4, none⟩) hl1).trans c4; replace c5 := (hb2.cell (p := ⟨W.heap.size, 5, none⟩) hl1).trans c5; have hH2 := hH1.below hb2; have hl2 := Nat.lt_of_lt_of_le hl1 hb2.size; have hB2 := hB1.trans (hb2.mono hB1.size)) | (go_at_call 121; (with_reducible refine (rising_n e.se B _ d e.ss _ hH2.b (by omega)).mono ?_); rintro en w3 ⟨rfl, hb3⟩; rw [HN2.out]; replace c3 := (hb3.cell (p := ⟨W.heap.size, 3, none⟩) hl2).trans c3; replace c4 := (hb3.cell (p := ⟨W.heap.size, 4, none⟩) hl2).trans c4; replace c5 := (hb3.cell (p := ⟨W.heap.size, 5, none⟩) hl2).trans c5; have hB3 := hB2.trans (hb3.mono hB2.size)))
  all_goals (first | (exfalso; rename_i hq _ _; injection hq with hq; cases hq; done) | (exfalso; rename_i hq _; injection hq with hq; cases hq; done) | (go_ret; exact vru_mk HV.out hB3))
theorem valid_ref (e : UE) (A B : Option Addr) (c d : Nat) (W : World) (hH : HeldU W e A c B d) : Calls Try.prog 75 #[.agg (UEV e A c B d)] W (VrU e W) := by
  rcases Int.lt_or_le (e.cr) (1) with h0 | h0
  · exact vru_0 e A B c d W hH h0
  rcases Int.lt_or_le (16) (e.cr) with h1 | h1
  · exact vru_1 e A B c d W hH ⟨h0, h1⟩
  rcases Int.lt_or_le (e.la) (0) with h2 | h2
  · exact vru_2 e A B c d W hH ⟨h0, h1, h2⟩
  rcases Int.lt_or_le (1099511627776) (e.la) with h3 | h3
  · exact vru_3 e A B c d W hH ⟨h0, h1, h2, h3⟩
  rcases Int.lt_or_le (e.se) (0) with h4 | h4
  · exact vru_4 e A B c d W hH ⟨h0, h1, h2, h3, h4⟩
  rcases Int.lt_or_le (1099511627776) (e.se) with h5 | h5
  · exact vru_5 e A B c d W hH ⟨h0, h1, h2, h3, h4, h5⟩
  rcases Int.lt_or_le (e.cr) ((e.cs.length : Int)) with h6 | h6
  · exact vru_6 e A B c d W hH ⟨h0, h1, h2, h3, h4, h5, h6⟩
  rcases Int.lt_or_le (e.cr) ((e.ss.length : Int)) with h7 | h7
  · exact vru_7 e A B c d W hH ⟨h0, h1, h2, h3, h4, h5, h6, h7⟩
  cases h8 : upB e.la 0 e.cs
  · exact vru_8 e A B c d W hH ⟨h0, h1, h2, h3, h4, h5, h6, h7, h8⟩
  cases h9 : upB e.se 0 e.ss
  · exact vru_9 e A B c d W hH ⟨h0, h1, h2, h3, h4, h5, h6, h7, h8, h9⟩
  cases h10 : e.dd
  · exact vru_10 e A B c d W hH ⟨h0, h1, h2, h3, h4, h5, h6, h7, h8, h9, h10⟩
  by_cases k1 : e.cs.length = 0
  · by_cases k2 : e.ss.length = 0
    · exact vru_13 e A B c d W hH ⟨h0, h1, h2, h3, h4, h5, h6, h7, h8, h9, h10, k1, k2⟩
    · exact vru_12 e A B c d W hH ⟨h0, h1, h2, h3, h4, h5, h6, h7, h8, h9, h10, k1, k2⟩
  · exact vru_11 e A B c d W hH ⟨h0, h1, h2, h3, h4, h5, h6, h7, h8, h9, h10, k1⟩
theorem valid_ref_is {e : UE} {A B : Option Addr} {c d : Nat} {W : World} {b : Bool} (hv : uV e = b) (hH : HeldU W e A c B d) : Calls Try.prog 75 #[.agg (UEV e A c B d)] W (fun en W' => en = .returned (.bool b) ∧ Below W.heap.size W W') := (valid_ref e A B c d W hH).mono fun en W' h => by rw [← hv]; exact h
end Go.Proofs.Ythjkhambmgepdaa
