/- Links: New, Clone, end. -/
import Derived.Test.YthjkhambmgepdaaLc
import Derived.Test.YthjkhambmgepdaaDec
import Derived.Laws.Rows
import Derived.Laws.Cover3
namespace Go.Proofs.Ythjkhambmgepdaa
open Go.RowKit
set_option linter.unusedVariables false
def newL (n : Int) : LE := ⟨n, 0, 0, n, 0, [], -1, -1, [], 0⟩
def zeL : LE := ⟨0, 0, 0, 0, 0, [], 0, 0, [], 0⟩
def ZE : Array Value := LEV zeL none 0 none 0
theorem ze_one : ZE.all (·.oneCell') = true := lev_one _ _ _ _ _
theorem ze_info : (Try.prog.info? 69).map (·.size) = some ZE.size := info69
def nwE (n : Int) : LE := if vl n = true then newL n else zeL
def NwP (n : Int) (W : World) (en : Ending) (W' : World) : Prop := en = .returned (.tuple #[.agg (LEV (nwE n) none 0 none 0), .int .i64 (nsE n)]) ∧ Below W.heap.size W W'
set_option maxRecDepth 100000 in
set_option maxHeartbeats 4000000 in
theorem new_no (n : Int) (W : World) (hv : vl n = false) : Calls Try.prog 41 #[.int .i64 n] W (NwP n W) := by
  have e1 : nsE n = 6 := by simp [nsE, hv]
  have HN := Lib.hid (show nwE n = zeL by simp [nwE, hv])
  have E1 := Lib.hid e1
  clear hv
  have hB1 := (Below.refl W.heap.size W).alloc (Nat.le_refl _) (.cells ZE 69)
  have r1 := Row.born W 69 ZE
  go_enter Try.func41, Try.ntmps41
  go_upto_region 1 with (fail)
  change Code.wp _ _ _ _ (W.alloc (.cells ZE 69))
  generalize W.alloc (.cells ZE 69) = w1 at *
  go_upto_region 3 with (go_at_call 27; refine (new_sender _ _).mono ?_; rintro en w2 ⟨rfl, hb⟩)
  have hBa := hb.trans (((Below.refl w2.heap.size w2).alloc (Nat.le_refl _) (.cells #[.int .i64 (nsN n), .int .u64 0, .int .u64 0] 27)).mono hb.size)
  generalize w2.alloc (.cells #[.int .i64 (nsN n), .int .u64 0, .int .u64 0] 27) = w3 at *
  have r1 := r1.below hBa r1.lt
  have hB3 := hB1.trans (hBa.mono hB1.size)
  clear hb hBa hB1
  go_wp2_with ((with_reducible refine wp_row_store (L := ZE) r1 rfl ze_info ze_one ?_ ?_ ?_); rfl; rfl; intro w4 u4 r4)
  refine bodyPost_ret (results_ct rfl rfl r4 Try.underlying69 rfl ze_info) rfl ?_
  refine ⟨?_, Upd.below hB3 u4 (Nat.le_refl _)⟩
  rw [HN.out, E1.out]
  rfl
set_option maxRecDepth 100000 in
set_option maxHeartbeats 4000000 in
theorem new_yes (n : Int) (W : World) (hv : vl n = true) : Calls Try.prog 41 #[.int .i64 n] W (NwP n W) := by
  have e1 : nsE n = 0 := by simp [nsE, hv]
  have e2 : nsN n = n := by simp [nsN, hv]
  have HN := Lib.hid (show nwE n = newL n by simp [nwE, hv])
  have E1 := Lib.hid e1
  clear hv
  have hB1 := (Below.refl W.heap.size W).alloc (Nat.le_refl _) (.cells ZE 69)
  have r1 := Row.born W 69 ZE
  go_enter Try.func41, Try.ntmps41
  go_upto_region 1 with (fail)
  change Code.wp _ _ _ _ (W.alloc (.cells ZE 69))
  generalize W.alloc (.cells ZE 69) = w1 at *
  go_upto_region 2 with (go_at_call 27; refine (new_sender _ _).mono ?_; rintro en w2 ⟨rfl, hb⟩)
  have r27 := Row.born w2 27 #[.int .i64 n, .int .u64 0, .int .u64 0]
  have hBa := hb.trans (((Below.refl w2.heap.size w2).alloc (Nat.le_refl _) (.cells #[.int .i64 n, .int .u64 0, .int .u64 0] 27)).mono hb.size)
  generalize w2.alloc (.cells #[.int .i64 n, .int .u64 0, .int .u64 0] 27) = w3 at *
  have r1 := r1.below hBa r1.lt
  have hB3 := hB1.trans (hBa.mono hB1.size)
  clear hb hBa hB1
  go_upto_region 5 with (go_at_call 28; refine (receiver_any _ _).mono ?_; rintro en w5 ⟨rfl, hb⟩)
  have r35 := Row.born w5 35 #[.int .i64 n, .int .u64 0]
  have hBa := hb.trans (((Below.refl w5.heap.size w5).alloc (Nat.le_refl _) (.cells #[.int .i64 n, .int .u64 0] 35)).mono hb.size)
  generalize w5.alloc (.cells #[.int .i64 n, .int .u64 0] 35) = w6 at *
  have r1 := r1.below hBa r1.lt
  have r27 := r27.below hBa r27.lt
  have hB6 := hB3.trans (hBa.mono hB3.size)
  clear hb hBa hB3
  obtain ⟨⟨c0, c1, c2⟩, f1⟩ := three_cells r27
  obtain ⟨⟨c3, c4⟩, f2⟩ := two_cells r35
  go_wp2_with ((with_reducible refine wp_row_store (L := LEV (newL n) none 0 none 0) r1 rfl (lev_info _ _ _ _ _) (lev_one _ _ _ _ _) ?_ ?_ ?_); rfl; rfl; intro w7 u7 r7)
  refine bodyPost_ret (results_ct rfl rfl r7 Try.underlying69 rfl (lev_info _ _ _ _ _)) rfl ?_
  refine ⟨?_, Upd.below hB6 u7 (Nat.le_refl _)⟩
  rw [HN.out, E1.out]
  rfl
theorem new_any (n : Int) (W : World) : Calls Try.prog 41 #[.int .i64 n] W (NwP n W) := by
  cases hv : vl n
  · exact new_no n W hv
  · exact new_yes n W hv
theorem OwnB.empty {w : World} {base g : Nat} {e : TypeId} (h : Row w g e #[]) (hb : base ≤ g) : OwnB w base e (some ⟨g, 0, none⟩) 0 0 [] :=
  ⟨rfl, .inr ⟨g, 0, #[], rfl, hb, h, by omega, by decide, rfl, rfl⟩⟩
theorem eql_nil (w : World) (A : Option Addr) (n c : Nat) : (binOp .eql 44 (.slice A n c) (.slice none 0 0)).run Try.prog w = .ok (.bool A.isNone) w := by
  simp only [binOp]
  simp [run_equal_slice_nil w 44 5 A n c Try.underlying44]
/-- A copy in new memory. -/
def ClP (n : Nat) (bs : List UInt8) (W : World) (en : Ending) (W' : World) : Prop := ∃ A' c', en = .returned (.slice A' n c') ∧ OwnB W' W.heap.size 5 A' n c' bs ∧ Below W.heap.size W W'
set_option maxRecDepth 100000 in
set_option maxHeartbeats 4000000 in
theorem clone_some (ad : Addr) (n c : Nat) (bs : List UInt8) (W : World) (hA : IsB W (some ad) n bs) (hn : n ≤ 1000000000) : Calls Try.prog 103 #[.slice (some ad) n c] W (ClP n bs W) := by
  have hB1 := (Below.refl W.heap.size W).alloc (Nat.le_refl _) (.cells #[] 5)
  have r1 := Row.born W 5 #[]
  have hA1 := hA.below hB1
  have ho := OwnB.empty r1 (Nat.le_refl _)
  have hs : W.heap.size ≤ (W.alloc (.cells #[] 5)).heap.size := hB1.size
  have hnil := fun w => eql_nil w (some ad) n c
  go_enter Try.func103, Try.ntmps103
  go_wp2_with (at_builtin; (refine wp_append_b (P := Try.prog) rfl _ _ 44 rfl Try.underlying44 info_b ho hA1 (by omega) hs rfl rfl ?_); intro A1 n1 c1 w2 hn1 ho1 hb1 hg1 hat1; have hq1 := hn1.out; rw [Nat.zero_add] at hq1; subst hq1; simp only [List.nil_append] at ho1)
  go_ret
  exact ⟨A1, c1, rfl, ho1, hB1.trans hb1⟩
set_option maxRecDepth 100000 in
set_option maxHeartbeats 4000000 in
theorem clone_none (n c : Nat) (bs : List UInt8) (W : World) (hA : IsB W none n bs) : Calls Try.prog 103 #[.slice none n c] W (ClP n bs W) := by
  obtain rfl : n = 0 := by
    rcases Nat.eq_zero_or_pos n with h | h
    · exact h
    · obtain ⟨b, o, e, -⟩ := hA.2 h
      cases e
  obtain rfl : bs = [] := List.eq_nil_of_length_eq_zero hA.1.symm
  have hnil := fun w => eql_nil w none 0 c
  go_enter Try.func103, Try.ntmps103
  go_wp2
  go_ret
  exact ⟨none, 0, rfl, OwnB.nil _ _ _, Below.refl _ _⟩
theorem clone_any (A : Option Addr) (n c : Nat) (bs : List UInt8) (W : World) (hA : IsB W A n bs) (hn : n ≤ 1000000000) : Calls Try.prog 103 #[.slice A n c] W (ClP n bs W) := by
  cases A with
  | none => exact clone_none n c bs W hA
  | some ad => exact clone_some ad n c bs W hA hn
set_option maxRecDepth 100000 in
set_option maxHeartbeats 4000000 in
theorem end_any (g : Nat) (e : LE) (A B : Option Addr) (c d : Nat) (W : World) (hr : Row W g 155 (LBV e A c B d)) : Calls Try.prog 104 #[.pointer (some ⟨g, 0, none⟩)] W (fun en W' => en = .returned (.agg (LEV e A c B d)) ∧ Below W.heap.size W W') := by
  have hlt := hr.lt
  have hB1 := (Below.refl W.heap.size W).alloc (Nat.le_refl _) (.cells ZE 69)
  have r1 := Row.born W 69 ZE
  go_enter Try.func104, Try.ntmps104
  go_upto_region 1 with (fail)
  change Code.wp _ _ _ _ (W.alloc (.cells ZE 69))
  generalize W.alloc (.cells ZE 69) = w1 at *
  have hr1 := hr.below hB1 hlt
  have hr1 : Row w1.drew g 155 (LBV e A c B d) := hr1
  have r1 : Row w1.drew W.heap.size 69 ZE := r1
  have hB1 : Below W.heap.size W w1.drew := hB1.drew
  obtain ⟨⟨c0, c1, c2, c3, c4⟩, ⟨c5, c6, c7, c8, c9⟩, -⟩ := both_cells hr1
  refine wp_region_tailN (n := 39) 36 (fun w' => w' = w1.drew) (fun _ _ => True) (by kernel_rfl) (by kernel_rfl) (by decide) (by rfl) rfl ?_
  simp only [List.take_succ_cons, List.take_zero, List.drop_succ_cons, List.drop_zero]
  repeat (refine tail_pure (v := ?_) (fun _ => trivial) (fun _ => rfl) ?_ ?_; rotate_left; (focus (intro us w9 hS9 hF; clear hF; subst hS9; go_simp; (try with_reducible rfl); done)); simp only [Act.put, List.setIfInBounds_toArray, List.set_cons_zero, List.set_cons_succ, Nat.reduceAdd])
  refine tail_done fun us w3 hS3 hF => ?_
  subst hS3
  clear hF c0 c1 c2 c3 c4 c5 c6 c7 c8 c9
  refine wp_row_store (L := LEV e A c B d) r1 rfl (lev_info _ _ _ _ _) (lev_one _ _ _ _ _) rfl rfl ?_
  intro w4 u4 r4
  go_wp2
  refine bodyPost_ret (results_cell_row rfl _ _ _ _ _ _ _ rfl r4 Try.underlying69 rfl (lev_info _ _ _ _ _)) rfl ?_
  exact ⟨rfl, Upd.below hB1 u4 (Nat.le_refl _)⟩
end Go.Proofs.Ythjkhambmgepdaa
