/- urpc: a new connection. -/
import Derived.Test.YthjkhambmgepdaaVx
namespace Go.Proofs.Ythjkhambmgepdaa
open Go.RowKit
set_option linter.unusedVariables false
set_option linter.unusedSimpArgs false
def newCP : CnP := ⟨fun _ => none, fun _ => none, fun _ => 0, fun _ => 0, fun _ => none, fun _ => none, fun _ => 0, fun _ => 0⟩
def newCn (n : Int) : CnS := (newUS n).cn (fun _ => [])
theorem newCM {base g : Nat} {w : World} {n : Int} (hr : Row w g 116 (CCell (newCn n) newCP).toArray) (hb : base ≤ g) : CM base g (paint (fun _ => 0) g 1) w (newCn n) newCP := by
  have hc : paint (fun _ => 0) g 1 g = 1 := paint_self _ _ _
  have hn : ∀ b k, blk none = some b → paint (fun _ => 0) g 1 b = k := fun b k h => by cases h
  refine ⟨Part.row hr hc, hc, fun x hx => paint_other (by omega), fun x hx => paint_other (by have := hr.lt; omega), fun s hs w' _ _ => ⟨IsN.nil _ _, IsN.nil _ _, Nat.zero_le _, Nat.zero_le _⟩, fun s hs => ⟨[], ⟨Part.own (OwnQ.nil _ _ _) (fun b h => hn b _ h), fun b h => hn b _ h⟩, ⟨rfl, fun i hi => absurd hi (Nat.not_lt_zero _)⟩, fun v hv => (by cases hv)⟩, fun i hi => ?_⟩
  have hz : (newCn n).I i = [] := by
    match i with
    | 0 => rfl
    | 1 => rfl
    | 2 => rfl
    | 3 => rfl
    | 4 => rfl
    | i + 5 => rfl
  rw [hz]
  exact ⟨Part.own (OwnQ.nil _ _ _) (fun b h => hn b _ h), fun b h => hn b _ h⟩
theorem newRelF (n : Int) : RelF (newUS n) (fun _ => []) (fun _ => []) := fun s hs => ⟨[], rfl, rfl⟩
def OpnU (base : Nat) (W : World) (en : Ending) (W' : World) : Prop := ∃ g n col p, 1 ≤ n ∧ n ≤ 16 ∧ en = .returned (.tuple #[.pointer (some ⟨g, 0, none⟩), .bool true]) ∧ CM base g col W' (newCn n) p ∧ (∀ x, x ≠ g → col x = 0) ∧ Below W.heap.size W W'
def BxS (w0 : World) (L : Array Value) (c : Nat) (us : Nat → Value) (w : World) : Prop := Below w0.heap.size w0 w ∧ (c = 0 → w = w0) ∧ (1 ≤ c → us 4 = .pointer (some ⟨w0.heap.size, 0, none⟩) ∧ w = w0.alloc (.cells L 116))
theorem BxS.loc {w0 : World} {L : Array Value} {ops : Array Oper} : ∀ c us us' w, (∀ k, mayAt ops [4] c k = false ∨ k ∈ [4].take c → us k = us' k) → BxS w0 L c us w → BxS w0 L c us' w := by
  intro c us us' w hk ⟨a, b, d⟩
  refine ⟨a, b, fun hc => ?_⟩
  rw [← hk 4 (.inr (by obtain ⟨j, rfl⟩ : ∃ j, c = j + 1 := ⟨c - 1, by omega⟩; simp))]
  exact d hc
set_option maxRecDepth 100000 in
set_option maxHeartbeats 8000000 in
theorem cn_open (base : Nat) (t : Int) (W : World) (hb0 : base ≤ W.heap.size) : Calls Try.prog 67 #[.int .i64 t] W (OpnU base W) := by
  obtain ⟨q, hq⟩ : ∃ q, t % 16 = q := ⟨_, rfl⟩
  have HQ := Lib.hid hq
  have p0 : 0 ≤ q := by rw [← hq]; exact Int.emod_nonneg _ (by omega)
  have p1 : q ≤ 15 := by rw [← hq]; have := Int.emod_lt_of_pos t (show (0 : Int) < 16 by omega); omega
  have hwq : IntKind.i64.wrap (1 + q) = 1 + q := by rw [IntKind.wrap_i64]; omega
  clear hq
  go_enter Try.func67, Try.ntmps67
  go_upto_region 2 with (go_at_call 20; (with_reducible refine (place_is HQ.out (by omega) (by omega) _).mono ?_); rintro en w' ⟨rfl, h9⟩; rw [← h9]; clear h9)
  obtain ⟨n, hn⟩ : ∃ n, 1 + q = n := ⟨_, rfl⟩
  rw [hn]
  have n1 : 1 ≤ n := by omega
  have n2 : n ≤ 16 := by omega
  have HKN := Lib.hid (show nwK n = true by unfold nwK; rw [dt n1, dt n2]; rfl)
  clear hwq hn
  go_upto_region 3 with (first | (go_at_call 71; (with_reducible refine (newU_is (n := n) (e := nwU n) HKN.out rfl).mono ?_); rintro en w1 ⟨rfl, hb⟩) | ((with_reducible refine wp_row_store (L := UEV (nwU n) none 0 none 0) (Row.bornAt' (g := w1.heap.size) rfl 112 _) ?_ (uev_info _ _ _ _ _) (uev_one _ _ _ _ _) ?_ ?_ ?_); rfl; rfl; rfl; intro wa ua ra))
  have hBW := Upd.below (hb.trans (((Below.refl w1.heap.size w1).alloc (Nat.le_refl _) (.cells ZU 112)).mono hb.size)) ua hb.size
  have h15 := hb.size
  clear hb ua
  generalize w1.heap.size = g5 at *
  go_upto_region 4 with (first | (go_at_call 71; (with_reducible refine (newU_is (n := n) (e := nwU n) HKN.out rfl).mono ?_); rintro en w2 ⟨rfl, hb⟩) | ((with_reducible refine wp_row_store (L := UEV (nwU n) none 0 none 0) (Row.bornAt' (g := w2.heap.size) rfl 112 _) ?_ (uev_info _ _ _ _ _) (uev_one _ _ _ _ _) ?_ ?_ ?_); rfl; rfl; rfl; intro wb ub rb))
  have hal := Upd.below (hb.trans (((Below.refl w2.heap.size w2).alloc (Nat.le_refl _) (.cells ZU 112)).mono hb.size)) ub hb.size
  have hBW2 := (hBW.trans (hal.mono hBW.size)).drew
  have ra : Row wb.drew g5 112 #[.int .i64 n, .int .i64 0, .int .i64 0, .slice none 0 0, .slice none 0 0, .bool false] := ra.below (hal.drew) ra.lt
  clear hb ub hal hBW
  have rb : Row wb.drew w2.heap.size 112 #[.int .i64 n, .int .i64 0, .int .i64 0, .slice none 0 0, .slice none 0 0, .bool false] := rb
  have q0 : wb.drew.cell? ⟨g5, 0, none⟩ = some (.int .i64 n) := ra.cell 0
  have hl5 := ra.lt
  refine wp_region_late (n := 39) [4] (BxS wb.drew (CCell (newCn n) newCP).toArray) (fun _ _ => True) (by kernel_rfl) (by kernel_rfl) (by rfl) BxS.loc ⟨Below.refl _ _, fun _ => rfl, fun h => by omega⟩ ?_
  generalize wb.drew = wd at *
  refine late_pure (by simp) (fun _ => trivial) (v := .agg #[.int .i64 n, .int .i64 0, .int .i64 0, .slice none 0 0, .slice none 0 0, .bool false]) (fun _ => rfl) ?_ ?_; (focus (intro c9 us w9 hm9 hS9 hF; exact exec_load_g (cs := #[.int .i64 n, .int .i64 0, .int .i64 0, .slice none 0 0, .slice none 0 0, .bool false]) (Row.range (ra.below hS9.1 ra.lt)) Try.underlying112 rfl (by exact info112) rfl)); simp only [Act.put, List.setIfInBounds_toArray, List.set_cons_zero, List.set_cons_succ, Nat.reduceAdd]
  refine late_pure (by simp) (fun _ => trivial) (v := .agg #[.int .i64 n, .int .i64 0, .int .i64 0, .slice none 0 0, .slice none 0 0, .bool false]) (fun _ => rfl) ?_ ?_; (focus (intro c9 us w9 hm9 hS9 hF; exact exec_load_g (cs := #[.int .i64 n, .int .i64 0, .int .i64 0, .slice none 0 0, .slice none 0 0, .bool false]) (Row.range (rb.below hS9.1 rb.lt)) Try.underlying112 rfl (by exact info112) rfl)); simp only [Act.put, List.setIfInBounds_toArray, List.set_cons_zero, List.set_cons_succ, Nat.reduceAdd]
  refine late_pure (by simp) (fun _ => trivial) (v := ?_) (fun _ => rfl) ?_ ?_; rotate_left; (focus (intro c9 us w9 hm9 hS9 hF; clear hF hm9; go_simp; (try with_reducible rfl); done)); simp only [Act.put, List.setIfInBounds_toArray, List.set_cons_zero, List.set_cons_succ, Nat.reduceAdd]
  refine late_pure (by simp) (fun _ => trivial) (v := ?_) (fun _ => rfl) ?_ ?_; rotate_left; (focus (intro c9 us w9 hm9 hS9 hF; clear hF hm9; go_simp; (try with_reducible rfl); done)); simp only [Act.put, List.setIfInBounds_toArray, List.set_cons_zero, List.set_cons_succ, Nat.reduceAdd]
  refine late_chain_fix (.pointer (some ⟨wd.heap.size, 0, none⟩)) (by simp) ?_ ?_; (focus (intro us w9 hS9 hF K hK; clear hF; obtain rfl := hS9.2.1 rfl; go_simp; exact hK _ ⟨hS9.1.alloc (Nat.le_refl _) _, fun h => by omega, fun _ => ⟨if_pos rfl, rfl⟩⟩ trivial)); simp only [Act.put, List.setIfInBounds_toArray, List.set_cons_zero, List.set_cons_succ, Nat.reduceAdd]
  refine late_pure (by simp) (fun _ => trivial) (v := ?_) (fun _ => rfl) ?_ ?_; rotate_left; (focus (intro c9 us w9 hm9 hS9 hF; have b0 := (hS9.1.cell (p := ⟨g5, 0, none⟩) hl5).trans q0; clear hF hm9; go_simp; (try with_reducible rfl); done)); simp only [Act.put, List.setIfInBounds_toArray, List.set_cons_zero, List.set_cons_succ, Nat.reduceAdd]
  refine late_pure (by simp) (fun _ => trivial) (v := ?_) (fun _ => rfl) ?_ ?_; rotate_left; (focus (intro c9 us w9 hm9 hS9 hF; have b0 := (hS9.1.cell (p := ⟨g5, 0, none⟩) hl5).trans q0; clear hF hm9; go_simp; (try with_reducible rfl); done)); simp only [Act.put, List.setIfInBounds_toArray, List.set_cons_zero, List.set_cons_succ, Nat.reduceAdd]
  refine late_pure (by simp) (fun _ => trivial) (v := ?_) (fun _ => rfl) ?_ ?_; rotate_left; (focus (intro c9 us w9 hm9 hS9 hF; have b0 := (hS9.1.cell (p := ⟨g5, 0, none⟩) hl5).trans q0; clear hF hm9; go_simp; (try with_reducible rfl); done)); simp only [Act.put, List.setIfInBounds_toArray, List.set_cons_zero, List.set_cons_succ, Nat.reduceAdd]
  refine late_pure (by simp) (fun _ => trivial) (v := ?_) (fun _ => rfl) ?_ ?_; rotate_left; (focus (intro c9 us w9 hm9 hS9 hF; have b0 := (hS9.1.cell (p := ⟨g5, 0, none⟩) hl5).trans q0; clear hF hm9; go_simp; (try with_reducible rfl); done)); simp only [Act.put, List.setIfInBounds_toArray, List.set_cons_zero, List.set_cons_succ, Nat.reduceAdd]
  refine late_pure (by simp) (fun _ => trivial) (v := ?_) (fun _ => rfl) ?_ ?_; rotate_left; (focus (intro c9 us w9 hm9 hS9 hF; have b0 := (hS9.1.cell (p := ⟨g5, 0, none⟩) hl5).trans q0; clear hF hm9; go_simp; (try with_reducible rfl); done)); simp only [Act.put, List.setIfInBounds_toArray, List.set_cons_zero, List.set_cons_succ, Nat.reduceAdd]
  refine late_pure (by simp) (fun _ => trivial) (v := ?_) (fun _ => rfl) ?_ ?_; rotate_left; (focus (intro c9 us w9 hm9 hS9 hF; have b0 := (hS9.1.cell (p := ⟨g5, 0, none⟩) hl5).trans q0; clear hF hm9; go_simp; (try with_reducible rfl); done)); simp only [Act.put, List.setIfInBounds_toArray, List.set_cons_zero, List.set_cons_succ, Nat.reduceAdd]
  refine late_pure (by simp) (fun _ => trivial) (v := ?_) (fun _ => rfl) ?_ ?_; rotate_left; (focus (intro c9 us w9 hm9 hS9 hF; have b0 := (hS9.1.cell (p := ⟨g5, 0, none⟩) hl5).trans q0; clear hF hm9; go_simp; (try with_reducible rfl); done)); simp only [Act.put, List.setIfInBounds_toArray, List.set_cons_zero, List.set_cons_succ, Nat.reduceAdd]
  refine late_pure (by simp) (fun _ => trivial) (v := ?_) (fun _ => rfl) ?_ ?_; rotate_left; (focus (intro c9 us w9 hm9 hS9 hF; have b0 := (hS9.1.cell (p := ⟨g5, 0, none⟩) hl5).trans q0; clear hF hm9; go_simp; (try with_reducible rfl); done)); simp only [Act.put, List.setIfInBounds_toArray, List.set_cons_zero, List.set_cons_succ, Nat.reduceAdd]
  refine late_pure (by simp) (fun _ => trivial) (v := ?_) (fun _ => rfl) ?_ ?_; rotate_left; (focus (intro c9 us w9 hm9 hS9 hF; have b0 := (hS9.1.cell (p := ⟨g5, 0, none⟩) hl5).trans q0; clear hF hm9; go_simp; (try with_reducible rfl); done)); simp only [Act.put, List.setIfInBounds_toArray, List.set_cons_zero, List.set_cons_succ, Nat.reduceAdd]
  refine late_pure (by simp) (fun _ => trivial) (v := ?_) (fun _ => rfl) ?_ ?_; rotate_left; (focus (intro c9 us w9 hm9 hS9 hF; have b0 := (hS9.1.cell (p := ⟨g5, 0, none⟩) hl5).trans q0; clear hF hm9; go_simp; (try with_reducible rfl); done)); simp only [Act.put, List.setIfInBounds_toArray, List.set_cons_zero, List.set_cons_succ, Nat.reduceAdd]
  refine late_pure (by simp) (fun _ => trivial) (v := ?_) (fun _ => rfl) ?_ ?_; rotate_left; (focus (intro c9 us w9 hm9 hS9 hF; have b0 := (hS9.1.cell (p := ⟨g5, 0, none⟩) hl5).trans q0; clear hF hm9; go_simp; (try with_reducible rfl); done)); simp only [Act.put, List.setIfInBounds_toArray, List.set_cons_zero, List.set_cons_succ, Nat.reduceAdd]
  refine late_pure (by simp) (fun _ => trivial) (v := ?_) (fun _ => rfl) ?_ ?_; rotate_left; (focus (intro c9 us w9 hm9 hS9 hF; have b0 := (hS9.1.cell (p := ⟨g5, 0, none⟩) hl5).trans q0; clear hF hm9; go_simp; (try with_reducible rfl); done)); simp only [Act.put, List.setIfInBounds_toArray, List.set_cons_zero, List.set_cons_succ, Nat.reduceAdd]
  refine late_pure (by simp) (fun _ => trivial) (v := .pointer (some ⟨wd.heap.size, 0, none⟩)) (fun _ => rfl) ?_ ?_; (focus (intro c9 us w9 hm9 hS9 hF; have b0 := (hS9.1.cell (p := ⟨g5, 0, none⟩) hl5).trans q0; have e5 := hF (4, fun u _ => u = .pointer (some ⟨wd.heap.size, 0, none⟩)) (by simp) (by kernel_rfl); dsimp only at e5; clear hF hm9; go_simp; (try with_reducible rfl); done)); simp only [Act.put, List.setIfInBounds_toArray, List.set_cons_zero, List.set_cons_succ, Nat.reduceAdd]
  refine late_pure (by simp) (fun _ => trivial) (v := ?_) (fun _ => rfl) ?_ ?_; rotate_left; (focus (intro c9 us w9 hm9 hS9 hF; have b0 := (hS9.1.cell (p := ⟨g5, 0, none⟩) hl5).trans q0; clear hF hm9; go_simp; (try with_reducible rfl); done)); simp only [Act.put, List.setIfInBounds_toArray, List.set_cons_zero, List.set_cons_succ, Nat.reduceAdd]
  refine late_done fun us wf hS8 hF => ?_
  obtain ⟨hu4, hwf⟩ := hS8.2.2 (by omega)
  have hbf := hS8.1
  clear hF hS8
  simp only [hu4]
  clear hu4
  go_wp2
  have hg : base ≤ wd.heap.size := Nat.le_trans hb0 hBW2.size
  have hr : Row wf wd.heap.size 116 (CCell (newCn n) newCP).toArray := by rw [hwf]; exact Row.born _ _ _
  refine bodyPost_ret (v := .tuple #[.pointer (some ⟨wd.heap.size, 0, none⟩), .bool true]) (by simp [results, Try.results67, go_sem]) rfl ?_
  exact ⟨wd.heap.size, n, _, newCP, n1, n2, rfl, newCM hr hg, fun x hx => paint_other hx, hBW2.trans (hbf.mono hBW2.size)⟩
end Go.Proofs.Ythjkhambmgepdaa
