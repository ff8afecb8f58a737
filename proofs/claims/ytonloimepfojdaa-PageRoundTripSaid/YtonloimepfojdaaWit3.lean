/- Page tables: Id; with keeps a table valid. -/
import Derived.Test.YtonloimepfojdaaWit2
namespace Go.Proofs.Ytonloimepfojdaa
open Go.RowKit
set_option linter.unusedVariables false
def IdPost (c o p : Int) (W : World) (e : Ending) (W' : World) : Prop := e = .returned (.agg #[.int .i64 (c % 4), .int .i64 (1 + o % 12), .int .i64 (p % 3)]) ∧ Below W.heap.size W W'
set_option maxHeartbeats 4000000 in
theorem make_id (c o p : Int) (W : World) : Calls Try.prog 42 #[.int .i64 c, .int .i64 o, .int .i64 p] W (IdPost c o p W) := by
  have q0 : 0 ≤ o % 12 := by omega
  have q1 : o % 12 < 12 := by omega
  have hB := (Below.refl W.heap.size W).alloc (Nat.le_refl _) (.cells #[.int .i64 0, .int .i64 0, .int .i64 0] 58)
  have r := Row.born W 58 #[.int .i64 0, .int .i64 0, .int .i64 0]
  have hw : wrap64 (1 + o % 12) = 1 + o % 12 := IntWalk.wrap64_in _ (by omega)
  go_enter Try.func42, Try.ntmps42
  go_upto_region 1 with (fail)
  generalize W.alloc (.cells #[.int .i64 0, .int .i64 0, .int .i64 0] 58) = w1 at *
  have d0 := r.cell 0
  have d1 := r.cell 1
  have d2 := r.cell 2
  have df := r.frozen
  simp at d0 d1 d2
  go_wp2_with (go_at_call 20; refine (place _ _ (by omega) (by omega) _).mono ?_; rintro e w' ⟨rfl, rfl⟩)
  have z := (((r.set 0 (.int .i64 (c % 4))).set 1 (.int .i64 (1 + o % 12))).set 2 (.int .i64 (p % 3)))
  have u := ((Upd.setCell w1 W.heap.size 0 (.int .i64 (c % 4))).trans (Upd.setCell _ W.heap.size 1 (.int .i64 (1 + o % 12)))).trans (Upd.setCell _ W.heap.size 2 (.int .i64 (p % 3)))
  generalize ((w1.setCell ⟨W.heap.size, 0, none⟩ (.int .i64 (c % 4))).setCell ⟨W.heap.size, 1, none⟩ (.int .i64 (1 + o % 12))).setCell ⟨W.heap.size, 2, none⟩ (.int .i64 (p % 3)) = w2 at *
  clear d0 d1 d2
  have d0 := z.cell 0
  have d1 := z.cell 1
  have d2 := z.cell 2
  simp at d0 d1 d2
  exact bodyPost_ret (v := .agg #[.int .i64 (c % 4), .int .i64 (1 + o % 12), .int .i64 (p % 3)]) (by simp [results, Try.results42, go_sem, d0, d1, d2]) rfl ⟨rfl, Upd.below hB u (Nat.le_refl _)⟩
theorem fpos_split (x : Int) : ∀ ms : List Mp, (∀ m ∈ ms.take (fpos x ms), m.ix < x) ∧ (∀ m r, ms.drop (fpos x ms) = m :: r → x ≤ m.ix)
  | [] => ⟨by simp [fpos], by simp [fpos]⟩
  | m :: r => by
    obtain ⟨h1, h2⟩ := fpos_split x r
    unfold fpos
    split
    · rename_i h
      refine ⟨fun q hq => ?_, fun q s hq => h2 q s (by simpa using hq)⟩
      simp only [List.take_succ_cons, List.mem_cons] at hq
      rcases hq with rfl | hq
      · exact h
      · exact h1 q hq
    · rename_i h
      refine ⟨by simp, fun q s hq => ?_⟩
      simp only [List.drop_zero, List.cons.injEq] at hq
      obtain ⟨rfl, _⟩ := hq
      omega
/-- All but the order: what each mapping must be. -/
theorem vMs_insert (lv B : Int) (m : Mp) : ∀ (ms : List Mp) (last : Int), vMs lv B last ms = true → last < m.ix → vM lv B last m = true → vMs lv B last (withM ms m) = true
  | [], last, _, h1, h2 => by
    have e : withM [] m = [m] := rfl
    rw [e]
    show (vM lv B last m && true) = true
    rw [h2]; rfl
  | q :: r, last, hV, h1, h2 => by
    obtain ⟨g1, g2⟩ := (Bool.and_eq_true _ _).mp (show (vM lv B last q && vMs lv B q.ix r) = true from hV)
    have mono : ∀ last', last' < m.ix → vM lv B last' m = true := fun last' hl => by
      unfold vM at h2 ⊢
      simp only [Bool.and_eq_true, decide_eq_true_eq] at h2 ⊢
      exact ⟨⟨⟨⟨⟨hl, h2.1.1.1.1.2⟩, h2.1.1.1.2⟩, h2.1.1.2⟩, h2.1.2⟩, h2.2⟩
    rcases Int.lt_or_le q.ix m.ix with hlt | hge
    · have e : withM (q :: r) m = q :: withM r m := by
        unfold withM
        have e1 : fpos m.ix (q :: r) = fpos m.ix r + 1 := by rw [fpos, if_pos hlt]
        rw [e1]
        simp only [List.drop_succ_cons, List.take_succ_cons]
        split <;> rfl
      rw [e]
      show (vM lv B last q && vMs lv B q.ix (withM r m)) = true
      rw [g1, vMs_insert lv B m r q.ix g2 hlt (mono _ hlt)]
      rfl
    · have e1 : fpos m.ix (q :: r) = 0 := by rw [fpos, if_neg (by omega)]
      rcases (by omega : q.ix = m.ix ∨ m.ix < q.ix) with he | he
      · rw [withM_eq e1 (List.drop_zero) he]
        exact hV
      · rw [withM_ne e1 (List.drop_zero) (by omega)]
        show (vM lv B last m && (vM lv B m.ix q && vMs lv B q.ix r)) = true
        have g3 : vM lv B m.ix q = true := by
          unfold vM at g1 ⊢
          simp only [Bool.and_eq_true, decide_eq_true_eq] at g1 ⊢
          exact ⟨⟨⟨⟨⟨he, g1.1.1.1.1.2⟩, g1.1.1.1.2⟩, g1.1.1.2⟩, g1.1.2⟩, g1.2⟩
        rw [h2, g3, g2]
        rfl
theorem withM_len (ms : List Mp) (m : Mp) : 0 < (withM ms m).length ∧ (withM ms m).length ≤ ms.length + 1 := by
  have h := fpos_le m.ix ms
  unfold withM
  split
  · rename_i hc
    refine ⟨?_, by omega⟩
    cases ms with
    | nil => simp [fpos] at hc
    | cons a r => simp
  · simp only [List.length_append, List.length_cons, List.length_take, List.length_drop]
    omega
end Go.Proofs.Ytonloimepfojdaa
