/- The law LinkRefused: of a valid end only the line that is due is accepted. -/
import Derived.Test.YthjkhambmgepdaaXo
import Derived.Test.YthjkhambmgepdaaWs
namespace Go.Proofs.Ythjkhambmgepdaa
open Go.RowKit
set_option linter.unusedVariables false
theorem dv_ln {y : LE} {k : Int} {el fl : Bool} {len ack : Int} {p : List UInt8} (hv : vE y = true) (h : lnE k el fl len p ≠ 0) : dvE y k el fl len ack p = 66 := by unfold dvE; rw [if_pos hv, if_neg h]
theorem dv_any {y : LE} {k : Int} {el fl : Bool} {len ack : Int} {p : List UInt8} (hv : vE y = true) (h : lnE k el fl len p = 0 → mv ack y.a ≤ y.s - y.a → k = 1 ∧ acD y el fl len p = false) : dvE y k el fl len ack p = 66 := by
  by_cases h1 : lnE k el fl len p = 0
  · unfold dvE
    rw [if_pos hv, if_pos h1]
    by_cases hm : mv ack y.a ≤ y.s - y.a
    · obtain ⟨hk, hd⟩ := h h1 hm
      rw [if_pos hm, if_pos hk, hd, if_neg (by simp)]
    · rw [if_neg hm]
  · exact dv_ln hv h1
theorem ln_two {e f : Bool} {n : Int} {p : List UInt8} (h : lnE 2 e f n p = 0) : e = false ∧ f = false ∧ n = 0 := by
  obtain ⟨_, h2⟩ := lnE_yes h
  unfold lnOk2 at h2
  simp at h2
  obtain ⟨_, ⟨h3, h4⟩, h5⟩ := h2
  exact ⟨h5, h4, h3⟩
theorem tk_d {y : LE} {l : Ln} {V : List (List UInt8)} {T : Nat} (hv : vE y = true) (t : Takes y l V T) (hk : l.k = 1) : acD y l.e l.f l.n l.p = true := by
  have h := t.dv
  unfold dvE at h
  rw [if_pos hv, if_pos t.e, if_pos t.mv, if_pos hk] at h
  cases hD : acD y l.e l.f l.n l.p
  · rw [hD] at h; cases h
  · rfl
theorem ln_k {l : Ln} (h : lnE l.k l.e l.f l.n l.p = 0) : (l.k = 1 ∨ l.k = 2) ∧ 0 ≤ l.n ∧ l.n ≤ 56 := lnOk1_k (lnE_yes h).1
theorem bad_e {y : LE} {l : Ln} {V : List (List UInt8)} {T : Nat} (hv : vE y = true) (t : Takes y l V T) : dvE y l.k (!l.e) l.f l.n l.a l.p = 66 := by
  obtain ⟨hk, -, -⟩ := ln_k t.e
  refine dv_any hv fun h1 _ => ?_
  rcases hk with hk | hk
  · refine ⟨hk, ?_⟩
    have hd := tk_d hv t hk
    unfold acD at hd ⊢
    simp only [Bool.and_eq_true, beq_iff_eq] at hd
    obtain ⟨⟨⟨⟨he, -⟩, -⟩, -⟩, -⟩ := hd
    rw [he]
    cases ep y.rn y.rc <;> rfl
  · rw [hk] at h1
    have h2 := t.e
    rw [hk] at h2
    have e1 := (ln_two h1).1
    rw [(ln_two h2).1] at e1
    cases e1
theorem bad_f {y : LE} {l : Ln} {V : List (List UInt8)} {T : Nat} (hv : vE y = true) (t : Takes y l V T) : dvE y l.k l.e (!l.f) l.n l.a l.p = 66 := by
  obtain ⟨hk, -, -⟩ := ln_k t.e
  refine dv_any hv fun h1 _ => ?_
  rcases hk with hk | hk
  · refine ⟨hk, ?_⟩
    have hd := tk_d hv t hk
    unfold acD at hd ⊢
    simp only [Bool.and_eq_true, beq_iff_eq] at hd
    obtain ⟨⟨⟨⟨-, hf⟩, -⟩, -⟩, -⟩ := hd
    rw [hf]
    have : ((!(y.want == -1)) == (y.want == -1)) = false := by cases (y.want == -1) <;> rfl
    rw [this]
    simp
  · rw [hk] at h1
    have h2 := t.e
    rw [hk] at h2
    have e1 := (ln_two h1).2.1
    rw [(ln_two h2).2.1] at e1
    cases e1
theorem bad_n {y : LE} {l : Ln} {V : List (List UInt8)} {T : Nat} (hv : vE y = true) (t : Takes y l V T) {n : Int} (hn : l.n < n) : dvE y l.k l.e l.f n l.a l.p = 66 := by
  obtain ⟨hk, -, -⟩ := ln_k t.e
  refine dv_any hv fun h1 _ => ?_
  rcases hk with hk | hk
  · refine ⟨hk, ?_⟩
    have hd := tk_d hv t hk
    unfold acD at hd ⊢
    cases hf : l.f
    · rw [hf] at hd
      simp only [Bool.and_eq_true, beq_iff_eq, Bool.false_eq_true, if_false] at hd
      have : (n == min (y.want - (y.pt.length : Int)) 56) = false := by rw [beq_eq_false_iff_ne]; omega
      simp [this]
    · rw [hf] at hd
      simp only [Bool.and_eq_true, beq_iff_eq, if_true] at hd
      have : (n - 4 == min (acH l.p : Int) 52) = false := by rw [beq_eq_false_iff_ne]; omega
      simp [this]
  · rw [hk] at h1
    have h2 := t.e
    rw [hk] at h2
    have e1 := (ln_two h1).2.2
    have e2 := (ln_two h2).2.2
    omega
theorem bad_p {y : LE} {l : Ln} {V : List (List UInt8)} {T : Nat} (hv : vE y = true) (t : Takes y l V T) (hn : l.n ≠ 56) : dvE y l.k l.e l.f l.n l.a (l.p.set 55 1) = 66 := by
  obtain ⟨hk, n0, n1⟩ := ln_k t.e
  refine dv_ln hv fun h1 => ?_
  have h2 := (lnE_yes h1).2
  have hpl := t.ok.1
  unfold lnOk2 at h2
  rw [Bool.and_eq_true] at h2
  have h3 := h2.1
  unfold clr at h3
  rw [List.all_eq_true] at h3
  have h4 := h3 1 (by
    rw [List.mem_iff_getElem?]
    refine ⟨55 - l.n.toNat, ?_⟩
    rw [List.getElem?_drop, show l.n.toNat + (55 - l.n.toNat) = 55 by omega, List.getElem?_set_self (by omega)])
  cases h4
theorem bad_a {y : LE} {l : Ln} {V : List (List UInt8)} {T : Nat} (hy : Gd y) (t : Takes y l V T) {x : Int} (x0 : 0 ≤ x) (x1 : x < 60000) : dvE y l.k l.e l.f l.n (IntKind.u16.wrap (IntKind.u16.wrap (IntKind.u16.wrap y.s + 1) + x)) l.p = 66 := by
  have hs := vs_yes hy.ve.vs
  have h1 := hs.a0
  have h2 := hs.d
  have h3 := hs.n1
  refine dv_any hy.v fun _ hm => ?_
  exfalso
  unfold mv at hm
  rw [IntKind.wrap_u16, IntKind.wrap_u16, IntKind.wrap_u16] at hm
  omega
theorem bad_k {y : LE} {k : Int} {el fl : Bool} {len ack : Int} {p : List UInt8} (hv : vE y = true) (hk : 3 ≤ k) : dvE y k el fl len ack p = 66 := by
  refine dv_ln hv fun h1 => ?_
  have := lnOk1_k (lnE_yes h1).1
  omega
theorem deliver_bad {e : LE} {A B : Option Addr} {c d : Nat} {k : Int} {el fl : Bool} {len ack : Int} {p : List UInt8} {W : World} (hE : dvE e k el fl len ack p = 66) (ht : e.ty) (hH : Held W e A c B d) (hl : p.length = 56) (ha : 0 ≤ ack ∧ ack < 65536) :
    Calls Try.prog 51 #[.agg (LEV e A c B d), .agg (LV k el fl len ack p)] W (fun en W' => en = .returned (.tuple #[.agg ZE, .slice none 0 0, .bool false, .int .i64 66]) ∧ Below W.heap.size W W') := by
  refine (deliver e A B c d k el fl len ack p W ht hH hl ha).mono ?_
  rintro en W' (⟨-, h1, h2⟩ | ⟨h, -⟩)
  · rw [hE] at h1
    exact ⟨h1, h2⟩
  · rw [hE] at h
    cases h
theorem LV_0 (k k' : Int) (e f : Bool) (n a : Int) (p : List UInt8) : (LV k e f n a p).setIfInBounds 0 (.int .i64 k') = LV k' e f n a p := by simp [LV, List.setIfInBounds_toArray]
theorem LV_1 (k : Int) (e e' f : Bool) (n a : Int) (p : List UInt8) : (LV k e f n a p).setIfInBounds 1 (.bool e') = LV k e' f n a p := by simp [LV, List.setIfInBounds_toArray]
theorem LV_2 (k : Int) (e f f' : Bool) (n a : Int) (p : List UInt8) : (LV k e f n a p).setIfInBounds 2 (.bool f') = LV k e f' n a p := by simp [LV, List.setIfInBounds_toArray]
theorem LV_3 (k : Int) (e f : Bool) (n n' a : Int) (p : List UInt8) : (LV k e f n a p).setIfInBounds 3 (.int .i64 n') = LV k e f n' a p := by simp [LV, List.setIfInBounds_toArray]
theorem LV_4 (k : Int) (e f : Bool) (n a a' : Int) (p : List UInt8) : (LV k e f n a p).setIfInBounds 4 (.int .u16 a') = LV k e f n a' p := by simp [LV, List.setIfInBounds_toArray]
theorem LV_60 (k : Int) (e f : Bool) (n a : Int) (p : List UInt8) (x : UInt8) : (LV k e f n a p).setIfInBounds 60 (bv x) = LV k e f n a (p.set 55 x) := by simp [LV, List.setIfInBounds_toArray, List.map_set]
theorem list_set56 {p : List UInt8} (h : p.length = 56) (x : UInt8) : (p.set 55 x).length = 56 := by simp [h]
set_option maxRecDepth 100000 in
set_option maxHeartbeats 8000000 in
theorem walk_refused (W : World) (t : Int) (A : Option Addr) (n cc : Nat) (how by_ : Int) (_ : (Lit.int .i64 t).wf = true) (hT : IsTr W A n) (_ : (Lit.int .i64 how).wf = true) (_ : (Lit.int .i64 by_).wf = true) : Calls Try.prog 13 #[.int .i64 t, .slice A n cc, .int .i64 how, .int .i64 by_] W (True1 W) := by
  go_enter Try.func13, Try.ntmps13
  go_upto_region 2 with (go_at_call 57; refine (wire_open W.heap.size t _ (Nat.le_refl _)).mono ?_; rintro en w0 ⟨g, N, col0, p0, -, hv, rfl, hM0, hc0, hb0⟩)
  have hT1 := trips_behind hT hb0 hM0 hM0.bg hc0
  go_upto_region 4 with (go_at_call 58; refine (run_any W.heap.size g col0 w0 _ p0 hM0 A n cc 0 (newS_inv hv) (by omega) hT1).mono ?_; rintro en w1 ⟨rfl, S, col, p, hI, hM, hw, hcc⟩)
  have hB1 := hM0.white hw hb0
  clear hM0 hT1 hw hcc hb0 hv hT
  have hlg := hM.lt
  have hlb := hM.bg
  obtain ⟨⟨y0, y1, v0, v1, t0, t1⟩, fz, e0, e1⟩ := hM.cells
  cases hY : S.Y 0 with
  | nil =>
    have hl : (S.Y 0).length = 0 := by rw [hY]; rfl
    rw [hl] at y0
    clear hl hY
    go_wp2_with (go_at_call 44; refine (awake20 _).mono ?_; rintro en w9 ⟨rfl, hb9⟩)
    go_ret
    exact ⟨rfl, hB1.trans (hb9.mono hB1.size)⟩
  | cons l ls =>
    have tk := hI.takes (s := 0) (by omega) (by omega) hY
    have hgd := hI.g 0 (by omega)
    have hok := tk.ok
    have hvq := (hM.way 0 (by omega)).part.now
    have hY1 : (S.Y 0).length = ls.length + 1 := by rw [hY]; rfl
    obtain ⟨b, ob, cur, hA, hrb, hcell⟩ := hvq.cells (by omega)
    obtain ⟨k, el, fl, len, ack, pp⟩ := l
    have hpp : pp.length = 56 := hok.1
    have hack : 0 ≤ ack ∧ ack < 65536 := hok.2
    have hrng : w1.rangeAt b ob (LV k el fl len ack pp).toList := fun j v hv => by
      refine hcell j v ?_
      rw [hY]
      show ((LV k el fl len ack pp).toList ++ lsC ls)[j]? = some v
      rw [List.getElem?_append_left (List.getElem?_eq_some_iff.1 hv).1]
      exact hv
    rw [hA, hY1] at y0
    have TK := Lib.hid tk
    clear hA hY1 hY hcell hok tk hrb hvq
    have hi0 : (0 : Int) < (ls.length : Int) + 1 := by omega
    have hne : ((ls.length : Int) + 1 == 0) = false := by rw [beq_eq_false_iff_ne]; omega
    go_upto_region 7 with (first | ((with_reducible refine wp_load_g ?_ hrng Try.underlying40 rfl (line_info _ _ _ _ _ hpp) ?_ ?_); rfl; rfl) | ((with_reducible refine wp_row_store (L := LV k el fl len ack pp) (Row.bornAt (g := w1.heap.size) rfl 40 _) ?_ (line_info _ _ _ _ _ hpp) (LV_one _ _ _ _ _ _) ?_ ?_ ?_); exact (LV_size _ _ _ _ _ hpp).symm; rfl; rfl; intro w3 u3 r7))
    have hal := Upd.below ((Below.refl w1.heap.size w1).alloc (Nat.le_refl _) (.cells ZL 40)) u3 (Nat.le_refl _)
    have hM3 := hM.below hal
    have hMk := fun w' (h : Below w1.heap.size w1 w') => hM.below h
    have hal1 : Below w1.heap.size w1 w3 := hal
    have hB3 := hB1.trans (hal.mono hB1.size)
    have hg7 : W.heap.size ≤ w1.heap.size := hB1.size
    clear hrng u3 y0 y1 v0 v1 t0 t1 fz e0 e1 hM hal hB1 hI hi0 hne hlg
    generalize w1.heap.size = g7 at *
    have h60 : 0 ≤ how % 6 ∧ how % 6 ≤ 5 := by have h1 := Int.emod_nonneg how (show (6 : Int) ≠ 0 by omega); have h2 := Int.emod_lt_of_pos how (show (0 : Int) < 6 by omega); omega
    have H6 := Lib.hid (show how % 6 = 0 ∨ how % 6 = 1 ∨ how % 6 = 2 ∨ how % 6 = 3 ∨ how % 6 = 4 ∨ how % 6 = 5 by omega)
    clear h60
    go_upto_block 0 with (go_at_call 20; refine (place _ _ (by omega) (by omega) _).mono ?_; rintro en w' ⟨rfl, h9⟩; rw [← h9]; clear h9)
    generalize how % 6 = hm at *
    obtain ⟨l0, l1, l2, l3, l4⟩ := line_cells r7
    have lf := r7.frozen
    go_cut [11] (fun u wx => u = .pointer (some ⟨g7, 0, none⟩) ∧ ∃ k' el' fl' len' ack' pp', Row wx g7 40 (LV k' el' fl' len' ack' pp') ∧ pp'.length = 56 ∧ (0 ≤ ack' ∧ ack' < 65536) ∧ dvE (S.E 0) k' el' fl' len' ack' pp' = 66 ∧ Below g7 w3 wx)
    case first =>
      rcases H6.out with rfl | rfl | rfl | rfl | rfl | rfl
      · go_wp2
        have hr := r7.set 1 (.bool (!el))
        rw [LV_1] at hr
        go_meet
        exact ⟨rfl, _, _, _, _, _, _, hr, hpp, hack, bad_e hgd.v TK.out, Upd.below (Below.refl _ _) (Upd.setCell w3 g7 1 _) (Nat.le_refl _)⟩
      · go_wp2
        have hr := r7.set 2 (.bool (!fl))
        rw [LV_2] at hr
        go_meet
        exact ⟨rfl, _, _, _, _, _, _, hr, hpp, hack, bad_f hgd.v TK.out, Upd.below (Below.refl _ _) (Upd.setCell w3 g7 2 _) (Nat.le_refl _)⟩
      · obtain ⟨hk, n0, n1⟩ := ln_k TK.out.e
        have n0 : 0 ≤ len := n0
        have n1 : len ≤ 56 := n1
        have l3 : w3.drew.cell? ⟨g7, 3, none⟩ = some (.int .i64 len) := l3
        have hwl : IntKind.i64.wrap (len + 1) = len + 1 := by rw [IntKind.wrap_i64]; omega
        obtain ⟨mm, hmm⟩ : ∃ mm, (if 54 < len then 54 else len) = mm := ⟨_, rfl⟩
        have m0 : 0 ≤ mm ∧ mm ≤ 54 := by rw [← hmm]; split <;> omega
        have b0 : 0 ≤ by_ % (55 - mm) ∧ by_ % (55 - mm) < 55 := ⟨Int.emod_nonneg _ (by omega), by have := Int.emod_lt_of_pos by_ (show 0 < 55 - mm by omega); omega⟩
        have hwm : IntKind.i64.wrap (55 - mm) = 55 - mm := by rw [IntKind.wrap_i64]; omega
        have hwn : IntKind.i64.wrap (len + 1 + by_ % (55 - mm)) = len + 1 + by_ % (55 - mm) := by rw [IntKind.wrap_i64]; omega
        go_upto_region 14 with (fail)
        refine wp_region_tailN (n := 134) 11 (fun w' => w' = w3.drew) (fun _ _ => True) (by kernel_rfl) (by kernel_rfl) (by decide) (by rfl) rfl ?_
        simp only [List.take_succ_cons, List.take_zero, List.drop_succ_cons, List.drop_zero]
        refine tail_pure (fun w => trivial) (v := ?_) (fun _ => rfl) ?_ ?_; rotate_left; (focus (intro us w9 hS9 hF; clear hF; subst hS9; go_simp; (try with_reducible rfl); done)); simp only [Act.put, List.setIfInBounds_toArray, List.set_cons_zero, List.set_cons_succ, Nat.reduceAdd]
        refine tail_pure (fun w => trivial) (v := ?_) (fun _ => rfl) ?_ ?_; rotate_left; (focus (intro us w9 hS9 hF; clear hF; subst hS9; go_simp; (try with_reducible rfl); done)); simp only [Act.put, List.setIfInBounds_toArray, List.set_cons_zero, List.set_cons_succ, Nat.reduceAdd]
        refine tail_pure (fun w => trivial) (v := ?_) (fun _ => rfl) ?_ ?_; rotate_left; (focus (intro us w9 hS9 hF; clear hF; subst hS9; go_simp; (try with_reducible rfl); done)); simp only [Act.put, List.setIfInBounds_toArray, List.set_cons_zero, List.set_cons_succ, Nat.reduceAdd]
        refine tail_pure (fun w => trivial) (v := ?_) (fun _ => rfl) ?_ ?_; rotate_left; (focus (intro us w9 hS9 hF; clear hF; subst hS9; go_simp; (try with_reducible rfl); done)); simp only [Act.put, List.setIfInBounds_toArray, List.set_cons_zero, List.set_cons_succ, Nat.reduceAdd]
        refine tail_pure (fun w => trivial) (v := ?_) (fun _ => rfl) ?_ ?_; rotate_left; (focus (intro us w9 hS9 hF; clear hF; subst hS9; go_simp; (try with_reducible rfl); done)); simp only [Act.put, List.setIfInBounds_toArray, List.set_cons_zero, List.set_cons_succ, Nat.reduceAdd]
        refine tail_pure (fun w => trivial) (v := ?_) (fun _ => rfl) ?_ ?_; rotate_left; (focus (intro us w9 hS9 hF; clear hF; subst hS9; go_simp; (try with_reducible rfl); done)); simp only [Act.put, List.setIfInBounds_toArray, List.set_cons_zero, List.set_cons_succ, Nat.reduceAdd]
        refine tail_pure (fun w => trivial) (v := .int .i64 mm) (fun _ => rfl) ?_ ?_; (focus (intro us w9 hS9 hF; clear hF; subst hS9; go_simp; (try with_reducible rfl); done)); simp only [Act.put, List.setIfInBounds_toArray, List.set_cons_zero, List.set_cons_succ, Nat.reduceAdd]
        refine tail_pure (fun w => trivial) (v := .int .i64 (55 - mm)) (fun _ => rfl) ?_ ?_; (focus (intro us w9 hS9 hF; clear hF; subst hS9; go_simp; (try with_reducible rfl); done)); simp only [Act.put, List.setIfInBounds_toArray, List.set_cons_zero, List.set_cons_succ, Nat.reduceAdd]
        refine tail_fix (v := .int .i64 (by_ % (55 - mm))) ?_ ?_; (focus (intro us w9 hS9 hF K hK; clear hF; subst hS9; go_simp; refine (place _ _ (by omega) (by omega) _).mono ?_; rintro e w' ⟨rfl, rfl⟩; exact hK _ rfl trivial)); simp only [Act.put, List.setIfInBounds_toArray, List.set_cons_zero, List.set_cons_succ, Nat.reduceAdd]
        refine tail_pure (fun w => trivial) (v := .int .i64 (len + 1 + by_ % (55 - mm))) (fun _ => rfl) ?_ ?_; (focus (intro us w9 hS9 hF; clear hF; subst hS9; go_simp; (try with_reducible rfl); done)); simp only [Act.put, List.setIfInBounds_toArray, List.set_cons_zero, List.set_cons_succ, Nat.reduceAdd]
        refine tail_pure (fun w => trivial) (v := ?_) (fun _ => rfl) ?_ ?_; rotate_left; (focus (intro us w9 hS9 hF; clear hF; subst hS9; go_simp; (try with_reducible rfl); done)); simp only [Act.put, List.setIfInBounds_toArray, List.set_cons_zero, List.set_cons_succ, Nat.reduceAdd]
        refine tail_done fun us w7 hS7 hF => ?_
        subst hS7
        clear hF
        generalize by_ % (55 - mm) = bm at *
        have H57 := Lib.hid (show len < len + 1 + bm by omega)
        by_cases h57 : 56 < len + 1 + bm
        · have d57 : decide (56 < len + 1 + bm) = true := decide_eq_true h57
          go_wp2_with (go_at_call 44; refine (awake20 _).mono ?_; rintro en w9 ⟨rfl, hb9⟩)
          go_ret
          have hx := (Upd.below hB3 (Upd.setCell w3 g7 3 (.int .i64 (len + 1 + bm))) hg7).drew
          exact ⟨rfl, hx.trans (hb9.mono hx.size)⟩
        · have d57 : decide (56 < len + 1 + bm) = false := decide_eq_false h57
          go_wp2
          have hr := r7.set 3 (.int .i64 (len + 1 + bm))
          rw [LV_3] at hr
          go_meet
          exact ⟨rfl, _, _, _, _, _, _, hr, hpp, hack, bad_n hgd.v TK.out H57.out, (Upd.below (Below.refl _ _) (Upd.setCell w3 g7 3 _) (Nat.le_refl _)).drew⟩
      · obtain ⟨hk, n0, n1⟩ := ln_k TK.out.e
        have n0 : 0 ≤ len := n0
        have n1 : len ≤ 56 := n1
        by_cases h56 : len = 56
        · have d56 : (len == 56) = true := by rw [beq_iff_eq]; exact h56
          clear h56
          go_wp2_with (go_at_call 44; refine (awake20 _).mono ?_; rintro en w9 ⟨rfl, hb9⟩)
          go_ret
          exact ⟨rfl, hB3.trans (hb9.mono hB3.size)⟩
        · have d56 : (len == 56) = false := by rw [beq_eq_false_iff_ne]; exact h56
          have H56 := Lib.hid h56
          clear h56
          obtain ⟨x5, hx5⟩ : ∃ x, pp[55]? = some x := ⟨_, List.getElem?_eq_getElem (by omega)⟩
          have c60 : w3.cell? ⟨g7, 60, none⟩ = some (bv x5) := by
            rw [r7.cell]
            simp [LV, hx5]
          clear hx5
          go_wp2
          have hr := r7.set 60 (bv 1)
          rw [LV_60] at hr
          go_meet
          exact ⟨rfl, _, _, _, _, _, _, hr, list_set56 hpp 1, hack, bad_p hgd.v TK.out H56.out, Upd.below (Below.refl _ _) (Upd.setCell w3 g7 60 _) (Nat.le_refl _)⟩
      · have q0 : 0 ≤ by_ % 60000 ∧ by_ % 60000 < 60000 := ⟨Int.emod_nonneg _ (by omega), Int.emod_lt_of_pos _ (by omega)⟩
        have hws : IntKind.u16.wrap (by_ % 60000) = by_ % 60000 := by rw [IntKind.wrap_u16]; omega
        have sc : w3.drew.cell? ⟨g, 1, none⟩ = some (.int .u64 (S.E 0).s) := hM3.row.now.cell 1
        go_upto_region 22 with (fail)
        refine wp_region_tailN (n := 134) 14 (fun w' => w' = w3.drew) (fun _ _ => True) (by kernel_rfl) (by kernel_rfl) (by decide) (by rfl) rfl ?_
        simp only [List.take_succ_cons, List.take_zero, List.drop_succ_cons, List.drop_zero]
        refine tail_pure (fun w => trivial) (v := ?_) (fun _ => rfl) ?_ ?_; rotate_left; (focus (intro us w9 hS9 hF; clear hF; subst hS9; go_simp; (try with_reducible rfl); done)); simp only [Act.put, List.setIfInBounds_toArray, List.set_cons_zero, List.set_cons_succ, Nat.reduceAdd]
        refine tail_pure (fun w => trivial) (v := ?_) (fun _ => rfl) ?_ ?_; rotate_left; (focus (intro us w9 hS9 hF; clear hF; subst hS9; go_simp; (try with_reducible rfl); done)); simp only [Act.put, List.setIfInBounds_toArray, List.set_cons_zero, List.set_cons_succ, Nat.reduceAdd]
        refine tail_pure (fun w => trivial) (v := ?_) (fun _ => rfl) ?_ ?_; rotate_left; (focus (intro us w9 hS9 hF; clear hF; subst hS9; go_simp; (try with_reducible rfl); done)); simp only [Act.put, List.setIfInBounds_toArray, List.set_cons_zero, List.set_cons_succ, Nat.reduceAdd]
        refine tail_pure (fun w => trivial) (v := ?_) (fun _ => rfl) ?_ ?_; rotate_left; (focus (intro us w9 hS9 hF; clear hF; subst hS9; go_simp; (try with_reducible rfl); done)); simp only [Act.put, List.setIfInBounds_toArray, List.set_cons_zero, List.set_cons_succ, Nat.reduceAdd]
        refine tail_pure (fun w => trivial) (v := ?_) (fun _ => rfl) ?_ ?_; rotate_left; (focus (intro us w9 hS9 hF; clear hF; subst hS9; go_simp; (try with_reducible rfl); done)); simp only [Act.put, List.setIfInBounds_toArray, List.set_cons_zero, List.set_cons_succ, Nat.reduceAdd]
        refine tail_pure (fun w => trivial) (v := ?_) (fun _ => rfl) ?_ ?_; rotate_left; (focus (intro us w9 hS9 hF; clear hF; subst hS9; go_simp; (try with_reducible rfl); done)); simp only [Act.put, List.setIfInBounds_toArray, List.set_cons_zero, List.set_cons_succ, Nat.reduceAdd]
        refine tail_pure (fun w => trivial) (v := ?_) (fun _ => rfl) ?_ ?_; rotate_left; (focus (intro us w9 hS9 hF; clear hF; subst hS9; go_simp; (try with_reducible rfl); done)); simp only [Act.put, List.setIfInBounds_toArray, List.set_cons_zero, List.set_cons_succ, Nat.reduceAdd]
        refine tail_pure (fun w => trivial) (v := .int .u16 (IntKind.u16.wrap (S.E 0).s)) (fun _ => rfl) ?_ ?_; (focus (intro us w9 hS9 hF; clear hF; subst hS9; go_simp; (try with_reducible rfl); done)); simp only [Act.put, List.setIfInBounds_toArray, List.set_cons_zero, List.set_cons_succ, Nat.reduceAdd]
        refine tail_pure (fun w => trivial) (v := .int .u16 (IntKind.u16.wrap (IntKind.u16.wrap (S.E 0).s + 1))) (fun _ => rfl) ?_ ?_; (focus (intro us w9 hS9 hF; clear hF; subst hS9; go_simp; (try with_reducible rfl); done)); simp only [Act.put, List.setIfInBounds_toArray, List.set_cons_zero, List.set_cons_succ, Nat.reduceAdd]
        refine tail_pure (fun w => trivial) (v := ?_) (fun _ => rfl) ?_ ?_; rotate_left; (focus (intro us w9 hS9 hF; clear hF; subst hS9; go_simp; (try with_reducible rfl); done)); simp only [Act.put, List.setIfInBounds_toArray, List.set_cons_zero, List.set_cons_succ, Nat.reduceAdd]
        refine tail_fix (v := .int .i64 (by_ % 60000)) ?_ ?_; (focus (intro us w9 hS9 hF K hK; clear hF; subst hS9; go_simp; refine (place _ _ (by omega) (by omega) _).mono ?_; rintro e w' ⟨rfl, rfl⟩; exact hK _ rfl trivial)); simp only [Act.put, List.setIfInBounds_toArray, List.set_cons_zero, List.set_cons_succ, Nat.reduceAdd]
        refine tail_pure (fun w => trivial) (v := .int .u16 (by_ % 60000)) (fun _ => rfl) ?_ ?_; (focus (intro us w9 hS9 hF; clear hF; subst hS9; go_simp; (try with_reducible rfl); done)); simp only [Act.put, List.setIfInBounds_toArray, List.set_cons_zero, List.set_cons_succ, Nat.reduceAdd]
        refine tail_pure (fun w => trivial) (v := .int .u16 (IntKind.u16.wrap (IntKind.u16.wrap (IntKind.u16.wrap (S.E 0).s + 1) + by_ % 60000))) (fun _ => rfl) ?_ ?_; (focus (intro us w9 hS9 hF; clear hF; subst hS9; go_simp; (try with_reducible rfl); done)); simp only [Act.put, List.setIfInBounds_toArray, List.set_cons_zero, List.set_cons_succ, Nat.reduceAdd]
        refine tail_pure (fun w => trivial) (v := ?_) (fun _ => rfl) ?_ ?_; rotate_left; (focus (intro us w9 hS9 hF; clear hF; subst hS9; go_simp; (try with_reducible rfl); done)); simp only [Act.put, List.setIfInBounds_toArray, List.set_cons_zero, List.set_cons_succ, Nat.reduceAdd]
        refine tail_done fun us w7 hS7 hF => ?_
        subst hS7
        clear hF
        have hbad := Lib.hid (bad_a hgd TK.out q0.1 q0.2)
        obtain ⟨aa, haa⟩ : ∃ aa, IntKind.u16.wrap (IntKind.u16.wrap (IntKind.u16.wrap (S.E 0).s + 1) + by_ % 60000) = aa := ⟨_, rfl⟩
        have ha0 : 0 ≤ aa ∧ aa < 65536 := by rw [← haa]; exact u16_bd _
        rw [haa] at hbad ⊢
        clear haa hws q0
        go_wp2
        have hr := r7.set 4 (.int .u16 aa)
        rw [LV_4] at hr
        go_meet
        exact ⟨rfl, _, _, _, _, _, _, hr, hpp, ha0, hbad.out, (Upd.below (Below.refl _ _) (Upd.setCell w3 g7 4 _) (Nat.le_refl _)).drew⟩
      · have b0 : 0 ≤ by_ % 100 ∧ by_ % 100 < 100 := ⟨Int.emod_nonneg _ (by omega), Int.emod_lt_of_pos _ (by omega)⟩
        have hwr : IntKind.i64.wrap (3 + by_ % 100) = 3 + by_ % 100 := by rw [IntKind.wrap_i64]; omega
        go_wp2_with (go_at_call 20; refine (place _ _ (by omega) (by omega) _).mono ?_; rintro en w' ⟨rfl, h9⟩; rw [← h9]; clear h9)
        have hr := r7.set 0 (.int .i64 (3 + by_ % 100))
        rw [LV_0] at hr
        go_meet
        exact ⟨rfl, _, _, _, _, _, _, hr, hpp, hack, bad_k hgd.v (by omega), Upd.below (Below.refl _ _) (Upd.setCell w3 g7 0 _) (Nat.le_refl _)⟩
    case rest =>
    clear r7 l0 l1 l2 l3 l4 lf hpp hack
    obtain ⟨rfl, k, el, fl, len, ack, pp, r7, hpp, hack, hE, hbc⟩ := hcut
    have HE := Lib.hid hE
    have hMc := hMk _ (hal1.trans hbc)
    have hBc := hB3.trans (hbc.mono hg7)
    have ht := hgd.ty
    clear hE hM3 hMk hal1 hbc hB3 TK H6 hgd
    obtain ⟨⟨y0, y1, v0, v1, t0, t1⟩, fz, e0, e1⟩ := hMc.cells
    have hHd := (hMc.held 0 (by omega)).now
    have hlgc := hMc.lt
    go_upto_region 23 with (fail)
    refine wp_region_late (n := 134) [13] (CalS wc 13 (NoC) 1 12 69 ZE 1000 12 69 ZE) (Shp wc.heap.size) (by kernel_rfl) (by kernel_rfl) (by rfl) (CalS.loc (by decide) (fun c hc => mayAt_no (d := 0) (by kernel_rfl) (by omega) (by decide)) (fun c hc => mayAt_no (d := 0) (by kernel_rfl) (by omega) (by decide))) (CalS.start (by decide) (by decide)) ?_
    refine late_pure (by simp) (Shp.refl _) (v := ?_) (fun _ => rfl) ?_ ?_; rotate_left; (focus (intro c9 us w9 hm9 hS9 hF; clear hF hm9; go_simp; (try with_reducible rfl); done)); simp only [Act.put, List.setIfInBounds_toArray, List.set_cons_zero, List.set_cons_succ, Nat.reduceAdd]
    refine late_pure (by simp) (Shp.refl _) (v := ?_) (fun _ => rfl) ?_ ?_; rotate_left; (focus (intro c9 us w9 hm9 hS9 hF; clear hF hm9; go_simp; (try with_reducible rfl); done)); simp only [Act.put, List.setIfInBounds_toArray, List.set_cons_zero, List.set_cons_succ, Nat.reduceAdd]
    refine late_pure (by simp) (Shp.refl _) (v := ?_) (fun _ => rfl) ?_ ?_; rotate_left; (focus (intro c9 us w9 hm9 hS9 hF; clear hF hm9; go_simp; (try with_reducible rfl); done)); simp only [Act.put, List.setIfInBounds_toArray, List.set_cons_zero, List.set_cons_succ, Nat.reduceAdd]
    refine late_pure (by simp) (Shp.refl _) (v := ?_) (fun _ => rfl) ?_ ?_; rotate_left; (focus (intro c9 us w9 hm9 hS9 hF; clear hF hm9; go_simp; (try with_reducible rfl); done)); simp only [Act.put, List.setIfInBounds_toArray, List.set_cons_zero, List.set_cons_succ, Nat.reduceAdd]
    refine late_pure (by simp) (Shp.refl _) (v := .agg (LEV (S.E 0) (p.A 0) (p.c 0) (p.B 0) (p.d 0))) (fun _ => rfl) ?_ ?_; (focus (intro c9 us w9 hm9 hS9 hF; exact exec_load_g (fun j v hv => (hS9.1.cell (p := ⟨g, 0 + j, none⟩) hlgc).trans (e0 j v hv)) Try.underlying69 rfl (lev_info _ _ _ _ _) rfl)); simp only [Act.put, List.setIfInBounds_toArray, List.set_cons_zero, List.set_cons_succ, Nat.reduceAdd]
    refine late_pure (by simp) (Shp.refl _) (v := .agg (LV k el fl len ack pp)) (fun _ => rfl) ?_ ?_; (focus (intro c9 us w9 hm9 hS9 hF; exact exec_load_g (r7.below hS9.1 r7.lt).range Try.underlying40 rfl (line_info _ _ _ _ _ hpp) rfl)); simp only [Act.put, List.setIfInBounds_toArray, List.set_cons_zero, List.set_cons_succ, Nat.reduceAdd]
    refine late_fix (by simp) (v := .tuple #[.agg ZE, .slice none 0 0, .bool false, .int .i64 66]) ?_ ?_; (focus (intro c9 us w9 hm9 hS9 hF K hK; clear hF; go_simp; refine (deliver_bad HE.out ht (hHd.below hS9.1) hpp hack).mono ?_; rintro e w' ⟨rfl, hb⟩; exact hK w' (hS9.below hb NoC.mono) (Shp.below hb))); simp only [Act.put, List.setIfInBounds_toArray, List.set_cons_zero, List.set_cons_succ, Nat.reduceAdd]
    refine late_pure (by simp) (Shp.refl _) (v := ?_) (fun _ => rfl) ?_ ?_; rotate_left; (focus (intro c9 us w9 hm9 hS9 hF; clear hF hm9; go_simp; (try with_reducible rfl); done)); simp only [Act.put, List.setIfInBounds_toArray, List.set_cons_zero, List.set_cons_succ, Nat.reduceAdd]
    refine late_pure (by simp) (Shp.refl _) (v := ?_) (fun _ => rfl) ?_ ?_; rotate_left; (focus (intro c9 us w9 hm9 hS9 hF; clear hF hm9; go_simp; (try with_reducible rfl); done)); simp only [Act.put, List.setIfInBounds_toArray, List.set_cons_zero, List.set_cons_succ, Nat.reduceAdd]
    refine late_pure (by simp) (Shp.refl _) (v := ?_) (fun _ => rfl) ?_ ?_; rotate_left; (focus (intro c9 us w9 hm9 hS9 hF; clear hF hm9; go_simp; (try with_reducible rfl); done)); simp only [Act.put, List.setIfInBounds_toArray, List.set_cons_zero, List.set_cons_succ, Nat.reduceAdd]
    refine late_pure (by simp) (Shp.refl _) (v := ?_) (fun _ => rfl) ?_ ?_; rotate_left; (focus (intro c9 us w9 hm9 hS9 hF; clear hF hm9; go_simp; (try with_reducible rfl); done)); simp only [Act.put, List.setIfInBounds_toArray, List.set_cons_zero, List.set_cons_succ, Nat.reduceAdd]
    refine late_pure (by simp) (Shp.refl _) (v := ?_) (fun _ => rfl) ?_ ?_; rotate_left; (focus (intro c9 us w9 hm9 hS9 hF; clear hF hm9; go_simp; (try with_reducible rfl); done)); simp only [Act.put, List.setIfInBounds_toArray, List.set_cons_zero, List.set_cons_succ, Nat.reduceAdd]
    refine late_free (by simp) (PtrN wc.heap.size 69 10) PtrN.mono ?_ ?_; (focus (intro c9 us w9 hm9 hS9 hF K hK; go_simp; exact hK _ _ (hS9.alloc NoC.mono (.cells ZE 69)) (Shp.alloc _ _ _) ⟨w9.heap.size, ZE, rfl, hS9.1.size, Row.born w9 69 ZE, rfl⟩)); simp only [Act.put, List.setIfInBounds_toArray, List.set_cons_zero, List.set_cons_succ, Nat.reduceAdd]
    refine late_store rfl ?_ ?_; (focus (intro us w9 hS9 hF K hK; obtain ⟨b3, cs, hu, hb3, hr, hn⟩ := hF (12, PtrN wc.heap.size 69 10) (by simp) (by kernel_rfl); simp only [hu] at hK ⊢; rw [if_pos (by rfl)]; exact step_put (L := ZE) hr hn ze_info (ze_one) rfl rfl (fun w' u' r' => hK w' (hS9.st1 u' r' hu hb3 (by omega) (by omega) (fun h => trivial)) (Shp.upd u' hr r' hn)))); simp only [Nat.reduceAdd]
    refine late_pure (by simp) (Shp.refl _) (v := ?_) (fun _ => rfl) ?_ ?_; rotate_left; (focus (intro c9 us w9 hm9 hS9 hF; clear hF hm9; go_simp; (try with_reducible rfl); done)); simp only [Act.put, List.setIfInBounds_toArray, List.set_cons_zero, List.set_cons_succ, Nat.reduceAdd]
    refine late_pure (by simp) (Shp.refl _) (v := ?_) (fun _ => rfl) ?_ ?_; rotate_left; (focus (intro c9 us w9 hm9 hS9 hF; clear hF hm9; go_simp; (try with_reducible rfl); done)); simp only [Act.put, List.setIfInBounds_toArray, List.set_cons_zero, List.set_cons_succ, Nat.reduceAdd]
    refine late_pure (by simp) (Shp.refl _) (v := ?_) (fun _ => rfl) ?_ ?_; rotate_left; (focus (intro c9 us w9 hm9 hS9 hF; clear hF hm9; go_simp; (try with_reducible rfl); done)); simp only [Act.put, List.setIfInBounds_toArray, List.set_cons_zero, List.set_cons_succ, Nat.reduceAdd]
    refine late_done fun us w7 hS8 hF => ?_
    obtain ⟨g9, hu1, hg9, r9⟩ := hS8.2.2.1 (by omega)
    have hBa := hS8.1
    clear hF hS8
    simp only [hu1]
    have hB7 := hBc.trans (hBa.mono hBc.size)
    clear y0 y1 v0 v1 t0 t1 fz e0 e1 hHd hlgc hMc
    go_wp2_with (first | ((with_reducible refine wp_load_g ?_ r9.range Try.underlying69 rfl ze_info ?_ ?_); rfl; rfl) | (go_at_call 53; refine (same_ref zeL none none none none 0 0 0 0 _ (by decide) (held_zero _) (held_zero _)).mono ?_; rintro en w8 ⟨rfl, hb8⟩) | (go_at_call 44; refine (awake20 _).mono ?_; rintro en w9 ⟨rfl, hb9⟩))
    go_ret
    have hB8 := hB7.trans (hb8.mono hB7.size)
    exact ⟨rfl, hB8.trans (hb9.mono hB8.size)⟩
end Go.Proofs.Ythjkhambmgepdaa
