/- Links: Enqueue. -/
import Derived.Test.YthjkhambmgepdaaLe
namespace Go.Proofs.Ythjkhambmgepdaa
open Go.RowKit
set_option linter.unusedVariables false
/-- The queue and the part lie in blocks from lo to hi, and in no other. -/
def HeldI (w : World) (lo hi : Nat) (e : LE) (A : Option Addr) (c : Nat) (B : Option Addr) (d : Nat) : Prop := hi ≤ w.heap.size ∧ ∀ w', (∀ g, lo ≤ g → g < hi → w'.heap[g]? = w.heap[g]?) → Held w' e A c B d
theorem HeldI.held {w : World} {lo hi : Nat} {e : LE} {A B : Option Addr} {c d : Nat} (h : HeldI w lo hi e A c B d) : Held w e A c B d := h.2 w fun _ _ _ => rfl
theorem HeldI.stay {w w' : World} {lo hi : Nat} {e : LE} {A B : Option Addr} {c d : Nat} (h : HeldI w lo hi e A c B d) (hs : hi ≤ w'.heap.size) (hk : ∀ g, lo ≤ g → g < hi → w'.heap[g]? = w.heap[g]?) : HeldI w' lo hi e A c B d :=
  ⟨hs, fun w2 h2 => h.2 w2 fun g h3 h4 => (h2 g h3 h4).trans (hk g h3 h4)⟩
theorem HeldI.below {w w' : World} {lo hi : Nat} {e : LE} {A B : Option Addr} {c d : Nat} (h : HeldI w lo hi e A c B d) (hb : Below w.heap.size w w') : HeldI w' lo hi e A c B d :=
  h.stay (Nat.le_trans h.1 hb.size) fun g _ h4 => hb.block g (Nat.lt_of_lt_of_le h4 h.1)
theorem HeldI.upd {w w' : World} {lo hi x : Nat} {e : LE} {A B : Option Addr} {c d : Nat} (h : HeldI w lo hi e A c B d) (u : Upd w w' x) (hx : x < lo ∨ hi ≤ x) : HeldI w' lo hi e A c B d :=
  h.stay (by rw [u.size]; exact h.1) fun g h3 h4 => u.block g (by omega)
theorem OwnV.stay {w w' : World} {base size lo : Nat} {e : TypeId} {A : Option Addr} {n c : Nat} {xs : List Value} (h : OwnV w base e size A n c xs) (hl : lo ≤ base) (hk : ∀ g, lo ≤ g → g < w.heap.size → w'.heap[g]? = w.heap[g]?) : OwnV w' base e size A n c xs := by
  obtain ⟨h1, h2⟩ := h
  refine ⟨h1, ?_⟩
  rcases h2 with h2 | ⟨g, cap, cur, e1, hb, hg, r⟩
  · exact .inl h2
  · exact .inr ⟨g, cap, cur, e1, hb, (hk g (Nat.le_trans hl hb) (Array.getElem?_eq_some_iff.1 hg).1).trans hg, r⟩
theorem OwnB.stay {w w' : World} {base lo : Nat} {e : TypeId} {A : Option Addr} {n c : Nat} {bs : List UInt8} (h : OwnB w base e A n c bs) (hl : lo ≤ base) (hk : ∀ g, lo ≤ g → g < w.heap.size → w'.heap[g]? = w.heap[g]?) : OwnB w' base e A n c bs := OwnV.stay (size := 1) h hl hk
theorem QV.stay {w w' : World} {base lo : Nat} {vs : List Value} {q : List (List UInt8)} (h : QV w base vs q) (hl : lo ≤ base) (hk : ∀ g, lo ≤ g → g < w.heap.size → w'.heap[g]? = w.heap[g]?) : QV w' base vs q := ⟨h.1, fun i hi => by
  obtain ⟨A, c, e, ho⟩ := h.2 i hi
  exact ⟨A, c, e, ho.stay hl hk⟩⟩
def enqE (e : LE) (m : List UInt8) : Int := if vE e = true then (if 1048576 < m.length then 67 else if e.q.length = 64 then 65 else 0) else 74
def enqL (e : LE) (m : List UInt8) : LE := if enqE e m = 0 then { e with q := e.q ++ [m] } else zeL
def EnP (e : LE) (m : List UInt8) (W : World) (en : Ending) (W' : World) : Prop := ∃ A c B d, en = .returned (.tuple #[.agg (LEV (enqL e m) A c B d), .int .i64 (enqE e m)]) ∧ HeldI W' W.heap.size W'.heap.size (enqL e m) A c B d ∧ Below W.heap.size W W'
theorem held_zero (w : World) : Held w zeL none 0 none 0 := ⟨⟨rfl, fun h => by simp [zeL] at h⟩, Nat.le_refl _, IsB.nil _ _, Nat.le_refl _⟩
theorem en_no {e : LE} {m : List UInt8} {E : Int} (h : enqE e m = E) (hE : E ≠ 0) {W W' : World} (hb : Below W.heap.size W W') : EnP e m W (.returned (.tuple #[.agg ZE, .int .i64 E])) W' := by
  have hl : enqL e m = zeL := by unfold enqL; rw [h, if_neg hE]
  refine ⟨none, 0, none, 0, ?_, ?_, hb⟩
  · rw [h, hl]; rfl
  · rw [hl]; exact ⟨Nat.le_refl _, fun _ _ => held_zero _⟩
theorem en_yes {e : LE} {m : List UInt8} (h : enqE e m = 0) {W W' : World} {A B : Option Addr} {c d : Nat} (hH : HeldI W' W.heap.size W'.heap.size { e with q := e.q ++ [m] } A c B d) (hb : Below W.heap.size W W') : EnP e m W (.returned (.tuple #[.agg (LEV { e with q := e.q ++ [m] } A c B d), .int .i64 0])) W' := by
  have hl : enqL e m = { e with q := e.q ++ [m] } := by unfold enqL; rw [h, if_pos rfl]
  refine ⟨A, c, B, d, ?_, ?_, hb⟩
  · rw [h, hl]
  · rw [hl]; exact hH
theorem vE_q {e : LE} (h : vE e = true) : e.q.length ≤ 64 ∧ ∀ m ∈ e.q, m.length ≤ 1048576 := by
  simp only [vE, soundB, Bool.and_eq_true, decide_eq_true_eq] at h
  refine ⟨h.1.1.1.1.2, fun m hm => ?_⟩
  have := List.all_eq_true.1 h.1.1.1.2 m hm
  simpa using this
set_option maxRecDepth 100000 in
set_option maxHeartbeats 4000000 in
theorem enq_v (e : LE) (A B : Option Addr) (c d : Nat) (Am : Option Addr) (cm : Nat) (m : List UInt8) (W : World) (ht : e.ty) (hH : Held W e A c B d) (hm : IsB W Am m.length m) (hv : vE e = false) : Calls Try.prog 42 #[.agg (LEV e A c B d), .slice Am m.length cm] W (EnP e m W) := by
  have HE := Lib.hid (show enqE e m = 74 by simp [enqE, hv])
  have HV := Lib.hid hv
  clear hv
  have hB1 := ((Below.refl W.heap.size W).alloc (Nat.le_refl _) (.cells (LEV e A c B d) 69)).alloc (by simp) (.cells ZE 69)
  have r1 : Row ((W.alloc (.cells (LEV e A c B d) 69)).alloc (.cells ZE 69)) W.heap.size 69 (LEV e A c B d) := (Row.born W 69 (LEV e A c B d)).alloc _
  have r2 : Row ((W.alloc (.cells (LEV e A c B d) 69)).alloc (.cells ZE 69)) (W.heap.size + 1) 69 ZE := by
    have h := Row.born (W.alloc (.cells (LEV e A c B d) 69)) 69 ZE
    rwa [show (W.alloc (.cells (LEV e A c B d) 69)).heap.size = W.heap.size + 1 by simp] at h
  go_enter Try.func42, Try.ntmps42
  go_upto_region 1 with (fail)
  change Code.wp _ _ _ _ ((W.alloc (.cells (LEV e A c B d) 69)).alloc (.cells ZE 69))
  generalize (W.alloc (.cells (LEV e A c B d) 69)).alloc (.cells ZE 69) = w1 at *
  have hH1 := hH.below hB1
  go_upto_region 2 with (first | ((with_reducible refine wp_load_g ?_ r1.range Try.underlying69 rfl (lev_info _ _ _ _ _) ?_ ?_); rfl; rfl) | (go_at_call 101; (with_reducible refine (valid_is HV.out ht hH1).mono ?_); rintro en w2 ⟨rfl, hb⟩))
  have r1 := r1.below hb r1.lt
  have r2 := r2.below hb r2.lt
  have hB2 := hB1.trans (hb.mono hB1.size)
  clear hb hB1 hH1
  go_wp2_with (((with_reducible refine wp_row_store (L := ZE) r2 rfl ze_info ze_one ?_ ?_ ?_); rfl; rfl; intro w4 u4 r4))
  refine bodyPost_ret (results_ct rfl rfl r4 Try.underlying69 rfl ze_info) rfl ?_
  exact en_no HE.out (by decide) (Upd.below hB2 u4 (by omega))
set_option maxRecDepth 100000 in
set_option maxHeartbeats 4000000 in
theorem enq_m (e : LE) (A B : Option Addr) (c d : Nat) (Am : Option Addr) (cm : Nat) (m : List UInt8) (W : World) (ht : e.ty) (hH : Held W e A c B d) (hm : IsB W Am m.length m) (hv : vE e = true) (h1 : 1048576 < m.length) : Calls Try.prog 42 #[.agg (LEV e A c B d), .slice Am m.length cm] W (EnP e m W) := by
  have HE := Lib.hid (show enqE e m = 67 by simp [enqE, hv, h1])
  have HV := Lib.hid hv
  have d1 : decide (1048576 < m.length) = true := by simpa using h1
  clear hv
  have hB1 := ((Below.refl W.heap.size W).alloc (Nat.le_refl _) (.cells (LEV e A c B d) 69)).alloc (by simp) (.cells ZE 69)
  have r1 : Row ((W.alloc (.cells (LEV e A c B d) 69)).alloc (.cells ZE 69)) W.heap.size 69 (LEV e A c B d) := (Row.born W 69 (LEV e A c B d)).alloc _
  have r2 : Row ((W.alloc (.cells (LEV e A c B d) 69)).alloc (.cells ZE 69)) (W.heap.size + 1) 69 ZE := by
    have h := Row.born (W.alloc (.cells (LEV e A c B d) 69)) 69 ZE
    rwa [show (W.alloc (.cells (LEV e A c B d) 69)).heap.size = W.heap.size + 1 by simp] at h
  go_enter Try.func42, Try.ntmps42
  go_upto_region 1 with (fail)
  change Code.wp _ _ _ _ ((W.alloc (.cells (LEV e A c B d) 69)).alloc (.cells ZE 69))
  generalize (W.alloc (.cells (LEV e A c B d) 69)).alloc (.cells ZE 69) = w1 at *
  have hH1 := hH.below hB1
  go_upto_region 4 with (first | ((with_reducible refine wp_load_g ?_ r1.range Try.underlying69 rfl (lev_info _ _ _ _ _) ?_ ?_); rfl; rfl) | (go_at_call 101; (with_reducible refine (valid_is HV.out ht hH1).mono ?_); rintro en w2 ⟨rfl, hb⟩))
  have r1 := r1.below hb r1.lt
  have r2 := r2.below hb r2.lt
  have hB2 := hB1.trans (hb.mono hB1.size)
  clear hb hB1 hH1
  go_wp2_with (((with_reducible refine wp_row_store (L := ZE) r2 rfl ze_info ze_one ?_ ?_ ?_); rfl; rfl; intro w4 u4 r4))
  refine bodyPost_ret (results_ct rfl rfl r4 Try.underlying69 rfl ze_info) rfl ?_
  exact en_no HE.out (by decide) (Upd.below hB2 u4 (by omega))
set_option maxRecDepth 100000 in
set_option maxHeartbeats 4000000 in
theorem enq_q (e : LE) (A B : Option Addr) (c d : Nat) (Am : Option Addr) (cm : Nat) (m : List UInt8) (W : World) (ht : e.ty) (hH : Held W e A c B d) (hm : IsB W Am m.length m) (hv : vE e = true) (h1 : m.length ≤ 1048576) (h2 : e.q.length = 64) : Calls Try.prog 42 #[.agg (LEV e A c B d), .slice Am m.length cm] W (EnP e m W) := by
  have HE := Lib.hid (show enqE e m = 65 by simp [enqE, hv, h2]; omega)
  have HV := Lib.hid hv
  have d1 : decide (1048576 < m.length) = false := by simpa using h1
  have d2 : ((e.q.length : Int) == 64) = true := by rw [beq_iff_eq]; omega
  clear hv h2
  have hB1 := ((Below.refl W.heap.size W).alloc (Nat.le_refl _) (.cells (LEV e A c B d) 69)).alloc (by simp) (.cells ZE 69)
  have r1 : Row ((W.alloc (.cells (LEV e A c B d) 69)).alloc (.cells ZE 69)) W.heap.size 69 (LEV e A c B d) := (Row.born W 69 (LEV e A c B d)).alloc _
  have r2 : Row ((W.alloc (.cells (LEV e A c B d) 69)).alloc (.cells ZE 69)) (W.heap.size + 1) 69 ZE := by
    have h := Row.born (W.alloc (.cells (LEV e A c B d) 69)) 69 ZE
    rwa [show (W.alloc (.cells (LEV e A c B d) 69)).heap.size = W.heap.size + 1 by simp] at h
  go_enter Try.func42, Try.ntmps42
  go_upto_region 1 with (fail)
  change Code.wp _ _ _ _ ((W.alloc (.cells (LEV e A c B d) 69)).alloc (.cells ZE 69))
  generalize (W.alloc (.cells (LEV e A c B d) 69)).alloc (.cells ZE 69) = w1 at *
  have hH1 := hH.below hB1
  go_upto_region 5 with (first | ((with_reducible refine wp_load_g ?_ r1.range Try.underlying69 rfl (lev_info _ _ _ _ _) ?_ ?_); rfl; rfl) | (go_at_call 101; (with_reducible refine (valid_is HV.out ht hH1).mono ?_); rintro en w2 ⟨rfl, hb⟩))
  have r1 := r1.below hb r1.lt
  have r2 := r2.below hb r2.lt
  have hB2 := hB1.trans (hb.mono hB1.size)
  clear hb hB1 hH1
  obtain ⟨-, ⟨c5, -, -, -, -⟩, -⟩ := end_cells r1
  go_wp2_with (((with_reducible refine wp_row_store (L := ZE) r2 rfl ze_info ze_one ?_ ?_ ?_); rfl; rfl; intro w4 u4 r4))
  refine bodyPost_ret (results_ct rfl rfl r4 Try.underlying69 rfl ze_info) rfl ?_
  exact en_no HE.out (by decide) (Upd.below hB2 u4 (by omega))
set_option maxRecDepth 100000 in
set_option maxHeartbeats 4000000 in
theorem enq_ok (e : LE) (A B : Option Addr) (c d : Nat) (Am : Option Addr) (cm : Nat) (m : List UInt8) (W : World) (ht : e.ty) (hH : Held W e A c B d) (hm : IsB W Am m.length m) (hv : vE e = true) (h1 : m.length ≤ 1048576) (h2 : e.q.length ≠ 64) : Calls Try.prog 42 #[.agg (LEV e A c B d), .slice Am m.length cm] W (EnP e m W) := by
  have HE := Lib.hid (show enqE e m = 0 by simp [enqE, hv, h2]; omega)
  have hqv := vE_q hv
  have HV := Lib.hid hv
  have d1 : decide (1048576 < m.length) = false := by simpa using h1
  have d2 : ((e.q.length : Int) == 64) = false := by rw [beq_eq_false_iff_ne]; omega
  clear hv
  have hB1 := ((Below.refl W.heap.size W).alloc (Nat.le_refl _) (.cells (LEV e A c B d) 69)).alloc (by simp) (.cells ZE 69)
  have r1 : Row ((W.alloc (.cells (LEV e A c B d) 69)).alloc (.cells ZE 69)) W.heap.size 69 (LEV e A c B d) := (Row.born W 69 (LEV e A c B d)).alloc _
  have r2 : Row ((W.alloc (.cells (LEV e A c B d) 69)).alloc (.cells ZE 69)) (W.heap.size + 1) 69 ZE := by
    have h := Row.born (W.alloc (.cells (LEV e A c B d) 69)) 69 ZE
    rwa [show (W.alloc (.cells (LEV e A c B d) 69)).heap.size = W.heap.size + 1 by simp] at h
  go_enter Try.func42, Try.ntmps42
  go_upto_region 1 with (fail)
  change Code.wp _ _ _ _ ((W.alloc (.cells (LEV e A c B d) 69)).alloc (.cells ZE 69))
  generalize (W.alloc (.cells (LEV e A c B d) 69)).alloc (.cells ZE 69) = w1 at *
  have hH1 := hH.below hB1
  go_upto_region 5 with (first | ((with_reducible refine wp_load_g ?_ r1.range Try.underlying69 rfl (lev_info _ _ _ _ _) ?_ ?_); rfl; rfl) | (go_at_call 101; (with_reducible refine (valid_is HV.out ht hH1).mono ?_); rintro en w2 ⟨rfl, hb⟩))
  have r1 := r1.below hb r1.lt
  have r2 := r2.below hb r2.lt
  have hB2 := hB1.trans (hb.mono hB1.size)
  clear hb hB1 hH1
  obtain ⟨-, ⟨c5, -, -, -, -⟩, -⟩ := end_cells r1
  have hH2 := hH.below hB2
  go_upto_region 8 with (first | ((with_reducible refine wp_load_g ?_ r1.range Try.underlying69 rfl (lev_info _ _ _ _ _) ?_ ?_); rfl; rfl) | (go_at_call 102; (with_reducible refine (open_any e _ _ _ _ _ ht hH2).mono ?_); rintro en w3 ⟨g, A1, c1, B1, dd1, vs, rfl, hWg, hr, hown, hq, hoB, hb⟩))
  clear c5
  have r2 := r2.below hb r2.lt
  have hB3 := hB2.trans (hb.mono hB2.size)
  have hWb := hB2.size
  have hWx := hb.size
  clear hb hH2 hB2 r1
  generalize w2.heap.size = base at *
  have hBw : Below W.heap.size W w3.drew := hB3.drew
  refine wp_region_late (n := 40) [7, 8, 9, 13] (EnqS W w3.drew base g (fun v => BV e v (.slice B1 e.pt.length dd1)) A1 e.q.length c1 vs m.length m) (fun _ _ => True) (by kernel_rfl) (by kernel_rfl) (by rfl) EnqS.loc (EnqS.zero hBw) ?_
  have hrow : Row w3.drew g 155 (BV e (.slice A1 e.q.length c1) (.slice B1 e.pt.length dd1)) := hr
  have hown : OwnV w3.drew base 44 1 A1 e.q.length c1 vs := hown
  have hq : QV w3.drew base vs e.q := hq
  have hoB : OwnB w3.drew base 5 B1 e.pt.length dd1 e.pt := hoB
  have r2 : Row w3.drew (W.heap.size + 1) 69 ZE := r2
  have hWx : base ≤ w3.drew.heap.size := hWx
  generalize w3.drew = w5 at *
  have hlg := hrow.lt
  have c3 : w5.cell? ⟨g, 3, none⟩ = some (.slice A1 e.q.length c1) := hrow.cell 3
  have hIs := hm.below hBw
  have hml : m.length ≤ 1000000000 := by omega
  have hWg' : W.heap.size ≤ g := Nat.le_trans hWb hWg
  have hql := hqv.1
  refine late_pure (by simp) (fun _ => trivial) (v := ?_) (fun _ => rfl) ?_ ?_; rotate_left; (focus (intro c9 us w9 hm9 hS9 hF; clear hF hm9; go_simp; (try with_reducible rfl); done)); simp only [Act.put, List.setIfInBounds_toArray, List.set_cons_zero, List.set_cons_succ, Nat.reduceAdd]
  refine late_pure (by simp) (fun _ => trivial) (v := ?_) (fun _ => rfl) ?_ ?_; rotate_left; (focus (intro c9 us w9 hm9 hS9 hF; clear hF hm9; go_simp; (try with_reducible rfl); done)); simp only [Act.put, List.setIfInBounds_toArray, List.set_cons_zero, List.set_cons_succ, Nat.reduceAdd]
  refine late_pure (by simp) (fun _ => trivial) (v := ?_) (fun _ => rfl) ?_ ?_; rotate_left; (focus (intro c9 us w9 hm9 hS9 hF; clear hF hm9; go_simp; (try with_reducible rfl); done)); simp only [Act.put, List.setIfInBounds_toArray, List.set_cons_zero, List.set_cons_succ, Nat.reduceAdd]
  refine late_pure (by simp) (fun _ => trivial) (v := ?_) (fun _ => rfl) ?_ ?_; rotate_left; (focus (intro c9 us w9 hm9 hS9 hF; clear hF hm9; go_simp; (try with_reducible rfl); done)); simp only [Act.put, List.setIfInBounds_toArray, List.set_cons_zero, List.set_cons_succ, Nat.reduceAdd]
  refine late_pure (by simp) (fun _ => trivial) (v := ?_) (fun _ => rfl) ?_ ?_; rotate_left; (focus (intro c9 us w9 hm9 hS9 hF; clear hF hm9; go_simp; (try with_reducible rfl); done)); simp only [Act.put, List.setIfInBounds_toArray, List.set_cons_zero, List.set_cons_succ, Nat.reduceAdd]
  refine late_pure (by simp) (fun _ => trivial) (v := ?_) (fun _ => rfl) ?_ ?_; rotate_left; (focus (intro c9 us w9 hm9 hS9 hF; have hc9 : c9 < 3 := (by rcases Nat.lt_or_ge c9 3 with h9 | h9; exact h9; exact absurd hm9 (by rw [mayAt_no (d := 2) (by kernel_rfl) (by omega) (by decide)]; decide)); have b3 := ((hS9.2.2.1 (by omega)).cell (p := ⟨g, 3, none⟩) hlg).trans c3; clear hF hm9; go_simp; (try with_reducible rfl); done)); simp only [Act.put, List.setIfInBounds_toArray, List.set_cons_zero, List.set_cons_succ, Nat.reduceAdd]
  refine late_pure (by simp) (fun _ => trivial) (v := ?_) (fun _ => rfl) ?_ ?_; rotate_left; (focus (intro c9 us w9 hm9 hS9 hF; clear hF hm9; go_simp; (try with_reducible rfl); done)); simp only [Act.put, List.setIfInBounds_toArray, List.set_cons_zero, List.set_cons_succ, Nat.reduceAdd]
  refine late_chain (by simp) ?_ ?_; (focus (intro us w9 hS9 hF K hK; clear hF; go_simp; refine (clone_any _ _ _ _ _ ((hIs).below (hS9.2.2.1 (by omega))) hml).mono ?_; rintro en w' ⟨Am, cm, rfl, ho, hb⟩; exact hK _ w' (hS9.one hb ho) trivial)); simp only [Act.put, List.setIfInBounds_toArray, List.set_cons_zero, List.set_cons_succ, Nat.reduceAdd]
  refine late_chain (by simp) ?_ ?_; (focus (intro us w9 hS9 hF K hK; clear hF; obtain ⟨Am, cm, hu, ho⟩ := hS9.2.2.2.1 rfl; simp only [hu] at hK ⊢; go_simp; exact hK _ _ (hS9.two ho) trivial)); simp only [Act.put, List.setIfInBounds_toArray, List.set_cons_zero, List.set_cons_succ, Nat.reduceAdd]
  refine late_chain (by simp) ?_ ?_; (focus (intro us w9 hS9 hF K hK; clear hF; obtain ⟨Am, cm, gb, hu, hrb, ho⟩ := hS9.2.2.2.2.1 rfl; simp only [hu] at hK ⊢; rw [if_pos (by rfl)]; have hown9 := hown.below (hS9.2.2.1 (by omega)); exact step_append_v (P := Try.prog) Try.underlying67 info_44 rfl (by omega) hown9 hrb rfl (by simp [Value.oneCell']) (by omega) (by omega) (Nat.le_trans hWx hS9.2.1.1) rfl rfl (fun A' c'' w' h2 h3 h5 => hK _ w' (hS9.three hWb hrow hown9 ho h2 h3) trivial))); simp only [Act.put, List.setIfInBounds_toArray, List.set_cons_zero, List.set_cons_succ, Nat.reduceAdd]
  refine late_pure (by simp) (fun _ => trivial) (v := ?_) (fun _ => rfl) ?_ ?_; rotate_left; (focus (intro c9 us w9 hm9 hS9 hF; clear hF hm9; go_simp; (try with_reducible rfl); done)); simp only [Act.put, List.setIfInBounds_toArray, List.set_cons_zero, List.set_cons_succ, Nat.reduceAdd]
  refine late_pure (by simp) (fun _ => trivial) (v := ?_) (fun _ => rfl) ?_ ?_; rotate_left; (focus (intro c9 us w9 hm9 hS9 hF; clear hF hm9; go_simp; (try with_reducible rfl); done)); simp only [Act.put, List.setIfInBounds_toArray, List.set_cons_zero, List.set_cons_succ, Nat.reduceAdd]
  refine late_pure (by simp) (fun _ => trivial) (v := ?_) (fun _ => rfl) ?_ ?_; rotate_left; (focus (intro c9 us w9 hm9 hS9 hF; clear hF hm9; go_simp; (try with_reducible rfl); done)); simp only [Act.put, List.setIfInBounds_toArray, List.set_cons_zero, List.set_cons_succ, Nat.reduceAdd]
  refine late_store rfl ?_ ?_; (focus (intro us w9 hS9 hF K hK; clear hF; obtain ⟨A', c', Am, cm, hu, h2, h3, -⟩ := hS9.2.2.2.2.2.1 (by omega); simp only [hu] at hK ⊢; have hr9 := hS9.2.2.2.2.2.2 rfl; have k3 := hr9.cell 3; have f3 := hr9.frozen 3; simp only [BV] at k3; have hS10 := hS9.four hu hWg' (fun _ _ => rfl); go_simp; exact hK _ hS10 trivial)); simp only [Nat.reduceAdd]
  refine late_done fun us8 w8 hS8 hF => ?_
  obtain ⟨A2, c2, Am2, cm2, hu8, h2', h3, hr4⟩ := hS8.2.2.2.2.2.1 (by omega)
  have hr4 := hr4 (by omega)
  have kk := hS8.2.1
  have hB8 := hS8.1
  clear hF hS8 c3
  have hoB8 := hoB.keeps kk (by decide)
  have hq8 := (hq.keeps kk (by decide)).snoc h3 hWx
  have r2 := kk.row r2 (by decide)
  have hl : (e.q ++ [m]).length = e.q.length + 1 := by simp
  obtain ⟨e', he'⟩ : ∃ e', ({ e with q := e.q ++ [m] } : LE) = e' := ⟨_, rfl⟩
  have hr5 : Row w8 g 155 (LBV e' A2 c2 B1 dd1) := by
    rw [← he']
    unfold LBV
    simp only [hl]
    exact hr4
  have HP := Lib.hid he'
  clear hr4 h3 hoB hq hown hrow kk he'
  go_wp2_with (first | (go_at_call 104; (with_reducible refine (end_any g e' _ _ _ _ _ hr5).mono ?_); rintro en w9 ⟨rfl, hb9⟩) | ((with_reducible refine wp_row_store (L := LEV e' A2 c2 B1 dd1) (r2.below hb9 r2.lt) rfl (lev_info _ _ _ _ _) (lev_one _ _ _ _ _) ?_ ?_ ?_); rfl; rfl; intro w4 u4 r4))
  refine bodyPost_ret (results_ct rfl rfl r4 Try.underlying69 rfl (lev_info _ _ _ _ _)) rfl ?_
  have hk : Keeps [69] w8 w4 := (Keeps.below hb9).trans (Keeps.upd u4 (r2.below hb9 r2.lt) (by simp))
  have hB9 := Upd.below (hB8.trans (hb9.mono hB8.size)) u4 (by omega)
  have h' := HP.out
  subst h'
  refine en_yes HE.out ⟨Nat.le_refl _, fun w' hw' => ⟨?_, ?_, ((hoB8.keeps hk (by decide)).stay hWb hw').isB, hoB8.capM⟩⟩ hB9
  · exact isM_of (q := e.q ++ [m]) (by rw [hl]; exact (h2'.keeps hk (by decide)).stay hWb hw') ((hq8.keeps hk (by decide)).stay hWb hw') (fun x hx => by
      rcases List.mem_append.1 hx with hx | hx
      · have := hqv.2 x hx; omega
      · rw [List.mem_singleton.1 hx]; omega)
  · simp only [hl]; exact h2'.cap
theorem enqueue (e : LE) (A B : Option Addr) (c d : Nat) (Am : Option Addr) (cm : Nat) (m : List UInt8) (W : World) (ht : e.ty) (hH : Held W e A c B d) (hm : IsB W Am m.length m) : Calls Try.prog 42 #[.agg (LEV e A c B d), .slice Am m.length cm] W (EnP e m W) := by
  by_cases hv : vE e = true
  · by_cases h1 : m.length ≤ 1048576
    · by_cases h2 : e.q.length = 64
      · exact enq_q e A B c d Am cm m W ht hH hm hv h1 h2
      · exact enq_ok e A B c d Am cm m W ht hH hm hv h1 h2
    · exact enq_m e A B c d Am cm m W ht hH hm hv (by omega)
  · exact enq_v e A B c d Am cm m W ht hH hm (by simpa using hv)
end Go.Proofs.Ythjkhambmgepdaa
