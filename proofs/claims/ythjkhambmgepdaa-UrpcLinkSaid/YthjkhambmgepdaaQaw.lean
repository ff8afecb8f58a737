/- Texts Mc, without what this claim does not use. -/
import Derived.Test.YthjkhambmgepdaaQau
namespace Go.Proofs.Ythjkhambmgepdaa
section
open Go.RowKit
set_option linter.unusedVariables false
def nxGo (e : LE) : Bool := decide (0 < e.q.length) && decide (0 < fr e.n e.s e.a)
def nxE (e : LE) : Int := if vE e = true then (if nxGo e = true then (if e.s = 4611686018427387904 then 15 else 0) else if e.rn / 2 ≤ e.rc - e.told then 0 else 17) else 74
def nxEnd (e : LE) : Bool := frS e == (frM e).length
def nxG (e : LE) : LE := { e with s := e.s + 1, off := if nxEnd e = true then -1 else (frS e : Int), q := if nxEnd e = true then e.q.tail else e.q, told := e.rc }
def nxA (e : LE) : LE := { e with told := e.rc }
def nxL (e : LE) : LE := if nxE e = 0 then (if nxGo e = true then nxG e else nxA e) else zeL
def nxD (e : LE) : Array Value := LV 1 (ep e.n e.s) (decide (e.off < 0)) (frP e).length (acN e.rn e.rc) (frP e ++ z56.drop (frP e).length)
def nxK (e : LE) : Array Value := LV 2 false false 0 (acN e.rn e.rc) z56
def nxV (e : LE) : Array Value := if nxE e = 0 then (if nxGo e = true then nxD e else nxK e) else ZL
def NxP (e : LE) (W : World) (en : Ending) (W' : World) : Prop := ∃ A c B d, en = .returned (.tuple #[.agg (LEV (nxL e) A c B d), .agg (nxV e), .int .i64 (nxE e)]) ∧ HeldI W' W.heap.size W'.heap.size (nxL e) A c B d ∧ Below W.heap.size W W'
theorem nx_no {e : LE} {E : Int} (h : nxE e = E) (hE : E ≠ 0) {W W' : World} (hb : Below W.heap.size W W') : NxP e W (.returned (.tuple #[.agg ZE, .agg ZL, .int .i64 E])) W' := by
  have h1 : nxL e = zeL := by unfold nxL; rw [h, if_neg hE]
  have h2 : nxV e = ZL := by unfold nxV; rw [h, if_neg hE]
  refine ⟨none, 0, none, 0, ?_, ?_, hb⟩
  · rw [h, h1, h2]; rfl
  · rw [h1]; exact ⟨Nat.le_refl _, fun _ _ => held_zero _⟩
theorem nx_ack {e : LE} (h : nxE e = 0) (hg : nxGo e = false) {W W' : World} {A B : Option Addr} {c d : Nat} (hH : HeldI W' W.heap.size W'.heap.size (nxA e) A c B d) (hb : Below W.heap.size W W') : NxP e W (.returned (.tuple #[.agg (LEV (nxA e) A c B d), .agg (nxK e), .int .i64 0])) W' := by
  have h1 : nxL e = nxA e := by unfold nxL; rw [h, hg]; rfl
  have h2 : nxV e = nxK e := by unfold nxV; rw [h, hg]; rfl
  refine ⟨A, c, B, d, ?_, ?_, hb⟩
  · rw [h, h1, h2]
  · rw [h1]; exact hH
theorem nx_go {e : LE} (h : nxE e = 0) (hg : nxGo e = true) {W W' : World} {A B : Option Addr} {c d : Nat} (hH : HeldI W' W.heap.size W'.heap.size (nxG e) A c B d) (hb : Below W.heap.size W W') : NxP e W (.returned (.tuple #[.agg (LEV (nxG e) A c B d), .agg (nxD e), .int .i64 0])) W' := by
  have h1 : nxL e = nxG e := by unfold nxL; rw [h, hg]; rfl
  have h2 : nxV e = nxD e := by unfold nxV; rw [h, hg]; rfl
  refine ⟨A, c, B, d, ?_, ?_, hb⟩
  · rw [h, h1, h2]
  · rw [h1]; exact hH
structure VE (e : LE) : Prop where
  vs : vs e.n e.s e.a = true
  ql : e.q.length ≤ 64
  qm : ∀ m ∈ e.q, m.length ≤ 1048576
  off : e.off = -1 ∨ (0 < e.q.length ∧ 52 ≤ e.off ∧ e.off < (frM e).length ∧ (e.off - 52) % 56 = 0)
  vr : vr e.rn e.rc = true
  told : e.told ≤ e.rc
  part : partOk e.want e.pt = true
  same : e.n = e.rn
theorem cutB_yes {k n : Int} (h : cutB k n = true) : 52 ≤ k ∧ k < n ∧ (k - 52) % 56 = 0 := by simpa [cutB, and_assoc] using h
theorem vE_yes {e : LE} (h : vE e = true) : VE e := by
  have hq := vE_q h
  simp only [vE, soundB, compB, Bool.and_eq_true, decide_eq_true_eq, beq_iff_eq] at h
  obtain ⟨⟨⟨⟨⟨h1, h2⟩, h3⟩, h4⟩, ⟨⟨h5, h6⟩, h7⟩⟩, h8⟩ := h
  refine ⟨h1, hq.1, hq.2, ?_, h5, h6, h7, h8⟩
  simp only [offOk, Bool.or_eq_true, beq_iff_eq, Bool.and_eq_true, decide_eq_true_eq] at h4
  rcases h4 with h4 | ⟨h4, h9⟩
  · exact .inl h4
  · have := cutB_yes h9
    exact .inr ⟨h4, this.1, this.2.1, this.2.2⟩
theorem frM_mem {e : LE} (h : 0 < e.q.length) : frM e ∈ e.q := by rw [frM_eq h]; exact List.getElem_mem h
theorem frP_len {e : LE} (h : VE e) (h0 : 0 < e.q.length) : (frP e).length ≤ 56 := by
  unfold frP
  split
  · rw [List.length_append, fixB_len, List.length_take]; omega
  · rw [List.length_take]; omega
theorem three_born (w : World) (t1 t2 t3 : TypeId) (cs1 cs2 cs3 : Array Value) : Row (((w.alloc (.cells cs1 t1)).alloc (.cells cs2 t2)).alloc (.cells cs3 t3)) w.heap.size t1 cs1 ∧ Row (((w.alloc (.cells cs1 t1)).alloc (.cells cs2 t2)).alloc (.cells cs3 t3)) (w.heap.size + 1) t2 cs2 ∧
    Row (((w.alloc (.cells cs1 t1)).alloc (.cells cs2 t2)).alloc (.cells cs3 t3)) (w.heap.size + 2) t3 cs3 ∧ Below w.heap.size w (((w.alloc (.cells cs1 t1)).alloc (.cells cs2 t2)).alloc (.cells cs3 t3)) := by
  have e1 : (w.alloc (.cells cs1 t1)).heap.size = w.heap.size + 1 := by simp
  have e2 : ((w.alloc (.cells cs1 t1)).alloc (.cells cs2 t2)).heap.size = w.heap.size + 2 := by simp
  refine ⟨((Row.born w t1 cs1).alloc _).alloc _, ?_, ?_, (((Below.refl _ _).alloc (Nat.le_refl _) _).alloc (by simp) _).alloc (by simp; omega) _⟩
  · have h := Row.born (w.alloc (.cells cs1 t1)) t2 cs2
    rw [e1] at h
    exact h.alloc _
  · have h := Row.born ((w.alloc (.cells cs1 t1)).alloc (.cells cs2 t2)) t3 cs3
    rwa [e2] at h
def NxS (W w0 : World) (gl ge : Nat) (L X : Array Value) (c : Nat) (us : Nat → Value) (w' : World) : Prop := Below W.heap.size W w' ∧ Keeps [40, 69] w0 w' ∧ Row w' gl 40 L ∧ (c = 0 → Row w' ge 69 ZE) ∧ (1 ≤ c → Row w' ge 69 X)
theorem NxS.below {W w0 w9 w' : World} {gl ge : Nat} {L X : Array Value} {c : Nat} {us : Nat → Value} (h : NxS W w0 gl ge L X c us w9) (hb : Below w9.heap.size w9 w') : NxS W w0 gl ge L X c us w' :=
  ⟨below_on h.1 hb, h.2.1.trans (Keeps.below hb), h.2.2.1.below hb h.2.2.1.lt, fun hc => (h.2.2.2.1 hc).below hb (h.2.2.2.1 hc).lt, fun hc => (h.2.2.2.2 hc).below hb (h.2.2.2.2 hc).lt⟩
theorem NxS.one {W w0 w9 w' : World} {gl ge : Nat} {L X : Array Value} {us : Nat → Value} (h : NxS W w0 gl ge L X 0 us w9) (u : Upd w9 w' ge) (r : Row w' ge 69 X) (hW : W.heap.size ≤ ge) (hne : gl ≠ ge) : NxS W w0 gl ge L X 1 us w' :=
  ⟨Upd.below h.1 u hW, h.2.1.trans (Keeps.upd u (h.2.2.2.1 rfl) (by simp)), h.2.2.1.upd u hne, fun h => by omega, fun _ => r⟩
theorem NxS.two {W w0 w9 w' : World} {gl ge : Nat} {L X : Array Value} {us : Nat → Value} (h : NxS W w0 gl ge L X 1 us w9) (u : Upd w9 w' gl) (r : Row w' gl 40 L) (hW : W.heap.size ≤ gl) (hne : gl ≠ ge) : NxS W w0 gl ge L X 2 us w' :=
  ⟨Upd.below h.1 u hW, h.2.1.trans (Keeps.upd u h.2.2.1 (by simp)), r, fun h => by omega, fun _ => (h.2.2.2.2 (by omega)).upd u (Ne.symm hne)⟩
def NxT (W w0 : World) (g gl g11 : Nat) (X0 X1 X2 L : Array Value) (c : Nat) (us : Nat → Value) (w' : World) : Prop :=
  Below W.heap.size W w' ∧ Keeps [40, 155] w0 w' ∧ Row w' g11 40 L ∧ (c = 0 → Row w' g 155 X0) ∧ (1 ≤ c → c ≤ 2 → Row w' g 155 X1) ∧ (3 ≤ c → Row w' g 155 X2) ∧ (c ≤ 1 → Row w' gl 40 ZL) ∧ (2 ≤ c → Row w' gl 40 L)
section
variable {W w0 w9 w' : World} {g gl g11 : Nat} {X0 X1 X2 L : Array Value} {us : Nat → Value}
theorem NxT.one (h : NxT W w0 g gl g11 X0 X1 X2 L 0 us w9) (u : Upd w9 w' g) (r : Row w' g 155 X1) (hW : W.heap.size ≤ g) (h1 : g11 ≠ g) (h2 : gl ≠ g) : NxT W w0 g gl g11 X0 X1 X2 L 1 us w' :=
  ⟨Upd.below h.1 u hW, h.2.1.trans (Keeps.upd u (h.2.2.2.1 rfl) (by simp)), h.2.2.1.upd u h1, fun h => by omega, fun _ _ => r, fun h => by omega, fun _ => (h.2.2.2.2.2.2.1 (by omega)).upd u h2, fun h => by omega⟩
theorem NxT.two (h : NxT W w0 g gl g11 X0 X1 X2 L 1 us w9) (u : Upd w9 w' gl) (r : Row w' gl 40 L) (hW : W.heap.size ≤ gl) (h1 : g11 ≠ gl) (h2 : g ≠ gl) : NxT W w0 g gl g11 X0 X1 X2 L 2 us w' :=
  ⟨Upd.below h.1 u hW, h.2.1.trans (Keeps.upd u (h.2.2.2.2.2.2.1 (by omega)) (by simp)), h.2.2.1.upd u h1, fun h => by omega, fun _ _ => (h.2.2.2.2.1 (by omega) (by omega)).upd u h2, fun h => by omega, fun h => by omega, fun _ => r⟩
theorem NxT.three (h : NxT W w0 g gl g11 X0 X1 X2 L 2 us w9) (u : Upd w9 w' g) (r : Row w' g 155 X2) (hW : W.heap.size ≤ g) (h1 : g11 ≠ g) (h2 : gl ≠ g) : NxT W w0 g gl g11 X0 X1 X2 L 3 us w' :=
  ⟨Upd.below h.1 u hW, h.2.1.trans (Keeps.upd u (h.2.2.2.2.1 (by omega) (by omega)) (by simp)), h.2.2.1.upd u h1, fun h => by omega, fun h => by omega, fun _ => r, fun h => by omega, fun _ => (h.2.2.2.2.2.2.2 (by omega)).upd u h2⟩
end
theorem step_put_mid {P : Program} {K : Act → World → Prop} {Q : Exit → Act → World → Prop} {a : Act} {w : World} {typ : TypeId} {pos : String} {after : Array Edge} {ty : TypeId} {x y : Operand} {g off : Nat} {t : TypeId} {pre cs post : List Value} {L : Array Value} (hrow : Row w g t (pre ++ cs ++ post).toArray) (ho : off = pre.length) (hs : cs.length = L.size) (hn : (P.info? ty).map (·.size) = some L.size)
    (h1 : L.all (·.oneCell') = true) (hx : a.eval x = .pointer (some ⟨g, off, none⟩)) (hy : a.eval y = .agg L) (h : ∀ w', Upd w w' g → Row w' g t (pre ++ L.toList ++ post).toArray → K a w') :
    Oper.wp P { dst := none, op := .store ty x y, type := typ, pos := pos, after := after, guard := none } a w K Q := by
  subst ho
  have ht : w.there g pre.length L.size := fun j hj => by
    refine ⟨?_, hrow.frozen _⟩
    rw [hrow.cell]
    simp; omega
  refine wp_store_mid (op := { dst := none, op := .store ty x y, type := typ, pos := pos, after := after, guard := none }) ty x y rfl g pre.length L hx hy ht hn h1 ?_
  exact h _ (Upd.setCells g _ w _) (Row.setCells (g := g) (t := t) L.toList w pre post cs hrow (by simpa using hs))
theorem IsM.tail {w : World} {b o n : Nat} {q : List (List UInt8)} (h : IsM w (some ⟨b, o, none⟩) n q) (hn : 0 < n) : IsM w (some ⟨b, o + 1, none⟩) (n - 1) q.tail := by
  obtain ⟨h1, h2⟩ := h
  refine ⟨by simp; omega, fun _ => ⟨b, o + 1, rfl, fun r hr => ?_⟩⟩
  obtain ⟨b', o', e, hc⟩ := h2 hn
  injection e with e
  injection e with e1 e2 e3
  subst e1 e2
  have hr' : r + 1 < q.length := by simp at hr; omega
  obtain ⟨A, C, x, y⟩ := hc (r + 1) hr'
  refine ⟨A, C, ?_⟩
  simp only [List.getElem_tail]
  rw [Nat.add_assoc, Nat.add_comm 1 r]
  exact ⟨x, y⟩
theorem vr_vl {n x : Int} (h : vr n x = true) : vl n = true := by simp [vr] at h; exact h.1
theorem bv_cells {w : World} {g : Nat} {e : LE} {Q R : Value} (h : Row w g 155 (BV e Q R)) :
    (w.cell? ⟨g, 0, none⟩ = some (.int .i64 e.n) ∧ w.cell? ⟨g, 1, none⟩ = some (.int .u64 e.s) ∧ w.cell? ⟨g, 2, none⟩ = some (.int .u64 e.a) ∧ w.cell? ⟨g, 3, none⟩ = some Q ∧ w.cell? ⟨g, 4, none⟩ = some (.int .i64 e.off)) ∧
    (w.cell? ⟨g, 5, none⟩ = some (.int .i64 e.rn) ∧ w.cell? ⟨g, 6, none⟩ = some (.int .u64 e.rc) ∧ w.cell? ⟨g, 7, none⟩ = some (.int .i64 e.want) ∧ w.cell? ⟨g, 8, none⟩ = some R ∧ w.cell? ⟨g, 9, none⟩ = some (.int .u64 e.told)) ∧ ∀ i, w.frozen? ⟨g, i, none⟩ = false :=
  ⟨⟨h.cell 0, h.cell 1, h.cell 2, h.cell 3, h.cell 4⟩, ⟨h.cell 5, h.cell 6, h.cell 7, h.cell 8, h.cell 9⟩, h.frozen⟩
set_option maxRecDepth 100000 in
set_option maxHeartbeats 8000000 in
theorem next_q0n (e : LE) (A B : Option Addr) (c d : Nat) (W : World) (ht : e.ty) (hH : Held W e A c B d) (hv : vE e = true) (hq0 : e.q.length = 0) (hc : e.rc - e.told < e.rn / 2) : Calls Try.prog 45 #[.agg (LEV e A c B d)] W (NxP e W) := by
  have hg0 : nxGo e = false := by simp [nxGo, hq0]
  have d0 : decide (0 < e.q.length) = false := decide_eq_false (by omega)
  have HE := Lib.hid (show nxE e = 17 by unfold nxE; rw [hv, hg0]; simp; omega)
  have HG := Lib.hid hg0
  clear hg0
  have hve := vE_yes hv
  have HV := Lib.hid hv
  clear hv
  have hql := hve.ql
  obtain ⟨r1, r2, r3, hB1⟩ := three_born W 69 69 40 (LEV e A c B d) ZE ZL
  go_enter Try.func45, Try.ntmps45
  go_upto_region 1 with (fail)
  change Code.wp _ _ _ _ (((W.alloc (.cells (LEV e A c B d) 69)).alloc (.cells ZE 69)).alloc (.cells ZL 40))
  generalize ((W.alloc (.cells (LEV e A c B d) 69)).alloc (.cells ZE 69)).alloc (.cells ZL 40) = w1 at *
  have hH1 := hH.below hB1
  go_upto_region 3 with (first | ((with_reducible refine wp_load_g ?_ r1.range Try.underlying69 rfl (lev_info _ _ _ _ _) ?_ ?_); rfl; rfl) | (go_at_call 101; (with_reducible refine (valid_is HV.out ht hH1).mono ?_); rintro en w2 ⟨rfl, hb⟩))
  have r1 := r1.below hb r1.lt
  have r2 := r2.below hb r2.lt
  have r3 := r3.below hb r3.lt
  have hB2 := hB1.trans (hb.mono hB1.size)
  clear hb hB1 hH1
  have r3lt := r3.lt
  have hH2 := hH.below hB2
  go_upto_region 4 with (first | ((with_reducible refine wp_load_g ?_ r1.range Try.underlying69 rfl (lev_info _ _ _ _ _) ?_ ?_); rfl; rfl) | (go_at_call 102; (with_reducible refine (open_any e _ _ _ _ _ ht hH2).mono ?_); rintro en w3 ⟨g, A1, c1, B1, dd1, vs, rfl, hWg, hr, hown, hq, hoB, hb⟩))
  have r2 := r2.below hb r2.lt
  have r3 := r3.below hb r3.lt
  have hB3 := hB2.trans (hb.mono hB2.size)
  have hWg' : W.heap.size + 2 < g := by have := r1.lt; have := hB2.size; have h3 : W.heap.size + 2 < w2.heap.size := r3lt; omega
  clear hb hH2 hB2 r1
  generalize w2.heap.size = base at *
  obtain ⟨-, ⟨c5, c6, -, -, -⟩, fz⟩ := bv_cells hr
  go_upto_region 6 with (go_at_call 38; refine (ack_any _ _ _).mono ?_; rintro en w6 ⟨rfl, hb⟩)
  have r2 := r2.below hb r2.lt
  have r3 := r3.below hb r3.lt
  have hr := hr.below hb hr.lt
  have hB6 := hB3.trans (hb.mono hB3.size)
  have hown := hown.below hb
  have hq := hq.keeps (ts := []) (Keeps.below hb) (by simp)
  have hoB := hoB.below hb
  clear hb hB3 c5 c6 fz
  have hlg := hr.lt
  obtain ⟨⟨c0, c1', c2, c3, c4⟩, ⟨c5, c6, c7, c8, c9⟩, fz⟩ := bv_cells hr
  go_upto_region 14 with (fail)
  clear c0 c1' c2 c3 c4 c5 c6 c7 c8 c9 fz
  have t0 := ht.t0
  have t1 := ht.t1
  have rc0 := ht.r0
  have rc1 := ht.r1
  have htold := hve.told
  have hrn := vl_range (vr_vl hve.vr)
  have hsub : IntKind.u64.wrap (e.rc - e.told) = e.rc - e.told := by rw [IntKind.wrap_u64]; omega
  have hquo : e.rn.tdiv 2 = e.rn / 2 := Int.tdiv_eq_ediv_of_nonneg (by omega)
  have hw2 : IntKind.u64.wrap (e.rn / 2) = e.rn / 2 := by rw [IntKind.wrap_u64]; omega
  have hw3 : IntKind.i64.wrap (e.rn / 2) = e.rn / 2 := by rw [IntKind.wrap_i64]; omega
  have dc : decide (e.rn / 2 ≤ e.rc - e.told) = false := by simp; omega
  have hr : Row w6.drew g 155 (BV e (.slice A1 e.q.length c1) (.slice B1 e.pt.length dd1)) := hr
  have r2 : Row w6.drew (W.heap.size + 1) 69 ZE := r2
  have r3 : Row w6.drew (W.heap.size + 2) 40 ZL := r3
  have hB6 : Below W.heap.size W w6.drew := hB6.drew
  have hown : OwnV w6.drew base 44 1 A1 e.q.length c1 vs := hown
  have hq : QV w6.drew base vs e.q := hq
  have hoB : OwnB w6.drew base 5 B1 e.pt.length dd1 e.pt := hoB
  obtain ⟨⟨c0, c1', c2, c3, c4⟩, ⟨c5, c6, c7, c8, c9⟩, fz⟩ := bv_cells hr
  refine wp_region_told (n := 148) (fun w' => w' = w6.drew) (fun _ _ => True) (by kernel_rfl) (by kernel_rfl) (by rfl) rfl ?_
  repeat (refine walk_pure (v := ?_) (fun _ => trivial) (fun _ => rfl) ?_ ?_; rotate_left; (focus (intro us w9 hS9 hF; subst hS9; clear hF; go_simp; (try with_reducible rfl); done)); simp only [Act.put, zA, zB, zC, Nat.reduceAdd])
  refine walk_done fun us w9 hS9 hF => ?_
  subst hS9
  clear hF
  go_wp2_with (first | ((with_reducible refine wp_row_store (L := ZE) r2 rfl ze_info ze_one ?_ ?_ ?_); rfl; rfl; intro w4 u4 r4) | ((with_reducible refine wp_row_store (L := ZL) (r3.upd u4 (by omega)) rfl zl_info zl_one ?_ ?_ ?_); rfl; rfl; intro w5 u5 r5))
  refine bodyPost_ret (results_cct rfl rfl rfl (r4.upd u5 (by omega)) r5 Try.underlying69 Try.underlying40 rfl rfl ze_info zl_info) rfl ?_
  exact nx_no HE.out (by decide) (Upd.below (Upd.below hB6 u4 (by omega)) u5 (by omega))
set_option maxRecDepth 100000 in
set_option maxHeartbeats 8000000 in
theorem next_q0y (e : LE) (A B : Option Addr) (c d : Nat) (W : World) (ht : e.ty) (hH : Held W e A c B d) (hv : vE e = true) (hq0 : e.q.length = 0) (hc : e.rn / 2 ≤ e.rc - e.told) : Calls Try.prog 45 #[.agg (LEV e A c B d)] W (NxP e W) := by
  have hg0 : nxGo e = false := by simp [nxGo, hq0]
  have d0 : decide (0 < e.q.length) = false := decide_eq_false (by omega)
  have HE := Lib.hid (show nxE e = 0 by unfold nxE; rw [hv, hg0]; simp; omega)
  have HG := Lib.hid hg0
  clear hg0
  have hve := vE_yes hv
  have HV := Lib.hid hv
  clear hv
  have hql := hve.ql
  obtain ⟨r1, r2, r3, hB1⟩ := three_born W 69 69 40 (LEV e A c B d) ZE ZL
  go_enter Try.func45, Try.ntmps45
  go_upto_region 1 with (fail)
  change Code.wp _ _ _ _ (((W.alloc (.cells (LEV e A c B d) 69)).alloc (.cells ZE 69)).alloc (.cells ZL 40))
  generalize ((W.alloc (.cells (LEV e A c B d) 69)).alloc (.cells ZE 69)).alloc (.cells ZL 40) = w1 at *
  have hH1 := hH.below hB1
  go_upto_region 3 with (first | ((with_reducible refine wp_load_g ?_ r1.range Try.underlying69 rfl (lev_info _ _ _ _ _) ?_ ?_); rfl; rfl) | (go_at_call 101; (with_reducible refine (valid_is HV.out ht hH1).mono ?_); rintro en w2 ⟨rfl, hb⟩))
  have r1 := r1.below hb r1.lt
  have r2 := r2.below hb r2.lt
  have r3 := r3.below hb r3.lt
  have hB2 := hB1.trans (hb.mono hB1.size)
  clear hb hB1 hH1
  have r3lt := r3.lt
  have hH2 := hH.below hB2
  go_upto_region 4 with (first | ((with_reducible refine wp_load_g ?_ r1.range Try.underlying69 rfl (lev_info _ _ _ _ _) ?_ ?_); rfl; rfl) | (go_at_call 102; (with_reducible refine (open_any e _ _ _ _ _ ht hH2).mono ?_); rintro en w3 ⟨g, A1, c1, B1, dd1, vs, rfl, hWg, hr, hown, hq, hoB, hb⟩))
  have r2 := r2.below hb r2.lt
  have r3 := r3.below hb r3.lt
  have hB3 := hB2.trans (hb.mono hB2.size)
  have hWg' : W.heap.size + 2 < g := by have := r1.lt; have := hB2.size; have h3 : W.heap.size + 2 < w2.heap.size := r3lt; omega
  clear hb hH2 hB2 r1
  generalize w2.heap.size = base at *
  obtain ⟨-, ⟨c5, c6, -, -, -⟩, fz⟩ := bv_cells hr
  go_upto_region 6 with (go_at_call 38; refine (ack_any _ _ _).mono ?_; rintro en w6 ⟨rfl, hb⟩)
  have r2 := r2.below hb r2.lt
  have r3 := r3.below hb r3.lt
  have hr := hr.below hb hr.lt
  have hB6 := hB3.trans (hb.mono hB3.size)
  have hown := hown.below hb
  have hq := hq.keeps (ts := []) (Keeps.below hb) (by simp)
  have hoB := hoB.below hb
  clear hb hB3 c5 c6 fz
  have hlg := hr.lt
  obtain ⟨⟨c0, c1', c2, c3, c4⟩, ⟨c5, c6, c7, c8, c9⟩, fz⟩ := bv_cells hr
  go_upto_region 14 with (fail)
  clear c0 c1' c2 c3 c4 c5 c6 c7 c8 c9 fz
  have t0 := ht.t0
  have t1 := ht.t1
  have rc0 := ht.r0
  have rc1 := ht.r1
  have htold := hve.told
  have hrn := vl_range (vr_vl hve.vr)
  have hsub : IntKind.u64.wrap (e.rc - e.told) = e.rc - e.told := by rw [IntKind.wrap_u64]; omega
  have hquo : e.rn.tdiv 2 = e.rn / 2 := Int.tdiv_eq_ediv_of_nonneg (by omega)
  have hw2 : IntKind.u64.wrap (e.rn / 2) = e.rn / 2 := by rw [IntKind.wrap_u64]; omega
  have hw3 : IntKind.i64.wrap (e.rn / 2) = e.rn / 2 := by rw [IntKind.wrap_i64]; omega
  have dc : decide (e.rn / 2 ≤ e.rc - e.told) = true := by simp; omega
  have hr : Row w6.drew g 155 (BV e (.slice A1 e.q.length c1) (.slice B1 e.pt.length dd1)) := hr
  have r2 : Row w6.drew (W.heap.size + 1) 69 ZE := r2
  have r3 : Row w6.drew (W.heap.size + 2) 40 ZL := r3
  have hB6 : Below W.heap.size W w6.drew := hB6.drew
  have hown : OwnV w6.drew base 44 1 A1 e.q.length c1 vs := hown
  have hq : QV w6.drew base vs e.q := hq
  have hoB : OwnB w6.drew base 5 B1 e.pt.length dd1 e.pt := hoB
  obtain ⟨⟨c0, c1', c2, c3, c4⟩, ⟨c5, c6, c7, c8, c9⟩, fz⟩ := bv_cells hr
  refine wp_region_told (n := 148) (fun w' => w' = w6.drew) (fun _ _ => True) (by kernel_rfl) (by kernel_rfl) (by rfl) rfl ?_
  repeat (refine walk_pure (v := ?_) (fun _ => trivial) (fun _ => rfl) ?_ ?_; rotate_left; (focus (intro us w9 hS9 hF; subst hS9; clear hF; go_simp; (try with_reducible rfl); done)); simp only [Act.put, zA, zB, zC, Nat.reduceAdd])
  refine walk_done fun us w9 hS9 hF => ?_
  subst hS9
  clear hF
  clear c0 c1' c2 c3 c4 c7 c8 hsub hquo hw2 hw3 dc t0 t1 rc0 rc1 hrn
  obtain ⟨ack, hack⟩ : ∃ ack, acN e.rn e.rc = ack := ⟨_, rfl⟩
  have hKe := Lib.hid (show nxK e = LV 2 false false 0 ack z56 by unfold nxK; rw [hack])
  rw [hack]
  clear hack
  go_upto_region 16 with ((with_reducible refine wp_row_store (L := LV 2 false false 0 ack z56) r3 rfl (line_info _ _ _ _ _ z56_len) (LV_one _ _ _ _ _ _) ?_ ?_ ?_); rfl; rfl; intro wa ua r3')
  clear c5 c6 c9
  have hka : Keeps [40] w6.drew wa := Keeps.upd ua r3 (by simp)
  have hr := hka.row hr (by decide)
  have r2 := hka.row r2 (by decide)
  have hBa := Upd.below hB6 ua (by omega)
  have hown := hown.keeps hka (by decide)
  have hq := hq.keeps hka (by decide)
  have hoB := hoB.keeps hka (by decide)
  clear r3 ua hka hB6
  obtain ⟨⟨c0, c1', c2, c3, c4⟩, ⟨c5, c6, c7, c8, c9⟩, fz⟩ := bv_cells hr
  go_upto_region 17 with (fail)
  have hkb : Keeps [155] wa (wa.setCell ⟨g, 9, none⟩ (.int .u64 e.rc)) := Keeps.upd (Upd.setCell wa g 9 (.int .u64 e.rc)) hr (by simp)
  have hr9 := hr.set 9 (.int .u64 e.rc)
  have r2 := hkb.row r2 (by decide)
  have r3 := hkb.row r3' (by decide)
  have hBb := Upd.below hBa (Upd.setCell wa g 9 (.int .u64 e.rc)) (by omega)
  have hown := hown.keeps hkb (by decide)
  have hq := hq.keeps hkb (by decide)
  have hoB := hoB.keeps hkb (by decide)
  generalize wa.setCell ⟨g, 9, none⟩ (.int .u64 e.rc) = wb at *
  clear c0 c1' c2 c3 c4 c5 c6 c7 c8 c9 fz hr r3' hkb hBa
  obtain ⟨e', he'⟩ : ∃ e', nxA e = e' := ⟨_, rfl⟩
  have hr : Row wb g 155 (LBV e' A1 c1 B1 dd1) := by
    rw [← he']
    exact hr9
  have HP := Lib.hid he'
  clear he' hr9
  have hLi := line_info 2 false false 0 ack z56_len
  have hL1 := LV_one 2 false false 0 ack z56
  obtain ⟨w0, hw0⟩ : ∃ w0, wb.drew = w0 := ⟨_, rfl⟩
  have hr : Row wb.drew g 155 (LBV e' A1 c1 B1 dd1) := hr
  have r2 : Row wb.drew (W.heap.size + 1) 69 ZE := r2
  have r3 : Row wb.drew (W.heap.size + 2) 40 (LV 2 false false 0 ack z56) := r3
  have hBb : Below W.heap.size W wb.drew := hBb.drew
  have hown : OwnV wb.drew base 44 1 A1 e.q.length c1 vs := hown
  have hq : QV wb.drew base vs e.q := hq
  have hoB : OwnB wb.drew base 5 B1 e.pt.length dd1 e.pt := hoB
  refine wp_region_late (n := 148) [3, 4] (NxS W wb.drew (W.heap.size + 2) (W.heap.size + 1) (LV 2 false false 0 ack z56) (LEV e' A1 c1 B1 dd1)) (fun _ _ => True) (by kernel_rfl) (by kernel_rfl) (by rfl) (fun _ _ _ _ _ h => h) ⟨hBb, Keeps.refl _ _, r3, fun _ => r2, fun h => by omega⟩ ?_
  refine late_pure (by simp) (fun _ => trivial) (v := ?_) (fun _ => rfl) ?_ ?_; rotate_left; (focus (intro c9 us w9 hm9 hS9 hF; clear hF hm9; go_simp; (try with_reducible rfl); done)); simp only [Act.put, zA, zB, zC, Nat.reduceAdd]
  refine late_fix (by simp) (v := .agg (LEV e' A1 c1 B1 dd1)) ?_ ?_; (focus (intro c9 us w9 hm9 hS9 hF K hK; clear hF; go_simp; refine (end_any g e' _ _ _ _ _ (hS9.2.1.row hr (by decide))).mono ?_; rintro en w' ⟨rfl, hb⟩; exact hK w' (hS9.below hb) trivial)); simp only [Act.put, zA, zB, zC, Nat.reduceAdd]
  refine late_pure (by simp) (fun _ => trivial) (v := .agg (LV 2 false false 0 ack z56)) (fun _ => rfl) ?_ ?_; (focus (intro c9 us w9 hm9 hS9 hF; exact exec_load_g hS9.2.2.1.range Try.underlying40 rfl hLi rfl)); simp only [Act.put, zA, zB, zC, Nat.reduceAdd]
  refine late_store rfl ?_ ?_; (focus (intro us w9 hS9 hF K hK; clear hF; rw [if_pos (by rfl)]; exact step_put (L := LEV e' A1 c1 B1 dd1) (hS9.2.2.2.1 rfl) rfl (lev_info _ _ _ _ _) (lev_one _ _ _ _ _) rfl rfl (fun w' u' r' => hK w' (hS9.one u' r' (by omega) (by omega)) trivial))); simp only [Nat.reduceAdd]
  refine late_store rfl ?_ ?_; (focus (intro us w9 hS9 hF K hK; clear hF; rw [if_pos (by rfl)]; exact step_put (L := LV 2 false false 0 ack z56) hS9.2.2.1 rfl hLi hL1 rfl rfl (fun w' u' r' => hK w' (hS9.two u' r' (by omega) (by omega)) trivial))); simp only [Nat.reduceAdd]
  refine late_pure (by simp) (fun _ => trivial) (v := ?_) (fun _ => rfl) ?_ ?_; rotate_left; (focus (intro c9 us w9 hm9 hS9 hF; clear hF hm9; go_simp; (try with_reducible rfl); done)); simp only [Act.put, zA, zB, zC, Nat.reduceAdd]
  refine late_done fun us8 w8 hS8 hF => ?_
  have rr3 := hS8.2.2.1
  have rr2 := hS8.2.2.2.2 (by omega)
  have hB8 := hS8.1
  have hk := hS8.2.1
  clear hF hS8
  go_wp2
  refine bodyPost_ret (results_cct rfl rfl rfl rr2 rr3 Try.underlying69 Try.underlying40 rfl rfl (lev_info _ _ _ _ _) hLi) rfl ?_
  have hWb : W.heap.size ≤ base := by omega
  have h' := HP.out
  subst h'
  have hf := nx_ack HE.out HG.out (A := A1) (B := B1) (c := c1) (d := dd1) ⟨Nat.le_refl _, fun w' hw' => ⟨isM_of ((hown.keeps hk (by decide)).stay hWb hw') ((hq.keeps hk (by decide)).stay hWb hw') (fun x hx => by have := hve.qm x hx; omega), hown.cap, ((hoB.keeps hk (by decide)).stay hWb hw').isB, hoB.capM⟩⟩ hB8
  rw [hKe.out] at hf
  exact hf
set_option maxRecDepth 100000 in
set_option maxHeartbeats 8000000 in
theorem next_f0n (e : LE) (A B : Option Addr) (c d : Nat) (W : World) (ht : e.ty) (hH : Held W e A c B d) (hv : vE e = true) (hq0 : 0 < e.q.length) (hf0 : fr e.n e.s e.a ≤ 0) (hc : e.rc - e.told < e.rn / 2) : Calls Try.prog 45 #[.agg (LEV e A c B d)] W (NxP e W) := by
  have hg0 : nxGo e = false := by unfold nxGo; rw [decide_eq_false (by omega : ¬ 0 < fr e.n e.s e.a)]; simp
  have d0 : decide (0 < e.q.length) = true := decide_eq_true hq0
  have d1 : decide (0 < fr e.n e.s e.a) = false := decide_eq_false (by omega)
  have HE := Lib.hid (show nxE e = 17 by unfold nxE; rw [hv, hg0]; simp; omega)
  have HG := Lib.hid hg0
  clear hg0
  have hve := vE_yes hv
  have HV := Lib.hid hv
  clear hv
  have hql := hve.ql
  obtain ⟨r1, r2, r3, hB1⟩ := three_born W 69 69 40 (LEV e A c B d) ZE ZL
  go_enter Try.func45, Try.ntmps45
  go_upto_region 1 with (fail)
  change Code.wp _ _ _ _ (((W.alloc (.cells (LEV e A c B d) 69)).alloc (.cells ZE 69)).alloc (.cells ZL 40))
  generalize ((W.alloc (.cells (LEV e A c B d) 69)).alloc (.cells ZE 69)).alloc (.cells ZL 40) = w1 at *
  have hH1 := hH.below hB1
  go_upto_region 3 with (first | ((with_reducible refine wp_load_g ?_ r1.range Try.underlying69 rfl (lev_info _ _ _ _ _) ?_ ?_); rfl; rfl) | (go_at_call 101; (with_reducible refine (valid_is HV.out ht hH1).mono ?_); rintro en w2 ⟨rfl, hb⟩))
  have r1 := r1.below hb r1.lt
  have r2 := r2.below hb r2.lt
  have r3 := r3.below hb r3.lt
  have hB2 := hB1.trans (hb.mono hB1.size)
  clear hb hB1 hH1
  have r3lt := r3.lt
  have hH2 := hH.below hB2
  go_upto_region 4 with (first | ((with_reducible refine wp_load_g ?_ r1.range Try.underlying69 rfl (lev_info _ _ _ _ _) ?_ ?_); rfl; rfl) | (go_at_call 102; (with_reducible refine (open_any e _ _ _ _ _ ht hH2).mono ?_); rintro en w3 ⟨g, A1, c1, B1, dd1, vs, rfl, hWg, hr, hown, hq, hoB, hb⟩))
  have r2 := r2.below hb r2.lt
  have r3 := r3.below hb r3.lt
  have hB3 := hB2.trans (hb.mono hB2.size)
  have hWg' : W.heap.size + 2 < g := by have := r1.lt; have := hB2.size; have h3 : W.heap.size + 2 < w2.heap.size := r3lt; omega
  clear hb hH2 hB2 r1
  generalize w2.heap.size = base at *
  obtain ⟨-, ⟨c5, c6, -, -, -⟩, fz⟩ := bv_cells hr
  go_upto_region 6 with (go_at_call 38; refine (ack_any _ _ _).mono ?_; rintro en w6 ⟨rfl, hb⟩)
  have r2 := r2.below hb r2.lt
  have r3 := r3.below hb r3.lt
  have hr := hr.below hb hr.lt
  have hB6 := hB3.trans (hb.mono hB3.size)
  have hown := hown.below hb
  have hq := hq.keeps (ts := []) (Keeps.below hb) (by simp)
  have hoB := hoB.below hb
  clear hb hB3 c5 c6 fz
  have hlg := hr.lt
  obtain ⟨⟨c0, c1', c2, c3, c4⟩, ⟨c5, c6, c7, c8, c9⟩, fz⟩ := bv_cells hr
  go_upto_region 14 with (go_at_call 22; refine (free _ _ _ ht.s0 ht.s1 ht.a0 _).mono ?_; rintro en w7 ⟨rfl, hb⟩)
  clear c0 c1' c2 c3 c4 c5 c6 c7 c8 c9 fz
  have r2 := r2.below hb r2.lt
  have r3 := r3.below hb r3.lt
  have hr := hr.below hb hr.lt
  have hB6 := hB6.trans (hb.mono hB6.size)
  have hown := hown.below hb
  have hq := hq.keeps (ts := []) (Keeps.below hb) (by simp)
  have hoB := hoB.below hb
  clear hb
  have t0 := ht.t0
  have t1 := ht.t1
  have rc0 := ht.r0
  have rc1 := ht.r1
  have htold := hve.told
  have hrn := vl_range (vr_vl hve.vr)
  have hsub : IntKind.u64.wrap (e.rc - e.told) = e.rc - e.told := by rw [IntKind.wrap_u64]; omega
  have hquo : e.rn.tdiv 2 = e.rn / 2 := Int.tdiv_eq_ediv_of_nonneg (by omega)
  have hw2 : IntKind.u64.wrap (e.rn / 2) = e.rn / 2 := by rw [IntKind.wrap_u64]; omega
  have hw3 : IntKind.i64.wrap (e.rn / 2) = e.rn / 2 := by rw [IntKind.wrap_i64]; omega
  have dc : decide (e.rn / 2 ≤ e.rc - e.told) = false := by simp; omega
  have hr : Row w7.drew g 155 (BV e (.slice A1 e.q.length c1) (.slice B1 e.pt.length dd1)) := hr
  have r2 : Row w7.drew (W.heap.size + 1) 69 ZE := r2
  have r3 : Row w7.drew (W.heap.size + 2) 40 ZL := r3
  have hB6 : Below W.heap.size W w7.drew := hB6.drew
  have hown : OwnV w7.drew base 44 1 A1 e.q.length c1 vs := hown
  have hq : QV w7.drew base vs e.q := hq
  have hoB : OwnB w7.drew base 5 B1 e.pt.length dd1 e.pt := hoB
  obtain ⟨⟨c0, c1', c2, c3, c4⟩, ⟨c5, c6, c7, c8, c9⟩, fz⟩ := bv_cells hr
  refine wp_region_told (n := 148) (fun w' => w' = w7.drew) (fun _ _ => True) (by kernel_rfl) (by kernel_rfl) (by rfl) rfl ?_
  repeat (refine walk_pure (v := ?_) (fun _ => trivial) (fun _ => rfl) ?_ ?_; rotate_left; (focus (intro us w9 hS9 hF; subst hS9; clear hF; go_simp; (try with_reducible rfl); done)); simp only [Act.put, zA, zB, zC, Nat.reduceAdd])
  refine walk_done fun us w9 hS9 hF => ?_
  subst hS9
  clear hF
  go_wp2_with (first | ((with_reducible refine wp_row_store (L := ZE) r2 rfl ze_info ze_one ?_ ?_ ?_); rfl; rfl; intro w4 u4 r4) | ((with_reducible refine wp_row_store (L := ZL) (r3.upd u4 (by omega)) rfl zl_info zl_one ?_ ?_ ?_); rfl; rfl; intro w5 u5 r5))
  refine bodyPost_ret (results_cct rfl rfl rfl (r4.upd u5 (by omega)) r5 Try.underlying69 Try.underlying40 rfl rfl ze_info zl_info) rfl ?_
  exact nx_no HE.out (by decide) (Upd.below (Upd.below hB6 u4 (by omega)) u5 (by omega))
set_option maxRecDepth 100000 in
set_option maxHeartbeats 8000000 in
theorem next_f0y (e : LE) (A B : Option Addr) (c d : Nat) (W : World) (ht : e.ty) (hH : Held W e A c B d) (hv : vE e = true) (hq0 : 0 < e.q.length) (hf0 : fr e.n e.s e.a ≤ 0) (hc : e.rn / 2 ≤ e.rc - e.told) : Calls Try.prog 45 #[.agg (LEV e A c B d)] W (NxP e W) := by
  have hg0 : nxGo e = false := by unfold nxGo; rw [decide_eq_false (by omega : ¬ 0 < fr e.n e.s e.a)]; simp
  have d0 : decide (0 < e.q.length) = true := decide_eq_true hq0
  have d1 : decide (0 < fr e.n e.s e.a) = false := decide_eq_false (by omega)
  have HE := Lib.hid (show nxE e = 0 by unfold nxE; rw [hv, hg0]; simp; omega)
  have HG := Lib.hid hg0
  clear hg0
  have hve := vE_yes hv
  have HV := Lib.hid hv
  clear hv
  have hql := hve.ql
  obtain ⟨r1, r2, r3, hB1⟩ := three_born W 69 69 40 (LEV e A c B d) ZE ZL
  go_enter Try.func45, Try.ntmps45
  go_upto_region 1 with (fail)
  change Code.wp _ _ _ _ (((W.alloc (.cells (LEV e A c B d) 69)).alloc (.cells ZE 69)).alloc (.cells ZL 40))
  generalize ((W.alloc (.cells (LEV e A c B d) 69)).alloc (.cells ZE 69)).alloc (.cells ZL 40) = w1 at *
  have hH1 := hH.below hB1
  go_upto_region 3 with (first | ((with_reducible refine wp_load_g ?_ r1.range Try.underlying69 rfl (lev_info _ _ _ _ _) ?_ ?_); rfl; rfl) | (go_at_call 101; (with_reducible refine (valid_is HV.out ht hH1).mono ?_); rintro en w2 ⟨rfl, hb⟩))
  have r1 := r1.below hb r1.lt
  have r2 := r2.below hb r2.lt
  have r3 := r3.below hb r3.lt
  have hB2 := hB1.trans (hb.mono hB1.size)
  clear hb hB1 hH1
  have r3lt := r3.lt
  have hH2 := hH.below hB2
  go_upto_region 4 with (first | ((with_reducible refine wp_load_g ?_ r1.range Try.underlying69 rfl (lev_info _ _ _ _ _) ?_ ?_); rfl; rfl) | (go_at_call 102; (with_reducible refine (open_any e _ _ _ _ _ ht hH2).mono ?_); rintro en w3 ⟨g, A1, c1, B1, dd1, vs, rfl, hWg, hr, hown, hq, hoB, hb⟩))
  have r2 := r2.below hb r2.lt
  have r3 := r3.below hb r3.lt
  have hB3 := hB2.trans (hb.mono hB2.size)
  have hWg' : W.heap.size + 2 < g := by have := r1.lt; have := hB2.size; have h3 : W.heap.size + 2 < w2.heap.size := r3lt; omega
  clear hb hH2 hB2 r1
  generalize w2.heap.size = base at *
  obtain ⟨-, ⟨c5, c6, -, -, -⟩, fz⟩ := bv_cells hr
  go_upto_region 6 with (go_at_call 38; refine (ack_any _ _ _).mono ?_; rintro en w6 ⟨rfl, hb⟩)
  have r2 := r2.below hb r2.lt
  have r3 := r3.below hb r3.lt
  have hr := hr.below hb hr.lt
  have hB6 := hB3.trans (hb.mono hB3.size)
  have hown := hown.below hb
  have hq := hq.keeps (ts := []) (Keeps.below hb) (by simp)
  have hoB := hoB.below hb
  clear hb hB3 c5 c6 fz
  have hlg := hr.lt
  obtain ⟨⟨c0, c1', c2, c3, c4⟩, ⟨c5, c6, c7, c8, c9⟩, fz⟩ := bv_cells hr
  go_upto_region 14 with (go_at_call 22; refine (free _ _ _ ht.s0 ht.s1 ht.a0 _).mono ?_; rintro en w7 ⟨rfl, hb⟩)
  clear c0 c1' c2 c3 c4 c5 c6 c7 c8 c9 fz
  have r2 := r2.below hb r2.lt
  have r3 := r3.below hb r3.lt
  have hr := hr.below hb hr.lt
  have hB6 := hB6.trans (hb.mono hB6.size)
  have hown := hown.below hb
  have hq := hq.keeps (ts := []) (Keeps.below hb) (by simp)
  have hoB := hoB.below hb
  clear hb
  have t0 := ht.t0
  have t1 := ht.t1
  have rc0 := ht.r0
  have rc1 := ht.r1
  have htold := hve.told
  have hrn := vl_range (vr_vl hve.vr)
  have hsub : IntKind.u64.wrap (e.rc - e.told) = e.rc - e.told := by rw [IntKind.wrap_u64]; omega
  have hquo : e.rn.tdiv 2 = e.rn / 2 := Int.tdiv_eq_ediv_of_nonneg (by omega)
  have hw2 : IntKind.u64.wrap (e.rn / 2) = e.rn / 2 := by rw [IntKind.wrap_u64]; omega
  have hw3 : IntKind.i64.wrap (e.rn / 2) = e.rn / 2 := by rw [IntKind.wrap_i64]; omega
  have dc : decide (e.rn / 2 ≤ e.rc - e.told) = true := by simp; omega
  have hr : Row w7.drew g 155 (BV e (.slice A1 e.q.length c1) (.slice B1 e.pt.length dd1)) := hr
  have r2 : Row w7.drew (W.heap.size + 1) 69 ZE := r2
  have r3 : Row w7.drew (W.heap.size + 2) 40 ZL := r3
  have hB6 : Below W.heap.size W w7.drew := hB6.drew
  have hown : OwnV w7.drew base 44 1 A1 e.q.length c1 vs := hown
  have hq : QV w7.drew base vs e.q := hq
  have hoB : OwnB w7.drew base 5 B1 e.pt.length dd1 e.pt := hoB
  obtain ⟨⟨c0, c1', c2, c3, c4⟩, ⟨c5, c6, c7, c8, c9⟩, fz⟩ := bv_cells hr
  refine wp_region_told (n := 148) (fun w' => w' = w7.drew) (fun _ _ => True) (by kernel_rfl) (by kernel_rfl) (by rfl) rfl ?_
  repeat (refine walk_pure (v := ?_) (fun _ => trivial) (fun _ => rfl) ?_ ?_; rotate_left; (focus (intro us w9 hS9 hF; subst hS9; clear hF; go_simp; (try with_reducible rfl); done)); simp only [Act.put, zA, zB, zC, Nat.reduceAdd])
  refine walk_done fun us w9 hS9 hF => ?_
  subst hS9
  clear hF
  clear c0 c1' c2 c3 c4 c7 c8 hsub hquo hw2 hw3 dc t0 t1 rc0 rc1 hrn
  obtain ⟨ack, hack⟩ : ∃ ack, acN e.rn e.rc = ack := ⟨_, rfl⟩
  have hKe := Lib.hid (show nxK e = LV 2 false false 0 ack z56 by unfold nxK; rw [hack])
  rw [hack]
  clear hack
  go_upto_region 16 with ((with_reducible refine wp_row_store (L := LV 2 false false 0 ack z56) r3 rfl (line_info _ _ _ _ _ z56_len) (LV_one _ _ _ _ _ _) ?_ ?_ ?_); rfl; rfl; intro wa ua r3')
  clear c5 c6 c9
  have hka : Keeps [40] w7.drew wa := Keeps.upd ua r3 (by simp)
  have hr := hka.row hr (by decide)
  have r2 := hka.row r2 (by decide)
  have hBa := Upd.below hB6 ua (by omega)
  have hown := hown.keeps hka (by decide)
  have hq := hq.keeps hka (by decide)
  have hoB := hoB.keeps hka (by decide)
  clear r3 ua hka hB6
  obtain ⟨⟨c0, c1', c2, c3, c4⟩, ⟨c5, c6, c7, c8, c9⟩, fz⟩ := bv_cells hr
  go_upto_region 17 with (fail)
  have hkb : Keeps [155] wa (wa.setCell ⟨g, 9, none⟩ (.int .u64 e.rc)) := Keeps.upd (Upd.setCell wa g 9 (.int .u64 e.rc)) hr (by simp)
  have hr9 := hr.set 9 (.int .u64 e.rc)
  have r2 := hkb.row r2 (by decide)
  have r3 := hkb.row r3' (by decide)
  have hBb := Upd.below hBa (Upd.setCell wa g 9 (.int .u64 e.rc)) (by omega)
  have hown := hown.keeps hkb (by decide)
  have hq := hq.keeps hkb (by decide)
  have hoB := hoB.keeps hkb (by decide)
  generalize wa.setCell ⟨g, 9, none⟩ (.int .u64 e.rc) = wb at *
  clear c0 c1' c2 c3 c4 c5 c6 c7 c8 c9 fz hr r3' hkb hBa
  obtain ⟨e', he'⟩ : ∃ e', nxA e = e' := ⟨_, rfl⟩
  have hr : Row wb g 155 (LBV e' A1 c1 B1 dd1) := by
    rw [← he']
    exact hr9
  have HP := Lib.hid he'
  clear he' hr9
  have hLi := line_info 2 false false 0 ack z56_len
  have hL1 := LV_one 2 false false 0 ack z56
  obtain ⟨w0, hw0⟩ : ∃ w0, wb.drew = w0 := ⟨_, rfl⟩
  have hr : Row wb.drew g 155 (LBV e' A1 c1 B1 dd1) := hr
  have r2 : Row wb.drew (W.heap.size + 1) 69 ZE := r2
  have r3 : Row wb.drew (W.heap.size + 2) 40 (LV 2 false false 0 ack z56) := r3
  have hBb : Below W.heap.size W wb.drew := hBb.drew
  have hown : OwnV wb.drew base 44 1 A1 e.q.length c1 vs := hown
  have hq : QV wb.drew base vs e.q := hq
  have hoB : OwnB wb.drew base 5 B1 e.pt.length dd1 e.pt := hoB
  refine wp_region_late (n := 148) [3, 4] (NxS W wb.drew (W.heap.size + 2) (W.heap.size + 1) (LV 2 false false 0 ack z56) (LEV e' A1 c1 B1 dd1)) (fun _ _ => True) (by kernel_rfl) (by kernel_rfl) (by rfl) (fun _ _ _ _ _ h => h) ⟨hBb, Keeps.refl _ _, r3, fun _ => r2, fun h => by omega⟩ ?_
  refine late_pure (by simp) (fun _ => trivial) (v := ?_) (fun _ => rfl) ?_ ?_; rotate_left; (focus (intro c9 us w9 hm9 hS9 hF; clear hF hm9; go_simp; (try with_reducible rfl); done)); simp only [Act.put, zA, zB, zC, Nat.reduceAdd]
  refine late_fix (by simp) (v := .agg (LEV e' A1 c1 B1 dd1)) ?_ ?_; (focus (intro c9 us w9 hm9 hS9 hF K hK; clear hF; go_simp; refine (end_any g e' _ _ _ _ _ (hS9.2.1.row hr (by decide))).mono ?_; rintro en w' ⟨rfl, hb⟩; exact hK w' (hS9.below hb) trivial)); simp only [Act.put, zA, zB, zC, Nat.reduceAdd]
  refine late_pure (by simp) (fun _ => trivial) (v := .agg (LV 2 false false 0 ack z56)) (fun _ => rfl) ?_ ?_; (focus (intro c9 us w9 hm9 hS9 hF; exact exec_load_g hS9.2.2.1.range Try.underlying40 rfl hLi rfl)); simp only [Act.put, zA, zB, zC, Nat.reduceAdd]
  refine late_store rfl ?_ ?_; (focus (intro us w9 hS9 hF K hK; clear hF; rw [if_pos (by rfl)]; exact step_put (L := LEV e' A1 c1 B1 dd1) (hS9.2.2.2.1 rfl) rfl (lev_info _ _ _ _ _) (lev_one _ _ _ _ _) rfl rfl (fun w' u' r' => hK w' (hS9.one u' r' (by omega) (by omega)) trivial))); simp only [Nat.reduceAdd]
  refine late_store rfl ?_ ?_; (focus (intro us w9 hS9 hF K hK; clear hF; rw [if_pos (by rfl)]; exact step_put (L := LV 2 false false 0 ack z56) hS9.2.2.1 rfl hLi hL1 rfl rfl (fun w' u' r' => hK w' (hS9.two u' r' (by omega) (by omega)) trivial))); simp only [Nat.reduceAdd]
  refine late_pure (by simp) (fun _ => trivial) (v := ?_) (fun _ => rfl) ?_ ?_; rotate_left; (focus (intro c9 us w9 hm9 hS9 hF; clear hF hm9; go_simp; (try with_reducible rfl); done)); simp only [Act.put, zA, zB, zC, Nat.reduceAdd]
  refine late_done fun us8 w8 hS8 hF => ?_
  have rr3 := hS8.2.2.1
  have rr2 := hS8.2.2.2.2 (by omega)
  have hB8 := hS8.1
  have hk := hS8.2.1
  clear hF hS8
  go_wp2
  refine bodyPost_ret (results_cct rfl rfl rfl rr2 rr3 Try.underlying69 Try.underlying40 rfl rfl (lev_info _ _ _ _ _) hLi) rfl ?_
  have hWb : W.heap.size ≤ base := by omega
  have h' := HP.out
  subst h'
  have hf := nx_ack HE.out HG.out (A := A1) (B := B1) (c := c1) (d := dd1) ⟨Nat.le_refl _, fun w' hw' => ⟨isM_of ((hown.keeps hk (by decide)).stay hWb hw') ((hq.keeps hk (by decide)).stay hWb hw') (fun x hx => by have := hve.qm x hx; omega), hown.cap, ((hoB.keeps hk (by decide)).stay hWb hw').isB, hoB.capM⟩⟩ hB8
  rw [hKe.out] at hf
  exact hf
def BW (n s a : Int) (Q : Value) (off rn rc want : Int) (R : Value) (told : Int) : Array Value := #[.int .i64 n, .int .u64 s, .int .u64 a, Q, .int .i64 off, .int .i64 rn, .int .u64 rc, .int .i64 want, R, .int .u64 told]
theorem bw_cells {w : World} {g : Nat} {n s a off rn rc want told : Int} {Q R : Value} (h : Row w g 155 (BW n s a Q off rn rc want R told)) :
    (w.cell? ⟨g, 0, none⟩ = some (.int .i64 n) ∧ w.cell? ⟨g, 1, none⟩ = some (.int .u64 s) ∧ w.cell? ⟨g, 2, none⟩ = some (.int .u64 a) ∧ w.cell? ⟨g, 3, none⟩ = some Q ∧ w.cell? ⟨g, 4, none⟩ = some (.int .i64 off)) ∧
    (w.cell? ⟨g, 5, none⟩ = some (.int .i64 rn) ∧ w.cell? ⟨g, 6, none⟩ = some (.int .u64 rc) ∧ w.cell? ⟨g, 7, none⟩ = some (.int .i64 want) ∧ w.cell? ⟨g, 8, none⟩ = some R ∧ w.cell? ⟨g, 9, none⟩ = some (.int .u64 told)) ∧ ∀ i, w.frozen? ⟨g, i, none⟩ = false :=
  ⟨⟨h.cell 0, h.cell 1, h.cell 2, h.cell 3, h.cell 4⟩, ⟨h.cell 5, h.cell 6, h.cell 7, h.cell 8, h.cell 9⟩, h.frozen⟩
theorem sd_is {e : LE} (hve : VE e) (h0 : 0 < e.q.length) (hf : 0 < fr e.n e.s e.a) : sdE e.n e.s e.a (frP e).length = if e.s = 4611686018427387904 then 15 else 0 := by
  have h1 := frP_len hve h0
  unfold sdE
  rw [if_pos hve.vs, if_neg (by omega), if_neg (by omega)]
def SnC (e : LE) (x1 x2 x3 I : Int) (L : Array Value) (E : Int) : Prop := ∀ (w : World) (A : Option Addr) (c : Nat), IsB w A (frP e).length (frP e) → Calls Try.prog 25 #[.agg #[.int .i64 e.n, .int .u64 e.s, .int .u64 e.a], .slice A (frP e).length c, .bool (decide (e.off < 0)), .int .u16 (acN e.rn e.rc)] w
  (fun en w' => en = .returned (.tuple #[.agg #[.int .i64 x1, .int .u64 x2, .int .u64 x3], .int .i64 I, .agg L, .int .i64 E]) ∧ Below w.heap.size w w')
theorem send_go {e : LE} (ht : e.ty) (hve : VE e) (h0 : 0 < e.q.length) (hf : 0 < fr e.n e.s e.a) (hs : e.s ≠ 4611686018427387904) : SnC e e.n (e.s + 1) e.a (e.s % e.n) (nxD e) 0 := by
  intro w A c hI
  have h := send_any e.n e.s e.a (acN e.rn e.rc) A (frP e).length c (decide (e.off < 0)) (frP e) ht.s0 ht.s1 ht.a0 w hI
  have hE : sdE e.n e.s e.a (frP e).length = 0 := by rw [sd_is hve h0 hf, if_neg hs]
  unfold SdPost sdS sdI sdL at h
  rw [hE] at h
  exact h
theorem nxD_form {e : LE} (h : (frP e).length ≤ 56) : (61 = (nxD e).size) ∧ (Try.prog.info? 40).map (·.size) = some (nxD e).size ∧ (nxD e).all (·.oneCell') = true := by
  have hp : (frP e ++ z56.drop (frP e).length).length = 56 := by simp [z56]; omega
  exact ⟨(LV_size _ _ _ _ _ hp).symm, line_info _ _ _ _ _ hp, LV_one _ _ _ _ _ _⟩
set_option maxRecDepth 100000 in
set_option maxHeartbeats 8000000 in
theorem next_more (e : LE) (A B : Option Addr) (c d : Nat) (W : World) (ht : e.ty) (hH : Held W e A c B d) (hv : vE e = true) (hq0 : 0 < e.q.length) (hf0 : 0 < fr e.n e.s e.a) (hs : e.s ≠ 4611686018427387904) (hend : nxEnd e = false) : Calls Try.prog 45 #[.agg (LEV e A c B d)] W (NxP e W) := by
  have hg0 : nxGo e = true := by simp [nxGo, hq0, hf0]
  have HE := Lib.hid (show nxE e = 0 by unfold nxE; rw [hv, hg0, if_pos rfl, if_pos rfl, if_neg hs])
  have HG := Lib.hid hg0
  have hcon := Lib.hid (send_go ht (vE_yes hv) hq0 hf0 hs)
  obtain ⟨hDs, hDi, hD1⟩ := nxD_form (frP_len (vE_yes hv) hq0)
  obtain ⟨DD, hDD⟩ : ∃ DD, nxD e = DD := ⟨_, rfl⟩
  rw [hDD] at hcon hDs hDi hD1
  have HDs := Lib.hid hDs
  have HDi := Lib.hid hDi
  have HDD := Lib.hid hDD
  clear hg0 hs hDD hDs hDi
  have hve := vE_yes hv
  have HV := Lib.hid hv
  clear hv
  have hql := hve.ql
  obtain ⟨r1, r2, r3, hB1⟩ := three_born W 69 69 40 (LEV e A c B d) ZE ZL
  go_enter Try.func45, Try.ntmps45
  go_upto_region 1 with (fail)
  change Code.wp _ _ _ _ (((W.alloc (.cells (LEV e A c B d) 69)).alloc (.cells ZE 69)).alloc (.cells ZL 40))
  generalize ((W.alloc (.cells (LEV e A c B d) 69)).alloc (.cells ZE 69)).alloc (.cells ZL 40) = w1 at *
  have hH1 := hH.below hB1
  go_upto_region 3 with (first | ((with_reducible refine wp_load_g ?_ r1.range Try.underlying69 rfl (lev_info _ _ _ _ _) ?_ ?_); rfl; rfl) | (go_at_call 101; (with_reducible refine (valid_is HV.out ht hH1).mono ?_); rintro en w2 ⟨rfl, hb⟩))
  have r1 := r1.below hb r1.lt
  have r2 := r2.below hb r2.lt
  have r3 := r3.below hb r3.lt
  have hB2 := hB1.trans (hb.mono hB1.size)
  clear hb hB1 hH1
  have r3lt := r3.lt
  have hH2 := hH.below hB2
  go_upto_region 4 with (first | ((with_reducible refine wp_load_g ?_ r1.range Try.underlying69 rfl (lev_info _ _ _ _ _) ?_ ?_); rfl; rfl) | (go_at_call 102; (with_reducible refine (open_any e _ _ _ _ _ ht hH2).mono ?_); rintro en w3 ⟨g, A1, c1, B1, dd1, vs, rfl, hWg, hr, hown, hq, hoB, hb⟩))
  have r2 := r2.below hb r2.lt
  have r3 := r3.below hb r3.lt
  have hB3 := hB2.trans (hb.mono hB2.size)
  have hWg' : W.heap.size + 2 < g := by have := r1.lt; have := hB2.size; have h3 : W.heap.size + 2 < w2.heap.size := r3lt; omega
  clear hb hH2 hB2 r1
  generalize w2.heap.size = base at *
  obtain ⟨-, ⟨c5, c6, -, -, -⟩, fz⟩ := bv_cells hr
  go_upto_region 6 with (go_at_call 38; refine (ack_any _ _ _).mono ?_; rintro en w6 ⟨rfl, hb⟩)
  have r2 := r2.below hb r2.lt
  have r3 := r3.below hb r3.lt
  have hr := hr.below hb hr.lt
  have hB6 := hB3.trans (hb.mono hB3.size)
  have hown := hown.below hb
  have hq := hq.keeps (ts := []) (Keeps.below hb) (by simp)
  have hoB := hoB.below hb
  clear hb hB3 c5 c6 fz
  have hlg := hr.lt
  have hr : Row w6 g 155 (BW e.n e.s e.a (.slice A1 e.q.length c1) e.off e.rn e.rc e.want (.slice B1 e.pt.length dd1) e.told) := hr
  obtain ⟨⟨c0, c1', c2, c3, c4⟩, ⟨c5, c6, c7, c8, c9⟩, fz⟩ := bw_cells hr
  have d0 : decide (0 < e.q.length) = true := decide_eq_true hq0
  have d1 : decide (0 < fr e.n e.s e.a) = true := decide_eq_true hf0
  go_upto_region 7 with (go_at_call 22; refine (free _ _ _ ht.s0 ht.s1 ht.a0 _).mono ?_; rintro en w7 ⟨rfl, hb⟩)
  clear c0 c1' c2 c3 c4 c5 c6 c7 c8 c9 fz
  have r2 := r2.below hb r2.lt
  have r3 := r3.below hb r3.lt
  have hr := hr.below hb hr.lt
  have hB6 := hB6.trans (hb.mono hB6.size)
  have hown := hown.below hb
  have hq := hq.keeps (ts := []) (Keeps.below hb) (by simp)
  have hoB := hoB.below hb
  clear hb
  have hM := isM_of hown hq (fun x hx => by have := hve.qm x hx; omega)
  have hfm := hve.qm _ (frM_mem hq0)
  have hoff : e.off = -1 ∨ (52 ≤ e.off ∧ e.off < (frM e).length) := by rcases hve.off with h | h; exact .inl h; exact .inr ⟨h.2.1, h.2.2.1⟩
  have hHF := Lib.hid hoff
  clear hoff
  go_upto_region 8 with (go_at_call 105; refine (frag_any g e A1 c1 _ _ hr hM hq0 hfm hHF.out).mono ?_; rintro en w8 ⟨A5, c5', rfl, hI5, hb⟩)
  clear hM
  have r2 := r2.below hb r2.lt
  have r3 := r3.below hb r3.lt
  have hr := hr.below hb hr.lt
  have hB6 := hB6.trans (hb.mono hB6.size)
  have hown := hown.below hb
  have hq := hq.keeps (ts := []) (Keeps.below hb) (by simp)
  have hoB := hoB.below hb
  clear hb
  have hlg := hr.lt
  have h3lt := r3.lt
  obtain ⟨⟨c0, c1', c2, c3, c4⟩, -, fz⟩ := bw_cells hr
  refine wp_region_late (n := 148) [21, 23] (CalS w8 21 (NoC) 1 19 27 #[.int .i64 e.n, .int .u64 (e.s + 1), .int .u64 e.a] 2 20 40 DD) (Shp w8.heap.size) (by kernel_rfl) (by kernel_rfl) (by rfl) (CalS.loc (by decide) (fun c hc => mayAt_no (d := 0) (by kernel_rfl) (by omega) (by decide)) (fun c hc => mayAt_no (d := 1) (by kernel_rfl) (by omega) (by decide))) (CalS.start (by decide) (by decide)) ?_
  iterate 4 (refine late_pure (by simp) (Shp.refl _) (v := ?_) (fun _ => rfl) ?_ ?_; rotate_left; (focus (intro c9 us w9 hm9 hS9 hF; clear hF hm9; go_simp; (try with_reducible rfl); done)); simp only [Act.put, zA, zB, zC, Nat.reduceAdd])
  refine late_pure (by simp) (Shp.refl _) (v := .agg #[.int .i64 e.n, .int .u64 e.s, .int .u64 e.a]) (fun _ => rfl) ?_ ?_; (focus (intro c9 us w9 hm9 hS9 hF; have b0 := (hS9.1.cell (p := ⟨g, 0, none⟩) hlg).trans c0; have b1 := (hS9.1.cell (p := ⟨g, 1, none⟩) hlg).trans c1'; have b2 := (hS9.1.cell (p := ⟨g, 2, none⟩) hlg).trans c2; have b4 := (hS9.1.cell (p := ⟨g, 4, none⟩) hlg).trans c4; clear hF hm9; go_simp; (try with_reducible rfl); done)); simp only [Act.put, zA, zB, zC, Nat.reduceAdd]
  iterate 5 (refine late_pure (by simp) (Shp.refl _) (v := ?_) (fun _ => rfl) ?_ ?_; rotate_left; (focus (intro c9 us w9 hm9 hS9 hF; clear hF hm9; go_simp; (try with_reducible rfl); done)); simp only [Act.put, zA, zB, zC, Nat.reduceAdd])
  refine late_pure (by simp) (Shp.refl _) (v := .int .i64 e.off) (fun _ => rfl) ?_ ?_; (focus (intro c9 us w9 hm9 hS9 hF; have b0 := (hS9.1.cell (p := ⟨g, 0, none⟩) hlg).trans c0; have b1 := (hS9.1.cell (p := ⟨g, 1, none⟩) hlg).trans c1'; have b2 := (hS9.1.cell (p := ⟨g, 2, none⟩) hlg).trans c2; have b4 := (hS9.1.cell (p := ⟨g, 4, none⟩) hlg).trans c4; clear hF hm9; go_simp; (try with_reducible rfl); done)); simp only [Act.put, zA, zB, zC, Nat.reduceAdd]
  refine late_pure (by simp) (Shp.refl _) (v := .bool (decide (e.off < 0))) (fun _ => rfl) ?_ ?_; (focus (intro c9 us w9 hm9 hS9 hF; clear hF hm9; go_simp; (try with_reducible rfl); done)); simp only [Act.put, zA, zB, zC, Nat.reduceAdd]
  refine late_pure (by simp) (Shp.refl _) (v := ?_) (fun _ => rfl) ?_ ?_; rotate_left; (focus (intro c9 us w9 hm9 hS9 hF; clear hF hm9; go_simp; (try with_reducible rfl); done)); simp only [Act.put, zA, zB, zC, Nat.reduceAdd]
  refine late_fix (by simp) (v := .tuple #[.agg #[.int .i64 e.n, .int .u64 (e.s + 1), .int .u64 e.a], .int .i64 (e.s % e.n), .agg (DD), .int .i64 0]) ?_ ?_; (focus (intro c9 us w9 hm9 hS9 hF K hK; clear hF; go_simp; refine (hcon.out w9 _ _ (hI5.below hS9.1)).mono ?_; rintro e w' ⟨rfl, hb⟩; exact hK w' (hS9.below hb NoC.mono) (Shp.below hb))); simp only [Act.put, zA, zB, zC, Nat.reduceAdd]
  iterate 5 (refine late_pure (by simp) (Shp.refl _) (v := ?_) (fun _ => rfl) ?_ ?_; rotate_left; (focus (intro c9 us w9 hm9 hS9 hF; clear hF hm9; go_simp; (try with_reducible rfl); done)); simp only [Act.put, zA, zB, zC, Nat.reduceAdd])
  refine late_free (by simp) (PtrN w8.heap.size 27 3) PtrN.mono ?_ ?_; (focus (intro c9 us w9 hm9 hS9 hF K hK; go_simp; exact hK _ _ (hS9.alloc NoC.mono (.cells ZS 27)) (Shp.alloc _ _ _) ⟨w9.heap.size, ZS, rfl, hS9.1.size, Row.born w9 27 ZS, rfl⟩)); simp only [Act.put, zA, zB, zC, Nat.reduceAdd]
  refine late_free (by simp) (PtrN w8.heap.size 40 61) PtrN.mono ?_ ?_; (focus (intro c9 us w9 hm9 hS9 hF K hK; go_simp; exact hK _ _ (hS9.alloc NoC.mono (.cells ZL 40)) (Shp.alloc _ _ _) ⟨w9.heap.size, ZL, rfl, hS9.1.size, Row.born w9 40 ZL, rfl⟩)); simp only [Act.put, zA, zB, zC, Nat.reduceAdd]
  refine late_store rfl ?_ ?_; (focus (intro us w9 hS9 hF K hK; obtain ⟨b3, cs, hu, hb3, hr, hn⟩ := hF (19, PtrN w8.heap.size 27 3) (by simp) (by kernel_rfl); simp only [hu] at hK ⊢; rw [if_pos (by rfl)]; exact step_put (L := #[.int .i64 e.n, .int .u64 (e.s + 1), .int .u64 e.a]) hr hn info27 (sender_one _ _ _) rfl rfl (fun w' u' r' => hK w' (hS9.st1 u' r' hu hb3 (by omega) (by omega) (fun h => trivial)) (Shp.upd u' hr r' hn)))); simp only [Nat.reduceAdd]
  refine late_pure (by simp) (Shp.refl _) (v := ?_) (fun _ => rfl) ?_ ?_; rotate_left; (focus (intro c9 us w9 hm9 hS9 hF; clear hF hm9; go_simp; (try with_reducible rfl); done)); simp only [Act.put, zA, zB, zC, Nat.reduceAdd]
  refine late_store rfl ?_ ?_; (focus (intro us w9 hS9 hF K hK; obtain ⟨b3, cs, hu, hb3, hr, hn⟩ := hF (20, PtrN w8.heap.size 40 61) (by simp) (by kernel_rfl); simp only [hu] at hK ⊢; rw [if_pos (by rfl)]; exact step_put (L := DD) hr (by rw [hn]; exact HDs.out) HDi.out (hD1) rfl rfl (fun w' u' r' => hK w' (hS9.st2 u' hr r' hu hb3 (by omega) (by omega) (by omega) (by decide)) (Shp.upd u' hr r' (by rw [hn]; exact HDs.out))))); simp only [Nat.reduceAdd]
  refine late_pure (by simp) (Shp.refl _) (v := ?_) (fun _ => rfl) ?_ ?_; rotate_left; (focus (intro c9 us w9 hm9 hS9 hF; clear hF hm9; go_simp; (try with_reducible rfl); done)); simp only [Act.put, zA, zB, zC, Nat.reduceAdd]
  refine late_done fun us w10 hS8 hF => ?_
  obtain ⟨g9, hu1, hg9, r9⟩ := hS8.2.2.1 (by omega)
  obtain ⟨g11, hu2, hg11, r11⟩ := hS8.2.2.2 (by omega)
  have hBa := hS8.1
  clear hF hS8
  simp only [hu1, hu2]
  clear c0 c1' c2 c3 c4 fz hu1 hu2
  have r2 := r2.below hBa r2.lt
  have r3 := r3.below hBa r3.lt
  have hr := hr.below hBa hr.lt
  have hB6 := hB6.trans (hBa.mono hB6.size)
  have hown := hown.below hBa
  have hq := hq.keeps (ts := []) (Keeps.below hBa) (by simp)
  have hoB := hoB.below hBa
  clear hBa
  have hg11 : W.heap.size + 2 < g11 := by omega
  have hg11' : g11 ≠ g := by omega
  go_upto_region 11 with (fail)
  have r9' : Row w10.drew g9 27 #[.int .i64 e.n, .int .u64 (e.s + 1), .int .u64 e.a] := r9
  refine wp_region_late (n := 148) [8, 9, 13] (NxT W w10.drew g (W.heap.size + 2) g11 (BW e.n e.s e.a (.slice A1 e.q.length c1) e.off e.rn e.rc e.want (.slice B1 e.pt.length dd1) e.told) (BW e.n (e.s + 1) e.a (.slice A1 e.q.length c1) e.off e.rn e.rc e.want (.slice B1 e.pt.length dd1) e.told) (BW e.n (e.s + 1) e.a (.slice A1 e.q.length c1) (frS e : Int) e.rn e.rc e.want (.slice B1 e.pt.length dd1) e.told) DD) (fun _ _ => True) (by kernel_rfl) (by kernel_rfl) (by rfl) (fun _ _ _ _ _ h => h) ⟨hB6.drew, Keeps.refl _ _, r11, fun _ => hr, fun h => by omega, fun h => by omega, fun _ => r3, fun h => by omega⟩ ?_
  iterate 2 (refine late_pure (by simp) (fun _ => trivial) (v := ?_) (fun _ => rfl) ?_ ?_; rotate_left; (focus (intro c9 us w9 hm9 hS9 hF; clear hF hm9; go_simp; (try with_reducible rfl); done)); simp only [Act.put, zA, zB, zC, Nat.reduceAdd])
  refine late_pure (by simp) (fun _ => trivial) (v := .agg #[.int .i64 e.n, .int .u64 (e.s + 1), .int .u64 e.a]) (fun _ => rfl) ?_ ?_; (focus (intro c9 us w9 hm9 hS9 hF; exact exec_load_g (hS9.2.1.row r9' (by decide)).range Try.underlying27 rfl info27 rfl)); simp only [Act.put, zA, zB, zC, Nat.reduceAdd]
  refine late_pure (by simp) (fun _ => trivial) (v := .agg DD) (fun _ => rfl) ?_ ?_; (focus (intro c9 us w9 hm9 hS9 hF; exact exec_load_g hS9.2.2.1.range Try.underlying40 rfl HDi.out rfl)); simp only [Act.put, zA, zB, zC, Nat.reduceAdd]
  iterate 4 (refine late_pure (by simp) (fun _ => trivial) (v := ?_) (fun _ => rfl) ?_ ?_; rotate_left; (focus (intro c9 us w9 hm9 hS9 hF; clear hF hm9; go_simp; (try with_reducible rfl); done)); simp only [Act.put, zA, zB, zC, Nat.reduceAdd])
  refine late_store rfl ?_ ?_; (focus (intro us w9 hS9 hF K hK; clear hF; rw [if_pos (by rfl)]; exact step_put_mid (pre := []) (cs := [.int .i64 e.n, .int .u64 e.s, .int .u64 e.a]) (post := [.slice A1 e.q.length c1, .int .i64 e.off, .int .i64 e.rn, .int .u64 e.rc, .int .i64 e.want, .slice B1 e.pt.length dd1, .int .u64 e.told]) (L := #[.int .i64 e.n, .int .u64 (e.s + 1), .int .u64 e.a]) (hS9.2.2.2.1 rfl) rfl rfl info27 (sender_one _ _ _) rfl rfl (fun w' u' r' => hK w' (hS9.one u' r' (by omega) (by omega) (by omega)) trivial))); simp only [Nat.reduceAdd]
  refine late_store rfl ?_ ?_; (focus (intro us w9 hS9 hF K hK; clear hF; rw [if_pos (by rfl)]; exact step_put (L := DD) (hS9.2.2.2.2.2.2.1 (by omega)) (zl_61.trans HDs.out) HDi.out hD1 rfl rfl (fun w' u' r' => hK w' (hS9.two u' r' (by omega) (by omega) (by omega)) trivial))); simp only [Nat.reduceAdd]
  iterate 3 (refine late_pure (by simp) (fun _ => trivial) (v := ?_) (fun _ => rfl) ?_ ?_; rotate_left; (focus (intro c9 us w9 hm9 hS9 hF; clear hF hm9; go_simp; (try with_reducible rfl); done)); simp only [Act.put, zA, zB, zC, Nat.reduceAdd])
  refine late_store rfl ?_ ?_; (focus (intro us w9 hS9 hF K hK; clear hF; have hr9 := hS9.2.2.2.2.1 (by omega) (by omega); have k4 := hr9.cell 4; have f4 := hr9.frozen 4; simp only [BW] at k4; have hS10 := hS9.three (Upd.setCell w9 g 4 (.int .i64 (frS e : Int))) (hr9.set 4 _) (by omega) (by omega) (by omega); go_simp; exact hK _ hS10 trivial)); simp only [Nat.reduceAdd]
  refine late_done fun us12 w12 hS12 hF => ?_
  have hB12 := hS12.1
  have hk := hS12.2.1
  have hr := hS12.2.2.2.2.2.1 (by omega)
  have r3 := hS12.2.2.2.2.2.2.2 (by omega)
  clear hF hS12
  have r2 := hk.row (show Row w10.drew _ _ _ from r2) (by decide)
  have hown := OwnV.keeps (show OwnV w10.drew base 44 1 A1 e.q.length c1 vs from hown) hk (by decide)
  have hq := QV.keeps (show QV w10.drew base vs e.q from hq) hk (by decide)
  have hoB := OwnB.keeps (show OwnB w10.drew base 5 B1 e.pt.length dd1 e.pt from hoB) hk (by decide)
  clear hk r9 r9' r11 hB6
  have hM := isM_of hown hq (fun x hx => by have := hve.qm x hx; omega)
  obtain ⟨b, o, hA, hrow⟩ := hM.2 hq0
  subst hA
  obtain ⟨A0, C0, x, -, -, -⟩ := hrow 0 hq0
  rw [← frM_eq hq0] at x
  have x : w12.cell? ⟨b, o, none⟩ = some (.slice A0 (frM e).length C0) := x
  have hi0 : (0 : Int) < e.q.length := by omega
  clear hrow
  obtain ⟨⟨c0, c1', c2, c3, c4⟩, ⟨c5, c6, c7, c8, c9⟩, fz⟩ := bw_cells hr
  have dE : ((frS e : Int) == ((frM e).length : Int)) = false := by
    rw [beq_eq_false_iff_ne]
    have h := hend
    unfold nxEnd at h
    rw [beq_eq_false_iff_ne] at h
    omega
  have hGe : nxG e = { e with s := e.s + 1, off := (frS e : Int), told := e.rc } := by unfold nxG; rw [hend]; rfl
  have HGe := Lib.hid hGe
  clear hGe hend
  go_upto_region 16 with (fail)
  go_upto_region 17 with (fail)
  have hkb : Keeps [155] w12 (w12.setCell ⟨g, 9, none⟩ (.int .u64 e.rc)) := Keeps.upd (Upd.setCell w12 g 9 (.int .u64 e.rc)) hr (by simp)
  have hr9 := hr.set 9 (.int .u64 e.rc)
  have r2 := hkb.row r2 (by decide)
  have r3 := hkb.row r3 (by decide)
  have hBb := Upd.below hB12 (Upd.setCell w12 g 9 (.int .u64 e.rc)) (by omega)
  have hown := hown.keeps hkb (by decide)
  have hq := hq.keeps hkb (by decide)
  have hoB := hoB.keeps hkb (by decide)
  generalize w12.setCell ⟨g, 9, none⟩ (.int .u64 e.rc) = wb at *
  clear c0 c1' c2 c3 c4 c5 c6 c7 c8 c9 fz hkb hB12 hr
  have hr9 : Row wb g 155 (LBV (nxG e) (some ⟨b, o, none⟩) c1 B1 dd1) := by
    rw [HGe.out]
    exact hr9
  obtain ⟨e', he'⟩ : ∃ e', nxG e = e' := ⟨_, rfl⟩
  rw [he'] at hr9
  have HP := Lib.hid he'
  clear he'
  have hr : Row wb.drew g 155 (LBV e' (some ⟨b, o, none⟩) c1 B1 dd1) := hr9
  have r2 : Row wb.drew (W.heap.size + 1) 69 ZE := r2
  have r3 : Row wb.drew (W.heap.size + 2) 40 DD := r3
  have hBb : Below W.heap.size W wb.drew := hBb.drew
  have hown : OwnV wb.drew base 44 1 (some ⟨b, o, none⟩) e.q.length c1 vs := hown
  have hq : QV wb.drew base vs e.q := hq
  have hoB : OwnB wb.drew base 5 B1 e.pt.length dd1 e.pt := hoB
  have hL1 := hD1
  refine wp_region_late (n := 148) [3, 4] (NxS W wb.drew (W.heap.size + 2) (W.heap.size + 1) (DD) (LEV e' (some ⟨b, o, none⟩) c1 B1 dd1)) (fun _ _ => True) (by kernel_rfl) (by kernel_rfl) (by rfl) (fun _ _ _ _ _ h => h) ⟨hBb, Keeps.refl _ _, r3, fun _ => r2, fun h => by omega⟩ ?_
  refine late_pure (by simp) (fun _ => trivial) (v := ?_) (fun _ => rfl) ?_ ?_; rotate_left; (focus (intro c9 us w9 hm9 hS9 hF; clear hF hm9; go_simp; (try with_reducible rfl); done)); simp only [Act.put, zA, zB, zC, Nat.reduceAdd]
  refine late_fix (by simp) (v := .agg (LEV e' (some ⟨b, o, none⟩) c1 B1 dd1)) ?_ ?_; (focus (intro c9 us w9 hm9 hS9 hF K hK; clear hF; go_simp; refine (end_any g e' _ _ _ _ _ (hS9.2.1.row hr (by decide))).mono ?_; rintro en w' ⟨rfl, hb⟩; exact hK w' (hS9.below hb) trivial)); simp only [Act.put, zA, zB, zC, Nat.reduceAdd]
  refine late_pure (by simp) (fun _ => trivial) (v := .agg (DD)) (fun _ => rfl) ?_ ?_; (focus (intro c9 us w9 hm9 hS9 hF; exact exec_load_g hS9.2.2.1.range Try.underlying40 rfl HDi.out rfl)); simp only [Act.put, zA, zB, zC, Nat.reduceAdd]
  refine late_store rfl ?_ ?_; (focus (intro us w9 hS9 hF K hK; clear hF; rw [if_pos (by rfl)]; exact step_put (L := LEV e' (some ⟨b, o, none⟩) c1 B1 dd1) (hS9.2.2.2.1 rfl) rfl (lev_info _ _ _ _ _) (lev_one _ _ _ _ _) rfl rfl (fun w' u' r' => hK w' (hS9.one u' r' (by omega) (by omega)) trivial))); simp only [Nat.reduceAdd]
  refine late_store rfl ?_ ?_; (focus (intro us w9 hS9 hF K hK; clear hF; rw [if_pos (by rfl)]; exact step_put (L := DD) hS9.2.2.1 rfl HDi.out hL1 rfl rfl (fun w' u' r' => hK w' (hS9.two u' r' (by omega) (by omega)) trivial))); simp only [Nat.reduceAdd]
  refine late_pure (by simp) (fun _ => trivial) (v := ?_) (fun _ => rfl) ?_ ?_; rotate_left; (focus (intro c9 us w9 hm9 hS9 hF; clear hF hm9; go_simp; (try with_reducible rfl); done)); simp only [Act.put, zA, zB, zC, Nat.reduceAdd]
  refine late_done fun us8 w8 hS8 hF => ?_
  have rr3 := hS8.2.2.1
  have rr2 := hS8.2.2.2.2 (by omega)
  have hB8 := hS8.1
  have hk := hS8.2.1
  clear hF hS8
  go_wp2
  refine bodyPost_ret (results_cct rfl rfl rfl rr2 rr3 Try.underlying69 Try.underlying40 rfl rfl (lev_info _ _ _ _ _) HDi.out) rfl ?_
  have hWb : W.heap.size ≤ base := by omega
  have h' := HP.out
  subst h'
  have hM8 := fun w' hw' => isM_of ((hown.keeps hk (by decide)).stay (w' := w') hWb hw') ((hq.keeps hk (by decide)).stay hWb hw') (fun x hx => by have := hve.qm x hx; omega)
  have hf := nx_go HE.out HG.out (A := some ⟨b, o, none⟩) (B := B1) (c := c1) (d := dd1) ⟨Nat.le_refl _, fun w' hw' => ⟨by rw [HGe.out]; exact hM8 w' hw', by rw [HGe.out]; exact hown.cap, by rw [HGe.out]; exact ((hoB.keeps hk (by decide)).stay hWb hw').isB, by rw [HGe.out]; exact hoB.capM⟩⟩ hB8
  rw [HDD.out] at hf
  exact hf
set_option maxRecDepth 100000 in
set_option maxHeartbeats 8000000 in
theorem next_end1 (e : LE) (A B : Option Addr) (c d : Nat) (W : World) (ht : e.ty) (hH : Held W e A c B d) (hv : vE e = true) (hq0 : 0 < e.q.length) (hf0 : 0 < fr e.n e.s e.a) (hs : e.s ≠ 4611686018427387904) (hend : nxEnd e = true) : Calls Try.prog 45 #[.agg (LEV e A c B d)] W (NxP e W) := by
  have hg0 : nxGo e = true := by simp [nxGo, hq0, hf0]
  have HE := Lib.hid (show nxE e = 0 by unfold nxE; rw [hv, hg0, if_pos rfl, if_pos rfl, if_neg hs])
  have HG := Lib.hid hg0
  have hcon := Lib.hid (send_go ht (vE_yes hv) hq0 hf0 hs)
  obtain ⟨hDs, hDi, hD1⟩ := nxD_form (frP_len (vE_yes hv) hq0)
  obtain ⟨DD, hDD⟩ : ∃ DD, nxD e = DD := ⟨_, rfl⟩
  rw [hDD] at hcon hDs hDi hD1
  have HDs := Lib.hid hDs
  have HDi := Lib.hid hDi
  have HDD := Lib.hid hDD
  clear hg0 hs hDD hDs hDi
  have hve := vE_yes hv
  have HV := Lib.hid hv
  clear hv
  have hql := hve.ql
  obtain ⟨r1, r2, r3, hB1⟩ := three_born W 69 69 40 (LEV e A c B d) ZE ZL
  go_enter Try.func45, Try.ntmps45
  go_upto_region 1 with (fail)
  change Code.wp _ _ _ _ (((W.alloc (.cells (LEV e A c B d) 69)).alloc (.cells ZE 69)).alloc (.cells ZL 40))
  generalize ((W.alloc (.cells (LEV e A c B d) 69)).alloc (.cells ZE 69)).alloc (.cells ZL 40) = w1 at *
  have hH1 := hH.below hB1
  go_upto_region 3 with (first | ((with_reducible refine wp_load_g ?_ r1.range Try.underlying69 rfl (lev_info _ _ _ _ _) ?_ ?_); rfl; rfl) | (go_at_call 101; (with_reducible refine (valid_is HV.out ht hH1).mono ?_); rintro en w2 ⟨rfl, hb⟩))
  have r1 := r1.below hb r1.lt
  have r2 := r2.below hb r2.lt
  have r3 := r3.below hb r3.lt
  have hB2 := hB1.trans (hb.mono hB1.size)
  clear hb hB1 hH1
  have r3lt := r3.lt
  have hH2 := hH.below hB2
  go_upto_region 4 with (first | ((with_reducible refine wp_load_g ?_ r1.range Try.underlying69 rfl (lev_info _ _ _ _ _) ?_ ?_); rfl; rfl) | (go_at_call 102; (with_reducible refine (open_any e _ _ _ _ _ ht hH2).mono ?_); rintro en w3 ⟨g, A1, c1, B1, dd1, vs, rfl, hWg, hr, hown, hq, hoB, hb⟩))
  have r2 := r2.below hb r2.lt
  have r3 := r3.below hb r3.lt
  have hB3 := hB2.trans (hb.mono hB2.size)
  have hWg' : W.heap.size + 2 < g := by have := r1.lt; have := hB2.size; have h3 : W.heap.size + 2 < w2.heap.size := r3lt; omega
  clear hb hH2 hB2 r1
  generalize w2.heap.size = base at *
  obtain ⟨-, ⟨c5, c6, -, -, -⟩, fz⟩ := bv_cells hr
  go_upto_region 6 with (go_at_call 38; refine (ack_any _ _ _).mono ?_; rintro en w6 ⟨rfl, hb⟩)
  have r2 := r2.below hb r2.lt
  have r3 := r3.below hb r3.lt
  have hr := hr.below hb hr.lt
  have hB6 := hB3.trans (hb.mono hB3.size)
  have hown := hown.below hb
  have hq := hq.keeps (ts := []) (Keeps.below hb) (by simp)
  have hoB := hoB.below hb
  clear hb hB3 c5 c6 fz
  have hlg := hr.lt
  have hr : Row w6 g 155 (BW e.n e.s e.a (.slice A1 e.q.length c1) e.off e.rn e.rc e.want (.slice B1 e.pt.length dd1) e.told) := hr
  obtain ⟨⟨c0, c1', c2, c3, c4⟩, ⟨c5, c6, c7, c8, c9⟩, fz⟩ := bw_cells hr
  have d0 : decide (0 < e.q.length) = true := decide_eq_true hq0
  have d1 : decide (0 < fr e.n e.s e.a) = true := decide_eq_true hf0
  go_upto_region 7 with (go_at_call 22; refine (free _ _ _ ht.s0 ht.s1 ht.a0 _).mono ?_; rintro en w7 ⟨rfl, hb⟩)
  clear c0 c1' c2 c3 c4 c5 c6 c7 c8 c9 fz
  have r2 := r2.below hb r2.lt
  have r3 := r3.below hb r3.lt
  have hr := hr.below hb hr.lt
  have hB6 := hB6.trans (hb.mono hB6.size)
  have hown := hown.below hb
  have hq := hq.keeps (ts := []) (Keeps.below hb) (by simp)
  have hoB := hoB.below hb
  clear hb
  have hM := isM_of hown hq (fun x hx => by have := hve.qm x hx; omega)
  have hfm := hve.qm _ (frM_mem hq0)
  have hoff : e.off = -1 ∨ (52 ≤ e.off ∧ e.off < (frM e).length) := by rcases hve.off with h | h; exact .inl h; exact .inr ⟨h.2.1, h.2.2.1⟩
  have hHF := Lib.hid hoff
  clear hoff
  go_upto_region 8 with (go_at_call 105; refine (frag_any g e A1 c1 _ _ hr hM hq0 hfm hHF.out).mono ?_; rintro en w8 ⟨A5, c5', rfl, hI5, hb⟩)
  clear hM
  have r2 := r2.below hb r2.lt
  have r3 := r3.below hb r3.lt
  have hr := hr.below hb hr.lt
  have hB6 := hB6.trans (hb.mono hB6.size)
  have hown := hown.below hb
  have hq := hq.keeps (ts := []) (Keeps.below hb) (by simp)
  have hoB := hoB.below hb
  clear hb
  have hlg := hr.lt
  have h3lt := r3.lt
  obtain ⟨⟨c0, c1', c2, c3, c4⟩, -, fz⟩ := bw_cells hr
  refine wp_region_late (n := 148) [21, 23] (CalS w8 21 (NoC) 1 19 27 #[.int .i64 e.n, .int .u64 (e.s + 1), .int .u64 e.a] 2 20 40 DD) (Shp w8.heap.size) (by kernel_rfl) (by kernel_rfl) (by rfl) (CalS.loc (by decide) (fun c hc => mayAt_no (d := 0) (by kernel_rfl) (by omega) (by decide)) (fun c hc => mayAt_no (d := 1) (by kernel_rfl) (by omega) (by decide))) (CalS.start (by decide) (by decide)) ?_
  iterate 4 (refine late_pure (by simp) (Shp.refl _) (v := ?_) (fun _ => rfl) ?_ ?_; rotate_left; (focus (intro c9 us w9 hm9 hS9 hF; clear hF hm9; go_simp; (try with_reducible rfl); done)); simp only [Act.put, zA, zB, zC, Nat.reduceAdd])
  refine late_pure (by simp) (Shp.refl _) (v := .agg #[.int .i64 e.n, .int .u64 e.s, .int .u64 e.a]) (fun _ => rfl) ?_ ?_; (focus (intro c9 us w9 hm9 hS9 hF; have b0 := (hS9.1.cell (p := ⟨g, 0, none⟩) hlg).trans c0; have b1 := (hS9.1.cell (p := ⟨g, 1, none⟩) hlg).trans c1'; have b2 := (hS9.1.cell (p := ⟨g, 2, none⟩) hlg).trans c2; have b4 := (hS9.1.cell (p := ⟨g, 4, none⟩) hlg).trans c4; clear hF hm9; go_simp; (try with_reducible rfl); done)); simp only [Act.put, zA, zB, zC, Nat.reduceAdd]
  iterate 5 (refine late_pure (by simp) (Shp.refl _) (v := ?_) (fun _ => rfl) ?_ ?_; rotate_left; (focus (intro c9 us w9 hm9 hS9 hF; clear hF hm9; go_simp; (try with_reducible rfl); done)); simp only [Act.put, zA, zB, zC, Nat.reduceAdd])
  refine late_pure (by simp) (Shp.refl _) (v := .int .i64 e.off) (fun _ => rfl) ?_ ?_; (focus (intro c9 us w9 hm9 hS9 hF; have b0 := (hS9.1.cell (p := ⟨g, 0, none⟩) hlg).trans c0; have b1 := (hS9.1.cell (p := ⟨g, 1, none⟩) hlg).trans c1'; have b2 := (hS9.1.cell (p := ⟨g, 2, none⟩) hlg).trans c2; have b4 := (hS9.1.cell (p := ⟨g, 4, none⟩) hlg).trans c4; clear hF hm9; go_simp; (try with_reducible rfl); done)); simp only [Act.put, zA, zB, zC, Nat.reduceAdd]
  refine late_pure (by simp) (Shp.refl _) (v := .bool (decide (e.off < 0))) (fun _ => rfl) ?_ ?_; (focus (intro c9 us w9 hm9 hS9 hF; clear hF hm9; go_simp; (try with_reducible rfl); done)); simp only [Act.put, zA, zB, zC, Nat.reduceAdd]
  refine late_pure (by simp) (Shp.refl _) (v := ?_) (fun _ => rfl) ?_ ?_; rotate_left; (focus (intro c9 us w9 hm9 hS9 hF; clear hF hm9; go_simp; (try with_reducible rfl); done)); simp only [Act.put, zA, zB, zC, Nat.reduceAdd]
  refine late_fix (by simp) (v := .tuple #[.agg #[.int .i64 e.n, .int .u64 (e.s + 1), .int .u64 e.a], .int .i64 (e.s % e.n), .agg (DD), .int .i64 0]) ?_ ?_; (focus (intro c9 us w9 hm9 hS9 hF K hK; clear hF; go_simp; refine (hcon.out w9 _ _ (hI5.below hS9.1)).mono ?_; rintro e w' ⟨rfl, hb⟩; exact hK w' (hS9.below hb NoC.mono) (Shp.below hb))); simp only [Act.put, zA, zB, zC, Nat.reduceAdd]
  iterate 5 (refine late_pure (by simp) (Shp.refl _) (v := ?_) (fun _ => rfl) ?_ ?_; rotate_left; (focus (intro c9 us w9 hm9 hS9 hF; clear hF hm9; go_simp; (try with_reducible rfl); done)); simp only [Act.put, zA, zB, zC, Nat.reduceAdd])
  refine late_free (by simp) (PtrN w8.heap.size 27 3) PtrN.mono ?_ ?_; (focus (intro c9 us w9 hm9 hS9 hF K hK; go_simp; exact hK _ _ (hS9.alloc NoC.mono (.cells ZS 27)) (Shp.alloc _ _ _) ⟨w9.heap.size, ZS, rfl, hS9.1.size, Row.born w9 27 ZS, rfl⟩)); simp only [Act.put, zA, zB, zC, Nat.reduceAdd]
  refine late_free (by simp) (PtrN w8.heap.size 40 61) PtrN.mono ?_ ?_; (focus (intro c9 us w9 hm9 hS9 hF K hK; go_simp; exact hK _ _ (hS9.alloc NoC.mono (.cells ZL 40)) (Shp.alloc _ _ _) ⟨w9.heap.size, ZL, rfl, hS9.1.size, Row.born w9 40 ZL, rfl⟩)); simp only [Act.put, zA, zB, zC, Nat.reduceAdd]
  refine late_store rfl ?_ ?_; (focus (intro us w9 hS9 hF K hK; obtain ⟨b3, cs, hu, hb3, hr, hn⟩ := hF (19, PtrN w8.heap.size 27 3) (by simp) (by kernel_rfl); simp only [hu] at hK ⊢; rw [if_pos (by rfl)]; exact step_put (L := #[.int .i64 e.n, .int .u64 (e.s + 1), .int .u64 e.a]) hr hn info27 (sender_one _ _ _) rfl rfl (fun w' u' r' => hK w' (hS9.st1 u' r' hu hb3 (by omega) (by omega) (fun h => trivial)) (Shp.upd u' hr r' hn)))); simp only [Nat.reduceAdd]
  refine late_pure (by simp) (Shp.refl _) (v := ?_) (fun _ => rfl) ?_ ?_; rotate_left; (focus (intro c9 us w9 hm9 hS9 hF; clear hF hm9; go_simp; (try with_reducible rfl); done)); simp only [Act.put, zA, zB, zC, Nat.reduceAdd]
  refine late_store rfl ?_ ?_; (focus (intro us w9 hS9 hF K hK; obtain ⟨b3, cs, hu, hb3, hr, hn⟩ := hF (20, PtrN w8.heap.size 40 61) (by simp) (by kernel_rfl); simp only [hu] at hK ⊢; rw [if_pos (by rfl)]; exact step_put (L := DD) hr (by rw [hn]; exact HDs.out) HDi.out (hD1) rfl rfl (fun w' u' r' => hK w' (hS9.st2 u' hr r' hu hb3 (by omega) (by omega) (by omega) (by decide)) (Shp.upd u' hr r' (by rw [hn]; exact HDs.out))))); simp only [Nat.reduceAdd]
  refine late_pure (by simp) (Shp.refl _) (v := ?_) (fun _ => rfl) ?_ ?_; rotate_left; (focus (intro c9 us w9 hm9 hS9 hF; clear hF hm9; go_simp; (try with_reducible rfl); done)); simp only [Act.put, zA, zB, zC, Nat.reduceAdd]
  refine late_done fun us w10 hS8 hF => ?_
  obtain ⟨g9, hu1, hg9, r9⟩ := hS8.2.2.1 (by omega)
  obtain ⟨g11, hu2, hg11, r11⟩ := hS8.2.2.2 (by omega)
  have hBa := hS8.1
  clear hF hS8
  simp only [hu1, hu2]
  clear c0 c1' c2 c3 c4 fz hu1 hu2
  have r2 := r2.below hBa r2.lt
  have r3 := r3.below hBa r3.lt
  have hr := hr.below hBa hr.lt
  have hB6 := hB6.trans (hBa.mono hB6.size)
  have hown := hown.below hBa
  have hq := hq.keeps (ts := []) (Keeps.below hBa) (by simp)
  have hoB := hoB.below hBa
  clear hBa
  have hg11 : W.heap.size + 2 < g11 := by omega
  have hg11' : g11 ≠ g := by omega
  go_upto_region 11 with (fail)
  have r9' : Row w10.drew g9 27 #[.int .i64 e.n, .int .u64 (e.s + 1), .int .u64 e.a] := r9
  refine wp_region_late (n := 148) [8, 9, 13] (NxT W w10.drew g (W.heap.size + 2) g11 (BW e.n e.s e.a (.slice A1 e.q.length c1) e.off e.rn e.rc e.want (.slice B1 e.pt.length dd1) e.told) (BW e.n (e.s + 1) e.a (.slice A1 e.q.length c1) e.off e.rn e.rc e.want (.slice B1 e.pt.length dd1) e.told) (BW e.n (e.s + 1) e.a (.slice A1 e.q.length c1) (frS e : Int) e.rn e.rc e.want (.slice B1 e.pt.length dd1) e.told) DD) (fun _ _ => True) (by kernel_rfl) (by kernel_rfl) (by rfl) (fun _ _ _ _ _ h => h) ⟨hB6.drew, Keeps.refl _ _, r11, fun _ => hr, fun h => by omega, fun h => by omega, fun _ => r3, fun h => by omega⟩ ?_
  iterate 2 (refine late_pure (by simp) (fun _ => trivial) (v := ?_) (fun _ => rfl) ?_ ?_; rotate_left; (focus (intro c9 us w9 hm9 hS9 hF; clear hF hm9; go_simp; (try with_reducible rfl); done)); simp only [Act.put, zA, zB, zC, Nat.reduceAdd])
  refine late_pure (by simp) (fun _ => trivial) (v := .agg #[.int .i64 e.n, .int .u64 (e.s + 1), .int .u64 e.a]) (fun _ => rfl) ?_ ?_; (focus (intro c9 us w9 hm9 hS9 hF; exact exec_load_g (hS9.2.1.row r9' (by decide)).range Try.underlying27 rfl info27 rfl)); simp only [Act.put, zA, zB, zC, Nat.reduceAdd]
  refine late_pure (by simp) (fun _ => trivial) (v := .agg DD) (fun _ => rfl) ?_ ?_; (focus (intro c9 us w9 hm9 hS9 hF; exact exec_load_g hS9.2.2.1.range Try.underlying40 rfl HDi.out rfl)); simp only [Act.put, zA, zB, zC, Nat.reduceAdd]
  iterate 4 (refine late_pure (by simp) (fun _ => trivial) (v := ?_) (fun _ => rfl) ?_ ?_; rotate_left; (focus (intro c9 us w9 hm9 hS9 hF; clear hF hm9; go_simp; (try with_reducible rfl); done)); simp only [Act.put, zA, zB, zC, Nat.reduceAdd])
  refine late_store rfl ?_ ?_; (focus (intro us w9 hS9 hF K hK; clear hF; rw [if_pos (by rfl)]; exact step_put_mid (pre := []) (cs := [.int .i64 e.n, .int .u64 e.s, .int .u64 e.a]) (post := [.slice A1 e.q.length c1, .int .i64 e.off, .int .i64 e.rn, .int .u64 e.rc, .int .i64 e.want, .slice B1 e.pt.length dd1, .int .u64 e.told]) (L := #[.int .i64 e.n, .int .u64 (e.s + 1), .int .u64 e.a]) (hS9.2.2.2.1 rfl) rfl rfl info27 (sender_one _ _ _) rfl rfl (fun w' u' r' => hK w' (hS9.one u' r' (by omega) (by omega) (by omega)) trivial))); simp only [Nat.reduceAdd]
  refine late_store rfl ?_ ?_; (focus (intro us w9 hS9 hF K hK; clear hF; rw [if_pos (by rfl)]; exact step_put (L := DD) (hS9.2.2.2.2.2.2.1 (by omega)) (zl_61.trans HDs.out) HDi.out hD1 rfl rfl (fun w' u' r' => hK w' (hS9.two u' r' (by omega) (by omega) (by omega)) trivial))); simp only [Nat.reduceAdd]
  iterate 3 (refine late_pure (by simp) (fun _ => trivial) (v := ?_) (fun _ => rfl) ?_ ?_; rotate_left; (focus (intro c9 us w9 hm9 hS9 hF; clear hF hm9; go_simp; (try with_reducible rfl); done)); simp only [Act.put, zA, zB, zC, Nat.reduceAdd])
  refine late_store rfl ?_ ?_; (focus (intro us w9 hS9 hF K hK; clear hF; have hr9 := hS9.2.2.2.2.1 (by omega) (by omega); have k4 := hr9.cell 4; have f4 := hr9.frozen 4; simp only [BW] at k4; have hS10 := hS9.three (Upd.setCell w9 g 4 (.int .i64 (frS e : Int))) (hr9.set 4 _) (by omega) (by omega) (by omega); go_simp; exact hK _ hS10 trivial)); simp only [Nat.reduceAdd]
  refine late_done fun us12 w12 hS12 hF => ?_
  have hB12 := hS12.1
  have hk := hS12.2.1
  have hr := hS12.2.2.2.2.2.1 (by omega)
  have r3 := hS12.2.2.2.2.2.2.2 (by omega)
  clear hF hS12
  have r2 := hk.row (show Row w10.drew _ _ _ from r2) (by decide)
  have hown := OwnV.keeps (show OwnV w10.drew base 44 1 A1 e.q.length c1 vs from hown) hk (by decide)
  have hq := QV.keeps (show QV w10.drew base vs e.q from hq) hk (by decide)
  have hoB := OwnB.keeps (show OwnB w10.drew base 5 B1 e.pt.length dd1 e.pt from hoB) hk (by decide)
  clear hk r9 r9' r11 hB6
  have hM := isM_of hown hq (fun x hx => by have := hve.qm x hx; omega)
  obtain ⟨b, o, hA, hrow⟩ := hM.2 hq0
  subst hA
  obtain ⟨A0, C0, x, -, -, -⟩ := hrow 0 hq0
  rw [← frM_eq hq0] at x
  have x : w12.cell? ⟨b, o, none⟩ = some (.slice A0 (frM e).length C0) := x
  have hi0 : (0 : Int) < e.q.length := by omega
  clear hrow
  obtain ⟨⟨c0, c1', c2, c3, c4⟩, ⟨c5, c6, c7, c8, c9⟩, fz⟩ := bw_cells hr
  have dE : ((frS e : Int) == ((frM e).length : Int)) = true := by
    rw [beq_iff_eq]
    have h := hend
    unfold nxEnd at h
    rw [beq_iff_eq] at h
    omega
  have hGe : nxG e = { e with s := e.s + 1, off := -1, q := e.q.tail, told := e.rc } := by unfold nxG; rw [hend]; rfl
  have HGe := Lib.hid hGe
  clear hGe hend
  have hcap := hown.cap
  rcases Nat.lt_or_ge 1 c1 with hc1 | hc1
  · have hci : (1 : Int) ≤ e.q.length := by omega
    have hcj : (1 : Int) ≤ c1 := by omega
    have hck : 1 ≤ e.q.length := by omega
    have hcn : (c1 - 1 = 0) = False := by simp; omega
    go_upto_region 16 with (fail)
    clear hci hcj hck hcn c0 c1' c2 c3 c4 c5 c6 c7 c8 c9 fz
    have u13 := (Upd.setCell w12 g 3 (.slice (some ⟨b, o + 1, none⟩) (e.q.length - 1) (c1 - 1))).trans (Upd.setCell _ g 4 (.int .i64 (-1)))
    have hr13 := (hr.set 3 (.slice (some ⟨b, o + 1, none⟩) (e.q.length - 1) (c1 - 1))).set 4 (.int .i64 (-1))
    have hk13 : Keeps [155] w12 _ := Keeps.upd u13 hr (by simp)
    have hB12 := Upd.below hB12 u13 (by omega)
    have r2 := hk13.row r2 (by decide)
    have r3 := hk13.row r3 (by decide)
    have hown := hown.keeps hk13 (by decide)
    have hq := hq.keeps hk13 (by decide)
    have hoB := hoB.keeps hk13 (by decide)
    clear u13 hk13 hr
    generalize (w12.setCell ⟨g, 3, none⟩ (.slice (some ⟨b, o + 1, none⟩) (e.q.length - 1) (c1 - 1))).setCell ⟨g, 4, none⟩ (.int .i64 (-1)) = w13 at *
    have hr : Row w13 g 155 (BW e.n (e.s + 1) e.a (.slice (some ⟨b, o + 1, none⟩) (e.q.length - 1) (c1 - 1)) (-1) e.rn e.rc e.want (.slice B1 e.pt.length dd1) e.told) := hr13
    clear hr13
    obtain ⟨⟨c0, c1', c2, c3, c4⟩, ⟨c5, c6, c7, c8, c9⟩, fz⟩ := bw_cells hr
    go_upto_region 17 with (fail)
    have hkb : Keeps [155] w13 (w13.setCell ⟨g, 9, none⟩ (.int .u64 e.rc)) := Keeps.upd (Upd.setCell w13 g 9 (.int .u64 e.rc)) hr (by simp)
    have hr9 := hr.set 9 (.int .u64 e.rc)
    have r2 := hkb.row r2 (by decide)
    have r3 := hkb.row r3 (by decide)
    have hBb := Upd.below hB12 (Upd.setCell w13 g 9 (.int .u64 e.rc)) (by omega)
    have hown := hown.keeps hkb (by decide)
    have hq := hq.keeps hkb (by decide)
    have hoB := hoB.keeps hkb (by decide)
    generalize w13.setCell ⟨g, 9, none⟩ (.int .u64 e.rc) = wb at *
    clear c0 c1' c2 c3 c4 c5 c6 c7 c8 c9 fz hkb hB12 hr
    have hr9 : Row wb g 155 (LBV (nxG e) (some ⟨b, o + 1, none⟩) (c1 - 1) B1 dd1) := by
      rw [HGe.out]
      unfold LBV
      simp only [List.length_tail]
      exact hr9
    obtain ⟨e', he'⟩ : ∃ e', nxG e = e' := ⟨_, rfl⟩
    rw [he'] at hr9
    have HP := Lib.hid he'
    clear he'
    have hr : Row wb.drew g 155 (LBV e' (some ⟨b, o + 1, none⟩) (c1 - 1) B1 dd1) := hr9
    have r2 : Row wb.drew (W.heap.size + 1) 69 ZE := r2
    have r3 : Row wb.drew (W.heap.size + 2) 40 DD := r3
    have hBb : Below W.heap.size W wb.drew := hBb.drew
    have hown : OwnV wb.drew base 44 1 (some ⟨b, o, none⟩) e.q.length c1 vs := hown
    have hq : QV wb.drew base vs e.q := hq
    have hoB : OwnB wb.drew base 5 B1 e.pt.length dd1 e.pt := hoB
    have hL1 := hD1
    refine wp_region_late (n := 148) [3, 4] (NxS W wb.drew (W.heap.size + 2) (W.heap.size + 1) (DD) (LEV e' (some ⟨b, o + 1, none⟩) (c1 - 1) B1 dd1)) (fun _ _ => True) (by kernel_rfl) (by kernel_rfl) (by rfl) (fun _ _ _ _ _ h => h) ⟨hBb, Keeps.refl _ _, r3, fun _ => r2, fun h => by omega⟩ ?_
    refine late_pure (by simp) (fun _ => trivial) (v := ?_) (fun _ => rfl) ?_ ?_; rotate_left; (focus (intro c9 us w9 hm9 hS9 hF; clear hF hm9; go_simp; (try with_reducible rfl); done)); simp only [Act.put, zA, zB, zC, Nat.reduceAdd]
    refine late_fix (by simp) (v := .agg (LEV e' (some ⟨b, o + 1, none⟩) (c1 - 1) B1 dd1)) ?_ ?_; (focus (intro c9 us w9 hm9 hS9 hF K hK; clear hF; go_simp; refine (end_any g e' _ _ _ _ _ (hS9.2.1.row hr (by decide))).mono ?_; rintro en w' ⟨rfl, hb⟩; exact hK w' (hS9.below hb) trivial)); simp only [Act.put, zA, zB, zC, Nat.reduceAdd]
    refine late_pure (by simp) (fun _ => trivial) (v := .agg (DD)) (fun _ => rfl) ?_ ?_; (focus (intro c9 us w9 hm9 hS9 hF; exact exec_load_g hS9.2.2.1.range Try.underlying40 rfl HDi.out rfl)); simp only [Act.put, zA, zB, zC, Nat.reduceAdd]
    refine late_store rfl ?_ ?_; (focus (intro us w9 hS9 hF K hK; clear hF; rw [if_pos (by rfl)]; exact step_put (L := LEV e' (some ⟨b, o + 1, none⟩) (c1 - 1) B1 dd1) (hS9.2.2.2.1 rfl) rfl (lev_info _ _ _ _ _) (lev_one _ _ _ _ _) rfl rfl (fun w' u' r' => hK w' (hS9.one u' r' (by omega) (by omega)) trivial))); simp only [Nat.reduceAdd]
    refine late_store rfl ?_ ?_; (focus (intro us w9 hS9 hF K hK; clear hF; rw [if_pos (by rfl)]; exact step_put (L := DD) hS9.2.2.1 rfl HDi.out hL1 rfl rfl (fun w' u' r' => hK w' (hS9.two u' r' (by omega) (by omega)) trivial))); simp only [Nat.reduceAdd]
    refine late_pure (by simp) (fun _ => trivial) (v := ?_) (fun _ => rfl) ?_ ?_; rotate_left; (focus (intro c9 us w9 hm9 hS9 hF; clear hF hm9; go_simp; (try with_reducible rfl); done)); simp only [Act.put, zA, zB, zC, Nat.reduceAdd]
    refine late_done fun us8 w8 hS8 hF => ?_
    have rr3 := hS8.2.2.1
    have rr2 := hS8.2.2.2.2 (by omega)
    have hB8 := hS8.1
    have hk := hS8.2.1
    clear hF hS8
    go_wp2
    refine bodyPost_ret (results_cct rfl rfl rfl rr2 rr3 Try.underlying69 Try.underlying40 rfl rfl (lev_info _ _ _ _ _) HDi.out) rfl ?_
    have hWb : W.heap.size ≤ base := by omega
    have h' := HP.out
    subst h'
    have hM8 := fun w' hw' => isM_of ((hown.keeps hk (by decide)).stay (w' := w') hWb hw') ((hq.keeps hk (by decide)).stay hWb hw') (fun x hx => by have := hve.qm x hx; omega)
    have hf := nx_go HE.out HG.out (A := some ⟨b, o + 1, none⟩) (B := B1) (c := c1 - 1) (d := dd1) ⟨Nat.le_refl _, fun w' hw' => ⟨by rw [HGe.out]; simpa using (hM8 w' hw').tail hq0, by rw [HGe.out]; simp; omega, by rw [HGe.out]; exact ((hoB.keeps hk (by decide)).stay hWb hw').isB, by rw [HGe.out]; exact hoB.capM⟩⟩ hB8
    rw [HDD.out] at hf
    exact hf
  · obtain rfl : c1 = 1 := by omega
    have hql1 : e.q.length = 1 := by omega
    rw [hql1] at c3
    go_upto_region 16 with (fail)
    have HQ1 := Lib.hid hql1
    clear hql1 c0 c1' c2 c3 c4 c5 c6 c7 c8 c9 fz
    have u13 := (Upd.setCell w12 g 3 (.slice (some ⟨b, o, none⟩) 0 0)).trans (Upd.setCell _ g 4 (.int .i64 (-1)))
    have hr13 := (hr.set 3 (.slice (some ⟨b, o, none⟩) 0 0)).set 4 (.int .i64 (-1))
    have hk13 : Keeps [155] w12 _ := Keeps.upd u13 hr (by simp)
    have hB12 := Upd.below hB12 u13 (by omega)
    have r2 := hk13.row r2 (by decide)
    have r3 := hk13.row r3 (by decide)
    have hown := hown.keeps hk13 (by decide)
    have hq := hq.keeps hk13 (by decide)
    have hoB := hoB.keeps hk13 (by decide)
    clear u13 hk13 hr
    generalize (w12.setCell ⟨g, 3, none⟩ (.slice (some ⟨b, o, none⟩) 0 0)).setCell ⟨g, 4, none⟩ (.int .i64 (-1)) = w13 at *
    have hr : Row w13 g 155 (BW e.n (e.s + 1) e.a (.slice (some ⟨b, o, none⟩) 0 0) (-1) e.rn e.rc e.want (.slice B1 e.pt.length dd1) e.told) := hr13
    clear hr13
    obtain ⟨⟨c0, c1', c2, c3, c4⟩, ⟨c5, c6, c7, c8, c9⟩, fz⟩ := bw_cells hr
    go_upto_region 17 with (fail)
    have hkb : Keeps [155] w13 (w13.setCell ⟨g, 9, none⟩ (.int .u64 e.rc)) := Keeps.upd (Upd.setCell w13 g 9 (.int .u64 e.rc)) hr (by simp)
    have hr9 := hr.set 9 (.int .u64 e.rc)
    have r2 := hkb.row r2 (by decide)
    have r3 := hkb.row r3 (by decide)
    have hBb := Upd.below hB12 (Upd.setCell w13 g 9 (.int .u64 e.rc)) (by omega)
    have hown := hown.keeps hkb (by decide)
    have hq := hq.keeps hkb (by decide)
    have hoB := hoB.keeps hkb (by decide)
    generalize w13.setCell ⟨g, 9, none⟩ (.int .u64 e.rc) = wb at *
    clear c0 c1' c2 c3 c4 c5 c6 c7 c8 c9 fz hkb hB12 hr
    have hr9 : Row wb g 155 (LBV (nxG e) (some ⟨b, o, none⟩) 0 B1 dd1) := by
      rw [HGe.out]
      unfold LBV
      simp only [List.length_tail, HQ1.out]
      exact hr9
    obtain ⟨e', he'⟩ : ∃ e', nxG e = e' := ⟨_, rfl⟩
    rw [he'] at hr9
    have HP := Lib.hid he'
    clear he'
    have hr : Row wb.drew g 155 (LBV e' (some ⟨b, o, none⟩) 0 B1 dd1) := hr9
    have r2 : Row wb.drew (W.heap.size + 1) 69 ZE := r2
    have r3 : Row wb.drew (W.heap.size + 2) 40 DD := r3
    have hBb : Below W.heap.size W wb.drew := hBb.drew
    have hown : OwnV wb.drew base 44 1 (some ⟨b, o, none⟩) e.q.length 1 vs := hown
    have hq : QV wb.drew base vs e.q := hq
    have hoB : OwnB wb.drew base 5 B1 e.pt.length dd1 e.pt := hoB
    have hL1 := hD1
    refine wp_region_late (n := 148) [3, 4] (NxS W wb.drew (W.heap.size + 2) (W.heap.size + 1) (DD) (LEV e' (some ⟨b, o, none⟩) 0 B1 dd1)) (fun _ _ => True) (by kernel_rfl) (by kernel_rfl) (by rfl) (fun _ _ _ _ _ h => h) ⟨hBb, Keeps.refl _ _, r3, fun _ => r2, fun h => by omega⟩ ?_
    refine late_pure (by simp) (fun _ => trivial) (v := ?_) (fun _ => rfl) ?_ ?_; rotate_left; (focus (intro c9 us w9 hm9 hS9 hF; clear hF hm9; go_simp; (try with_reducible rfl); done)); simp only [Act.put, zA, zB, zC, Nat.reduceAdd]
    refine late_fix (by simp) (v := .agg (LEV e' (some ⟨b, o, none⟩) 0 B1 dd1)) ?_ ?_; (focus (intro c9 us w9 hm9 hS9 hF K hK; clear hF; go_simp; refine (end_any g e' _ _ _ _ _ (hS9.2.1.row hr (by decide))).mono ?_; rintro en w' ⟨rfl, hb⟩; exact hK w' (hS9.below hb) trivial)); simp only [Act.put, zA, zB, zC, Nat.reduceAdd]
    refine late_pure (by simp) (fun _ => trivial) (v := .agg (DD)) (fun _ => rfl) ?_ ?_; (focus (intro c9 us w9 hm9 hS9 hF; exact exec_load_g hS9.2.2.1.range Try.underlying40 rfl HDi.out rfl)); simp only [Act.put, zA, zB, zC, Nat.reduceAdd]
    refine late_store rfl ?_ ?_; (focus (intro us w9 hS9 hF K hK; clear hF; rw [if_pos (by rfl)]; exact step_put (L := LEV e' (some ⟨b, o, none⟩) 0 B1 dd1) (hS9.2.2.2.1 rfl) rfl (lev_info _ _ _ _ _) (lev_one _ _ _ _ _) rfl rfl (fun w' u' r' => hK w' (hS9.one u' r' (by omega) (by omega)) trivial))); simp only [Nat.reduceAdd]
    refine late_store rfl ?_ ?_; (focus (intro us w9 hS9 hF K hK; clear hF; rw [if_pos (by rfl)]; exact step_put (L := DD) hS9.2.2.1 rfl HDi.out hL1 rfl rfl (fun w' u' r' => hK w' (hS9.two u' r' (by omega) (by omega)) trivial))); simp only [Nat.reduceAdd]
    refine late_pure (by simp) (fun _ => trivial) (v := ?_) (fun _ => rfl) ?_ ?_; rotate_left; (focus (intro c9 us w9 hm9 hS9 hF; clear hF hm9; go_simp; (try with_reducible rfl); done)); simp only [Act.put, zA, zB, zC, Nat.reduceAdd]
    refine late_done fun us8 w8 hS8 hF => ?_
    have rr3 := hS8.2.2.1
    have rr2 := hS8.2.2.2.2 (by omega)
    have hB8 := hS8.1
    have hk := hS8.2.1
    clear hF hS8
    go_wp2
    refine bodyPost_ret (results_cct rfl rfl rfl rr2 rr3 Try.underlying69 Try.underlying40 rfl rfl (lev_info _ _ _ _ _) HDi.out) rfl ?_
    have hWb : W.heap.size ≤ base := by omega
    have h' := HP.out
    subst h'
    have hM8 := fun w' hw' => isM_of ((hown.keeps hk (by decide)).stay (w' := w') hWb hw') ((hq.keeps hk (by decide)).stay hWb hw') (fun x hx => by have := hve.qm x hx; omega)
    have htl : e.q.tail = [] := List.eq_nil_of_length_eq_zero (by rw [List.length_tail, HQ1.out])
    have hf := nx_go HE.out HG.out (A := some ⟨b, o, none⟩) (B := B1) (c := 0) (d := dd1) ⟨Nat.le_refl _, fun w' hw' => ⟨by rw [HGe.out]; simp only [htl]; exact ⟨rfl, fun h => by simp at h⟩, by rw [HGe.out]; simp [htl], by rw [HGe.out]; exact ((hoB.keeps hk (by decide)).stay hWb hw').isB, by rw [HGe.out]; exact hoB.capM⟩⟩ hB8
    rw [HDD.out] at hf
    exact hf
theorem HeldI.lower {w : World} {lo lo' hi : Nat} {e : LE} {A B : Option Addr} {c d : Nat} (h : HeldI w lo hi e A c B d) (hl : lo' ≤ lo) : HeldI w lo' hi e A c B d := ⟨h.1, fun w' hk => h.2 w' fun g cs t fr h3 h4 h5 h6 => hk g cs t fr (Nat.le_trans hl h3) h4 h5 h6⟩
def EnI (e : LE) (E : Int) (W : World) (en : Ending) (W' : World) : Prop := ∃ A c B d, en = .returned (.tuple #[.agg (LEV e A c B d), .int .i64 E]) ∧ HeldI W' W.heap.size W'.heap.size e A c B d ∧ Below W.heap.size W W'
def NxI (e : LE) (L : Array Value) (E : Int) (W : World) (en : Ending) (W' : World) : Prop := ∃ A c B d, en = .returned (.tuple #[.agg (LEV e A c B d), .agg L, .int .i64 E]) ∧ HeldI W' W.heap.size W'.heap.size e A c B d ∧ Below W.heap.size W W'
theorem new_is {n : Int} (hv : vl n = true) (W : World) : Calls Try.prog 41 #[.int .i64 n] W (fun en W' => en = .returned (.tuple #[.agg (LEV (newL n) none 0 none 0), .int .i64 0]) ∧ Below W.heap.size W W') := by
  have h := new_any n W
  unfold NwP nwE nsE at h
  rw [if_pos hv, if_pos hv] at h
  exact h
theorem held_new (n : Int) (w : World) : Held w (newL n) none 0 none 0 := ⟨⟨rfl, fun h => by simp [newL] at h⟩, Nat.le_refl _, IsB.nil _ _, Nat.le_refl _⟩
def Ch5 (Q0 : World → Prop) (i1 : Nat) (Q1 : Value → World → Prop) (i2 : Nat) (Q2 : Value → World → Prop) (i3 : Nat) (Q3 : Value → World → Prop) (i4 : Nat) (Q4 : Value → World → Prop) (i5 : Nat) (Q5 : Value → World → Prop) (c : Nat) (us : Nat → Value) (w : World) : Prop :=
  (c = 0 → Q0 w) ∧ (c = 1 → Q1 (us i1) w) ∧ (c = 2 → Q2 (us i2) w) ∧ (c = 3 → Q3 (us i3) w) ∧ (c = 4 → Q4 (us i4) w) ∧ (5 ≤ c → Q5 (us i5) w)
theorem Ch5.loc {Q0 : World → Prop} {i1 i2 i3 i4 i5 : Nat} {Q1 Q2 Q3 Q4 Q5 : Value → World → Prop} {ops : Array Oper} {st : List Nat} (h1 : i1 ∈ st.take 1) (h2 : i2 ∈ st.take 2) (h3 : i3 ∈ st.take 3) (h4 : i4 ∈ st.take 4) (h5 : ∀ c, 5 ≤ c → mayAt ops st c i5 = false) :
    ∀ c us us' w', (∀ k, mayAt ops st c k = false ∨ k ∈ st.take c → us k = us' k) → Ch5 Q0 i1 Q1 i2 Q2 i3 Q3 i4 Q4 i5 Q5 c us w' → Ch5 Q0 i1 Q1 i2 Q2 i3 Q3 i4 Q4 i5 Q5 c us' w' := by
  intro c us us' w' hk ⟨a0, a1, a2, a3, a4, a5⟩
  refine ⟨a0, fun hc => ?_, fun hc => ?_, fun hc => ?_, fun hc => ?_, fun hc => ?_⟩
  · subst hc; rw [← hk i1 (.inr h1)]; exact a1 rfl
  · subst hc; rw [← hk i2 (.inr h2)]; exact a2 rfl
  · subst hc; rw [← hk i3 (.inr h3)]; exact a3 rfl
  · subst hc; rw [← hk i4 (.inr h4)]; exact a4 rfl
  · rw [← hk i5 (.inl (h5 c hc))]; exact a5 hc
section
variable {Q0 : World → Prop} {i1 i2 i3 i4 i5 : Nat} {Q1 Q2 Q3 Q4 Q5 : Value → World → Prop} {us : Nat → Value} {w w' : World}
theorem Ch5.zero (h : Q0 w) : Ch5 Q0 i1 Q1 i2 Q2 i3 Q3 i4 Q4 i5 Q5 0 us w := ⟨fun _ => h, fun h => by omega, fun h => by omega, fun h => by omega, fun h => by omega, fun h => by omega⟩
theorem Ch5.one (h : Q1 (us i1) w) : Ch5 Q0 i1 Q1 i2 Q2 i3 Q3 i4 Q4 i5 Q5 1 us w := ⟨fun h => by omega, fun _ => h, fun h => by omega, fun h => by omega, fun h => by omega, fun h => by omega⟩
theorem Ch5.two (h : Q2 (us i2) w) : Ch5 Q0 i1 Q1 i2 Q2 i3 Q3 i4 Q4 i5 Q5 2 us w := ⟨fun h => by omega, fun h => by omega, fun _ => h, fun h => by omega, fun h => by omega, fun h => by omega⟩
theorem Ch5.three (h : Q3 (us i3) w) : Ch5 Q0 i1 Q1 i2 Q2 i3 Q3 i4 Q4 i5 Q5 3 us w := ⟨fun h => by omega, fun h => by omega, fun h => by omega, fun _ => h, fun h => by omega, fun h => by omega⟩
theorem Ch5.four (h : Q4 (us i4) w) : Ch5 Q0 i1 Q1 i2 Q2 i3 Q3 i4 Q4 i5 Q5 4 us w := ⟨fun h => by omega, fun h => by omega, fun h => by omega, fun h => by omega, fun _ => h, fun h => by omega⟩
end
theorem late_chain_is {P : Program} {ops : Array Oper} {st : List Nat} {S : Nat → (Nat → Value) → World → Prop} {G : World → World → Prop} {Q : Exit → Act → World → Prop} {o : Oper} {rest : List Oper} {i c : Nat} {F : List (Nat × (Value → World → Prop))} {A : (Nat → Value) → Act}
    (V : Value → Prop) (hne : o.dst ≠ none) (hs : ∀ us w, S c us w → (∀ p ∈ F, waits o p.1 = true → p.2 (us p.1) w) → ∀ K : Act → World → Prop, (∀ u w', V u → S (c + 1) (fun k => if k = i then u else us k) w' → G w w' → K ((A us).put o.dst u) w') →
      if Region.wanted o (yielded ops (A us).tmps) = true then Oper.wp P o (A us) w K (fun _ _ _ => False) else K ((A us).put o.dst undef) w)
    (h : WalkL P ops st S G Q rest (i + 1) (c + 1) ((i, fun u _ => V u) :: F) (fun us => (A us).put o.dst (us i))) (hi : i ∈ st := by decide) : WalkL P ops st S G Q (o :: rest) i c F A :=
  .inr (.inl ⟨hi, hne, fun u _ => V u, fun _ _ _ _ h => h, fun us w hS hF K hK => hs us w hS hF K fun u w' h0 h1 h2 => hK u w' trivial h2 ⟨h0, h1⟩, h⟩)
end
end Go.Proofs.Ythjkhambmgepdaa
