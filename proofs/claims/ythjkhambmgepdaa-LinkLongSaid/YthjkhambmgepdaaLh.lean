/- Links: what Next computes, in plain words; words for its regions. -/
import Derived.Test.YthjkhambmgepdaaLg
namespace Go.Proofs.Ythjkhambmgepdaa
open Go.RowKit
set_option linter.unusedVariables false
/-- A message goes on. -/
def nxGo (e : LE) : Bool := decide (0 < e.q.length) && decide (0 < fr e.n e.s e.a)
def nxE (e : LE) : Int := if vE e = true then (if nxGo e = true then (if e.s = 4611686018427387904 then 15 else 0) else if e.rn / 2 ≤ e.rc - e.told then 0 else 17) else 74
def nxEnd (e : LE) : Bool := frS e == (frM e).length
def nxG (e : LE) : LE := { e with s := e.s + 1, off := if nxEnd e = true then -1 else (frS e : Int), q := if nxEnd e = true then e.q.tail else e.q, told := e.rc }
def nxA (e : LE) : LE := { e with told := e.rc }
def nxL (e : LE) : LE := if nxE e = 0 then (if nxGo e = true then nxG e else nxA e) else zeL
def nxD (e : LE) : Array Value := LV 1 (ep e.n e.s) (decide (e.off < 0)) (frP e).length (acN e.rn e.rc) (frP e ++ z56.drop (frP e).length)
def nxK (e : LE) : Array Value := LV 2 false false 0 (acN e.rn e.rc) z56
def nxV (e : LE) : Array Value := if nxE e = 0 then (if nxGo e = true then nxD e else nxK e) else ZL
def NxP (e : LE) (W : World) (en : Ending) (W' : World) : Prop := ∃ A c B d, en = .returned (.tuple #[.agg (LEV (nxL e) A c B d), .agg (nxV e), .int .i64 (nxE e)]) ∧ HeldI W' W.heap.size W'.heap.size (nxL e) A c B d ∧ Below W.heap.size W W'
theorem nx_no {e : LE} {E : Int} (h : nxE e = E) (hE : E ≠ 0) {W W' : World} (hb : Below W.heap.size W W') : NxP e W (.returned (.tuple #[.agg ZE, .agg ZL, .int .i64 E])) W' := by
  have h1 : nxL e = zeL := by unfold nxL; rw [h, if_neg hE]
  have h2 : nxV e = ZL := by unfold nxV; rw [h, if_neg hE]
  refine ⟨none, 0, none, 0, ?_, ?_, hb⟩
  · rw [h, h1, h2]; rfl
  · rw [h1]; exact ⟨Nat.le_refl _, fun _ _ => held_zero _⟩
theorem nx_ack {e : LE} (h : nxE e = 0) (hg : nxGo e = false) {W W' : World} {A B : Option Addr} {c d : Nat} (hH : HeldI W' W.heap.size W'.heap.size (nxA e) A c B d) (hb : Below W.heap.size W W') : NxP e W (.returned (.tuple #[.agg (LEV (nxA e) A c B d), .agg (nxK e), .int .i64 0])) W' := by
  have h1 : nxL e = nxA e := by unfold nxL; rw [h, hg]; rfl
  have h2 : nxV e = nxK e := by unfold nxV; rw [h, hg]; rfl
  refine ⟨A, c, B, d, ?_, ?_, hb⟩
  · rw [h, h1, h2]
  · rw [h1]; exact hH
theorem nx_go {e : LE} (h : nxE e = 0) (hg : nxGo e = true) {W W' : World} {A B : Option Addr} {c d : Nat} (hH : HeldI W' W.heap.size W'.heap.size (nxG e) A c B d) (hb : Below W.heap.size W W') : NxP e W (.returned (.tuple #[.agg (LEV (nxG e) A c B d), .agg (nxD e), .int .i64 0])) W' := by
  have h1 : nxL e = nxG e := by unfold nxL; rw [h, hg]; rfl
  have h2 : nxV e = nxD e := by unfold nxV; rw [h, hg]; rfl
  refine ⟨A, c, B, d, ?_, ?_, hb⟩
  · rw [h, h1, h2]
  · rw [h1]; exact hH
structure VE (e : LE) : Prop where
  vs : vs e.n e.s e.a = true
  ql : e.q.length ≤ 64
  qm : ∀ m ∈ e.q, m.length ≤ 1048576
  off : e.off = -1 ∨ (0 < e.q.length ∧ 52 ≤ e.off ∧ e.off < (frM e).length ∧ (e.off - 52) % 56 = 0)
  vr : vr e.rn e.rc = true
  told : e.told ≤ e.rc
  part : partOk e.want e.pt = true
  same : e.n = e.rn
theorem cutB_yes {k n : Int} (h : cutB k n = true) : 52 ≤ k ∧ k < n ∧ (k - 52) % 56 = 0 := by simpa [cutB, and_assoc] using h
theorem vE_yes {e : LE} (h : vE e = true) : VE e := by
  have hq := vE_q h
  simp only [vE, soundB, compB, Bool.and_eq_true, decide_eq_true_eq, beq_iff_eq] at h
  obtain ⟨⟨⟨⟨⟨h1, h2⟩, h3⟩, h4⟩, ⟨⟨h5, h6⟩, h7⟩⟩, h8⟩ := h
  refine ⟨h1, hq.1, hq.2, ?_, h5, h6, h7, h8⟩
  simp only [offOk, Bool.or_eq_true, beq_iff_eq, Bool.and_eq_true, decide_eq_true_eq] at h4
  rcases h4 with h4 | ⟨h4, h9⟩
  · exact .inl h4
  · have := cutB_yes h9
    exact .inr ⟨h4, this.1, this.2.1, this.2.2⟩
theorem frM_mem {e : LE} (h : 0 < e.q.length) : frM e ∈ e.q := by rw [frM_eq h]; exact List.getElem_mem h
theorem frP_len {e : LE} (h : VE e) (h0 : 0 < e.q.length) : (frP e).length ≤ 56 := by
  unfold frP
  split
  · rw [List.length_append, fixB_len, List.length_take]; omega
  · rw [List.length_take]; omega
theorem three_born (w : World) (t1 t2 t3 : TypeId) (cs1 cs2 cs3 : Array Value) : Row (((w.alloc (.cells cs1 t1)).alloc (.cells cs2 t2)).alloc (.cells cs3 t3)) w.heap.size t1 cs1 ∧ Row (((w.alloc (.cells cs1 t1)).alloc (.cells cs2 t2)).alloc (.cells cs3 t3)) (w.heap.size + 1) t2 cs2 ∧
    Row (((w.alloc (.cells cs1 t1)).alloc (.cells cs2 t2)).alloc (.cells cs3 t3)) (w.heap.size + 2) t3 cs3 ∧ Below w.heap.size w (((w.alloc (.cells cs1 t1)).alloc (.cells cs2 t2)).alloc (.cells cs3 t3)) := by
  have e1 : (w.alloc (.cells cs1 t1)).heap.size = w.heap.size + 1 := by simp
  have e2 : ((w.alloc (.cells cs1 t1)).alloc (.cells cs2 t2)).heap.size = w.heap.size + 2 := by simp
  refine ⟨((Row.born w t1 cs1).alloc _).alloc _, ?_, ?_, (((Below.refl _ _).alloc (Nat.le_refl _) _).alloc (by simp) _).alloc (by simp; omega) _⟩
  · have h := Row.born (w.alloc (.cells cs1 t1)) t2 cs2
    rw [e1] at h
    exact h.alloc _
  · have h := Row.born ((w.alloc (.cells cs1 t1)).alloc (.cells cs2 t2)) t3 cs3
    rwa [e2] at h
/-- Next's last region: the end and the line are handed over. -/
def NxS (W w0 : World) (gl ge : Nat) (L X : Array Value) (c : Nat) (us : Nat → Value) (w' : World) : Prop := Below W.heap.size W w' ∧ Keeps [40, 69] w0 w' ∧ Row w' gl 40 L ∧ (c = 0 → Row w' ge 69 ZE) ∧ (1 ≤ c → Row w' ge 69 X)
theorem NxS.below {W w0 w9 w' : World} {gl ge : Nat} {L X : Array Value} {c : Nat} {us : Nat → Value} (h : NxS W w0 gl ge L X c us w9) (hb : Below w9.heap.size w9 w') : NxS W w0 gl ge L X c us w' :=
  ⟨below_on h.1 hb, h.2.1.trans (Keeps.below hb), h.2.2.1.below hb h.2.2.1.lt, fun hc => (h.2.2.2.1 hc).below hb (h.2.2.2.1 hc).lt, fun hc => (h.2.2.2.2 hc).below hb (h.2.2.2.2 hc).lt⟩
theorem NxS.one {W w0 w9 w' : World} {gl ge : Nat} {L X : Array Value} {us : Nat → Value} (h : NxS W w0 gl ge L X 0 us w9) (u : Upd w9 w' ge) (r : Row w' ge 69 X) (hW : W.heap.size ≤ ge) (hne : gl ≠ ge) : NxS W w0 gl ge L X 1 us w' :=
  ⟨Upd.below h.1 u hW, h.2.1.trans (Keeps.upd u (h.2.2.2.1 rfl) (by simp)), h.2.2.1.upd u hne, fun h => by omega, fun _ => r⟩
theorem NxS.two {W w0 w9 w' : World} {gl ge : Nat} {L X : Array Value} {us : Nat → Value} (h : NxS W w0 gl ge L X 1 us w9) (u : Upd w9 w' gl) (r : Row w' gl 40 L) (hW : W.heap.size ≤ gl) (hne : gl ≠ ge) : NxS W w0 gl ge L X 2 us w' :=
  ⟨Upd.below h.1 u hW, h.2.1.trans (Keeps.upd u h.2.2.1 (by simp)), r, fun h => by omega, fun _ => (h.2.2.2.2 (by omega)).upd u (Ne.symm hne)⟩
/-- The region in which the sender, the line and the offset are stored. -/
def NxT (W w0 : World) (g gl g11 : Nat) (X0 X1 X2 L : Array Value) (c : Nat) (us : Nat → Value) (w' : World) : Prop :=
  Below W.heap.size W w' ∧ Keeps [40, 155] w0 w' ∧ Row w' g11 40 L ∧ (c = 0 → Row w' g 155 X0) ∧ (1 ≤ c → c ≤ 2 → Row w' g 155 X1) ∧ (3 ≤ c → Row w' g 155 X2) ∧ (c ≤ 1 → Row w' gl 40 ZL) ∧ (2 ≤ c → Row w' gl 40 L)
section
variable {W w0 w9 w' : World} {g gl g11 : Nat} {X0 X1 X2 L : Array Value} {us : Nat → Value}
theorem NxT.one (h : NxT W w0 g gl g11 X0 X1 X2 L 0 us w9) (u : Upd w9 w' g) (r : Row w' g 155 X1) (hW : W.heap.size ≤ g) (h1 : g11 ≠ g) (h2 : gl ≠ g) : NxT W w0 g gl g11 X0 X1 X2 L 1 us w' :=
  ⟨Upd.below h.1 u hW, h.2.1.trans (Keeps.upd u (h.2.2.2.1 rfl) (by simp)), h.2.2.1.upd u h1, fun h => by omega, fun _ _ => r, fun h => by omega, fun _ => (h.2.2.2.2.2.2.1 (by omega)).upd u h2, fun h => by omega⟩
theorem NxT.two (h : NxT W w0 g gl g11 X0 X1 X2 L 1 us w9) (u : Upd w9 w' gl) (r : Row w' gl 40 L) (hW : W.heap.size ≤ gl) (h1 : g11 ≠ gl) (h2 : g ≠ gl) : NxT W w0 g gl g11 X0 X1 X2 L 2 us w' :=
  ⟨Upd.below h.1 u hW, h.2.1.trans (Keeps.upd u (h.2.2.2.2.2.2.1 (by omega)) (by simp)), h.2.2.1.upd u h1, fun h => by omega, fun _ _ => (h.2.2.2.2.1 (by omega) (by omega)).upd u h2, fun h => by omega, fun h => by omega, fun _ => r⟩
theorem NxT.three (h : NxT W w0 g gl g11 X0 X1 X2 L 2 us w9) (u : Upd w9 w' g) (r : Row w' g 155 X2) (hW : W.heap.size ≤ g) (h1 : g11 ≠ g) (h2 : gl ≠ g) : NxT W w0 g gl g11 X0 X1 X2 L 3 us w' :=
  ⟨Upd.below h.1 u hW, h.2.1.trans (Keeps.upd u (h.2.2.2.2.1 (by omega) (by omega)) (by simp)), h.2.2.1.upd u h1, fun h => by omega, fun h => by omega, fun _ => r, fun h => by omega, fun _ => (h.2.2.2.2.2.2.2 (by omega)).upd u h2⟩
end
theorem step_put_mid {P : Program} {K : Act → World → Prop} {Q : Exit → Act → World → Prop} {a : Act} {w : World} {typ : TypeId} {pos : String} {after : Array Edge} {ty : TypeId} {x y : Operand} {g off : Nat} {t : TypeId} {pre cs post : List Value} {L : Array Value} (hrow : Row w g t (pre ++ cs ++ post).toArray) (ho : off = pre.length) (hs : cs.length = L.size) (hn : (P.info? ty).map (·.size) = some L.size)
    (h1 : L.all (·.oneCell') = true) (hx : a.eval x = .pointer (some ⟨g, off, none⟩)) (hy : a.eval y = .agg L) (h : ∀ w', Upd w w' g → Row w' g t (pre ++ L.toList ++ post).toArray → K a w') :
    Oper.wp P { dst := none, op := .store ty x y, type := typ, pos := pos, after := after, guard := none } a w K Q := by
  subst ho
  have ht : w.there g pre.length L.size := fun j hj => by
    refine ⟨?_, hrow.frozen _⟩
    rw [hrow.cell]
    simp; omega
  refine wp_store_mid (op := { dst := none, op := .store ty x y, type := typ, pos := pos, after := after, guard := none }) ty x y rfl g pre.length L hx hy ht hn h1 ?_
  exact h _ (Upd.setCells g _ w _) (Row.setCells (g := g) (t := t) L.toList w pre post cs hrow (by simpa using hs))
theorem IsM.tail {w : World} {b o n : Nat} {q : List (List UInt8)} (h : IsM w (some ⟨b, o, none⟩) n q) (hn : 0 < n) : IsM w (some ⟨b, o + 1, none⟩) (n - 1) q.tail := by
  obtain ⟨h1, h2⟩ := h
  refine ⟨by simp; omega, fun _ => ⟨b, o + 1, rfl, fun r hr => ?_⟩⟩
  obtain ⟨b', o', e, hc⟩ := h2 hn
  injection e with e
  injection e with e1 e2 e3
  subst e1 e2
  have hr' : r + 1 < q.length := by simp at hr; omega
  obtain ⟨A, C, x, y⟩ := hc (r + 1) hr'
  refine ⟨A, C, ?_⟩
  simp only [List.getElem_tail]
  rw [Nat.add_assoc, Nat.add_comm 1 r]
  exact ⟨x, y⟩
end Go.Proofs.Ythjkhambmgepdaa
