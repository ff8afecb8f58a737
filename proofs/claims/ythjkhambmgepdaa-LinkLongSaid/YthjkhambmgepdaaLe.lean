/- Links: open; a message put behind the queue. -/
import Derived.Test.YthjkhambmgepdaaLd
import Derived.Test.YthjkhambmgepdaaOwr
namespace Go.Proofs.Ythjkhambmgepdaa
open Go.RowKit
set_option linter.unusedVariables false
/-- The halves' cells: the queue's slice Q, the part's slice R. -/
def BV (e : LE) (Q R : Value) : Array Value := #[.int .i64 e.n, .int .u64 e.s, .int .u64 e.a, Q, .int .i64 e.off, .int .i64 e.rn, .int .u64 e.rc, .int .i64 e.want, R, .int .u64 e.told]
/-- These slices read as the messages, each in memory of the call's own. -/
def QV (w : World) (base : Nat) (vs : List Value) (q : List (List UInt8)) : Prop := vs.length = q.length ∧ ∀ i (h : i < q.length), ∃ A c, vs[i]? = some (.slice A (q[i]).length c) ∧ OwnB w base 5 A (q[i]).length c q[i]
theorem QV.nil (w : World) (base : Nat) : QV w base [] [] := ⟨rfl, fun i h => by simp at h⟩
theorem QV.keeps {ts : List TypeId} {w w' : World} {base : Nat} {vs : List Value} {q : List (List UInt8)} (h : QV w base vs q) (k : Keeps ts w w') (ht : 5 ∉ ts) : QV w' base vs q := ⟨h.1, fun i hi => by
  obtain ⟨A, c, e, ho⟩ := h.2 i hi
  exact ⟨A, c, e, ho.keeps k ht⟩⟩
theorem QV.snoc {w : World} {base b2 : Nat} {vs : List Value} {q : List (List UInt8)} (h : QV w base vs q) {m : List UInt8} {A : Option Addr} {c : Nat} (ho : OwnB w b2 5 A m.length c m) (hb : base ≤ b2) : QV w base (vs ++ [.slice A m.length c]) (q ++ [m]) := by
  refine ⟨by simp [h.1], fun i hi => ?_⟩
  rcases Nat.lt_or_ge i q.length with h1 | h1
  · obtain ⟨A', c', e, ho'⟩ := h.2 i h1
    refine ⟨A', c', ?_, ?_⟩
    · rw [List.getElem?_append_left (by rw [h.1]; exact h1), e, List.getElem_append_left h1]
    · rw [List.getElem_append_left h1]; exact ho'
  · have hi' : i = q.length := by simp at hi; omega
    subst hi'
    refine ⟨A, c, ?_, ?_⟩
    · rw [List.getElem?_append_right (by rw [h.1]; exact Nat.le_refl _), h.1]; simp
    · simpa using ho.lower hb
theorem isM_of {w : World} {base c : Nat} {A : Option Addr} {vs : List Value} {q : List (List UInt8)} (ho : OwnV w base 44 1 A q.length c vs) (h : QV w base vs q) (hq : ∀ m ∈ q, m.length ≤ 9223372036854775807) : IsM w A q.length q := by
  refine ⟨rfl, fun h0 => ?_⟩
  obtain ⟨g, rfl, -, -⟩ := ho.form h0
  refine ⟨g, 0, rfl, fun r hr => ?_⟩
  obtain ⟨A', c', e, ho'⟩ := h.2 r hr
  refine ⟨A', c', ?_, ho'.capM, hq _ (List.getElem_mem hr), ho'.isB⟩
  rw [Nat.zero_add, World.ownsRow.cellAt (show w.ownsRow base 44 1 (.slice (some ⟨g, 0, none⟩) q.length c) q.length vs from ho) r (by rw [Nat.mul_one]; exact hr), e]
theorem info_44 : (Try.prog.info? 44).map (fun i => (i.zero, i.size, i.bytes)) = some (some (.slice none 0 0), 1, 24) := by kernel_rfl
/-- A message is put behind the queue, in a region that draws its order: number 7 copies it, 8 makes its slice, 9 appends, 13 stores. -/
def EnqS (W w0 : World) (base g : Nat) (C : Value → Array Value) (A : Option Addr) (n c0 : Nat) (vs : List Value) (m : Nat) (bs : List UInt8) (c : Nat) (us : Nat → Value) (w' : World) : Prop :=
  Below W.heap.size W w' ∧ Keeps [44, 155] w0 w' ∧ (c ≤ 2 → Below w0.heap.size w0 w') ∧
  (c = 1 → ∃ Am cm, us 7 = .slice Am m cm ∧ OwnB w' w0.heap.size 5 Am m cm bs) ∧
  (c = 2 → ∃ Am cm gb, us 8 = .slice (some ⟨gb, 0, none⟩) 1 1 ∧ Row w' gb 44 #[.slice Am m cm] ∧ OwnB w' w0.heap.size 5 Am m cm bs) ∧
  (3 ≤ c → ∃ A' c' Am cm, us 9 = .slice A' (n + 1) c' ∧ OwnV w' base 44 1 A' (n + 1) c' (vs ++ [.slice Am m cm]) ∧ OwnB w' w0.heap.size 5 Am m cm bs ∧ (4 ≤ c → Row w' g 155 (C (.slice A' (n + 1) c')))) ∧
  (c = 3 → Row w' g 155 (C (.slice A n c0)))
section
variable {W w0 : World} {base g : Nat} {C : Value → Array Value} {A : Option Addr} {n c0 : Nat} {vs : List Value} {m : Nat} {bs : List UInt8} {us : Nat → Value} {w9 w' : World}
theorem EnqS.loc {ops : Array Oper} : ∀ c us us' w, (∀ k, mayAt ops [7, 8, 9, 13] c k = false ∨ k ∈ [7, 8, 9, 13].take c → us k = us' k) → EnqS W w0 base g C A n c0 vs m bs c us w → EnqS W w0 base g C A n c0 vs m bs c us' w := by
  intro c us us' w hk ⟨a, b, d, e, f, h, i⟩
  refine ⟨a, b, d, fun hc => ?_, fun hc => ?_, fun hc => ?_, i⟩
  · rw [← hk 7 (.inr (by subst hc; simp))]
    exact e hc
  · rw [← hk 8 (.inr (by subst hc; simp))]
    exact f hc
  · rw [← hk 9 (.inr (by obtain ⟨k, rfl⟩ : ∃ k, c = k + 3 := ⟨c - 3, by omega⟩; simp))]
    exact h hc
theorem EnqS.zero (h : Below W.heap.size W w0) : EnqS W w0 base g C A n c0 vs m bs 0 us w0 := ⟨h, Keeps.refl _ _, fun _ => Below.refl _ _, fun h => by omega, fun h => by omega, fun h => by omega, fun h => by omega⟩
theorem EnqS.one (h : EnqS W w0 base g C A n c0 vs m bs 0 us w9) (hb : Below w9.heap.size w9 w') {Am : Option Addr} {cm : Nat} (ho : OwnB w' w9.heap.size 5 Am m cm bs) : EnqS W w0 base g C A n c0 vs m bs 1 (fun k => if k = 7 then .slice Am m cm else us k) w' :=
  ⟨below_on h.1 hb, h.2.1.trans (Keeps.below hb), fun _ => below_on (h.2.2.1 (by omega)) hb, fun _ => ⟨Am, cm, if_pos rfl, ho.lower h.2.1.1⟩, fun h => by omega, fun h => by omega, fun h => by omega⟩
theorem EnqS.two (h : EnqS W w0 base g C A n c0 vs m bs 1 us w9) {Am : Option Addr} {cm : Nat} (ho : OwnB w9 w0.heap.size 5 Am m cm bs) : EnqS W w0 base g C A n c0 vs m bs 2 (fun k => if k = 8 then .slice (some ⟨w9.heap.size, 0, none⟩) 1 1 else us k) (w9.alloc (.cells #[.slice Am m cm] 44)) := by
  have hb := (Below.refl w9.heap.size w9).alloc (Nat.le_refl _) (.cells #[.slice Am m cm] 44)
  exact ⟨below_on h.1 hb, h.2.1.trans (Keeps.below hb), fun _ => below_on (h.2.2.1 (by omega)) hb, fun h => by omega, fun _ => ⟨Am, cm, w9.heap.size, if_pos rfl, Row.born _ _ _, ho.alloc _⟩, fun h => by omega, fun h => by omega⟩
theorem EnqS.three (h : EnqS W w0 base g C A n c0 vs m bs 2 us w9) (hW : W.heap.size ≤ base) (hr0 : Row w0 g 155 (C (.slice A n c0))) (hown : OwnV w9 base 44 1 A n c0 vs) {Am A' : Option Addr} {cm c' : Nat} (ho : OwnB w9 w0.heap.size 5 Am m cm bs) (h2 : OwnV w' base 44 1 A' (n + 1) c' (vs ++ [.slice Am m cm])) (h3 : w9.grownBy w' (Value.slice A n c0).ownBlock) :
    EnqS W w0 base g C A n c0 vs m bs 3 (fun k => if k = 9 then .slice A' (n + 1) c' else us k) w' := by
  have k4 : Keeps [44] w9 w' := Keeps.grown h3 hown.typed
  have k : Keeps [44, 155] w9 w' := ⟨k4.1, fun g t cs fr hg ht => k4.2 g t cs fr hg (fun h' => ht (by simp at h'; simp [h']))⟩
  have hsz : W.heap.size ≤ w9.heap.size := h.1.size
  refine ⟨h.1.grown h3 hsz (fun k hk => by have := (hown.ge k hk).1; omega), h.2.1.trans k, fun h => by omega, fun h => by omega, fun h => by omega, fun _ => ⟨A', c', Am, cm, if_pos rfl, h2, ho.keeps k4 (by decide), fun h => by omega⟩, fun _ => ?_⟩
  exact k4.row ((h.2.2.1 (by omega)).block g hr0.lt |>.trans hr0) (by decide)
theorem EnqS.four (h : EnqS W w0 base g C A n c0 vs m bs 3 us w9) {u : Value} (hu : us 9 = u) (hWg : W.heap.size ≤ g) (hC : ∀ v u, (C v).setIfInBounds 3 u = C u) : EnqS W w0 base g C A n c0 vs m bs 4 us (w9.setCell ⟨g, 3, none⟩ u) := by
  obtain ⟨A', c', Am, cm, h1, h2, h3, -⟩ := h.2.2.2.2.2.1 (by omega)
  have hr := h.2.2.2.2.2.2 rfl
  have k : Keeps [155] w9 (w9.setCell ⟨g, 3, none⟩ u) := Keeps.upd (Upd.setCell w9 g 3 u) hr (by simp)
  have k2 : Keeps [44, 155] w9 (w9.setCell ⟨g, 3, none⟩ u) := Keeps.upd (Upd.setCell w9 g 3 u) hr (by simp)
  refine ⟨h.1.setCell hWg _, h.2.1.trans k2, fun h => by omega, fun h => by omega, fun h => by omega, fun _ => ⟨A', c', Am, cm, h1, h2.keeps k (by decide), h3.keeps k (by decide), fun _ => ?_⟩, fun h => by omega⟩
  have := hr.set 3 u
  rw [hC] at this
  rwa [← h1, hu]
end
def OpP (e : LE) (W : World) (en : Ending) (W' : World) : Prop := ∃ g A c B d vs, en = .returned (.pointer (some ⟨g, 0, none⟩)) ∧ W.heap.size ≤ g ∧ Row W' g 155 (BV e (.slice A e.q.length c) (.slice B e.pt.length d)) ∧ OwnV W' W.heap.size 44 1 A e.q.length c vs ∧ QV W' W.heap.size vs e.q ∧ OwnB W' W.heap.size 5 B e.pt.length d e.pt ∧ Below W.heap.size W W'
/-- The values that open's first region makes. -/
def OpA (base : Nat) (e : LE) (u : Value) (w : World) : Prop := ∃ B d, u = .slice B e.pt.length d ∧ OwnB w base 5 B e.pt.length d e.pt
def OpB (base : Nat) (e : LE) (u : Value) (w : World) : Prop := ∃ B d, u = .agg #[.int .i64 e.rn, .int .u64 e.rc, .int .i64 e.want, .slice B e.pt.length d, .int .u64 e.told] ∧ OwnB w base 5 B e.pt.length d e.pt
def OpC (base : Nat) (e : LE) (u : Value) (w : World) : Prop := ∃ B d, u = .agg (BV e (.slice none 0 0) (.slice B e.pt.length d)) ∧ OwnB w base 5 B e.pt.length d e.pt
def OpD (base : Nat) (e : LE) (u : Value) (w : World) : Prop := ∃ g B d, u = .pointer (some ⟨g, 0, none⟩) ∧ base ≤ g ∧ Row w g 155 (BV e (.slice none 0 0) (.slice B e.pt.length d)) ∧ OwnB w base 5 B e.pt.length d e.pt
theorem OpA.mono {base : Nat} {e : LE} (u : Value) (w w' : World) (hb : Below w.heap.size w w') (h : OpA base e u w) : OpA base e u w' := by
  obtain ⟨B, d, h1, h2⟩ := h
  exact ⟨B, d, h1, h2.below hb⟩
theorem OpB.mono {base : Nat} {e : LE} (u : Value) (w w' : World) (hb : Below w.heap.size w w') (h : OpB base e u w) : OpB base e u w' := by
  obtain ⟨B, d, h1, h2⟩ := h
  exact ⟨B, d, h1, h2.below hb⟩
theorem OpC.mono {base : Nat} {e : LE} (u : Value) (w w' : World) (hb : Below w.heap.size w w') (h : OpC base e u w) : OpC base e u w' := by
  obtain ⟨B, d, h1, h2⟩ := h
  exact ⟨B, d, h1, h2.below hb⟩
theorem OpD.mono {base : Nat} {e : LE} (u : Value) (w w' : World) (hb : Below w.heap.size w w') (h : OpD base e u w) : OpD base e u w' := by
  obtain ⟨g, B, d, h1, h2, h3, h4⟩ := h
  exact ⟨g, B, d, h1, h2, h3.below hb h3.lt, h4.below hb⟩
set_option maxRecDepth 100000 in
set_option maxHeartbeats 4000000 in
theorem open_any (e : LE) (A B : Option Addr) (c d : Nat) (W : World) (ht : e.ty) (hH : Held W e A c B d) : Calls Try.prog 102 #[.agg (LEV e A c B d)] W (OpP e W) := by
  have hB1 := (Below.refl W.heap.size W).alloc (Nat.le_refl _) (.cells (LEV e A c B d) 69)
  have r1 := Row.born W 69 (LEV e A c B d)
  have hl1 := r1.lt
  go_enter Try.func102, Try.ntmps102
  go_upto_region 1 with (fail)
  generalize W.alloc (.cells (LEV e A c B d) 69) = w1 at *
  have r1 : Row w1.drew W.heap.size 69 (LEV e A c B d) := r1
  have hB1 : Below W.heap.size W w1.drew := hB1.drew
  have hl1 : W.heap.size < w1.drew.heap.size := hl1
  obtain ⟨⟨c0, c1, c2, c3, c4⟩, ⟨c5, c6, c7, c8, c9⟩, -⟩ := end_cells r1
  have hH1 := hH.below hB1
  refine wp_region_tailN (n := 45) 17 (fun w' => Below w1.drew.heap.size w1.drew w') (fun w w' => Below w.heap.size w w') (by kernel_rfl) (by kernel_rfl) (by decide) (by rfl) (Below.refl _ _) ?_
  simp only [List.take_succ_cons, List.take_zero, List.drop_succ_cons, List.drop_zero]
  refine tail_pure (v := ?_) (fun w => Below.refl _ w) (fun _ => rfl) ?_ ?_; rotate_left; (focus (intro us w9 hS9 hF; clear hF; have b0 := (hS9.cell (p := ⟨W.heap.size, 0, none⟩) hl1).trans c0; have b1 := (hS9.cell (p := ⟨W.heap.size, 1, none⟩) hl1).trans c1; have b2 := (hS9.cell (p := ⟨W.heap.size, 2, none⟩) hl1).trans c2; have b3 := (hS9.cell (p := ⟨W.heap.size, 3, none⟩) hl1).trans c3; have b4 := (hS9.cell (p := ⟨W.heap.size, 4, none⟩) hl1).trans c4; have b6 := (hS9.cell (p := ⟨W.heap.size, 6, none⟩) hl1).trans c6; have b7 := (hS9.cell (p := ⟨W.heap.size, 7, none⟩) hl1).trans c7; have b8 := (hS9.cell (p := ⟨W.heap.size, 8, none⟩) hl1).trans c8; have b9 := (hS9.cell (p := ⟨W.heap.size, 9, none⟩) hl1).trans c9; go_simp; (try with_reducible rfl); done)); simp only [Act.put, List.setIfInBounds_toArray, List.set_cons_zero, List.set_cons_succ, Nat.reduceAdd]
  refine tail_pure (v := ?_) (fun w => Below.refl _ w) (fun _ => rfl) ?_ ?_; rotate_left; (focus (intro us w9 hS9 hF; clear hF; have b0 := (hS9.cell (p := ⟨W.heap.size, 0, none⟩) hl1).trans c0; have b1 := (hS9.cell (p := ⟨W.heap.size, 1, none⟩) hl1).trans c1; have b2 := (hS9.cell (p := ⟨W.heap.size, 2, none⟩) hl1).trans c2; have b3 := (hS9.cell (p := ⟨W.heap.size, 3, none⟩) hl1).trans c3; have b4 := (hS9.cell (p := ⟨W.heap.size, 4, none⟩) hl1).trans c4; have b6 := (hS9.cell (p := ⟨W.heap.size, 6, none⟩) hl1).trans c6; have b7 := (hS9.cell (p := ⟨W.heap.size, 7, none⟩) hl1).trans c7; have b8 := (hS9.cell (p := ⟨W.heap.size, 8, none⟩) hl1).trans c8; have b9 := (hS9.cell (p := ⟨W.heap.size, 9, none⟩) hl1).trans c9; go_simp; (try with_reducible rfl); done)); simp only [Act.put, List.setIfInBounds_toArray, List.set_cons_zero, List.set_cons_succ, Nat.reduceAdd]
  refine tail_pure (v := ?_) (fun w => Below.refl _ w) (fun _ => rfl) ?_ ?_; rotate_left; (focus (intro us w9 hS9 hF; clear hF; have b0 := (hS9.cell (p := ⟨W.heap.size, 0, none⟩) hl1).trans c0; have b1 := (hS9.cell (p := ⟨W.heap.size, 1, none⟩) hl1).trans c1; have b2 := (hS9.cell (p := ⟨W.heap.size, 2, none⟩) hl1).trans c2; have b3 := (hS9.cell (p := ⟨W.heap.size, 3, none⟩) hl1).trans c3; have b4 := (hS9.cell (p := ⟨W.heap.size, 4, none⟩) hl1).trans c4; have b6 := (hS9.cell (p := ⟨W.heap.size, 6, none⟩) hl1).trans c6; have b7 := (hS9.cell (p := ⟨W.heap.size, 7, none⟩) hl1).trans c7; have b8 := (hS9.cell (p := ⟨W.heap.size, 8, none⟩) hl1).trans c8; have b9 := (hS9.cell (p := ⟨W.heap.size, 9, none⟩) hl1).trans c9; go_simp; (try with_reducible rfl); done)); simp only [Act.put, List.setIfInBounds_toArray, List.set_cons_zero, List.set_cons_succ, Nat.reduceAdd]
  refine tail_pure (v := ?_) (fun w => Below.refl _ w) (fun _ => rfl) ?_ ?_; rotate_left; (focus (intro us w9 hS9 hF; clear hF; have b0 := (hS9.cell (p := ⟨W.heap.size, 0, none⟩) hl1).trans c0; have b1 := (hS9.cell (p := ⟨W.heap.size, 1, none⟩) hl1).trans c1; have b2 := (hS9.cell (p := ⟨W.heap.size, 2, none⟩) hl1).trans c2; have b3 := (hS9.cell (p := ⟨W.heap.size, 3, none⟩) hl1).trans c3; have b4 := (hS9.cell (p := ⟨W.heap.size, 4, none⟩) hl1).trans c4; have b6 := (hS9.cell (p := ⟨W.heap.size, 6, none⟩) hl1).trans c6; have b7 := (hS9.cell (p := ⟨W.heap.size, 7, none⟩) hl1).trans c7; have b8 := (hS9.cell (p := ⟨W.heap.size, 8, none⟩) hl1).trans c8; have b9 := (hS9.cell (p := ⟨W.heap.size, 9, none⟩) hl1).trans c9; go_simp; (try with_reducible rfl); done)); simp only [Act.put, List.setIfInBounds_toArray, List.set_cons_zero, List.set_cons_succ, Nat.reduceAdd]
  refine tail_pure (v := ?_) (fun w => Below.refl _ w) (fun _ => rfl) ?_ ?_; rotate_left; (focus (intro us w9 hS9 hF; clear hF; have b0 := (hS9.cell (p := ⟨W.heap.size, 0, none⟩) hl1).trans c0; have b1 := (hS9.cell (p := ⟨W.heap.size, 1, none⟩) hl1).trans c1; have b2 := (hS9.cell (p := ⟨W.heap.size, 2, none⟩) hl1).trans c2; have b3 := (hS9.cell (p := ⟨W.heap.size, 3, none⟩) hl1).trans c3; have b4 := (hS9.cell (p := ⟨W.heap.size, 4, none⟩) hl1).trans c4; have b6 := (hS9.cell (p := ⟨W.heap.size, 6, none⟩) hl1).trans c6; have b7 := (hS9.cell (p := ⟨W.heap.size, 7, none⟩) hl1).trans c7; have b8 := (hS9.cell (p := ⟨W.heap.size, 8, none⟩) hl1).trans c8; have b9 := (hS9.cell (p := ⟨W.heap.size, 9, none⟩) hl1).trans c9; go_simp; (try with_reducible rfl); done)); simp only [Act.put, List.setIfInBounds_toArray, List.set_cons_zero, List.set_cons_succ, Nat.reduceAdd]
  refine tail_pure (v := ?_) (fun w => Below.refl _ w) (fun _ => rfl) ?_ ?_; rotate_left; (focus (intro us w9 hS9 hF; clear hF; have b0 := (hS9.cell (p := ⟨W.heap.size, 0, none⟩) hl1).trans c0; have b1 := (hS9.cell (p := ⟨W.heap.size, 1, none⟩) hl1).trans c1; have b2 := (hS9.cell (p := ⟨W.heap.size, 2, none⟩) hl1).trans c2; have b3 := (hS9.cell (p := ⟨W.heap.size, 3, none⟩) hl1).trans c3; have b4 := (hS9.cell (p := ⟨W.heap.size, 4, none⟩) hl1).trans c4; have b6 := (hS9.cell (p := ⟨W.heap.size, 6, none⟩) hl1).trans c6; have b7 := (hS9.cell (p := ⟨W.heap.size, 7, none⟩) hl1).trans c7; have b8 := (hS9.cell (p := ⟨W.heap.size, 8, none⟩) hl1).trans c8; have b9 := (hS9.cell (p := ⟨W.heap.size, 9, none⟩) hl1).trans c9; go_simp; (try with_reducible rfl); done)); simp only [Act.put, List.setIfInBounds_toArray, List.set_cons_zero, List.set_cons_succ, Nat.reduceAdd]
  refine tail_pure (v := ?_) (fun w => Below.refl _ w) (fun _ => rfl) ?_ ?_; rotate_left; (focus (intro us w9 hS9 hF; clear hF; have b0 := (hS9.cell (p := ⟨W.heap.size, 0, none⟩) hl1).trans c0; have b1 := (hS9.cell (p := ⟨W.heap.size, 1, none⟩) hl1).trans c1; have b2 := (hS9.cell (p := ⟨W.heap.size, 2, none⟩) hl1).trans c2; have b3 := (hS9.cell (p := ⟨W.heap.size, 3, none⟩) hl1).trans c3; have b4 := (hS9.cell (p := ⟨W.heap.size, 4, none⟩) hl1).trans c4; have b6 := (hS9.cell (p := ⟨W.heap.size, 6, none⟩) hl1).trans c6; have b7 := (hS9.cell (p := ⟨W.heap.size, 7, none⟩) hl1).trans c7; have b8 := (hS9.cell (p := ⟨W.heap.size, 8, none⟩) hl1).trans c8; have b9 := (hS9.cell (p := ⟨W.heap.size, 9, none⟩) hl1).trans c9; go_simp; (try with_reducible rfl); done)); simp only [Act.put, List.setIfInBounds_toArray, List.set_cons_zero, List.set_cons_succ, Nat.reduceAdd]
  refine tail_pure (v := ?_) (fun w => Below.refl _ w) (fun _ => rfl) ?_ ?_; rotate_left; (focus (intro us w9 hS9 hF; clear hF; have b0 := (hS9.cell (p := ⟨W.heap.size, 0, none⟩) hl1).trans c0; have b1 := (hS9.cell (p := ⟨W.heap.size, 1, none⟩) hl1).trans c1; have b2 := (hS9.cell (p := ⟨W.heap.size, 2, none⟩) hl1).trans c2; have b3 := (hS9.cell (p := ⟨W.heap.size, 3, none⟩) hl1).trans c3; have b4 := (hS9.cell (p := ⟨W.heap.size, 4, none⟩) hl1).trans c4; have b6 := (hS9.cell (p := ⟨W.heap.size, 6, none⟩) hl1).trans c6; have b7 := (hS9.cell (p := ⟨W.heap.size, 7, none⟩) hl1).trans c7; have b8 := (hS9.cell (p := ⟨W.heap.size, 8, none⟩) hl1).trans c8; have b9 := (hS9.cell (p := ⟨W.heap.size, 9, none⟩) hl1).trans c9; go_simp; (try with_reducible rfl); done)); simp only [Act.put, List.setIfInBounds_toArray, List.set_cons_zero, List.set_cons_succ, Nat.reduceAdd]
  refine tail_pure (v := ?_) (fun w => Below.refl _ w) (fun _ => rfl) ?_ ?_; rotate_left; (focus (intro us w9 hS9 hF; clear hF; have b0 := (hS9.cell (p := ⟨W.heap.size, 0, none⟩) hl1).trans c0; have b1 := (hS9.cell (p := ⟨W.heap.size, 1, none⟩) hl1).trans c1; have b2 := (hS9.cell (p := ⟨W.heap.size, 2, none⟩) hl1).trans c2; have b3 := (hS9.cell (p := ⟨W.heap.size, 3, none⟩) hl1).trans c3; have b4 := (hS9.cell (p := ⟨W.heap.size, 4, none⟩) hl1).trans c4; have b6 := (hS9.cell (p := ⟨W.heap.size, 6, none⟩) hl1).trans c6; have b7 := (hS9.cell (p := ⟨W.heap.size, 7, none⟩) hl1).trans c7; have b8 := (hS9.cell (p := ⟨W.heap.size, 8, none⟩) hl1).trans c8; have b9 := (hS9.cell (p := ⟨W.heap.size, 9, none⟩) hl1).trans c9; go_simp; (try with_reducible rfl); done)); simp only [Act.put, List.setIfInBounds_toArray, List.set_cons_zero, List.set_cons_succ, Nat.reduceAdd]
  refine tail_pure (v := ?_) (fun w => Below.refl _ w) (fun _ => rfl) ?_ ?_; rotate_left; (focus (intro us w9 hS9 hF; clear hF; have b0 := (hS9.cell (p := ⟨W.heap.size, 0, none⟩) hl1).trans c0; have b1 := (hS9.cell (p := ⟨W.heap.size, 1, none⟩) hl1).trans c1; have b2 := (hS9.cell (p := ⟨W.heap.size, 2, none⟩) hl1).trans c2; have b3 := (hS9.cell (p := ⟨W.heap.size, 3, none⟩) hl1).trans c3; have b4 := (hS9.cell (p := ⟨W.heap.size, 4, none⟩) hl1).trans c4; have b6 := (hS9.cell (p := ⟨W.heap.size, 6, none⟩) hl1).trans c6; have b7 := (hS9.cell (p := ⟨W.heap.size, 7, none⟩) hl1).trans c7; have b8 := (hS9.cell (p := ⟨W.heap.size, 8, none⟩) hl1).trans c8; have b9 := (hS9.cell (p := ⟨W.heap.size, 9, none⟩) hl1).trans c9; go_simp; (try with_reducible rfl); done)); simp only [Act.put, List.setIfInBounds_toArray, List.set_cons_zero, List.set_cons_succ, Nat.reduceAdd]
  refine tail_pure (v := ?_) (fun w => Below.refl _ w) (fun _ => rfl) ?_ ?_; rotate_left; (focus (intro us w9 hS9 hF; clear hF; have b0 := (hS9.cell (p := ⟨W.heap.size, 0, none⟩) hl1).trans c0; have b1 := (hS9.cell (p := ⟨W.heap.size, 1, none⟩) hl1).trans c1; have b2 := (hS9.cell (p := ⟨W.heap.size, 2, none⟩) hl1).trans c2; have b3 := (hS9.cell (p := ⟨W.heap.size, 3, none⟩) hl1).trans c3; have b4 := (hS9.cell (p := ⟨W.heap.size, 4, none⟩) hl1).trans c4; have b6 := (hS9.cell (p := ⟨W.heap.size, 6, none⟩) hl1).trans c6; have b7 := (hS9.cell (p := ⟨W.heap.size, 7, none⟩) hl1).trans c7; have b8 := (hS9.cell (p := ⟨W.heap.size, 8, none⟩) hl1).trans c8; have b9 := (hS9.cell (p := ⟨W.heap.size, 9, none⟩) hl1).trans c9; go_simp; (try with_reducible rfl); done)); simp only [Act.put, List.setIfInBounds_toArray, List.set_cons_zero, List.set_cons_succ, Nat.reduceAdd]
  refine tail_free (OpA W.heap.size e) OpA.mono ?_ ?_; (focus (intro us w9 hS9 hF K hK; clear hF; go_simp; refine (clone_any _ _ _ _ _ (hH1.p.below hS9) ht.pl).mono ?_; rintro en w' ⟨A', c', rfl, ho, hb⟩; exact hK _ w' (below_on hS9 hb) hb ⟨A', c', rfl, ho.lower (Nat.le_trans hB1.size hS9.size)⟩)); simp only [Act.put, List.setIfInBounds_toArray, List.set_cons_zero, List.set_cons_succ, Nat.reduceAdd]
  refine tail_pure (v := ?_) (fun w => Below.refl _ w) (fun _ => rfl) ?_ ?_; rotate_left; (focus (intro us w9 hS9 hF; clear hF; have b0 := (hS9.cell (p := ⟨W.heap.size, 0, none⟩) hl1).trans c0; have b1 := (hS9.cell (p := ⟨W.heap.size, 1, none⟩) hl1).trans c1; have b2 := (hS9.cell (p := ⟨W.heap.size, 2, none⟩) hl1).trans c2; have b3 := (hS9.cell (p := ⟨W.heap.size, 3, none⟩) hl1).trans c3; have b4 := (hS9.cell (p := ⟨W.heap.size, 4, none⟩) hl1).trans c4; have b6 := (hS9.cell (p := ⟨W.heap.size, 6, none⟩) hl1).trans c6; have b7 := (hS9.cell (p := ⟨W.heap.size, 7, none⟩) hl1).trans c7; have b8 := (hS9.cell (p := ⟨W.heap.size, 8, none⟩) hl1).trans c8; have b9 := (hS9.cell (p := ⟨W.heap.size, 9, none⟩) hl1).trans c9; go_simp; (try with_reducible rfl); done)); simp only [Act.put, List.setIfInBounds_toArray, List.set_cons_zero, List.set_cons_succ, Nat.reduceAdd]
  refine tail_pure (v := ?_) (fun w => Below.refl _ w) (fun _ => rfl) ?_ ?_; rotate_left; (focus (intro us w9 hS9 hF; clear hF; have b0 := (hS9.cell (p := ⟨W.heap.size, 0, none⟩) hl1).trans c0; have b1 := (hS9.cell (p := ⟨W.heap.size, 1, none⟩) hl1).trans c1; have b2 := (hS9.cell (p := ⟨W.heap.size, 2, none⟩) hl1).trans c2; have b3 := (hS9.cell (p := ⟨W.heap.size, 3, none⟩) hl1).trans c3; have b4 := (hS9.cell (p := ⟨W.heap.size, 4, none⟩) hl1).trans c4; have b6 := (hS9.cell (p := ⟨W.heap.size, 6, none⟩) hl1).trans c6; have b7 := (hS9.cell (p := ⟨W.heap.size, 7, none⟩) hl1).trans c7; have b8 := (hS9.cell (p := ⟨W.heap.size, 8, none⟩) hl1).trans c8; have b9 := (hS9.cell (p := ⟨W.heap.size, 9, none⟩) hl1).trans c9; go_simp; (try with_reducible rfl); done)); simp only [Act.put, List.setIfInBounds_toArray, List.set_cons_zero, List.set_cons_succ, Nat.reduceAdd]
  refine tail_free (OpB W.heap.size e) OpB.mono ?_ ?_; (focus (intro us w9 hS9 hF K hK; obtain ⟨B', d', hu, ho⟩ := hF (11, OpA W.heap.size e) (by simp) (by kernel_rfl); clear hF; simp only [hu] at hK ⊢; go_simp; exact hK _ w9 hS9 (Below.refl _ _) ⟨B', d', rfl, ho⟩)); simp only [Act.put, List.setIfInBounds_toArray, List.set_cons_zero, List.set_cons_succ, Nat.reduceAdd]
  refine tail_free (OpC W.heap.size e) OpC.mono ?_ ?_; (focus (intro us w9 hS9 hF K hK; obtain ⟨B', d', hu, ho⟩ := hF (14, OpB W.heap.size e) (by simp) (by kernel_rfl); clear hF; simp only [hu] at hK ⊢; go_simp; exact hK _ w9 hS9 (Below.refl _ _) ⟨B', d', rfl, ho⟩)); simp only [Act.put, List.setIfInBounds_toArray, List.set_cons_zero, List.set_cons_succ, Nat.reduceAdd]
  refine tail_free (OpD W.heap.size e) OpD.mono ?_ ?_; (focus (intro us w9 hS9 hF K hK; obtain ⟨B', d', hu, ho⟩ := hF (15, OpC W.heap.size e) (by simp) (by kernel_rfl); clear hF; simp only [hu] at hK ⊢; go_simp; exact hK _ _ (hS9.alloc hS9.size _) ((Below.refl _ _).alloc (Nat.le_refl _) _) ⟨w9.heap.size, B', d', rfl, Nat.le_trans hB1.size hS9.size, Row.born _ _ _, ho.alloc _⟩)); simp only [Act.put, List.setIfInBounds_toArray, List.set_cons_zero, List.set_cons_succ, Nat.reduceAdd]
  refine tail_done fun us w3 hS3 hF => ?_
  obtain ⟨g, B', d', hu, hWg, hr, hoB⟩ := hF (16, OpD W.heap.size e) (by simp)
  clear hF
  dsimp only at hu
  simp only [hu]
  clear c0 c1 c2 c3 c4 c6 c7 c8 c9
  have hB3 := below_on hB1 hS3
  have r3' := r1.below hS3 hl1
  obtain ⟨-, ⟨c5, -, -, -, -⟩, -⟩ := end_cells r3'
  have hB3' := hB3
  clear hB1 hS3 r1 r3' hH1 hl1
  go_upto_region 3 with (fail)
  clear c5
  go_loopw [26] (fun i wr => ∃ j : Nat, ∃ A1 c1 vs, j ≤ e.q.length ∧ i = .int .i64 j ∧ Row wr g 155 (BV e (.slice A1 j c1) (.slice B' e.pt.length d')) ∧ OwnV wr W.heap.size 44 1 A1 j c1 vs ∧ QV wr W.heap.size vs (e.q.take j) ∧ OwnB wr W.heap.size 5 B' e.pt.length d' e.pt ∧ Below W.heap.size W wr) (fun i _ => e.q.length - (intOf i).toNat)
  case atStart => exact ⟨0, none, 0, [], by omega, rfl, hr, OwnV.nil _ _ _ _, QV.nil _ _, hoB, hB3⟩
  case round =>
    clear hr hoB hB3 hB3'
    obtain ⟨j, A1, c1, vs, hj, rfl, hr, hown, hq, hoB, hB⟩ := hrel
    rcases Nat.lt_or_ge j e.q.length with hjl | hjl
    · have hd1 : decide (j < e.q.length) = true := by simpa using hjl
      have hji : (j : Int) < e.q.length := by omega
      have hM := hH.q.below hB
      obtain ⟨b, o, hA, hrow'⟩ := hM.2 (by omega)
      subst hA
      obtain ⟨Ar, Cr, x, -, -, hIs⟩ := hrow' j hjl
      have hml : (e.q[j]).length ≤ 1000000000 := ht.qm _ (List.getElem_mem hjl)
      have hts : e.q.take (j + 1) = e.q.take j ++ [e.q[j]] := List.take_succ_eq_append_getElem hjl
      clear hrow' hM
      generalize e.q[j] = bs at *
      have HTS := Lib.hid hts
      clear hts
      go_upto_region 5 with (fail)
      have hBw : Below W.heap.size W wr.drew := hB.drew
      refine wp_region_late (n := 45) [7, 8, 9, 13] (EnqS W wr.drew W.heap.size g (fun v => BV e v (.slice B' e.pt.length d')) A1 j c1 vs bs.length bs) (fun _ _ => True) (by kernel_rfl) (by kernel_rfl) (by rfl) EnqS.loc (EnqS.zero hBw) ?_
      have hrow : Row wr.drew g 155 (BV e (.slice A1 j c1) (.slice B' e.pt.length d')) := hr
      have hown : OwnV wr.drew W.heap.size 44 1 A1 j c1 vs := hown
      have hq : QV wr.drew W.heap.size vs (e.q.take j) := hq
      have hoB : OwnB wr.drew W.heap.size 5 B' e.pt.length d' e.pt := hoB
      have hIs : IsB wr.drew Ar bs.length bs := hIs
      generalize wr.drew = w5 at *
      have hlg := hrow.lt
      have c3 : w5.cell? ⟨g, 3, none⟩ = some (.slice A1 j c1) := hrow.cell 3
      have hWb : W.heap.size ≤ W.heap.size := Nat.le_refl _
      have hWx := hBw.size
      have hql := ht.ql
      refine late_pure (by simp) (fun _ => trivial) (v := ?_) (fun _ => rfl) ?_ ?_; rotate_left; (focus (intro c9 us w9 hm9 hS9 hF; clear hF hm9; go_simp; (try with_reducible rfl); done)); simp only [Act.put, List.setIfInBounds_toArray, List.set_cons_zero, List.set_cons_succ, Nat.reduceAdd]
      refine late_pure (by simp) (fun _ => trivial) (v := ?_) (fun _ => rfl) ?_ ?_; rotate_left; (focus (intro c9 us w9 hm9 hS9 hF; clear hF hm9; go_simp; (try with_reducible rfl); done)); simp only [Act.put, List.setIfInBounds_toArray, List.set_cons_zero, List.set_cons_succ, Nat.reduceAdd]
      refine late_pure (by simp) (fun _ => trivial) (v := ?_) (fun _ => rfl) ?_ ?_; rotate_left; (focus (intro c9 us w9 hm9 hS9 hF; clear hF hm9; go_simp; (try with_reducible rfl); done)); simp only [Act.put, List.setIfInBounds_toArray, List.set_cons_zero, List.set_cons_succ, Nat.reduceAdd]
      refine late_pure (by simp) (fun _ => trivial) (v := ?_) (fun _ => rfl) ?_ ?_; rotate_left; (focus (intro c9 us w9 hm9 hS9 hF; clear hF hm9; go_simp; (try with_reducible rfl); done)); simp only [Act.put, List.setIfInBounds_toArray, List.set_cons_zero, List.set_cons_succ, Nat.reduceAdd]
      refine late_pure (by simp) (fun _ => trivial) (v := ?_) (fun _ => rfl) ?_ ?_; rotate_left; (focus (intro c9 us w9 hm9 hS9 hF; clear hF hm9; go_simp; (try with_reducible rfl); done)); simp only [Act.put, List.setIfInBounds_toArray, List.set_cons_zero, List.set_cons_succ, Nat.reduceAdd]
      refine late_pure (by simp) (fun _ => trivial) (v := ?_) (fun _ => rfl) ?_ ?_; rotate_left; (focus (intro c9 us w9 hm9 hS9 hF; have hc9 : c9 < 3 := (by rcases Nat.lt_or_ge c9 3 with h9 | h9; exact h9; exact absurd hm9 (by rw [mayAt_no (d := 2) (by kernel_rfl) (by omega) (by decide)]; decide)); have b3 := ((hS9.2.2.1 (by omega)).cell (p := ⟨g, 3, none⟩) hlg).trans c3; clear hF hm9; go_simp; (try with_reducible rfl); done)); simp only [Act.put, List.setIfInBounds_toArray, List.set_cons_zero, List.set_cons_succ, Nat.reduceAdd]
      refine late_pure (by simp) (fun _ => trivial) (v := ?_) (fun _ => rfl) ?_ ?_; rotate_left; (focus (intro c9 us w9 hm9 hS9 hF; clear hF hm9; go_simp; (try with_reducible rfl); done)); simp only [Act.put, List.setIfInBounds_toArray, List.set_cons_zero, List.set_cons_succ, Nat.reduceAdd]
      refine late_chain (by simp) ?_ ?_; (focus (intro us w9 hS9 hF K hK; clear hF; go_simp; refine (clone_any _ _ _ _ _ ((hIs).below (hS9.2.2.1 (by omega))) hml).mono ?_; rintro en w' ⟨Am, cm, rfl, ho, hb⟩; exact hK _ w' (hS9.one hb ho) trivial)); simp only [Act.put, List.setIfInBounds_toArray, List.set_cons_zero, List.set_cons_succ, Nat.reduceAdd]
      refine late_chain (by simp) ?_ ?_; (focus (intro us w9 hS9 hF K hK; clear hF; obtain ⟨Am, cm, hu, ho⟩ := hS9.2.2.2.1 rfl; simp only [hu] at hK ⊢; go_simp; exact hK _ _ (hS9.two ho) trivial)); simp only [Act.put, List.setIfInBounds_toArray, List.set_cons_zero, List.set_cons_succ, Nat.reduceAdd]
      refine late_chain (by simp) ?_ ?_; (focus (intro us w9 hS9 hF K hK; clear hF; obtain ⟨Am, cm, gb, hu, hrb, ho⟩ := hS9.2.2.2.2.1 rfl; simp only [hu] at hK ⊢; rw [if_pos (by rfl)]; have hown9 := hown.below (hS9.2.2.1 (by omega)); exact step_append_v (P := Try.prog) Try.underlying67 info_44 rfl (by omega) hown9 hrb rfl (by simp [Value.oneCell']) (by omega) (by omega) (Nat.le_trans hWx hS9.2.1.1) rfl rfl (fun A' c'' w' h2 h3 h5 => hK _ w' (hS9.three hWb hrow hown9 ho h2 h3) trivial))); simp only [Act.put, List.setIfInBounds_toArray, List.set_cons_zero, List.set_cons_succ, Nat.reduceAdd]
      refine late_pure (by simp) (fun _ => trivial) (v := ?_) (fun _ => rfl) ?_ ?_; rotate_left; (focus (intro c9 us w9 hm9 hS9 hF; clear hF hm9; go_simp; (try with_reducible rfl); done)); simp only [Act.put, List.setIfInBounds_toArray, List.set_cons_zero, List.set_cons_succ, Nat.reduceAdd]
      refine late_pure (by simp) (fun _ => trivial) (v := ?_) (fun _ => rfl) ?_ ?_; rotate_left; (focus (intro c9 us w9 hm9 hS9 hF; clear hF hm9; go_simp; (try with_reducible rfl); done)); simp only [Act.put, List.setIfInBounds_toArray, List.set_cons_zero, List.set_cons_succ, Nat.reduceAdd]
      refine late_pure (by simp) (fun _ => trivial) (v := ?_) (fun _ => rfl) ?_ ?_; rotate_left; (focus (intro c9 us w9 hm9 hS9 hF; clear hF hm9; go_simp; (try with_reducible rfl); done)); simp only [Act.put, List.setIfInBounds_toArray, List.set_cons_zero, List.set_cons_succ, Nat.reduceAdd]
      refine late_store rfl ?_ ?_; (focus (intro us w9 hS9 hF K hK; clear hF; obtain ⟨A', c', Am, cm, hu, h2, h3, -⟩ := hS9.2.2.2.2.2.1 (by omega); simp only [hu] at hK ⊢; have hr9 := hS9.2.2.2.2.2.2 rfl; have k3 := hr9.cell 3; have f3 := hr9.frozen 3; simp only [BV] at k3; have hS10 := hS9.four hu hWg (fun _ _ => rfl); go_simp; exact hK _ hS10 trivial)); simp only [Nat.reduceAdd]
      refine late_done fun us8 w8 hS8 hF => ?_
      obtain ⟨A2, c2, Am, cm, hu8, h2, h3, hr4⟩ := hS8.2.2.2.2.2.1 (by omega)
      have hr4 := hr4 (by omega)
      have kk := hS8.2.1
      have hB8 := hS8.1
      clear hF hS8 c3
      have hoB8 := hoB.keeps kk (by decide)
      have hq8 := (hq.keeps kk (by decide)).snoc h3 hBw.size
      go_wp2
      exact ⟨⟨j + 1, A2, c2, _, by omega, by go_num, hr4, h2, by rw [HTS.out]; exact hq8, hoB8, hB8⟩, by simp [intOf]; omega⟩
    · obtain rfl : j = e.q.length := by omega
      have hd1 : decide (e.q.length < e.q.length) = false := by simp
      rw [List.take_length] at hq
      go_wp2
      go_ret
      exact ⟨g, A1, c1, B', d', vs, rfl, hWg, hr, hown, hq, hoB, hB⟩
end Go.Proofs.Ythjkhambmgepdaa
