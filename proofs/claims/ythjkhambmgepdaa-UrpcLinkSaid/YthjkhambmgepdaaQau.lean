/- Texts Mb, without what this claim does not use. -/
import Derived.Test.YthjkhambmgepdaaQat
namespace Go.Proofs.Ythjkhambmgepdaa
section
open Go.RowKit
set_option linter.unusedVariables false
def BV (e : LE) (Q R : Value) : Array Value := #[.int .i64 e.n, .int .u64 e.s, .int .u64 e.a, Q, .int .i64 e.off, .int .i64 e.rn, .int .u64 e.rc, .int .i64 e.want, R, .int .u64 e.told]
def QV (w : World) (base : Nat) (vs : List Value) (q : List (List UInt8)) : Prop := vs.length = q.length ∧ ∀ i (h : i < q.length), ∃ A c, vs[i]? = some (.slice A (q[i]).length c) ∧ OwnB w base 5 A (q[i]).length c q[i]
theorem QV.nil (w : World) (base : Nat) : QV w base [] [] := ⟨rfl, fun i h => by simp at h⟩
theorem QV.keeps {ts : List TypeId} {w w' : World} {base : Nat} {vs : List Value} {q : List (List UInt8)} (h : QV w base vs q) (k : Keeps ts w w') (ht : 5 ∉ ts) : QV w' base vs q := ⟨h.1, fun i hi => by
  obtain ⟨A, c, e, ho⟩ := h.2 i hi
  exact ⟨A, c, e, ho.keeps k ht⟩⟩
theorem QV.snoc {w : World} {base b2 : Nat} {vs : List Value} {q : List (List UInt8)} (h : QV w base vs q) {m : List UInt8} {A : Option Addr} {c : Nat} (ho : OwnB w b2 5 A m.length c m) (hb : base ≤ b2) : QV w base (vs ++ [.slice A m.length c]) (q ++ [m]) := by
  refine ⟨by simp [h.1], fun i hi => ?_⟩
  rcases Nat.lt_or_ge i q.length with h1 | h1
  · obtain ⟨A', c', e, ho'⟩ := h.2 i h1
    refine ⟨A', c', ?_, ?_⟩
    · rw [List.getElem?_append_left (by rw [h.1]; exact h1), e, List.getElem_append_left h1]
    · rw [List.getElem_append_left h1]; exact ho'
  · have hi' : i = q.length := by simp at hi; omega
    subst hi'
    refine ⟨A, c, ?_, ?_⟩
    · rw [List.getElem?_append_right (by rw [h.1]; exact Nat.le_refl _), h.1]; simp
    · simpa using ho.lower hb
theorem isM_of {w : World} {base c : Nat} {A : Option Addr} {vs : List Value} {q : List (List UInt8)} (ho : OwnV w base 44 1 A q.length c vs) (h : QV w base vs q) (hq : ∀ m ∈ q, m.length ≤ 9223372036854775807) : IsM w A q.length q := by
  refine ⟨rfl, fun h0 => ?_⟩
  obtain ⟨g, rfl, -, -⟩ := ho.form h0
  refine ⟨g, 0, rfl, fun r hr => ?_⟩
  obtain ⟨A', c', e, ho'⟩ := h.2 r hr
  refine ⟨A', c', ?_, ho'.capM, hq _ (List.getElem_mem hr), ho'.isB⟩
  rw [Nat.zero_add, World.ownsRow.cellAt (show w.ownsRow base 44 1 (.slice (some ⟨g, 0, none⟩) q.length c) q.length vs from ho) r (by rw [Nat.mul_one]; exact hr), e]
theorem info_44 : (Try.prog.info? 44).map (fun i => (i.zero, i.size, i.bytes)) = some (some (.slice none 0 0), 1, 24) := by kernel_rfl
def EnqS (W w0 : World) (base g : Nat) (C : Value → Array Value) (A : Option Addr) (n c0 : Nat) (vs : List Value) (m : Nat) (bs : List UInt8) (c : Nat) (us : Nat → Value) (w' : World) : Prop :=
  Below W.heap.size W w' ∧ Keeps [44, 155] w0 w' ∧ (c ≤ 2 → Below w0.heap.size w0 w') ∧
  (c = 1 → ∃ Am cm, us 7 = .slice Am m cm ∧ OwnB w' w0.heap.size 5 Am m cm bs) ∧
  (c = 2 → ∃ Am cm gb, us 8 = .slice (some ⟨gb, 0, none⟩) 1 1 ∧ Row w' gb 44 #[.slice Am m cm] ∧ OwnB w' w0.heap.size 5 Am m cm bs) ∧
  (3 ≤ c → ∃ A' c' Am cm, us 9 = .slice A' (n + 1) c' ∧ OwnV w' base 44 1 A' (n + 1) c' (vs ++ [.slice Am m cm]) ∧ OwnB w' w0.heap.size 5 Am m cm bs ∧ (4 ≤ c → Row w' g 155 (C (.slice A' (n + 1) c')))) ∧
  (c = 3 → Row w' g 155 (C (.slice A n c0)))
section
variable {W w0 : World} {base g : Nat} {C : Value → Array Value} {A : Option Addr} {n c0 : Nat} {vs : List Value} {m : Nat} {bs : List UInt8} {us : Nat → Value} {w9 w' : World}
theorem EnqS.loc {ops : Array Oper} : ∀ c us us' w, (∀ k, mayAt ops [7, 8, 9, 13] c k = false ∨ k ∈ [7, 8, 9, 13].take c → us k = us' k) → EnqS W w0 base g C A n c0 vs m bs c us w → EnqS W w0 base g C A n c0 vs m bs c us' w := by
  intro c us us' w hk ⟨a, b, d, e, f, h, i⟩
  refine ⟨a, b, d, fun hc => ?_, fun hc => ?_, fun hc => ?_, i⟩
  · rw [← hk 7 (.inr (by subst hc; simp))]
    exact e hc
  · rw [← hk 8 (.inr (by subst hc; simp))]
    exact f hc
  · rw [← hk 9 (.inr (by obtain ⟨k, rfl⟩ : ∃ k, c = k + 3 := ⟨c - 3, by omega⟩; simp))]
    exact h hc
theorem EnqS.zero (h : Below W.heap.size W w0) : EnqS W w0 base g C A n c0 vs m bs 0 us w0 := ⟨h, Keeps.refl _ _, fun _ => Below.refl _ _, fun h => by omega, fun h => by omega, fun h => by omega, fun h => by omega⟩
theorem EnqS.one (h : EnqS W w0 base g C A n c0 vs m bs 0 us w9) (hb : Below w9.heap.size w9 w') {Am : Option Addr} {cm : Nat} (ho : OwnB w' w9.heap.size 5 Am m cm bs) : EnqS W w0 base g C A n c0 vs m bs 1 (fun k => if k = 7 then .slice Am m cm else us k) w' :=
  ⟨below_on h.1 hb, h.2.1.trans (Keeps.below hb), fun _ => below_on (h.2.2.1 (by omega)) hb, fun _ => ⟨Am, cm, if_pos rfl, ho.lower h.2.1.1⟩, fun h => by omega, fun h => by omega, fun h => by omega⟩
theorem EnqS.two (h : EnqS W w0 base g C A n c0 vs m bs 1 us w9) {Am : Option Addr} {cm : Nat} (ho : OwnB w9 w0.heap.size 5 Am m cm bs) : EnqS W w0 base g C A n c0 vs m bs 2 (fun k => if k = 8 then .slice (some ⟨w9.heap.size, 0, none⟩) 1 1 else us k) (w9.alloc (.cells #[.slice Am m cm] 44)) := by
  have hb := (Below.refl w9.heap.size w9).alloc (Nat.le_refl _) (.cells #[.slice Am m cm] 44)
  exact ⟨below_on h.1 hb, h.2.1.trans (Keeps.below hb), fun _ => below_on (h.2.2.1 (by omega)) hb, fun h => by omega, fun _ => ⟨Am, cm, w9.heap.size, if_pos rfl, Row.born _ _ _, ho.alloc _⟩, fun h => by omega, fun h => by omega⟩
theorem EnqS.three (h : EnqS W w0 base g C A n c0 vs m bs 2 us w9) (hW : W.heap.size ≤ base) (hr0 : Row w0 g 155 (C (.slice A n c0))) (hown : OwnV w9 base 44 1 A n c0 vs) {Am A' : Option Addr} {cm c' : Nat} (ho : OwnB w9 w0.heap.size 5 Am m cm bs) (h2 : OwnV w' base 44 1 A' (n + 1) c' (vs ++ [.slice Am m cm])) (h3 : w9.grownBy w' (Value.slice A n c0).ownBlock) :
    EnqS W w0 base g C A n c0 vs m bs 3 (fun k => if k = 9 then .slice A' (n + 1) c' else us k) w' := by
  have k4 : Keeps [44] w9 w' := Keeps.grown h3 hown.typed
  have k : Keeps [44, 155] w9 w' := ⟨k4.1, fun g t cs fr hg ht => k4.2 g t cs fr hg (fun h' => ht (by simp at h'; simp [h']))⟩
  have hsz : W.heap.size ≤ w9.heap.size := h.1.size
  refine ⟨h.1.grown h3 hsz (fun k hk => by have := (hown.ge k hk).1; omega), h.2.1.trans k, fun h => by omega, fun h => by omega, fun h => by omega, fun _ => ⟨A', c', Am, cm, if_pos rfl, h2, ho.keeps k4 (by decide), fun h => by omega⟩, fun _ => ?_⟩
  exact k4.row ((h.2.2.1 (by omega)).block g hr0.lt |>.trans hr0) (by decide)
theorem EnqS.four (h : EnqS W w0 base g C A n c0 vs m bs 3 us w9) {u : Value} (hu : us 9 = u) (hWg : W.heap.size ≤ g) (hC : ∀ v u, (C v).setIfInBounds 3 u = C u) : EnqS W w0 base g C A n c0 vs m bs 4 us (w9.setCell ⟨g, 3, none⟩ u) := by
  obtain ⟨A', c', Am, cm, h1, h2, h3, -⟩ := h.2.2.2.2.2.1 (by omega)
  have hr := h.2.2.2.2.2.2 rfl
  have k : Keeps [155] w9 (w9.setCell ⟨g, 3, none⟩ u) := Keeps.upd (Upd.setCell w9 g 3 u) hr (by simp)
  have k2 : Keeps [44, 155] w9 (w9.setCell ⟨g, 3, none⟩ u) := Keeps.upd (Upd.setCell w9 g 3 u) hr (by simp)
  refine ⟨h.1.setCell hWg _, h.2.1.trans k2, fun h => by omega, fun h => by omega, fun h => by omega, fun _ => ⟨A', c', Am, cm, h1, h2.keeps k (by decide), h3.keeps k (by decide), fun _ => ?_⟩, fun h => by omega⟩
  have := hr.set 3 u
  rw [hC] at this
  rwa [← h1, hu]
end
def OpP (e : LE) (W : World) (en : Ending) (W' : World) : Prop := ∃ g A c B d vs, en = .returned (.pointer (some ⟨g, 0, none⟩)) ∧ W.heap.size ≤ g ∧ Row W' g 155 (BV e (.slice A e.q.length c) (.slice B e.pt.length d)) ∧ OwnV W' W.heap.size 44 1 A e.q.length c vs ∧ QV W' W.heap.size vs e.q ∧ OwnB W' W.heap.size 5 B e.pt.length d e.pt ∧ Below W.heap.size W W'
def OpA (base : Nat) (e : LE) (u : Value) (w : World) : Prop := ∃ B d, u = .slice B e.pt.length d ∧ OwnB w base 5 B e.pt.length d e.pt
def OpB (base : Nat) (e : LE) (u : Value) (w : World) : Prop := ∃ B d, u = .agg #[.int .i64 e.rn, .int .u64 e.rc, .int .i64 e.want, .slice B e.pt.length d, .int .u64 e.told] ∧ OwnB w base 5 B e.pt.length d e.pt
def OpC (base : Nat) (e : LE) (u : Value) (w : World) : Prop := ∃ B d, u = .agg (BV e (.slice none 0 0) (.slice B e.pt.length d)) ∧ OwnB w base 5 B e.pt.length d e.pt
def OpD (base : Nat) (e : LE) (u : Value) (w : World) : Prop := ∃ g B d, u = .pointer (some ⟨g, 0, none⟩) ∧ base ≤ g ∧ Row w g 155 (BV e (.slice none 0 0) (.slice B e.pt.length d)) ∧ OwnB w base 5 B e.pt.length d e.pt
theorem OpA.mono {base : Nat} {e : LE} (u : Value) (w w' : World) (hb : Below w.heap.size w w') (h : OpA base e u w) : OpA base e u w' := by
  obtain ⟨B, d, h1, h2⟩ := h
  exact ⟨B, d, h1, h2.below hb⟩
theorem OpB.mono {base : Nat} {e : LE} (u : Value) (w w' : World) (hb : Below w.heap.size w w') (h : OpB base e u w) : OpB base e u w' := by
  obtain ⟨B, d, h1, h2⟩ := h
  exact ⟨B, d, h1, h2.below hb⟩
theorem OpC.mono {base : Nat} {e : LE} (u : Value) (w w' : World) (hb : Below w.heap.size w w') (h : OpC base e u w) : OpC base e u w' := by
  obtain ⟨B, d, h1, h2⟩ := h
  exact ⟨B, d, h1, h2.below hb⟩
theorem OpD.mono {base : Nat} {e : LE} (u : Value) (w w' : World) (hb : Below w.heap.size w w') (h : OpD base e u w) : OpD base e u w' := by
  obtain ⟨g, B, d, h1, h2, h3, h4⟩ := h
  exact ⟨g, B, d, h1, h2, h3.below hb h3.lt, h4.below hb⟩
set_option maxRecDepth 100000 in
set_option maxHeartbeats 4000000 in
theorem open_any (e : LE) (A B : Option Addr) (c d : Nat) (W : World) (ht : e.ty) (hH : Held W e A c B d) : Calls Try.prog 102 #[.agg (LEV e A c B d)] W (OpP e W) := by
  have hB1 := (Below.refl W.heap.size W).alloc (Nat.le_refl _) (.cells (LEV e A c B d) 69)
  have r1 := Row.born W 69 (LEV e A c B d)
  have hl1 := r1.lt
  go_enter Try.func102, Try.ntmps102
  go_upto_region 1 with (fail)
  generalize W.alloc (.cells (LEV e A c B d) 69) = w1 at *
  have r1 : Row w1.drew W.heap.size 69 (LEV e A c B d) := r1
  have hB1 : Below W.heap.size W w1.drew := hB1.drew
  have hl1 : W.heap.size < w1.drew.heap.size := hl1
  obtain ⟨⟨c0, c1, c2, c3, c4⟩, ⟨c5, c6, c7, c8, c9⟩, -⟩ := end_cells r1
  have hH1 := hH.below hB1
  refine wp_region_tailN (n := 45) 17 (fun w' => Below w1.drew.heap.size w1.drew w') (fun w w' => Below w.heap.size w w') (by kernel_rfl) (by kernel_rfl) (by decide) (by rfl) (Below.refl _ _) ?_
  simp only [List.take_succ_cons, List.take_zero, List.drop_succ_cons, List.drop_zero]
  iterate 11 (refine tail_pure (v := ?_) (fun w => Below.refl _ w) (fun _ => rfl) ?_ ?_; rotate_left; (focus (intro us w9 hS9 hF; clear hF; have b0 := (hS9.cell (p := ⟨W.heap.size, 0, none⟩) hl1).trans c0; have b1 := (hS9.cell (p := ⟨W.heap.size, 1, none⟩) hl1).trans c1; have b2 := (hS9.cell (p := ⟨W.heap.size, 2, none⟩) hl1).trans c2; have b3 := (hS9.cell (p := ⟨W.heap.size, 3, none⟩) hl1).trans c3; have b4 := (hS9.cell (p := ⟨W.heap.size, 4, none⟩) hl1).trans c4; have b6 := (hS9.cell (p := ⟨W.heap.size, 6, none⟩) hl1).trans c6; have b7 := (hS9.cell (p := ⟨W.heap.size, 7, none⟩) hl1).trans c7; have b8 := (hS9.cell (p := ⟨W.heap.size, 8, none⟩) hl1).trans c8; have b9 := (hS9.cell (p := ⟨W.heap.size, 9, none⟩) hl1).trans c9; go_simp; (try with_reducible rfl); done)); simp only [Act.put, zA, zB, zC, Nat.reduceAdd])
  refine tail_free (OpA W.heap.size e) OpA.mono ?_ ?_; (focus (intro us w9 hS9 hF K hK; clear hF; go_simp; refine (clone_any _ _ _ _ _ (hH1.p.below hS9) ht.pl).mono ?_; rintro en w' ⟨A', c', rfl, ho, hb⟩; exact hK _ w' (below_on hS9 hb) hb ⟨A', c', rfl, ho.lower (Nat.le_trans hB1.size hS9.size)⟩)); simp only [Act.put, zA, zB, zC, Nat.reduceAdd]
  iterate 2 (refine tail_pure (v := ?_) (fun w => Below.refl _ w) (fun _ => rfl) ?_ ?_; rotate_left; (focus (intro us w9 hS9 hF; clear hF; have b0 := (hS9.cell (p := ⟨W.heap.size, 0, none⟩) hl1).trans c0; have b1 := (hS9.cell (p := ⟨W.heap.size, 1, none⟩) hl1).trans c1; have b2 := (hS9.cell (p := ⟨W.heap.size, 2, none⟩) hl1).trans c2; have b3 := (hS9.cell (p := ⟨W.heap.size, 3, none⟩) hl1).trans c3; have b4 := (hS9.cell (p := ⟨W.heap.size, 4, none⟩) hl1).trans c4; have b6 := (hS9.cell (p := ⟨W.heap.size, 6, none⟩) hl1).trans c6; have b7 := (hS9.cell (p := ⟨W.heap.size, 7, none⟩) hl1).trans c7; have b8 := (hS9.cell (p := ⟨W.heap.size, 8, none⟩) hl1).trans c8; have b9 := (hS9.cell (p := ⟨W.heap.size, 9, none⟩) hl1).trans c9; go_simp; (try with_reducible rfl); done)); simp only [Act.put, zA, zB, zC, Nat.reduceAdd])
  refine tail_free (OpB W.heap.size e) OpB.mono ?_ ?_; (focus (intro us w9 hS9 hF K hK; obtain ⟨B', d', hu, ho⟩ := hF (11, OpA W.heap.size e) (by simp) (by kernel_rfl); clear hF; simp only [hu] at hK ⊢; go_simp; exact hK _ w9 hS9 (Below.refl _ _) ⟨B', d', rfl, ho⟩)); simp only [Act.put, zA, zB, zC, Nat.reduceAdd]
  refine tail_free (OpC W.heap.size e) OpC.mono ?_ ?_; (focus (intro us w9 hS9 hF K hK; obtain ⟨B', d', hu, ho⟩ := hF (14, OpB W.heap.size e) (by simp) (by kernel_rfl); clear hF; simp only [hu] at hK ⊢; go_simp; exact hK _ w9 hS9 (Below.refl _ _) ⟨B', d', rfl, ho⟩)); simp only [Act.put, zA, zB, zC, Nat.reduceAdd]
  refine tail_free (OpD W.heap.size e) OpD.mono ?_ ?_; (focus (intro us w9 hS9 hF K hK; obtain ⟨B', d', hu, ho⟩ := hF (15, OpC W.heap.size e) (by simp) (by kernel_rfl); clear hF; simp only [hu] at hK ⊢; go_simp; exact hK _ _ (hS9.alloc hS9.size _) ((Below.refl _ _).alloc (Nat.le_refl _) _) ⟨w9.heap.size, B', d', rfl, Nat.le_trans hB1.size hS9.size, Row.born _ _ _, ho.alloc _⟩)); simp only [Act.put, zA, zB, zC, Nat.reduceAdd]
  refine tail_done fun us w3 hS3 hF => ?_
  obtain ⟨g, B', d', hu, hWg, hr, hoB⟩ := hF (16, OpD W.heap.size e) (by simp)
  clear hF
  dsimp only at hu
  simp only [hu]
  clear c0 c1 c2 c3 c4 c6 c7 c8 c9
  have hB3 := below_on hB1 hS3
  have r3' := r1.below hS3 hl1
  obtain ⟨-, ⟨c5, -, -, -, -⟩, -⟩ := end_cells r3'
  have hB3' := hB3
  clear hB1 hS3 r1 r3' hH1 hl1
  go_upto_region 3 with (fail)
  clear c5
  go_loopw [26] (fun i wr => ∃ j : Nat, ∃ A1 c1 vs, j ≤ e.q.length ∧ i = .int .i64 j ∧ Row wr g 155 (BV e (.slice A1 j c1) (.slice B' e.pt.length d')) ∧ OwnV wr W.heap.size 44 1 A1 j c1 vs ∧ QV wr W.heap.size vs (e.q.take j) ∧ OwnB wr W.heap.size 5 B' e.pt.length d' e.pt ∧ Below W.heap.size W wr) (fun i _ => e.q.length - (intOf i).toNat)
  case atStart => exact ⟨0, none, 0, [], by omega, rfl, hr, OwnV.nil _ _ _ _, QV.nil _ _, hoB, hB3⟩
  case round =>
    clear hr hoB hB3 hB3'
    obtain ⟨j, A1, c1, vs, hj, rfl, hr, hown, hq, hoB, hB⟩ := hrel
    rcases Nat.lt_or_ge j e.q.length with hjl | hjl
    · have hd1 : decide (j < e.q.length) = true := by simpa using hjl
      have hji : (j : Int) < e.q.length := by omega
      have hM := hH.q.below hB
      obtain ⟨b, o, hA, hrow'⟩ := hM.2 (by omega)
      subst hA
      obtain ⟨Ar, Cr, x, -, -, hIs⟩ := hrow' j hjl
      have hml : (e.q[j]).length ≤ 1000000000 := ht.qm _ (List.getElem_mem hjl)
      have hts : e.q.take (j + 1) = e.q.take j ++ [e.q[j]] := List.take_succ_eq_append_getElem hjl
      clear hrow' hM
      generalize e.q[j] = bs at *
      have HTS := Lib.hid hts
      clear hts
      go_upto_region 5 with (fail)
      have hBw : Below W.heap.size W wr.drew := hB.drew
      refine wp_region_late (n := 45) [7, 8, 9, 13] (EnqS W wr.drew W.heap.size g (fun v => BV e v (.slice B' e.pt.length d')) A1 j c1 vs bs.length bs) (fun _ _ => True) (by kernel_rfl) (by kernel_rfl) (by rfl) EnqS.loc (EnqS.zero hBw) ?_
      have hrow : Row wr.drew g 155 (BV e (.slice A1 j c1) (.slice B' e.pt.length d')) := hr
      have hown : OwnV wr.drew W.heap.size 44 1 A1 j c1 vs := hown
      have hq : QV wr.drew W.heap.size vs (e.q.take j) := hq
      have hoB : OwnB wr.drew W.heap.size 5 B' e.pt.length d' e.pt := hoB
      have hIs : IsB wr.drew Ar bs.length bs := hIs
      generalize wr.drew = w5 at *
      have hlg := hrow.lt
      have c3 : w5.cell? ⟨g, 3, none⟩ = some (.slice A1 j c1) := hrow.cell 3
      have hWb : W.heap.size ≤ W.heap.size := Nat.le_refl _
      have hWx := hBw.size
      have hql := ht.ql
      iterate 5 (refine late_pure (by simp) (fun _ => trivial) (v := ?_) (fun _ => rfl) ?_ ?_; rotate_left; (focus (intro c9 us w9 hm9 hS9 hF; clear hF hm9; go_simp; (try with_reducible rfl); done)); simp only [Act.put, zA, zB, zC, Nat.reduceAdd])
      refine late_pure (by simp) (fun _ => trivial) (v := ?_) (fun _ => rfl) ?_ ?_; rotate_left; (focus (intro c9 us w9 hm9 hS9 hF; have hc9 : c9 < 3 := (by rcases Nat.lt_or_ge c9 3 with h9 | h9; exact h9; exact absurd hm9 (by rw [mayAt_no (d := 2) (by kernel_rfl) (by omega) (by decide)]; decide)); have b3 := ((hS9.2.2.1 (by omega)).cell (p := ⟨g, 3, none⟩) hlg).trans c3; clear hF hm9; go_simp; (try with_reducible rfl); done)); simp only [Act.put, zA, zB, zC, Nat.reduceAdd]
      refine late_pure (by simp) (fun _ => trivial) (v := ?_) (fun _ => rfl) ?_ ?_; rotate_left; (focus (intro c9 us w9 hm9 hS9 hF; clear hF hm9; go_simp; (try with_reducible rfl); done)); simp only [Act.put, zA, zB, zC, Nat.reduceAdd]
      refine late_chain (by simp) ?_ ?_; (focus (intro us w9 hS9 hF K hK; clear hF; go_simp; refine (clone_any _ _ _ _ _ ((hIs).below (hS9.2.2.1 (by omega))) hml).mono ?_; rintro en w' ⟨Am, cm, rfl, ho, hb⟩; exact hK _ w' (hS9.one hb ho) trivial)); simp only [Act.put, zA, zB, zC, Nat.reduceAdd]
      refine late_chain (by simp) ?_ ?_; (focus (intro us w9 hS9 hF K hK; clear hF; obtain ⟨Am, cm, hu, ho⟩ := hS9.2.2.2.1 rfl; simp only [hu] at hK ⊢; go_simp; exact hK _ _ (hS9.two ho) trivial)); simp only [Act.put, zA, zB, zC, Nat.reduceAdd]
      refine late_chain (by simp) ?_ ?_; (focus (intro us w9 hS9 hF K hK; clear hF; obtain ⟨Am, cm, gb, hu, hrb, ho⟩ := hS9.2.2.2.2.1 rfl; simp only [hu] at hK ⊢; rw [if_pos (by rfl)]; have hown9 := hown.below (hS9.2.2.1 (by omega)); exact step_append_v (P := Try.prog) Try.underlying67 info_44 rfl (by omega) hown9 hrb rfl (by simp [Value.oneCell']) (by omega) (by omega) (Nat.le_trans hWx hS9.2.1.1) rfl rfl (fun A' c'' w' h2 h3 h5 => hK _ w' (hS9.three hWb hrow hown9 ho h2 h3) trivial))); simp only [Act.put, zA, zB, zC, Nat.reduceAdd]
      iterate 3 (refine late_pure (by simp) (fun _ => trivial) (v := ?_) (fun _ => rfl) ?_ ?_; rotate_left; (focus (intro c9 us w9 hm9 hS9 hF; clear hF hm9; go_simp; (try with_reducible rfl); done)); simp only [Act.put, zA, zB, zC, Nat.reduceAdd])
      refine late_store rfl ?_ ?_; (focus (intro us w9 hS9 hF K hK; clear hF; obtain ⟨A', c', Am, cm, hu, h2, h3, -⟩ := hS9.2.2.2.2.2.1 (by omega); simp only [hu] at hK ⊢; have hr9 := hS9.2.2.2.2.2.2 rfl; have k3 := hr9.cell 3; have f3 := hr9.frozen 3; simp only [BV] at k3; have hS10 := hS9.four hu hWg (fun _ _ => rfl); go_simp; exact hK _ hS10 trivial)); simp only [Nat.reduceAdd]
      refine late_done fun us8 w8 hS8 hF => ?_
      obtain ⟨A2, c2, Am, cm, hu8, h2, h3, hr4⟩ := hS8.2.2.2.2.2.1 (by omega)
      have hr4 := hr4 (by omega)
      have kk := hS8.2.1
      have hB8 := hS8.1
      clear hF hS8 c3
      have hoB8 := hoB.keeps kk (by decide)
      have hq8 := (hq.keeps kk (by decide)).snoc h3 hBw.size
      go_wp2
      exact ⟨⟨j + 1, A2, c2, _, by omega, by go_num, hr4, h2, by rw [HTS.out]; exact hq8, hoB8, hB8⟩, by simp [intOf]; omega⟩
    · obtain rfl : j = e.q.length := by omega
      have hd1 : decide (e.q.length < e.q.length) = false := by simp
      rw [List.take_length] at hq
      go_wp2
      go_ret
      exact ⟨g, A1, c1, B', d', vs, rfl, hWg, hr, hown, hq, hoB, hB⟩
def HeldI (w : World) (lo hi : Nat) (e : LE) (A : Option Addr) (c : Nat) (B : Option Addr) (d : Nat) : Prop := hi ≤ w.heap.size ∧ ∀ w', (∀ g cs t fr, lo ≤ g → g < hi → w.heap[g]? = some (Obj.cells cs t fr) → t = 5 ∨ t = 44 → w'.heap[g]? = w.heap[g]?) → Held w' e A c B d
theorem HeldI.held {w : World} {lo hi : Nat} {e : LE} {A B : Option Addr} {c d : Nat} (h : HeldI w lo hi e A c B d) : Held w e A c B d := h.2 w fun _ _ _ _ _ _ _ _ => rfl
theorem HeldI.stay {w w' : World} {lo hi : Nat} {e : LE} {A B : Option Addr} {c d : Nat} (h : HeldI w lo hi e A c B d) (hs : hi ≤ w'.heap.size) (hk : ∀ g, lo ≤ g → g < hi → w'.heap[g]? = w.heap[g]?) : HeldI w' lo hi e A c B d :=
  ⟨hs, fun w2 h2 => h.2 w2 fun g cs t fr h3 h4 h5 h6 => (h2 g cs t fr h3 h4 ((hk g h3 h4).trans h5) h6).trans (hk g h3 h4)⟩
theorem HeldI.keeps {ts : List TypeId} {w w' : World} {lo hi : Nat} {e : LE} {A B : Option Addr} {c d : Nat} (h : HeldI w lo hi e A c B d) (k : Keeps ts w w') (n5 : 5 ∉ ts) (n44 : 44 ∉ ts) : HeldI w' lo hi e A c B d :=
  ⟨Nat.le_trans h.1 k.1, fun w2 h2 => h.2 w2 fun g cs t fr h3 h4 h5 h6 => by
    have h7 := k.2 g t cs fr h5 (by rcases h6 with h6 | h6 <;> subst h6 <;> assumption)
    exact (h2 g cs t fr h3 h4 h7 h6).trans (h7.trans h5.symm)⟩
theorem HeldI.below {w w' : World} {lo hi : Nat} {e : LE} {A B : Option Addr} {c d : Nat} (h : HeldI w lo hi e A c B d) (hb : Below w.heap.size w w') : HeldI w' lo hi e A c B d :=
  h.stay (Nat.le_trans h.1 hb.size) fun g _ h4 => hb.block g (Nat.lt_of_lt_of_le h4 h.1)
theorem HeldI.upd {w w' : World} {lo hi x : Nat} {e : LE} {A B : Option Addr} {c d : Nat} (h : HeldI w lo hi e A c B d) (u : Upd w w' x) (hx : x < lo ∨ hi ≤ x) : HeldI w' lo hi e A c B d :=
  h.stay (by rw [u.size]; exact h.1) fun g h3 h4 => u.block g (by omega)
theorem OwnV.stay {w w' : World} {base size lo : Nat} {e : TypeId} {A : Option Addr} {n c : Nat} {xs : List Value} (h : OwnV w base e size A n c xs) (hl : lo ≤ base) (hk : ∀ g cs t fr, lo ≤ g → g < w.heap.size → w.heap[g]? = some (Obj.cells cs t fr) → t = 5 ∨ t = 44 → w'.heap[g]? = w.heap[g]?) (he : e = 5 ∨ e = 44 := by decide) : OwnV w' base e size A n c xs := by
  obtain ⟨h1, h2⟩ := h
  refine ⟨h1, ?_⟩
  rcases h2 with h2 | ⟨g, cap, cur, e1, hb, hg, r⟩
  · exact .inl h2
  · exact .inr ⟨g, cap, cur, e1, hb, (hk g _ _ _ (Nat.le_trans hl hb) (Array.getElem?_eq_some_iff.1 hg).1 hg he).trans hg, r⟩
theorem OwnB.stay {w w' : World} {base lo : Nat} {e : TypeId} {A : Option Addr} {n c : Nat} {bs : List UInt8} (h : OwnB w base e A n c bs) (hl : lo ≤ base) (hk : ∀ g cs t fr, lo ≤ g → g < w.heap.size → w.heap[g]? = some (Obj.cells cs t fr) → t = 5 ∨ t = 44 → w'.heap[g]? = w.heap[g]?) (he : e = 5 ∨ e = 44 := by decide) : OwnB w' base e A n c bs := OwnV.stay (size := 1) h hl hk he
theorem QV.stay {w w' : World} {base lo : Nat} {vs : List Value} {q : List (List UInt8)} (h : QV w base vs q) (hl : lo ≤ base) (hk : ∀ g cs t fr, lo ≤ g → g < w.heap.size → w.heap[g]? = some (Obj.cells cs t fr) → t = 5 ∨ t = 44 → w'.heap[g]? = w.heap[g]?) : QV w' base vs q := ⟨h.1, fun i hi => by
  obtain ⟨A, c, e, ho⟩ := h.2 i hi
  exact ⟨A, c, e, ho.stay hl hk⟩⟩
def enqE (e : LE) (m : List UInt8) : Int := if vE e = true then (if 1048576 < m.length then 67 else if e.q.length = 64 then 65 else 0) else 74
def enqL (e : LE) (m : List UInt8) : LE := if enqE e m = 0 then { e with q := e.q ++ [m] } else zeL
def EnP (e : LE) (m : List UInt8) (W : World) (en : Ending) (W' : World) : Prop := ∃ A c B d, en = .returned (.tuple #[.agg (LEV (enqL e m) A c B d), .int .i64 (enqE e m)]) ∧ HeldI W' W.heap.size W'.heap.size (enqL e m) A c B d ∧ Below W.heap.size W W'
theorem held_zero (w : World) : Held w zeL none 0 none 0 := ⟨⟨rfl, fun h => by simp [zeL] at h⟩, Nat.le_refl _, IsB.nil _ _, Nat.le_refl _⟩
theorem en_yes {e : LE} {m : List UInt8} (h : enqE e m = 0) {W W' : World} {A B : Option Addr} {c d : Nat} (hH : HeldI W' W.heap.size W'.heap.size { e with q := e.q ++ [m] } A c B d) (hb : Below W.heap.size W W') : EnP e m W (.returned (.tuple #[.agg (LEV { e with q := e.q ++ [m] } A c B d), .int .i64 0])) W' := by
  have hl : enqL e m = { e with q := e.q ++ [m] } := by unfold enqL; rw [h, if_pos rfl]
  refine ⟨A, c, B, d, ?_, ?_, hb⟩
  · rw [h, hl]
  · rw [hl]; exact hH
theorem vE_q {e : LE} (h : vE e = true) : e.q.length ≤ 64 ∧ ∀ m ∈ e.q, m.length ≤ 1048576 := by
  simp only [vE, soundB, Bool.and_eq_true, decide_eq_true_eq] at h
  refine ⟨h.1.1.1.1.2, fun m hm => ?_⟩
  have := List.all_eq_true.1 h.1.1.1.2 m hm
  simpa using this
set_option maxRecDepth 100000 in
set_option maxHeartbeats 4000000 in
theorem enq_ok (e : LE) (A B : Option Addr) (c d : Nat) (Am : Option Addr) (cm : Nat) (m : List UInt8) (W : World) (ht : e.ty) (hH : Held W e A c B d) (hm : IsB W Am m.length m) (hv : vE e = true) (h1 : m.length ≤ 1048576) (h2 : e.q.length ≠ 64) : Calls Try.prog 42 #[.agg (LEV e A c B d), .slice Am m.length cm] W (EnP e m W) := by
  have HE := Lib.hid (show enqE e m = 0 by simp [enqE, hv, h2]; omega)
  have hqv := vE_q hv
  have HV := Lib.hid hv
  have d1 : decide (1048576 < m.length) = false := by simpa using h1
  have d2 : ((e.q.length : Int) == 64) = false := by rw [beq_eq_false_iff_ne]; omega
  clear hv
  have hB1 := ((Below.refl W.heap.size W).alloc (Nat.le_refl _) (.cells (LEV e A c B d) 69)).alloc (by simp) (.cells ZE 69)
  have r1 : Row ((W.alloc (.cells (LEV e A c B d) 69)).alloc (.cells ZE 69)) W.heap.size 69 (LEV e A c B d) := (Row.born W 69 (LEV e A c B d)).alloc _
  have r2 : Row ((W.alloc (.cells (LEV e A c B d) 69)).alloc (.cells ZE 69)) (W.heap.size + 1) 69 ZE := by
    have h := Row.born (W.alloc (.cells (LEV e A c B d) 69)) 69 ZE
    rwa [show (W.alloc (.cells (LEV e A c B d) 69)).heap.size = W.heap.size + 1 by simp] at h
  go_enter Try.func42, Try.ntmps42
  go_upto_region 1 with (fail)
  change Code.wp _ _ _ _ ((W.alloc (.cells (LEV e A c B d) 69)).alloc (.cells ZE 69))
  generalize (W.alloc (.cells (LEV e A c B d) 69)).alloc (.cells ZE 69) = w1 at *
  have hH1 := hH.below hB1
  go_upto_region 5 with (first | ((with_reducible refine wp_load_g ?_ r1.range Try.underlying69 rfl (lev_info _ _ _ _ _) ?_ ?_); rfl; rfl) | (go_at_call 101; (with_reducible refine (valid_is HV.out ht hH1).mono ?_); rintro en w2 ⟨rfl, hb⟩))
  have r1 := r1.below hb r1.lt
  have r2 := r2.below hb r2.lt
  have hB2 := hB1.trans (hb.mono hB1.size)
  clear hb hB1 hH1
  obtain ⟨-, ⟨c5, -, -, -, -⟩, -⟩ := end_cells r1
  have hH2 := hH.below hB2
  go_upto_region 8 with (first | ((with_reducible refine wp_load_g ?_ r1.range Try.underlying69 rfl (lev_info _ _ _ _ _) ?_ ?_); rfl; rfl) | (go_at_call 102; (with_reducible refine (open_any e _ _ _ _ _ ht hH2).mono ?_); rintro en w3 ⟨g, A1, c1, B1, dd1, vs, rfl, hWg, hr, hown, hq, hoB, hb⟩))
  clear c5
  have r2 := r2.below hb r2.lt
  have hB3 := hB2.trans (hb.mono hB2.size)
  have hWb := hB2.size
  have hWx := hb.size
  clear hb hH2 hB2 r1
  generalize w2.heap.size = base at *
  have hBw : Below W.heap.size W w3.drew := hB3.drew
  refine wp_region_late (n := 40) [7, 8, 9, 13] (EnqS W w3.drew base g (fun v => BV e v (.slice B1 e.pt.length dd1)) A1 e.q.length c1 vs m.length m) (fun _ _ => True) (by kernel_rfl) (by kernel_rfl) (by rfl) EnqS.loc (EnqS.zero hBw) ?_
  have hrow : Row w3.drew g 155 (BV e (.slice A1 e.q.length c1) (.slice B1 e.pt.length dd1)) := hr
  have hown : OwnV w3.drew base 44 1 A1 e.q.length c1 vs := hown
  have hq : QV w3.drew base vs e.q := hq
  have hoB : OwnB w3.drew base 5 B1 e.pt.length dd1 e.pt := hoB
  have r2 : Row w3.drew (W.heap.size + 1) 69 ZE := r2
  have hWx : base ≤ w3.drew.heap.size := hWx
  generalize w3.drew = w5 at *
  have hlg := hrow.lt
  have c3 : w5.cell? ⟨g, 3, none⟩ = some (.slice A1 e.q.length c1) := hrow.cell 3
  have hIs := hm.below hBw
  have hml : m.length ≤ 1000000000 := by omega
  have hWg' : W.heap.size ≤ g := Nat.le_trans hWb hWg
  have hql := hqv.1
  iterate 5 (refine late_pure (by simp) (fun _ => trivial) (v := ?_) (fun _ => rfl) ?_ ?_; rotate_left; (focus (intro c9 us w9 hm9 hS9 hF; clear hF hm9; go_simp; (try with_reducible rfl); done)); simp only [Act.put, zA, zB, zC, Nat.reduceAdd])
  refine late_pure (by simp) (fun _ => trivial) (v := ?_) (fun _ => rfl) ?_ ?_; rotate_left; (focus (intro c9 us w9 hm9 hS9 hF; have hc9 : c9 < 3 := (by rcases Nat.lt_or_ge c9 3 with h9 | h9; exact h9; exact absurd hm9 (by rw [mayAt_no (d := 2) (by kernel_rfl) (by omega) (by decide)]; decide)); have b3 := ((hS9.2.2.1 (by omega)).cell (p := ⟨g, 3, none⟩) hlg).trans c3; clear hF hm9; go_simp; (try with_reducible rfl); done)); simp only [Act.put, zA, zB, zC, Nat.reduceAdd]
  refine late_pure (by simp) (fun _ => trivial) (v := ?_) (fun _ => rfl) ?_ ?_; rotate_left; (focus (intro c9 us w9 hm9 hS9 hF; clear hF hm9; go_simp; (try with_reducible rfl); done)); simp only [Act.put, zA, zB, zC, Nat.reduceAdd]
  refine late_chain (by simp) ?_ ?_; (focus (intro us w9 hS9 hF K hK; clear hF; go_simp; refine (clone_any _ _ _ _ _ ((hIs).below (hS9.2.2.1 (by omega))) hml).mono ?_; rintro en w' ⟨Am, cm, rfl, ho, hb⟩; exact hK _ w' (hS9.one hb ho) trivial)); simp only [Act.put, zA, zB, zC, Nat.reduceAdd]
  refine late_chain (by simp) ?_ ?_; (focus (intro us w9 hS9 hF K hK; clear hF; obtain ⟨Am, cm, hu, ho⟩ := hS9.2.2.2.1 rfl; simp only [hu] at hK ⊢; go_simp; exact hK _ _ (hS9.two ho) trivial)); simp only [Act.put, zA, zB, zC, Nat.reduceAdd]
  refine late_chain (by simp) ?_ ?_; (focus (intro us w9 hS9 hF K hK; clear hF; obtain ⟨Am, cm, gb, hu, hrb, ho⟩ := hS9.2.2.2.2.1 rfl; simp only [hu] at hK ⊢; rw [if_pos (by rfl)]; have hown9 := hown.below (hS9.2.2.1 (by omega)); exact step_append_v (P := Try.prog) Try.underlying67 info_44 rfl (by omega) hown9 hrb rfl (by simp [Value.oneCell']) (by omega) (by omega) (Nat.le_trans hWx hS9.2.1.1) rfl rfl (fun A' c'' w' h2 h3 h5 => hK _ w' (hS9.three hWb hrow hown9 ho h2 h3) trivial))); simp only [Act.put, zA, zB, zC, Nat.reduceAdd]
  iterate 3 (refine late_pure (by simp) (fun _ => trivial) (v := ?_) (fun _ => rfl) ?_ ?_; rotate_left; (focus (intro c9 us w9 hm9 hS9 hF; clear hF hm9; go_simp; (try with_reducible rfl); done)); simp only [Act.put, zA, zB, zC, Nat.reduceAdd])
  refine late_store rfl ?_ ?_; (focus (intro us w9 hS9 hF K hK; clear hF; obtain ⟨A', c', Am, cm, hu, h2, h3, -⟩ := hS9.2.2.2.2.2.1 (by omega); simp only [hu] at hK ⊢; have hr9 := hS9.2.2.2.2.2.2 rfl; have k3 := hr9.cell 3; have f3 := hr9.frozen 3; simp only [BV] at k3; have hS10 := hS9.four hu hWg' (fun _ _ => rfl); go_simp; exact hK _ hS10 trivial)); simp only [Nat.reduceAdd]
  refine late_done fun us8 w8 hS8 hF => ?_
  obtain ⟨A2, c2, Am2, cm2, hu8, h2', h3, hr4⟩ := hS8.2.2.2.2.2.1 (by omega)
  have hr4 := hr4 (by omega)
  have kk := hS8.2.1
  have hB8 := hS8.1
  clear hF hS8 c3
  have hoB8 := hoB.keeps kk (by decide)
  have hq8 := (hq.keeps kk (by decide)).snoc h3 hWx
  have r2 := kk.row r2 (by decide)
  have hl : (e.q ++ [m]).length = e.q.length + 1 := by simp
  obtain ⟨e', he'⟩ : ∃ e', ({ e with q := e.q ++ [m] } : LE) = e' := ⟨_, rfl⟩
  have hr5 : Row w8 g 155 (LBV e' A2 c2 B1 dd1) := by
    rw [← he']
    unfold LBV
    simp only [hl]
    exact hr4
  have HP := Lib.hid he'
  clear hr4 h3 hoB hq hown hrow kk he'
  go_wp2_with (first | (go_at_call 104; (with_reducible refine (end_any g e' _ _ _ _ _ hr5).mono ?_); rintro en w9 ⟨rfl, hb9⟩) | ((with_reducible refine wp_row_store (L := LEV e' A2 c2 B1 dd1) (r2.below hb9 r2.lt) rfl (lev_info _ _ _ _ _) (lev_one _ _ _ _ _) ?_ ?_ ?_); rfl; rfl; intro w4 u4 r4))
  refine bodyPost_ret (results_ct rfl rfl r4 Try.underlying69 rfl (lev_info _ _ _ _ _)) rfl ?_
  have hk : Keeps [69] w8 w4 := (Keeps.below hb9).trans (Keeps.upd u4 (r2.below hb9 r2.lt) (by simp))
  have hB9 := Upd.below (hB8.trans (hb9.mono hB8.size)) u4 (by omega)
  have h' := HP.out
  subst h'
  refine en_yes HE.out ⟨Nat.le_refl _, fun w' hw' => ⟨?_, ?_, ((hoB8.keeps hk (by decide)).stay hWb hw').isB, hoB8.capM⟩⟩ hB9
  · exact isM_of (q := e.q ++ [m]) (by rw [hl]; exact (h2'.keeps hk (by decide)).stay hWb hw') ((hq8.keeps hk (by decide)).stay hWb hw') (fun x hx => by
      rcases List.mem_append.1 hx with hx | hx
      · have := hqv.2 x hx; omega
      · rw [List.mem_singleton.1 hx]; omega)
  · simp only [hl]; exact h2'.cap
def frM (e : LE) : List UInt8 := e.q.headD []
def frS (e : LE) : Nat := if e.off < 0 then min (frM e).length 52 else min (frM e).length (e.off.toNat + 56)
def frP (e : LE) : List UInt8 := if e.off < 0 then fixB (frM e).length 4 ++ (frM e).take 52 else ((frM e).drop e.off.toNat).take 56
def FrgP (e : LE) (W : World) (en : Ending) (W' : World) : Prop := ∃ A c, en = .returned (.tuple #[.slice A (frP e).length c, .int .i64 (frS e)]) ∧ IsB W' A (frP e).length (frP e) ∧ Below W.heap.size W W'
def PB (base m : Nat) (bs : List UInt8) (u : Value) (w : World) : Prop := ∃ A c, u = .slice A m c ∧ OwnB w base 5 A m c bs
theorem PB.below {base m : Nat} {bs : List UInt8} {u : Value} {w w' : World} (h : PB base m bs u w) (hb : Below w.heap.size w w') : PB base m bs u w' := by
  obtain ⟨A, c, e, ho⟩ := h
  exact ⟨A, c, e, ho.below hb⟩
def FrgS (w0 : World) (m1 : Nat) (b1 : List UInt8) (m2 : Nat) (b2 : List UInt8) (c : Nat) (us : Nat → Value) (w' : World) : Prop :=
  Below w0.heap.size w0 w' ∧ (c = 1 → PB w0.heap.size m1 b1 (us 3) w') ∧ (c = 2 → PB w0.heap.size m2 b2 (us 7) w') ∧ (3 ≤ c → PB w0.heap.size m2 b2 (us 9) w')
theorem FrgS.loc {w0 : World} {m1 m2 : Nat} {b1 b2 : List UInt8} {ops : Array Oper} : ∀ c us us' w, (∀ k, mayAt ops [3, 7, 9] c k = false ∨ k ∈ [3, 7, 9].take c → us k = us' k) → FrgS w0 m1 b1 m2 b2 c us w → FrgS w0 m1 b1 m2 b2 c us' w := by
  intro c us us' w hk ⟨a, b, d, e⟩
  refine ⟨a, fun hc => ?_, fun hc => ?_, fun hc => ?_⟩
  · rw [← hk 3 (.inr (by subst hc; simp))]
    exact b hc
  · rw [← hk 7 (.inr (by subst hc; simp))]
    exact d hc
  · rw [← hk 9 (.inr (by obtain ⟨k, rfl⟩ : ∃ k, c = k + 3 := ⟨c - 3, by omega⟩; simp))]
    exact e hc
theorem NewB.own {W w : World} {bs : List UInt8} {en : Ending} (h : NewB W 5 bs en w) (hl : bs.length ≤ 1000000) : ∃ A n c, en = .returned (.slice A n c) ∧ n = bs.length ∧ OwnB w W.heap.size 5 A n c bs ∧ Below W.heap.size W w := by
  obtain ⟨g, m, hge, hm, rfl, hr, hb⟩ := h
  have hm' := hm.out
  subst hm'
  exact ⟨some ⟨g, 0, none⟩, bs.length, bs.length, rfl, rfl, ⟨by simp, .inr ⟨g, bs.length, (bs.map bv).toArray, rfl, hge, hr, Nat.le_refl _, by simp only [maxLen]; omega, by simp, List.take_of_length_le (by simp)⟩⟩, hb⟩
theorem headD_eq : ∀ {q : List (List UInt8)} (h : 0 < q.length), q.headD [] = q[0]
  | _ :: _, _ => rfl
theorem frM_eq {e : LE} (h : 0 < e.q.length) : frM e = e.q[0] := headD_eq h
set_option maxRecDepth 100000 in
set_option maxHeartbeats 4000000 in
theorem frag_1 (g : Nat) (e : LE) (A : Option Addr) (c : Nat) (R : Value) (W : World) (hr : Row W g 155 (BV e (.slice A e.q.length c) R)) (hq : IsM W A e.q.length e.q) (h0 : 0 < e.q.length) (hm : (frM e).length ≤ 1048576) (ho : e.off = -1) (h1 : (frM e).length ≤ 52) : Calls Try.prog 105 #[.pointer (some ⟨g, 0, none⟩)] W (FrgP e W) := by
  have hS := Lib.hid (show frS e = min (frM e).length 52 by unfold frS; rw [if_pos (by omega)])
  have hP := Lib.hid (show frP e = fixB (frM e).length 4 ++ (frM e).take 52 by unfold frP; rw [if_pos (by omega)])
  have hof : decide (e.off < 0) = true := by simp; omega
  have hwr : IntKind.u32.wrap ((frM e).length : Int) = ((frM e).length : Int) := by rw [IntKind.wrap_u32]; omega
  have hmin : decide ((52 : Int) < (frM e).length) = false := by simp; omega
  have hmn : ¬ (52 : Int) < (frM e).length := by omega
  clear ho
  have hlt := hr.lt
  obtain ⟨b, o, hA, hrow⟩ := hq.2 h0
  subst hA
  obtain ⟨A0, C0, x, hC0, -, hIs⟩ := hrow 0 h0
  have hM := frM_eq h0
  rw [← hM] at x hC0 hIs
  have x : W.cell? ⟨b, o, none⟩ = some (.slice A0 (frM e).length C0) := x
  have c3 : W.cell? ⟨g, 3, none⟩ = some (.slice (some ⟨b, o, none⟩) e.q.length c) := hr.cell 3
  have c4 : W.cell? ⟨g, 4, none⟩ = some (.int .i64 e.off) := hr.cell 4
  have hi0 : (0 : Int) < e.q.length := by omega
  have HM := Lib.hid hM
  clear hrow hM
  generalize hm' : frM e = m at *
  have HM' := Lib.hid hm'
  clear hm'
  have hCn : m.length ≤ C0 := by omega
  have hCi : ((m.length : Int) : Int) ≤ (C0 : Int) := by omega
  have hA1 := app32 none 0 0 [] m.length
  have hIs2 : IsB W A0 (min m.length 52) (m.take 52) := by
    have h := hIs.pre (min m.length 52) (by omega)
    rwa [show m.take (min m.length 52) = m.take 52 by rw [List.take_eq_take_iff]; omega] at h
  have hln : min m.length 52 = m.length := by omega
  rw [hln] at hIs2 hS
  have HLN := Lib.hid hln
  clear hln
  go_enter Try.func105, Try.ntmps105
  go_upto_region 4 with (fail)
  have hIs2 : IsB W.drew A0 m.length (m.take 52) := hIs2
  refine wp_region_late (n := 44) [3, 7, 9] (FrgS W.drew 4 (fixB m.length 4) (4 + m.length) (fixB m.length 4 ++ m.take 52)) (fun _ _ => True) (by kernel_rfl) (by kernel_rfl) (by rfl) FrgS.loc ⟨Below.refl _ _, fun h => by omega, fun h => by omega, fun h => by omega⟩ ?_
  have hb0 : Below W.heap.size W W.drew := (Below.refl _ _).drew
  generalize W.drew = w0 at *
  iterate 2 (refine late_pure (by simp) (fun _ => trivial) (v := ?_) (fun _ => rfl) ?_ ?_; rotate_left; (focus (intro c9 us w9 hm9 hS9 hF; clear hF hm9; go_simp; (try with_reducible rfl); done)); simp only [Act.put, zA, zB, zC, Nat.reduceAdd])
  refine late_pure (by simp) (fun _ => trivial) (v := .int .u32 (m.length : Int)) (fun _ => rfl) ?_ ?_; (focus (intro c9 us w9 hm9 hS9 hF; clear hF hm9; go_simp; (try with_reducible rfl); done)); simp only [Act.put, zA, zB, zC, Nat.reduceAdd]
  refine late_chain (by simp) ?_ ?_; (focus (intro us w9 hS9 hF K hK; clear hF; go_simp; refine (hA1 w9 (IsB.nil _ _) (by omega) (by omega)).mono ?_; rintro en w' hN; obtain ⟨A1, n1, c1, rfl, hn1, ho1, hb⟩ := hN.own (by simp [fixB_len]); rw [List.nil_append] at ho1 hn1; rw [fixB_len] at hn1; subst hn1; exact hK _ w' ⟨below_on hS9.1 hb, fun _ => ⟨A1, c1, by simp, ho1.lower hS9.1.size⟩, fun h => by omega, fun h => by omega⟩ trivial)); simp only [Act.put, zA, zB, zC, Nat.reduceAdd]
  iterate 2 (refine late_pure (by simp) (fun _ => trivial) (v := ?_) (fun _ => rfl) ?_ ?_; rotate_left; (focus (intro c9 us w9 hm9 hS9 hF; clear hF hm9; go_simp; (try with_reducible rfl); done)); simp only [Act.put, zA, zB, zC, Nat.reduceAdd])
  refine late_pure (by simp) (fun _ => trivial) (v := .slice A0 m.length C0) (fun _ => rfl) ?_ ?_; (focus (intro c9 us w9 hm9 hS9 hF; clear hF hm9; go_simp; (try with_reducible rfl); done)); simp only [Act.put, zA, zB, zC, Nat.reduceAdd]
  refine late_chain (by simp) ?_ ?_; (focus (intro us w9 hS9 hF K hK; clear hF; obtain ⟨A1, c1, hu, ho1⟩ := hS9.2.1 rfl; simp only [hu] at hK ⊢; rw [if_pos (by rfl)]; refine step_append_b (P := Try.prog) (c' := C0) Try.underlying44 info_b ho1 (hIs2.below hS9.1) (by omega) hS9.1.size rfl rfl (fun A' c'' w' h1 h2 h3 h4 => hK _ w' ⟨hS9.1.trans h2, fun h => by omega, fun _ => ⟨A', c'', by simp, h1⟩, fun h => by omega⟩ trivial))); simp only [Act.put, zA, zB, zC, Nat.reduceAdd]
  refine late_pure (by simp) (fun _ => trivial) (v := .int .i64 (m.length : Int)) (fun _ => rfl) ?_ ?_; (focus (intro c9 us w9 hm9 hS9 hF; clear hF hm9; go_simp; (try with_reducible rfl); done)); simp only [Act.put, zA, zB, zC, Nat.reduceAdd]
  refine late_chain (by simp) ?_ ?_; (focus (intro us w9 hS9 hF K hK; clear hF; obtain ⟨A1, c1, hu, ho1⟩ := hS9.2.2.1 rfl; simp only [hu] at hK ⊢; go_simp; exact hK _ w9 ⟨hS9.1, fun h => by omega, fun h => by omega, fun _ => ⟨A1, c1, by simp, ho1⟩⟩ trivial)); simp only [Act.put, zA, zB, zC, Nat.reduceAdd]
  refine late_pure (by simp) (fun _ => trivial) (v := .int .i64 (m.length : Int)) (fun _ => rfl) ?_ ?_; (focus (intro c9 us w9 hm9 hS9 hF; clear hF hm9; go_simp; (try with_reducible rfl); done)); simp only [Act.put, zA, zB, zC, Nat.reduceAdd]
  refine late_done fun us w8 hS8 hF => ?_
  obtain ⟨A9, c9, hu9, ho9⟩ := hS8.2.2.2 (by omega)
  have hB8 := hb0.trans (hS8.1.mono hb0.size)
  clear hF hS8
  simp only [hu9]
  go_wp2
  refine bodyPost_ret (v := .tuple #[.slice A9 (4 + m.length) c9, .int .i64 (m.length : Int)]) (by simp [results, Try.results105, go_sem]) rfl ?_
  have hl : (frP e).length = 4 + m.length := by rw [hP.out, List.length_append, fixB_len, List.length_take]; have := HLN.out; omega
  refine ⟨A9, c9, ?_, ?_, hB8⟩
  · rw [hl, hS.out]; try rfl
  · rw [hl, hP.out]; exact ho9.isB
set_option maxRecDepth 100000 in
set_option maxHeartbeats 4000000 in
theorem frag_2 (g : Nat) (e : LE) (A : Option Addr) (c : Nat) (R : Value) (W : World) (hr : Row W g 155 (BV e (.slice A e.q.length c) R)) (hq : IsM W A e.q.length e.q) (h0 : 0 < e.q.length) (hm : (frM e).length ≤ 1048576) (ho : e.off = -1) (h1 : 52 < (frM e).length) : Calls Try.prog 105 #[.pointer (some ⟨g, 0, none⟩)] W (FrgP e W) := by
  have hS := Lib.hid (show frS e = min (frM e).length 52 by unfold frS; rw [if_pos (by omega)])
  have hP := Lib.hid (show frP e = fixB (frM e).length 4 ++ (frM e).take 52 by unfold frP; rw [if_pos (by omega)])
  have hof : decide (e.off < 0) = true := by simp; omega
  have hwr : IntKind.u32.wrap ((frM e).length : Int) = ((frM e).length : Int) := by rw [IntKind.wrap_u32]; omega
  have hmin : decide ((52 : Int) < (frM e).length) = true := by simp; omega
  have hmn : (52 : Int) < (frM e).length := by omega
  clear ho
  have hlt := hr.lt
  obtain ⟨b, o, hA, hrow⟩ := hq.2 h0
  subst hA
  obtain ⟨A0, C0, x, hC0, -, hIs⟩ := hrow 0 h0
  have hM := frM_eq h0
  rw [← hM] at x hC0 hIs
  have x : W.cell? ⟨b, o, none⟩ = some (.slice A0 (frM e).length C0) := x
  have c3 : W.cell? ⟨g, 3, none⟩ = some (.slice (some ⟨b, o, none⟩) e.q.length c) := hr.cell 3
  have c4 : W.cell? ⟨g, 4, none⟩ = some (.int .i64 e.off) := hr.cell 4
  have hi0 : (0 : Int) < e.q.length := by omega
  have HM := Lib.hid hM
  clear hrow hM
  generalize hm' : frM e = m at *
  have HM' := Lib.hid hm'
  clear hm'
  have hCn : 52 ≤ C0 := by omega
  have hCi : (52 : Int) ≤ (C0 : Int) := by omega
  have hA1 := app32 none 0 0 [] m.length
  have hIs2 : IsB W A0 (min m.length 52) (m.take 52) := by
    have h := hIs.pre (min m.length 52) (by omega)
    rwa [show m.take (min m.length 52) = m.take 52 by rw [List.take_eq_take_iff]; omega] at h
  have hln : min m.length 52 = 52 := by omega
  rw [hln] at hIs2 hS
  have HLN := Lib.hid hln
  clear hln
  go_enter Try.func105, Try.ntmps105
  go_upto_region 4 with (fail)
  have hIs2 : IsB W.drew A0 52 (m.take 52) := hIs2
  refine wp_region_late (n := 44) [3, 7, 9] (FrgS W.drew 4 (fixB m.length 4) (4 + 52) (fixB m.length 4 ++ m.take 52)) (fun _ _ => True) (by kernel_rfl) (by kernel_rfl) (by rfl) FrgS.loc ⟨Below.refl _ _, fun h => by omega, fun h => by omega, fun h => by omega⟩ ?_
  have hb0 : Below W.heap.size W W.drew := (Below.refl _ _).drew
  generalize W.drew = w0 at *
  iterate 2 (refine late_pure (by simp) (fun _ => trivial) (v := ?_) (fun _ => rfl) ?_ ?_; rotate_left; (focus (intro c9 us w9 hm9 hS9 hF; clear hF hm9; go_simp; (try with_reducible rfl); done)); simp only [Act.put, zA, zB, zC, Nat.reduceAdd])
  refine late_pure (by simp) (fun _ => trivial) (v := .int .u32 (m.length : Int)) (fun _ => rfl) ?_ ?_; (focus (intro c9 us w9 hm9 hS9 hF; clear hF hm9; go_simp; (try with_reducible rfl); done)); simp only [Act.put, zA, zB, zC, Nat.reduceAdd]
  refine late_chain (by simp) ?_ ?_; (focus (intro us w9 hS9 hF K hK; clear hF; go_simp; refine (hA1 w9 (IsB.nil _ _) (by omega) (by omega)).mono ?_; rintro en w' hN; obtain ⟨A1, n1, c1, rfl, hn1, ho1, hb⟩ := hN.own (by simp [fixB_len]); rw [List.nil_append] at ho1 hn1; rw [fixB_len] at hn1; subst hn1; exact hK _ w' ⟨below_on hS9.1 hb, fun _ => ⟨A1, c1, by simp, ho1.lower hS9.1.size⟩, fun h => by omega, fun h => by omega⟩ trivial)); simp only [Act.put, zA, zB, zC, Nat.reduceAdd]
  iterate 2 (refine late_pure (by simp) (fun _ => trivial) (v := ?_) (fun _ => rfl) ?_ ?_; rotate_left; (focus (intro c9 us w9 hm9 hS9 hF; clear hF hm9; go_simp; (try with_reducible rfl); done)); simp only [Act.put, zA, zB, zC, Nat.reduceAdd])
  refine late_pure (by simp) (fun _ => trivial) (v := .slice A0 52 C0) (fun _ => rfl) ?_ ?_; (focus (intro c9 us w9 hm9 hS9 hF; clear hF hm9; go_simp; (try with_reducible rfl); done)); simp only [Act.put, zA, zB, zC, Nat.reduceAdd]
  refine late_chain (by simp) ?_ ?_; (focus (intro us w9 hS9 hF K hK; clear hF; obtain ⟨A1, c1, hu, ho1⟩ := hS9.2.1 rfl; simp only [hu] at hK ⊢; rw [if_pos (by rfl)]; refine step_append_b (P := Try.prog) (c' := C0) Try.underlying44 info_b ho1 (hIs2.below hS9.1) (by omega) hS9.1.size rfl rfl (fun A' c'' w' h1 h2 h3 h4 => hK _ w' ⟨hS9.1.trans h2, fun h => by omega, fun _ => ⟨A', c'', by simp, h1⟩, fun h => by omega⟩ trivial))); simp only [Act.put, zA, zB, zC, Nat.reduceAdd]
  refine late_pure (by simp) (fun _ => trivial) (v := .int .i64 52) (fun _ => rfl) ?_ ?_; (focus (intro c9 us w9 hm9 hS9 hF; clear hF hm9; go_simp; (try with_reducible rfl); done)); simp only [Act.put, zA, zB, zC, Nat.reduceAdd]
  refine late_chain (by simp) ?_ ?_; (focus (intro us w9 hS9 hF K hK; clear hF; obtain ⟨A1, c1, hu, ho1⟩ := hS9.2.2.1 rfl; simp only [hu] at hK ⊢; go_simp; exact hK _ w9 ⟨hS9.1, fun h => by omega, fun h => by omega, fun _ => ⟨A1, c1, by simp, ho1⟩⟩ trivial)); simp only [Act.put, zA, zB, zC, Nat.reduceAdd]
  refine late_pure (by simp) (fun _ => trivial) (v := .int .i64 52) (fun _ => rfl) ?_ ?_; (focus (intro c9 us w9 hm9 hS9 hF; clear hF hm9; go_simp; (try with_reducible rfl); done)); simp only [Act.put, zA, zB, zC, Nat.reduceAdd]
  refine late_done fun us w8 hS8 hF => ?_
  obtain ⟨A9, c9, hu9, ho9⟩ := hS8.2.2.2 (by omega)
  have hB8 := hb0.trans (hS8.1.mono hb0.size)
  clear hF hS8
  simp only [hu9]
  go_wp2
  refine bodyPost_ret (v := .tuple #[.slice A9 (4 + 52) c9, .int .i64 52]) (by simp [results, Try.results105, go_sem]) rfl ?_
  have hl : (frP e).length = 4 + 52 := by rw [hP.out, List.length_append, fixB_len, List.length_take]; have := HLN.out; omega
  refine ⟨A9, c9, ?_, ?_, hB8⟩
  · rw [hl, hS.out]; try rfl
  · rw [hl, hP.out]; exact ho9.isB
set_option maxRecDepth 100000 in
set_option maxHeartbeats 4000000 in
theorem frag_3 (g : Nat) (e : LE) (A : Option Addr) (c : Nat) (R : Value) (W : World) (hr : Row W g 155 (BV e (.slice A e.q.length c) R)) (hq : IsM W A e.q.length e.q) (h0 : 0 < e.q.length) (hm : (frM e).length ≤ 1048576) (j : Nat) (hj : e.off = (j : Int)) (hjl : j < (frM e).length) (h1 : (frM e).length ≤ j + 56) : Calls Try.prog 105 #[.pointer (some ⟨g, 0, none⟩)] W (FrgP e W) := by
  have hS := Lib.hid (show frS e = min (frM e).length (j + 56) by unfold frS; rw [if_neg (by omega), hj]; rfl)
  have hP := Lib.hid (show frP e = ((frM e).drop j).take 56 by unfold frP; rw [if_neg (by omega), hj]; rfl)
  have hlt := hr.lt
  obtain ⟨b, o, hA, hrow⟩ := hq.2 h0
  subst hA
  obtain ⟨A0, C0, x, hC0, -, hIs⟩ := hrow 0 h0
  have hM := frM_eq h0
  rw [← hM] at x hC0 hIs
  have x : W.cell? ⟨b, o, none⟩ = some (.slice A0 (frM e).length C0) := x
  have c3 : W.cell? ⟨g, 3, none⟩ = some (.slice (some ⟨b, o, none⟩) e.q.length c) := hr.cell 3
  have c4 : W.cell? ⟨g, 4, none⟩ = some (.int .i64 e.off) := hr.cell 4
  have hi0 : (0 : Int) < e.q.length := by omega
  have HM := Lib.hid hM
  clear hrow hM
  generalize hm' : frM e = m at *
  have HM' := Lib.hid hm'
  clear hm'
  rw [hj] at c4
  have HJ := Lib.hid hj
  clear hj hr
  obtain ⟨b', o', e', -⟩ := hIs.2 (by omega)
  subst e'
  have hof : decide ((j : Int) < 0) = false := by simp
  have hmin : decide ((j : Int) + 56 < m.length) = false := by simp; omega
  have hj1 : (j : Int) ≤ (m.length : Int) := by omega
  have hj2 : (m.length : Int) ≤ (C0 : Int) := by omega
  have hj3 : j ≤ m.length := by omega
  have hj4 : m.length ≤ C0 := by omega
  have hj5 : (j : Int) + 56 < 9223372036854775808 := by omega
  have hjC : j < C0 := by omega
  go_enter Try.func105, Try.ntmps105
  go_wp2
  refine bodyPost_ret (results_tmp2 rfl _ _ _) rfl ?_
  have hB := (hIs.sufB j (by omega)).pre (m.length - j) (by omega)
  have hPl : (frP e).length = m.length - j := by rw [hP.out, List.length_take, List.length_drop]; omega
  have hSl : frS e = m.length := by rw [hS.out]; omega
  refine ⟨some ⟨b', o' + j, none⟩, C0 - j, ?_, ?_, Below.refl _ _⟩
  · rw [hPl, hSl]
    rfl
  · rw [hPl, hP.out]
    rwa [show (m.drop j).take (m.length - j) = (m.drop j).take 56 by rw [List.take_eq_take_iff, List.length_drop]; omega] at hB
set_option maxRecDepth 100000 in
set_option maxHeartbeats 4000000 in
theorem frag_4 (g : Nat) (e : LE) (A : Option Addr) (c : Nat) (R : Value) (W : World) (hr : Row W g 155 (BV e (.slice A e.q.length c) R)) (hq : IsM W A e.q.length e.q) (h0 : 0 < e.q.length) (hm : (frM e).length ≤ 1048576) (j : Nat) (hj : e.off = (j : Int)) (hjl : j < (frM e).length) (h1 : j + 56 < (frM e).length) : Calls Try.prog 105 #[.pointer (some ⟨g, 0, none⟩)] W (FrgP e W) := by
  have hS := Lib.hid (show frS e = min (frM e).length (j + 56) by unfold frS; rw [if_neg (by omega), hj]; rfl)
  have hP := Lib.hid (show frP e = ((frM e).drop j).take 56 by unfold frP; rw [if_neg (by omega), hj]; rfl)
  have hlt := hr.lt
  obtain ⟨b, o, hA, hrow⟩ := hq.2 h0
  subst hA
  obtain ⟨A0, C0, x, hC0, -, hIs⟩ := hrow 0 h0
  have hM := frM_eq h0
  rw [← hM] at x hC0 hIs
  have x : W.cell? ⟨b, o, none⟩ = some (.slice A0 (frM e).length C0) := x
  have c3 : W.cell? ⟨g, 3, none⟩ = some (.slice (some ⟨b, o, none⟩) e.q.length c) := hr.cell 3
  have c4 : W.cell? ⟨g, 4, none⟩ = some (.int .i64 e.off) := hr.cell 4
  have hi0 : (0 : Int) < e.q.length := by omega
  have HM := Lib.hid hM
  clear hrow hM
  generalize hm' : frM e = m at *
  have HM' := Lib.hid hm'
  clear hm'
  rw [hj] at c4
  have HJ := Lib.hid hj
  clear hj hr
  obtain ⟨b', o', e', -⟩ := hIs.2 (by omega)
  subst e'
  have hof : decide ((j : Int) < 0) = false := by simp
  have hmin : decide ((j : Int) + 56 < m.length) = true := by simp; omega
  have hj1 : (j : Int) ≤ ((j : Int) + 56) := by omega
  have hj2 : ((j : Int) + 56) ≤ (C0 : Int) := by omega
  have hj3 : j ≤ j + 56 := by omega
  have hj4 : j + 56 ≤ C0 := by omega
  have hj5 : (j : Int) + 56 < 9223372036854775808 := by omega
  have hjC : j < C0 := by omega
  go_enter Try.func105, Try.ntmps105
  go_wp2
  refine bodyPost_ret (results_tmp2 rfl _ _ _) rfl ?_
  have hB := (hIs.sufB j (by omega)).pre (j + 56 - j) (by omega)
  have hPl : (frP e).length = j + 56 - j := by rw [hP.out, List.length_take, List.length_drop]; omega
  have hSl : frS e = j + 56 := by rw [hS.out]; omega
  refine ⟨some ⟨b', o' + j, none⟩, C0 - j, ?_, ?_, Below.refl _ _⟩
  · rw [hPl, hSl]
    simp
  · rw [hPl, hP.out]
    rwa [show (m.drop j).take (j + 56 - j) = (m.drop j).take 56 by rw [List.take_eq_take_iff, List.length_drop]; omega] at hB
theorem frag_any (g : Nat) (e : LE) (A : Option Addr) (c : Nat) (R : Value) (W : World) (hr : Row W g 155 (BV e (.slice A e.q.length c) R)) (hq : IsM W A e.q.length e.q) (h0 : 0 < e.q.length) (hm : (frM e).length ≤ 1048576) (hoff : e.off = -1 ∨ (52 ≤ e.off ∧ e.off < (frM e).length)) : Calls Try.prog 105 #[.pointer (some ⟨g, 0, none⟩)] W (FrgP e W) := by
  rcases hoff with h | ⟨h1, h2⟩
  · by_cases hl : (frM e).length ≤ 52
    · exact frag_1 g e A c R W hr hq h0 hm h hl
    · exact frag_2 g e A c R W hr hq h0 hm h (by omega)
  · obtain ⟨j, hj⟩ : ∃ j : Nat, e.off = j := ⟨e.off.toNat, by omega⟩
    by_cases hl : (frM e).length ≤ j + 56
    · exact frag_3 g e A c R W hr hq h0 hm j hj (by omega) hl
    · exact frag_4 g e A c R W hr hq h0 hm j hj (by omega) (by omega)
end
end Go.Proofs.Ythjkhambmgepdaa
