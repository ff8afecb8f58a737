/- Texts Lq, without what this claim does not use. -/
import Derived.Test.YthjkhambmgepdaaQau
namespace Go.Proofs.Ythjkhambmgepdaa
section
open Go.RowKit
set_option linter.unusedVariables false
def OpQ (e : LE) (W : World) (en : Ending) (W' : World) : Prop := ∃ g A c B d vs b2, en = .returned (.pointer (some ⟨g, 0, none⟩)) ∧ W.heap.size ≤ g ∧ Row W' g 155 (BV e (.slice A e.q.length c) (.slice B e.pt.length d)) ∧ OwnV W' b2 44 1 A e.q.length c vs ∧ QV W' b2 vs e.q ∧ OwnB W' W.heap.size 5 B e.pt.length d e.pt ∧ (∀ k, (Value.slice B e.pt.length d).ownBlock = some k → k < b2) ∧ W.heap.size ≤ b2 ∧ Below W.heap.size W W'
set_option maxRecDepth 100000 in
set_option maxHeartbeats 4000000 in
theorem open_own (e : LE) (A B : Option Addr) (c d : Nat) (W : World) (ht : e.ty) (hH : Held W e A c B d) : Calls Try.prog 102 #[.agg (LEV e A c B d)] W (OpQ e W) := by
  have hB1 := (Below.refl W.heap.size W).alloc (Nat.le_refl _) (.cells (LEV e A c B d) 69)
  have r1 := Row.born W 69 (LEV e A c B d)
  have hl1 := r1.lt
  go_enter Try.func102, Try.ntmps102
  go_upto_region 1 with (fail)
  generalize W.alloc (.cells (LEV e A c B d) 69) = w1 at *
  have r1 : Row w1.drew W.heap.size 69 (LEV e A c B d) := r1
  have hB1 : Below W.heap.size W w1.drew := hB1.drew
  have hl1 : W.heap.size < w1.drew.heap.size := hl1
  obtain ⟨⟨c0, c1, c2, c3, c4⟩, ⟨c5, c6, c7, c8, c9⟩, -⟩ := end_cells r1
  have hH1 := hH.below hB1
  refine wp_region_tailN (n := 45) 17 (fun w' => Below w1.drew.heap.size w1.drew w') (fun w w' => Below w.heap.size w w') (by kernel_rfl) (by kernel_rfl) (by decide) (by rfl) (Below.refl _ _) ?_
  simp only [List.take_succ_cons, List.take_zero, List.drop_succ_cons, List.drop_zero]
  iterate 11 (refine tail_pure (v := ?_) (fun w => Below.refl _ w) (fun _ => rfl) ?_ ?_; rotate_left; (focus (intro us w9 hS9 hF; clear hF; have b0 := (hS9.cell (p := ⟨W.heap.size, 0, none⟩) hl1).trans c0; have b1 := (hS9.cell (p := ⟨W.heap.size, 1, none⟩) hl1).trans c1; have b2 := (hS9.cell (p := ⟨W.heap.size, 2, none⟩) hl1).trans c2; have b3 := (hS9.cell (p := ⟨W.heap.size, 3, none⟩) hl1).trans c3; have b4 := (hS9.cell (p := ⟨W.heap.size, 4, none⟩) hl1).trans c4; have b6 := (hS9.cell (p := ⟨W.heap.size, 6, none⟩) hl1).trans c6; have b7 := (hS9.cell (p := ⟨W.heap.size, 7, none⟩) hl1).trans c7; have b8 := (hS9.cell (p := ⟨W.heap.size, 8, none⟩) hl1).trans c8; have b9 := (hS9.cell (p := ⟨W.heap.size, 9, none⟩) hl1).trans c9; go_simp; (try with_reducible rfl); done)); simp only [Act.put, zA, zB, zC, Nat.reduceAdd])
  refine tail_free (OpA W.heap.size e) OpA.mono ?_ ?_; (focus (intro us w9 hS9 hF K hK; clear hF; go_simp; refine (clone_any _ _ _ _ _ (hH1.p.below hS9) ht.pl).mono ?_; rintro en w' ⟨A', c', rfl, ho, hb⟩; exact hK _ w' (below_on hS9 hb) hb ⟨A', c', rfl, ho.lower (Nat.le_trans hB1.size hS9.size)⟩)); simp only [Act.put, zA, zB, zC, Nat.reduceAdd]
  iterate 2 (refine tail_pure (v := ?_) (fun w => Below.refl _ w) (fun _ => rfl) ?_ ?_; rotate_left; (focus (intro us w9 hS9 hF; clear hF; have b0 := (hS9.cell (p := ⟨W.heap.size, 0, none⟩) hl1).trans c0; have b1 := (hS9.cell (p := ⟨W.heap.size, 1, none⟩) hl1).trans c1; have b2 := (hS9.cell (p := ⟨W.heap.size, 2, none⟩) hl1).trans c2; have b3 := (hS9.cell (p := ⟨W.heap.size, 3, none⟩) hl1).trans c3; have b4 := (hS9.cell (p := ⟨W.heap.size, 4, none⟩) hl1).trans c4; have b6 := (hS9.cell (p := ⟨W.heap.size, 6, none⟩) hl1).trans c6; have b7 := (hS9.cell (p := ⟨W.heap.size, 7, none⟩) hl1).trans c7; have b8 := (hS9.cell (p := ⟨W.heap.size, 8, none⟩) hl1).trans c8; have b9 := (hS9.cell (p := ⟨W.heap.size, 9, none⟩) hl1).trans c9; go_simp; (try with_reducible rfl); done)); simp only [Act.put, zA, zB, zC, Nat.reduceAdd])
  refine tail_free (OpB W.heap.size e) OpB.mono ?_ ?_; (focus (intro us w9 hS9 hF K hK; obtain ⟨B', d', hu, ho⟩ := hF (11, OpA W.heap.size e) (by simp) (by kernel_rfl); clear hF; simp only [hu] at hK ⊢; go_simp; exact hK _ w9 hS9 (Below.refl _ _) ⟨B', d', rfl, ho⟩)); simp only [Act.put, zA, zB, zC, Nat.reduceAdd]
  refine tail_free (OpC W.heap.size e) OpC.mono ?_ ?_; (focus (intro us w9 hS9 hF K hK; obtain ⟨B', d', hu, ho⟩ := hF (14, OpB W.heap.size e) (by simp) (by kernel_rfl); clear hF; simp only [hu] at hK ⊢; go_simp; exact hK _ w9 hS9 (Below.refl _ _) ⟨B', d', rfl, ho⟩)); simp only [Act.put, zA, zB, zC, Nat.reduceAdd]
  refine tail_free (OpD W.heap.size e) OpD.mono ?_ ?_; (focus (intro us w9 hS9 hF K hK; obtain ⟨B', d', hu, ho⟩ := hF (15, OpC W.heap.size e) (by simp) (by kernel_rfl); clear hF; simp only [hu] at hK ⊢; go_simp; exact hK _ _ (hS9.alloc hS9.size _) ((Below.refl _ _).alloc (Nat.le_refl _) _) ⟨w9.heap.size, B', d', rfl, Nat.le_trans hB1.size hS9.size, Row.born _ _ _, ho.alloc _⟩)); simp only [Act.put, zA, zB, zC, Nat.reduceAdd]
  refine tail_done fun us w3 hS3 hF => ?_
  obtain ⟨g, B', d', hu, hWg, hr, hoB⟩ := hF (16, OpD W.heap.size e) (by simp)
  clear hF
  dsimp only at hu
  simp only [hu]
  clear c0 c1 c2 c3 c4 c6 c7 c8 c9
  have hB3 := below_on hB1 hS3
  have r3' := r1.below hS3 hl1
  obtain ⟨-, ⟨c5, -, -, -, -⟩, -⟩ := end_cells r3'
  have hB3' := hB3
  obtain ⟨b2, hb2⟩ : ∃ b2, w3.heap.size = b2 := ⟨_, rfl⟩
  have hkB : ∀ k, (Value.slice B' e.pt.length d').ownBlock = some k → k < b2 := fun k hk => hb2 ▸ (World.ownsRow.lt hoB k hk).2
  have hWb2 : W.heap.size ≤ b2 := hb2 ▸ hB3.size
  have hx2 : b2 ≤ w3.heap.size := by rw [hb2]; exact Nat.le_refl _
  clear hb2
  clear hB1 hS3 r1 r3' hH1 hl1
  go_upto_region 3 with (fail)
  clear c5
  go_loopw [26] (fun i wr => ∃ j : Nat, ∃ A1 c1 vs, j ≤ e.q.length ∧ i = .int .i64 j ∧ Row wr g 155 (BV e (.slice A1 j c1) (.slice B' e.pt.length d')) ∧ OwnV wr b2 44 1 A1 j c1 vs ∧ QV wr b2 vs (e.q.take j) ∧ OwnB wr W.heap.size 5 B' e.pt.length d' e.pt ∧ Below W.heap.size W wr ∧ b2 ≤ wr.heap.size) (fun i _ => e.q.length - (intOf i).toNat)
  case atStart => exact ⟨0, none, 0, [], by omega, rfl, hr, OwnV.nil _ _ _ _, QV.nil _ _, hoB, hB3, hx2⟩
  case round =>
    clear hr hoB hB3 hB3' hx2
    obtain ⟨j, A1, c1, vs, hj, rfl, hr, hown, hq, hoB, hB, hx2⟩ := hrel
    rcases Nat.lt_or_ge j e.q.length with hjl | hjl
    · have hd1 : decide (j < e.q.length) = true := by simpa using hjl
      have hji : (j : Int) < e.q.length := by omega
      have hM := hH.q.below hB
      obtain ⟨b, o, hA, hrow'⟩ := hM.2 (by omega)
      subst hA
      obtain ⟨Ar, Cr, x, -, -, hIs⟩ := hrow' j hjl
      have hml : (e.q[j]).length ≤ 1000000000 := ht.qm _ (List.getElem_mem hjl)
      have hts : e.q.take (j + 1) = e.q.take j ++ [e.q[j]] := List.take_succ_eq_append_getElem hjl
      clear hrow' hM
      generalize e.q[j] = bs at *
      have HTS := Lib.hid hts
      clear hts
      go_upto_region 5 with (fail)
      have hBw : Below W.heap.size W wr.drew := hB.drew
      refine wp_region_late (n := 45) [7, 8, 9, 13] (EnqS W wr.drew b2 g (fun v => BV e v (.slice B' e.pt.length d')) A1 j c1 vs bs.length bs) (fun _ _ => True) (by kernel_rfl) (by kernel_rfl) (by rfl) EnqS.loc (EnqS.zero hBw) ?_
      have hrow : Row wr.drew g 155 (BV e (.slice A1 j c1) (.slice B' e.pt.length d')) := hr
      have hown : OwnV wr.drew b2 44 1 A1 j c1 vs := hown
      have hq : QV wr.drew b2 vs (e.q.take j) := hq
      have hoB : OwnB wr.drew W.heap.size 5 B' e.pt.length d' e.pt := hoB
      have hIs : IsB wr.drew Ar bs.length bs := hIs
      have hx2 : b2 ≤ wr.drew.heap.size := hx2
      generalize wr.drew = w5 at *
      have hlg := hrow.lt
      have c3 : w5.cell? ⟨g, 3, none⟩ = some (.slice A1 j c1) := hrow.cell 3
      have hWb := hWb2
      have hWx := hx2
      have hql := ht.ql
      iterate 5 (refine late_pure (by simp) (fun _ => trivial) (v := ?_) (fun _ => rfl) ?_ ?_; rotate_left; (focus (intro c9 us w9 hm9 hS9 hF; clear hF hm9; go_simp; (try with_reducible rfl); done)); simp only [Act.put, zA, zB, zC, Nat.reduceAdd])
      refine late_pure (by simp) (fun _ => trivial) (v := ?_) (fun _ => rfl) ?_ ?_; rotate_left; (focus (intro c9 us w9 hm9 hS9 hF; have hc9 : c9 < 3 := (by rcases Nat.lt_or_ge c9 3 with h9 | h9; exact h9; exact absurd hm9 (by rw [mayAt_no (d := 2) (by kernel_rfl) (by omega) (by decide)]; decide)); have b3 := ((hS9.2.2.1 (by omega)).cell (p := ⟨g, 3, none⟩) hlg).trans c3; clear hF hm9; go_simp; (try with_reducible rfl); done)); simp only [Act.put, zA, zB, zC, Nat.reduceAdd]
      refine late_pure (by simp) (fun _ => trivial) (v := ?_) (fun _ => rfl) ?_ ?_; rotate_left; (focus (intro c9 us w9 hm9 hS9 hF; clear hF hm9; go_simp; (try with_reducible rfl); done)); simp only [Act.put, zA, zB, zC, Nat.reduceAdd]
      refine late_chain (by simp) ?_ ?_; (focus (intro us w9 hS9 hF K hK; clear hF; go_simp; refine (clone_any _ _ _ _ _ ((hIs).below (hS9.2.2.1 (by omega))) hml).mono ?_; rintro en w' ⟨Am, cm, rfl, ho, hb⟩; exact hK _ w' (hS9.one hb ho) trivial)); simp only [Act.put, zA, zB, zC, Nat.reduceAdd]
      refine late_chain (by simp) ?_ ?_; (focus (intro us w9 hS9 hF K hK; clear hF; obtain ⟨Am, cm, hu, ho⟩ := hS9.2.2.2.1 rfl; simp only [hu] at hK ⊢; go_simp; exact hK _ _ (hS9.two ho) trivial)); simp only [Act.put, zA, zB, zC, Nat.reduceAdd]
      refine late_chain (by simp) ?_ ?_; (focus (intro us w9 hS9 hF K hK; clear hF; obtain ⟨Am, cm, gb, hu, hrb, ho⟩ := hS9.2.2.2.2.1 rfl; simp only [hu] at hK ⊢; rw [if_pos (by rfl)]; have hown9 := hown.below (hS9.2.2.1 (by omega)); exact step_append_v (P := Try.prog) Try.underlying67 info_44 rfl (by omega) hown9 hrb rfl (by simp [Value.oneCell']) (by omega) (by omega) (Nat.le_trans hWx hS9.2.1.1) rfl rfl (fun A' c'' w' h2 h3 h5 => hK _ w' (hS9.three hWb hrow hown9 ho h2 h3) trivial))); simp only [Act.put, zA, zB, zC, Nat.reduceAdd]
      iterate 3 (refine late_pure (by simp) (fun _ => trivial) (v := ?_) (fun _ => rfl) ?_ ?_; rotate_left; (focus (intro c9 us w9 hm9 hS9 hF; clear hF hm9; go_simp; (try with_reducible rfl); done)); simp only [Act.put, zA, zB, zC, Nat.reduceAdd])
      refine late_store rfl ?_ ?_; (focus (intro us w9 hS9 hF K hK; clear hF; obtain ⟨A', c', Am, cm, hu, h2, h3, -⟩ := hS9.2.2.2.2.2.1 (by omega); simp only [hu] at hK ⊢; have hr9 := hS9.2.2.2.2.2.2 rfl; have k3 := hr9.cell 3; have f3 := hr9.frozen 3; simp only [BV] at k3; have hS10 := hS9.four hu hWg (fun _ _ => rfl); go_simp; exact hK _ hS10 trivial)); simp only [Nat.reduceAdd]
      refine late_done fun us8 w8 hS8 hF => ?_
      obtain ⟨A2, c2, Am, cm, hu8, h2, h3, hr4⟩ := hS8.2.2.2.2.2.1 (by omega)
      have hr4 := hr4 (by omega)
      have kk := hS8.2.1
      have hB8 := hS8.1
      clear hF hS8 c3
      have hoB8 := hoB.keeps kk (by decide)
      have hq8 := (hq.keeps kk (by decide)).snoc h3 hWx
      go_wp2
      exact ⟨⟨j + 1, A2, c2, _, by omega, by go_num, hr4, h2, by rw [HTS.out]; exact hq8, hoB8, hB8, Nat.le_trans hWx kk.1⟩, by simp [intOf]; omega⟩
    · obtain rfl : j = e.q.length := by omega
      have hd1 : decide (e.q.length < e.q.length) = false := by simp
      rw [List.take_length] at hq
      go_wp2
      go_ret
      exact ⟨g, A1, c1, B', d', vs, b2, rfl, hWg, hr, hown, hq, hoB, hkB, hWb2, hB⟩
end
end Go.Proofs.Ythjkhambmgepdaa
