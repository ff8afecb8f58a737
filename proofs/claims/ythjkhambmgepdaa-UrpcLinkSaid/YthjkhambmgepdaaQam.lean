/- Texts Vc, without what this claim does not use. -/
import Derived.Test.YthjkhambmgepdaaQal
namespace Go.Proofs.Ythjkhambmgepdaa
section
open Go.RowKit
set_option linter.unusedVariables false
set_option linter.unusedSimpArgs false
theorem WdV.lower {base lo : Nat} {v : Int} {u : Value} {w : World} (h : WdV base v u w) (hl : lo ≤ base) : WdV lo v u w := by
  obtain ⟨g, h1, h2⟩ := h
  exact ⟨g, h1, h2.lower hl⟩
theorem call_wd_no {e : UE} {v x : Int} {A B : Option Addr} {c d gd : Nat} {W : World} {base : Nat} (h : calE e v (wdB v) = x) (hx : x ≠ 0) (hH : HeldU W e A c B d) (ho : OwnB W base 5 (some ⟨gd, 0, none⟩) 2 2 (wdB v)) :
    Calls Try.prog 76 #[.agg (UEV e A c B d), .int .i64 v, .slice (some ⟨gd, 0, none⟩) 2 2] W (fun en W' => en = .returned (.tuple #[.agg ZU, .int .i64 0, .slice none 0 0, .int .i64 x]) ∧ Below W.heap.size W W') := by
  refine (callU e A B c d v (some ⟨gd, 0, none⟩) 2 (wdB v) W hH ho.isB).mono ?_
  rintro en W' ⟨hb, ⟨-, h2⟩ | ⟨h1, -⟩⟩
  · rw [h] at h2
    exact ⟨h2, hb⟩
  · rw [h] at h1
    exact absurd h1 hx
theorem call_wd {e e9 : UE} {v x : Int} {bs : List UInt8} {A B : Option Addr} {c d gd : Nat} {W : World} {base : Nat} (h : calE e v (wdB v) = 0) (hU : calU e = e9) (hx : e.la + 1 = x) (hb : (rqM x v (wdB v)).by = bs) (hH : HeldU W e A c B d) (ho : OwnB W base 5 (some ⟨gd, 0, none⟩) 2 2 (wdB v)) :
    Calls Try.prog 76 #[.agg (UEV e A c B d), .int .i64 v, .slice (some ⟨gd, 0, none⟩) 2 2] W (fun en W' => ∃ u, en = .returned u ∧ C4V W.heap.size e9 x bs u W' ∧ Below W.heap.size W W') := by
  refine (call_is h hU hx hb hH ho.isB).mono ?_
  rintro en W' ⟨A', c', B', d', g, h1, h2, h3, h4, h5⟩
  exact ⟨_, h1, ⟨A', c', B', d', g, rfl, h2, h3, h4⟩, h5⟩
theorem C4V.lower {base lo : Nat} {e9 : UE} {x : Int} {bs : List UInt8} {u : Value} {w : World} (h : C4V base e9 x bs u w) (hl : lo ≤ base) : C4V lo e9 x bs u w := by
  obtain ⟨A, c, B, d, g, h1, h2, h3, h4⟩ := h
  exact ⟨A, c, B, d, g, h1, h2.lower hl, Nat.le_trans hl h3, h4⟩
set_option maxRecDepth 100000 in
set_option maxHeartbeats 8000000 in
theorem cn_call_full0 (base g : Nat) (col : Nat → Nat) (w : World) (S : CnS) (p : CnP) (hM : CM base g col w S p) (v : Int) (v0 : 0 ≤ v) (v1 : v ≤ 65535) (hE : calE (S.E 0) v (wdB v) = 65) (hl : (S.E 0).cr ≤ ((S.E 0).cs.length : Int)) : Calls Try.prog 117 #[.pointer (some ⟨g, 0, none⟩), .int .i64 0, .int .i64 v] w (CStep base g col w S) := by
  have HE := Lib.hid hE
  have dl : decide ((S.E 0).cr ≤ ((S.E 0).cs.length : Int)) = true := decide_eq_true hl
  clear hE hl
  have hlg := hM.lt
  go_enter Try.func117, Try.ntmps117
  go_upto_region 1 with (fail)
  have hMd := hM.drew
  have hHd : HeldU w.drew (S.E 0) (p.A 0) (p.c 0) (p.B 0) (p.d 0) := (hMd.held 0 (by omega)).now
  have hlgd : g < w.drew.heap.size := hlg
  have hB0 : Below w.heap.size w w.drew := (Below.refl _ _).drew
  obtain ⟨⟨z0, z1, i0, i1, i2, i3, i4, i5⟩, fz, e0, e1⟩ := hMd.cells
  refine wp_region_late (n := 107) [16] (ZaS w.drew) G7 (by kernel_rfl) (by kernel_rfl) (by rfl) ZaS.loc (Below.refl _ _) ?_
  generalize w.drew = wd at *
  iterate 5 (refine late_pure (by simp) (fun w => G7.refl _) (v := ?_) (fun _ => rfl) ?_ ?_; rotate_left; (focus (intro c9 us w9 hm9 hS9 hF; clear hF hm9; go_simp; (try with_reducible rfl); done)); simp only [Act.put, zA, zB, zC, Nat.reduceAdd])
  refine late_pure (by simp) (fun w => G7.refl _) (v := .agg (UEV (S.E 0) (p.A 0) (p.c 0) (p.B 0) (p.d 0))) (fun _ => rfl) ?_ ?_; (focus (intro c9 us w9 hm9 hS9 hF; exact exec_load_g (fun j v hv => (hS9.cell (p := ⟨g, 0 + j, none⟩) hlgd).trans (e0 j v hv)) Try.underlying112 rfl (uev_info _ _ _ _ _) rfl)); simp only [Act.put, zA, zB, zC, Nat.reduceAdd]
  iterate 2 (refine late_pure (by simp) (fun w => G7.refl _) (v := ?_) (fun _ => rfl) ?_ ?_; rotate_left; (focus (intro c9 us w9 hm9 hS9 hF; clear hF hm9; go_simp; (try with_reducible rfl); done)); simp only [Act.put, zA, zB, zC, Nat.reduceAdd])
  refine late_free (by simp) (WdV wd.heap.size v) (WdV.mono) ?_ ?_; (focus (intro c9 us w9 hm9 hS9 hF K hK; clear hF; go_simp; refine (word_is v v0 v1 _).mono ?_; rintro en w' ⟨u, rfl, hu, hb⟩; exact hK u w' (below_on hS9 hb) (G7.below hb) (hu.lower hS9.size))); simp only [Act.put, zA, zB, zC, Nat.reduceAdd]
  refine late_fix (by simp) (v := .tuple #[.agg ZU, .int .i64 0, .slice none 0 0, .int .i64 65]) ?_ ?_; (focus (intro c9 us w9 hm9 hS9 hF K hK; obtain ⟨gw, hu, ho⟩ := hF (8, WdV wd.heap.size v) (by simp) (by kernel_rfl); clear hF; dsimp only at hu; simp only [hu] at hK ⊢; go_simp; refine (call_wd_no HE.out (by omega) (hHd.below hS9) ho).mono ?_; rintro en w' ⟨rfl, hb⟩; exact hK w' (below_on hS9 hb) (G7.below hb))); simp only [Act.put, zA, zB, zC, Nat.reduceAdd]
  iterate 5 (refine late_pure (by simp) (fun w => G7.refl _) (v := ?_) (fun _ => rfl) ?_ ?_; rotate_left; (focus (intro c9 us w9 hm9 hS9 hF; clear hF hm9; go_simp; (try with_reducible rfl); done)); simp only [Act.put, zA, zB, zC, Nat.reduceAdd])
  refine late_free (by simp) (PtrU wd.heap.size) (PtrU.mono) ?_ ?_; (focus (intro c9 us w9 hm9 hS9 hF K hK; clear hF; go_simp; exact hK _ _ (hS9.alloc hS9.size (.cells ZU 112)) (G7.below ((Below.refl _ _).alloc (Nat.le_refl _) _)) ⟨w9.heap.size, rfl, hS9.size, ue0, none, 0, none, 0, Row.born w9 112 ZU⟩)); simp only [Act.put, zA, zB, zC, Nat.reduceAdd]
  refine late_store rfl ?_ ?_; (focus (intro us w9 hS9 hF K hK; obtain ⟨b3, hu, hb3, hur⟩ := hF (15, PtrU wd.heap.size) (by simp) (by kernel_rfl); dsimp only at hu; clear hF; simp only [hu] at hK ⊢; rw [if_pos (by rfl)]; obtain ⟨e3, A3, c3, B3, d3, hr⟩ := hur; exact step_put (L := ZU) hr rfl zu_info zu_one rfl rfl (fun w' u' r' => hK w' (Upd.below hS9 u' hb3) (G7.put (e := ue0) (A := none) (c := 0) (B := none) (d := 0) ⟨_, _, _, _, _, hr⟩ u' r')))); simp only [Nat.reduceAdd]
  iterate 3 (refine late_pure (by simp) (fun w => G7.refl _) (v := ?_) (fun _ => rfl) ?_ ?_; rotate_left; (focus (intro c9 us w9 hm9 hS9 hF; clear hF hm9; go_simp; (try with_reducible rfl); done)); simp only [Act.put, zA, zB, zC, Nat.reduceAdd])
  refine late_done fun us wf hS8 hF => ?_
  obtain ⟨b3, hu15, -⟩ := hF (15, PtrU wd.heap.size) (by simp)
  clear hF
  dsimp only at hu15
  simp only [hu15]
  clear hu15
  have hMf := hMd.below hS8
  clear z0 z1 i0 i1 i2 i3 i4 i5 fz e0 e1
  go_upto_region 2 with (fail)
  have hMg := hMf.drew
  have c0 : wf.drew.cell? ⟨g, 0, none⟩ = some (.int .i64 (S.E 0).cr) := hMg.row.now.cell 0
  have c3 : wf.drew.cell? ⟨g, 3, none⟩ = some (.slice (p.A 0) (S.E 0).cs.length (p.c 0)) := hMg.row.now.cell 3
  have c4 : wf.drew.cell? ⟨g, 4, none⟩ = some (.slice (p.B 0) (S.E 0).ss.length (p.d 0)) := hMg.row.now.cell 4
  refine wp_region_told (n := 107) (fun w' => w' = wf.drew) (fun _ _ => True) (by kernel_rfl) (by kernel_rfl) (by rfl) rfl ?_
  repeat (first | (refine walk_pure (v := ?_) (fun _ => trivial) (fun _ => rfl) ?_ ?_; rotate_left; (focus (intro us w9 hS9 hF; subst hS9; clear hF; go_simp; (try with_reducible rfl); done)); simp only [Act.put, zA, zB, zC, Nat.reduceAdd]) | (refine walk_skip (fun _ => trivial) (fun _ => rfl) ?_; simp only [Act.put, zA, zB, zC, Nat.reduceAdd]))
  refine walk_done fun us w9 hS9 hF => ?_
  subst hS9
  clear hF
  go_wp2
  go_ret
  exact CStep.same hM ((hB0.trans (Below.mono (show Below wd.heap.size wd wf from hS8) hB0.size)).drew)
set_option maxRecDepth 100000 in
set_option maxHeartbeats 8000000 in
theorem cn_call0 (base g : Nat) (col : Nat → Nat) (w : World) (S : CnS) (p : CnP) (hM : CM base g col w S p) (v : Int) (v0 : 0 ≤ v) (v1 : v ≤ 65535) (hE : calE (S.E 0) v (wdB v) = 0) (hl : ((S.E 0).cs.length : Int) < (S.E 0).cr) (hla : (S.E 0).la = (S.I 0).length) (hcl : (S.E 0).cs.length ≤ 100) (hsl : (S.E 0).ss.length ≤ 100) (hb1 : (S.Z 1).length ≤ 100000) (hb2 : ∀ i, (S.I i).length ≤ 100000) : Calls Try.prog 117 #[.pointer (some ⟨g, 0, none⟩), .int .i64 0, .int .i64 v] w (CStep base g col w ((((S.putE 0 (calU (S.E 0))).appZ 1 (rqM ((S.I 0).length + 1) v (wdB v)).by).appI 0 v).appI 4 0)) := by
  have HE := Lib.hid hE
  have dl : decide ((S.E 0).cr ≤ ((S.E 0).cs.length : Int)) = false := decide_eq_false (by omega)
  obtain ⟨bs, hbs⟩ : ∃ bs, (rqM ((S.I 0).length + 1) v (wdB v)).by = bs := ⟨_, rfl⟩
  obtain ⟨e9, he9⟩ : ∃ e9, calU (S.E 0) = e9 := ⟨_, rfl⟩
  have HBS := Lib.hid hbs
  have HU := Lib.hid he9
  have HLA := Lib.hid (show (S.E 0).la + 1 = ((S.I 0).length : Int) + 1 by rw [hla])
  have h9c : e9.cs.length ≤ 1000 := by rw [← he9]; simp [calU]; omega
  have h9s : e9.ss.length ≤ 1000 := by rw [← he9]; simp [calU]; omega
  rw [hbs, he9]
  have hb2s := hb2 0
  have hb24 := hb2 4
  have hwl : IntKind.i64.wrap (((S.I 0).length : Int) + 1) = ((S.I 0).length : Int) + 1 := by rw [IntKind.wrap_i64]; omega
  have hwr : IntKind.i64.wrap 1 = 1 := by rw [IntKind.wrap_i64]; rfl
  clear hE hl hla hbs he9 hcl hsl
  have hlg := hM.lt
  go_enter Try.func117, Try.ntmps117
  go_upto_region 1 with (fail)
  have hMd := hM.drew
  have hHd : HeldU w.drew (S.E 0) (p.A 0) (p.c 0) (p.B 0) (p.d 0) := (hMd.held 0 (by omega)).now
  have hlgd : g < w.drew.heap.size := hlg
  have hB0 : Below w.heap.size w w.drew := (Below.refl _ _).drew
  obtain ⟨⟨z0, z1, i0, i1, i2, i3, i4, i5⟩, fz, e0, e1⟩ := hMd.cells
  refine wp_region_late (n := 107) [16] (CaS w.drew e9 15) G7 (by kernel_rfl) (by kernel_rfl) (by rfl) (CaS.loc (by kernel_rfl)) ⟨Below.refl _ _, fun h => by omega⟩ ?_
  generalize w.drew = wd at *
  iterate 5 (refine late_pure (by simp) (fun w => G7.refl _) (v := ?_) (fun _ => rfl) ?_ ?_; rotate_left; (focus (intro c9 us w9 hm9 hS9 hF; clear hF hm9; go_simp; (try with_reducible rfl); done)); simp only [Act.put, zA, zB, zC, Nat.reduceAdd])
  refine late_pure (by simp) (fun w => G7.refl _) (v := .agg (UEV (S.E 0) (p.A 0) (p.c 0) (p.B 0) (p.d 0))) (fun _ => rfl) ?_ ?_; (focus (intro c9 us w9 hm9 hS9 hF; exact exec_load_g (fun j v hv => (hS9.1.cell (p := ⟨g, 0 + j, none⟩) hlgd).trans (e0 j v hv)) Try.underlying112 rfl (uev_info _ _ _ _ _) rfl)); simp only [Act.put, zA, zB, zC, Nat.reduceAdd]
  iterate 2 (refine late_pure (by simp) (fun w => G7.refl _) (v := ?_) (fun _ => rfl) ?_ ?_; rotate_left; (focus (intro c9 us w9 hm9 hS9 hF; clear hF hm9; go_simp; (try with_reducible rfl); done)); simp only [Act.put, zA, zB, zC, Nat.reduceAdd])
  refine late_free (by simp) (WdV wd.heap.size v) (WdV.mono) ?_ ?_; (focus (intro c9 us w9 hm9 hS9 hF K hK; have hc9 : c9 < 1 := (by rcases Nat.lt_or_ge c9 1 with h9 | h9; exact h9; exact absurd hm9 (by rw [mayAt_no (d := 0) (by kernel_rfl) (by omega) (by decide)]; decide)); clear hF; go_simp; refine (word_is v v0 v1 _).mono ?_; rintro en w' ⟨u, rfl, hu, hb⟩; exact hK u w' ⟨below_on hS9.1 hb, fun h => by omega⟩ (G7.below hb) (hu.lower hS9.1.size))); simp only [Act.put, zA, zB, zC, Nat.reduceAdd]
  refine late_free (by simp) (C4V wd.heap.size e9 (((S.I 0).length : Int) + 1) bs) (C4V.mono) ?_ ?_; (focus (intro c9 us w9 hm9 hS9 hF K hK; have hc9 : c9 < 1 := (by rcases Nat.lt_or_ge c9 1 with h9 | h9; exact h9; exact absurd hm9 (by rw [mayAt_no (d := 0) (by kernel_rfl) (by omega) (by decide)]; decide)); obtain ⟨gw, hu, ho⟩ := hF (8, WdV wd.heap.size v) (by simp) (by kernel_rfl); clear hF; dsimp only at hu; simp only [hu] at hK ⊢; go_simp; refine (call_wd HE.out HU.out HLA.out HBS.out (hHd.below hS9.1) ho).mono ?_; rintro en w' ⟨u, rfl, hu, hb⟩; exact hK u w' ⟨below_on hS9.1 hb, fun h => by omega⟩ (G7.below hb) (hu.lower hS9.1.size))); simp only [Act.put, zA, zB, zC, Nat.reduceAdd]
  refine late_free (by simp) (C4V wd.heap.size e9 (((S.I 0).length : Int) + 1) bs) (C4V.mono) ?_ ?_; (focus (intro c9 us w9 hm9 hS9 hF K hK; obtain ⟨A, c, B, d, gm, hu, h1, h2, h3⟩ := hF (9, C4V wd.heap.size e9 (((S.I 0).length : Int) + 1) bs) (by simp) (by kernel_rfl); clear hF; dsimp only at hu; simp only [hu] at hK ⊢; go_simp; exact hK _ w9 hS9 (G7.refl _) ⟨A, c, B, d, gm, rfl, h1, h2, h3⟩)); simp only [Act.put, zA, zB, zC, Nat.reduceAdd]
  refine late_free (by simp) (EnV wd.heap.size e9) (EnV.mono) ?_ ?_; (focus (intro c9 us w9 hm9 hS9 hF K hK; obtain ⟨A, c, B, d, gm, hu, h1, h2, h3⟩ := hF (10, C4V wd.heap.size e9 (((S.I 0).length : Int) + 1) bs) (by simp) (by kernel_rfl); clear hF; dsimp only at hu; simp only [hu] at hK ⊢; go_simp; exact hK _ w9 hS9 (G7.refl _) ⟨A, c, B, d, rfl, h1⟩)); simp only [Act.put, zA, zB, zC, Nat.reduceAdd]
  refine late_pure (by simp) (fun w => G7.refl _) (v := .int .i64 (((S.I 0).length : Int) + 1)) (fun _ => rfl) ?_ ?_; (focus (intro c9 us w9 hm9 hS9 hF; obtain ⟨A, c, B, d, gm, hu, -⟩ := hF (10, C4V wd.heap.size e9 (((S.I 0).length : Int) + 1) bs) (by simp) (by kernel_rfl); dsimp only at hu; simp only [hu]; go_simp)); simp only [Act.put, zA, zB, zC, Nat.reduceAdd]
  refine late_free (by simp) (MsV wd.heap.size bs) (MsV.mono) ?_ ?_; (focus (intro c9 us w9 hm9 hS9 hF K hK; obtain ⟨A, c, B, d, gm, hu, h1, h2, h3⟩ := hF (10, C4V wd.heap.size e9 (((S.I 0).length : Int) + 1) bs) (by simp) (by kernel_rfl); clear hF; dsimp only at hu; simp only [hu] at hK ⊢; go_simp; exact hK _ w9 hS9 (G7.refl _) ⟨gm, rfl, h2, h3⟩)); simp only [Act.put, zA, zB, zC, Nat.reduceAdd]
  refine late_pure (by simp) (fun w => G7.refl _) (v := .int .i64 0) (fun _ => rfl) ?_ ?_; (focus (intro c9 us w9 hm9 hS9 hF; obtain ⟨A, c, B, d, gm, hu, -⟩ := hF (10, C4V wd.heap.size e9 (((S.I 0).length : Int) + 1) bs) (by simp) (by kernel_rfl); dsimp only at hu; simp only [hu]; go_simp)); simp only [Act.put, zA, zB, zC, Nat.reduceAdd]
  refine late_free (by simp) (PtrU wd.heap.size) (PtrU.mono) ?_ ?_; (focus (intro c9 us w9 hm9 hS9 hF K hK; have hc9 : c9 < 1 := (by rcases Nat.lt_or_ge c9 1 with h9 | h9; exact h9; exact absurd hm9 (by rw [mayAt_no (d := 0) (by kernel_rfl) (by omega) (by decide)]; decide)); clear hF; go_simp; exact hK _ _ ⟨hS9.1.alloc hS9.1.size (.cells ZU 112), fun h => by omega⟩ (G7.below ((Below.refl _ _).alloc (Nat.le_refl _) _)) ⟨w9.heap.size, rfl, hS9.1.size, ue0, none, 0, none, 0, Row.born w9 112 ZU⟩)); simp only [Act.put, zA, zB, zC, Nat.reduceAdd]
  refine late_store rfl ?_ ?_; (focus (intro us w9 hS9 hF K hK; obtain ⟨A, c, B, d, hu9, h1⟩ := hF (11, EnV wd.heap.size e9) (by simp) (by kernel_rfl); obtain ⟨b3, hu, hb3, hur⟩ := hF (15, PtrU wd.heap.size) (by simp) (by kernel_rfl); dsimp only at hu9 hu; clear hF; simp only [hu9, hu] at hK ⊢; rw [if_pos (by rfl)]; obtain ⟨e3, A3, c3, B3, d3, hr⟩ := hur; exact step_put (L := UEV e9 A c B d) hr rfl (uev_info _ _ _ _ _) (uev_one _ _ _ _ _) rfl rfl (fun w' u' r' => hK w' ⟨Upd.below hS9.1 u' hb3, fun _ => ⟨b3, A, c, B, d, hu, hb3, r', h1.keeps (Keeps.upd (ts := [112]) u' hr (by simp)) (by decide)⟩⟩ (G7.put ⟨_, _, _, _, _, hr⟩ u' r')))); simp only [Nat.reduceAdd]
  refine late_pure (by simp) (fun w => G7.refl _) (v := ?_) (fun _ => rfl) ?_ ?_; rotate_left; (focus (intro c9 us w9 hm9 hS9 hF; clear hF hm9; go_simp; (try with_reducible rfl); done)); simp only [Act.put, zA, zB, zC, Nat.reduceAdd]
  refine late_free (by simp) (MsV wd.heap.size bs) (MsV.mono) ?_ ?_; (focus (intro c9 us w9 hm9 hS9 hF K hK; obtain ⟨gm, hu, h2⟩ := hF (13, MsV wd.heap.size bs) (by simp) (by kernel_rfl); clear hF; dsimp only at hu; simp only [hu] at hK ⊢; go_simp; exact hK _ w9 hS9 (G7.refl _) ⟨gm, rfl, h2⟩)); simp only [Act.put, zA, zB, zC, Nat.reduceAdd]
  refine late_pure (by simp) (fun w => G7.refl _) (v := ?_) (fun _ => rfl) ?_ ?_; rotate_left; (focus (intro c9 us w9 hm9 hS9 hF; clear hF hm9; go_simp; (try with_reducible rfl); done)); simp only [Act.put, zA, zB, zC, Nat.reduceAdd]
  refine late_done fun us wf hS8 hF => ?_
  obtain ⟨gm, hu18, hgm, hIm⟩ := hF (18, MsV wd.heap.size bs) (by simp)
  obtain ⟨g8, A3, c3, B3, d3, hu15, hg8, r8, hU8⟩ := hS8.2 (by omega)
  have hbf := hS8.1
  clear hF hS8
  dsimp only at hu15 hu18
  simp only [hu15, hu18]
  clear hu15 hu18
  have hMf := hMd.below hbf
  have hWf : White col w wf := (White.below hB0).stepU (fun _ _ _ => rfl) (White.below hbf)
  have hPE : Part col 0 wf (fun w => HeldU w e9 A3 c3 B3 d3) := Part.ownU hU8 (fun x h1 => hMd.cn x h1) h9c h9s
  have hPM : Part col 0 wf (fun w => IsB w (some ⟨gm, 0, none⟩) bs.length bs) := Part.msgU hIm (hMd.cn gm hgm)
  clear z0 z1 i0 i1 i2 i3 i4 i5 fz e0 e1
  clear hHd hlgd hlg hU8 hIm hbf
  go_upto_region 2 with (fail)
  have hMg := hMf.drew
  have c0 : wf.drew.cell? ⟨g, 0, none⟩ = some (.int .i64 (S.E 0).cr) := hMg.row.now.cell 0
  have c3 : wf.drew.cell? ⟨g, 3, none⟩ = some (.slice (p.A 0) (S.E 0).cs.length (p.c 0)) := hMg.row.now.cell 3
  have c4 : wf.drew.cell? ⟨g, 4, none⟩ = some (.slice (p.B 0) (S.E 0).ss.length (p.d 0)) := hMg.row.now.cell 4
  refine wp_region_told (n := 107) (fun w' => w' = wf.drew) (fun _ _ => True) (by kernel_rfl) (by kernel_rfl) (by rfl) rfl ?_
  repeat (first | (refine walk_pure (v := ?_) (fun _ => trivial) (fun _ => rfl) ?_ ?_; rotate_left; (focus (intro us w9 hS9 hF; subst hS9; clear hF; go_simp; (try with_reducible rfl); done)); simp only [Act.put, zA, zB, zC, Nat.reduceAdd]) | (refine walk_skip (fun _ => trivial) (fun _ => rfl) ?_; simp only [Act.put, zA, zB, zC, Nat.reduceAdd]))
  refine walk_done fun us w9 hS9 hF => ?_
  subst hS9
  clear hF
  clear c0 c3 c4
  have hWg : White col w wf.drew := hWf.stepU (fun _ _ _ => rfl) (White.below ((Below.refl _ _).drew))
  have hPE : Part col 0 wf.drew (fun w => HeldU w e9 A3 c3 B3 d3) := hPE.below ((Below.refl _ _).drew)
  have hPM : Part col 0 wf.drew (fun w => IsB w (some ⟨gm, 0, none⟩) bs.length bs) := hPM.below ((Below.refl _ _).drew)
  have r8 : Row wf.drew g8 112 (UEV e9 A3 c3 B3 d3) := r8
  clear hMf hWf
  generalize wf.drew = wg at *
  obtain ⟨⟨z0, z1, i0, i1, i2, i3, i4, i5⟩, fz, e0, e1⟩ := hMg.cells
  go_upto_region 6 with (fail)
  clear z0 z1 i0 i1 i2 i3 i4 i5 fz e0 e1
  have hrow : Row wg.drew g 116 (([] : List Value) ++ (UEV (S.E 0) (p.A 0) (p.c 0) (p.B 0) (p.d 0)).toList ++ ((UEV (S.E 1) (p.A 1) (p.c 1) (p.B 1) (p.d 1)).toList ++ ([.slice (p.zA 0) (S.Z 0).length (p.zc 0), .slice (p.zA 1) (S.Z 1).length (p.zc 1), .slice (p.iA 0) (S.I 0).length (p.ic 0), .slice (p.iA 1) (S.I 1).length (p.ic 1), .slice (p.iA 2) (S.I 2).length (p.ic 2), .slice (p.iA 3) (S.I 3).length (p.ic 3), .slice (p.iA 4) (S.I 4).length (p.ic 4), .slice (p.iA 5) (S.I 5).length (p.ic 5)] : List Value))).toArray := hMg.row.now
  have r8 : Row wg.drew g8 112 (UEV e9 A3 c3 B3 d3) := r8
  refine wp_region_tailN (n := 107) 6 (fun w' => w' = wg.drew) (fun _ _ => True) (by kernel_rfl) (by kernel_rfl) (by decide) (by rfl) rfl ?_
  simp only [List.take_succ_cons, List.take_zero, List.drop_succ_cons, List.drop_zero]
  iterate 2 (refine tail_pure (fun w => trivial) (v := ?_) (fun _ => rfl) ?_ ?_; rotate_left; (focus (intro us w9 hS9 hF; clear hF; subst hS9; go_simp; (try with_reducible rfl); done)); simp only [Act.put, zA, zB, zC, Nat.reduceAdd])
  refine tail_pure (fun w => trivial) (v := .agg (UEV e9 A3 c3 B3 d3)) (fun _ => rfl) ?_ ?_; (focus (intro us w9 hS9 hF; clear hF; subst hS9; exact exec_load_g r8.range Try.underlying112 rfl (uev_info _ _ _ _ _) rfl)); simp only [Act.put, zA, zB, zC, Nat.reduceAdd]
  iterate 3 (refine tail_pure (fun w => trivial) (v := ?_) (fun _ => rfl) ?_ ?_; rotate_left; (focus (intro us w9 hS9 hF; clear hF; subst hS9; go_simp; (try with_reducible rfl); done)); simp only [Act.put, zA, zB, zC, Nat.reduceAdd])
  refine tail_done fun us w7 hS7 hF => ?_
  subst hS7
  clear hF
  refine wp_put_midU (g := g) (t := 116) (off := 0) (pre := ([] : List Value)) (cs := (UEV (S.E 0) (p.A 0) (p.c 0) (p.B 0) (p.d 0)).toList) (post := ((UEV (S.E 1) (p.A 1) (p.c 1) (p.B 1) (p.d 1)).toList ++ ([.slice (p.zA 0) (S.Z 0).length (p.zc 0), .slice (p.zA 1) (S.Z 1).length (p.zc 1), .slice (p.iA 0) (S.I 0).length (p.ic 0), .slice (p.iA 1) (S.I 1).length (p.ic 1), .slice (p.iA 2) (S.I 2).length (p.ic 2), .slice (p.iA 3) (S.I 3).length (p.ic 3), .slice (p.iA 4) (S.I 4).length (p.ic 4), .slice (p.iA 5) (S.I 5).length (p.ic 5)] : List Value))) (L := UEV e9 A3 c3 B3 d3) hrow rfl rfl (uev_info _ _ _ _ _) (uev_one _ _ _ _ _) ?_ ?_ ?_; rfl; rfl; intro wa u7 r7
  have hMgd := hMg.drew
  have hMa : CM base g col wa (S.putE 0 e9) _ := hMgd.putE (s := 0) (by omega) u7 (hPE.below ((Below.refl _ _).drew)) r7
  have hWa : White col w wa := (hWg.stepU (fun _ _ _ => rfl) (White.below ((Below.refl _ _).drew))).stepU (fun _ _ _ => rfl) ((Only.upd u7 hMg.cg).white (by omega))
  have hCa : KeepC col col w.heap.size := fun _ _ _ => rfl
  have hPMa : Part col 0 wa (fun w => IsB w (some ⟨gm, 0, none⟩) bs.length bs) := (hPM.below ((Below.refl _ _).drew)).only (Only.upd u7 hMg.cg) (by omega)
  have hSZ : (CnS.putE S 0 e9).Z 1 = S.Z 1 := rfl
  have hSI : (CnS.putE S 0 e9).I = S.I := rfl
  rw [← hSZ] at hb1
  rw [← hSI] at hb2s hb24
  have HS0 := Lib.hid hSI
  obtain ⟨Sa, hSa⟩ : ∃ s, CnS.putE S 0 e9 = s := ⟨_, rfl⟩
  rw [hSa] at hMa hb1 hb2s hb24 HS0
  have HSa := Lib.hid hSa
  clear hSa hSZ hSI hrow r8 u7 r7 hMg hMgd hPM hPE hWg
  generalize ({ p with A := upd p.A 0 A3, c := upd p.c 0 c3, B := upd p.B 0 B3, d := upd p.d 0 d3 } : CnP) = pa at *
  obtain ⟨cola, hcola⟩ : ∃ c, col = c := ⟨_, rfl⟩
  have hMa : CM base g cola wa Sa pa := by rw [← hcola]; exact hMa
  have hCa : KeepC col cola w.heap.size := by rw [← hcola]; exact hCa
  have hPMa : Part cola 0 wa (fun w => IsB w (some ⟨gm, 0, none⟩) bs.length bs) := by rw [← hcola]; exact hPMa
  clear hcola
  have hlg := hMa.lt
  obtain ⟨vs, hvs, hms, hvcap⟩ := hMa.way 1 (by omega)
  obtain ⟨⟨z0, z1, i0, i1, i2, i3, i4, i5⟩, fz, e0, e1⟩ := hMa.cells
  go_upto_region 7 with (fail)
  have hMd := hMa.drew
  have hcg := hMa.cg
  have hlg : g < wa.drew.heap.size := hlg
  have hvq : OwnQ wa.drew 44 1 (pa.zA 1) (Sa.Z 1).length (pa.zc 1) vs := hvs.part.now
  have hms : MsgK cola wa.drew vs (Sa.Z 1) := hms
  have hPMa : Part cola 0 wa.drew (fun w => IsB w (some ⟨gm, 0, none⟩) bs.length bs) := hPMa.below ((Below.refl _ _).drew)
  have hal := (Below.refl wa.drew.heap.size wa.drew).alloc (Nat.le_refl _) (.cells #[.slice (some ⟨gm, 0, none⟩) bs.length bs.length] 44)
  have hMA := hMd.below hal
  clear z0 z1 i0 i1 i2 i3 i4 i5 fz e0 e1
  obtain ⟨⟨z0, z1, i0, i1, i2, i3, i4, i5⟩, fz, e0, e1⟩ := hMd.cells
  have hrowA : ∀ w9, (wa.drew.alloc (.cells #[.slice (some ⟨gm, 0, none⟩) bs.length bs.length] 44)).grownBy w9 (blk (pa.zA 1)) → Row w9 g 116 _ := fun w9 h3 => (h3.block g hMA.lt (fun e => by have h9 := hvs.blk g e.symm; have h8 := hcg; omega)).trans hMA.row.now
  have hWd : White col w wa.drew := hWa.stepU hCa (White.below ((Below.refl _ _).drew))
  have hszd : w.heap.size ≤ wa.drew.heap.size := hWd.size
  refine wp_region_late (n := 107) [11, 12, 16] (QS wa.drew g 13 44 1 (pa.zA 1) (Sa.Z 1).length (vs) (#[.slice (some ⟨gm, 0, none⟩) bs.length bs.length]) 11 12) (fun _ _ => True) (by kernel_rfl) (by kernel_rfl) (by rfl) QS.loc QS.zero ?_
  generalize wa.drew = wx at *
  iterate 9 (refine late_pure (by simp) (fun _ => trivial) (v := ?_) (fun _ => rfl) ?_ ?_; rotate_left; (focus (intro c9 us w9 hm9 hS9 hF; clear hF hm9; go_simp; (try with_reducible rfl); done)); simp only [Act.put, zA, zB, zC, Nat.reduceAdd])
  refine late_pure (by simp) (fun _ => trivial) (v := ?_) (fun _ => rfl) ?_ ?_; rotate_left; (focus (intro c9 us w9 hm9 hS9 hF; have hc9 : c9 < 2 := (by rcases Nat.lt_or_ge c9 2 with h9 | h9; exact h9; exact absurd hm9 (by rw [mayAt_no (d := 1) (by kernel_rfl) (by omega) (by decide)]; decide)); have bcell := ((hS9.early hc9).cell (p := ⟨g, 13, none⟩) hlg).trans z1; clear hF hm9; go_simp; (try with_reducible rfl); done)); simp only [Act.put, zA, zB, zC, Nat.reduceAdd]
  refine late_pure (by simp) (fun _ => trivial) (v := ?_) (fun _ => rfl) ?_ ?_; rotate_left; (focus (intro c9 us w9 hm9 hS9 hF; clear hF hm9; go_simp; (try with_reducible rfl); done)); simp only [Act.put, zA, zB, zC, Nat.reduceAdd]
  refine late_chain (by simp) ?_ ?_; (focus (intro us w9 hS9 hF K hK; clear hF; obtain rfl := hS9.1 rfl; go_simp; exact hK _ _ QS.one trivial)); simp only [Act.put, zA, zB, zC, Nat.reduceAdd]
  refine late_chain (by simp) ?_ ?_; (focus (intro us w9 hS9 hF K hK; clear hF; obtain ⟨hu, rfl⟩ := hS9.2.1 rfl; simp only [hu] at hK ⊢; rw [if_pos (by rfl)]; exact step_append_q (P := Try.prog) Try.underlying67 info_44u rfl (by omega) (hvq.of_same (fun b hb => hal.block b (hvq.lt b hb))) (Row.born _ _ _) rfl (by simp [Value.oneCell']) (by omega) (by omega) rfl rfl (fun A' c'' w' b h2 h3 h4 h5 => hK _ _ (QS.two h2 h3 h4 h5) trivial))); simp only [Act.put, zA, zB, zC, Nat.reduceAdd]
  iterate 3 (refine late_pure (by simp) (fun _ => trivial) (v := ?_) (fun _ => rfl) ?_ ?_; rotate_left; (focus (intro c9 us w9 hm9 hS9 hF; clear hF hm9; go_simp; (try with_reducible rfl); done)); simp only [Act.put, zA, zB, zC, Nat.reduceAdd])
  refine late_store rfl ?_ ?_; (focus (intro us w9 hS9 hF K hK; clear hF; obtain ⟨A', c', w2, b, hu, h2, h3, h4, h5, h6, -⟩ := hS9.2.2 (by omega); have h6 := h6 rfl; subst h6; simp only [hu] at hK ⊢; have hr9 := hrowA w9 h3; have k9 := hr9.cell 13; have f9 := hr9.frozen 13; simp only [CCell] at k9; have hS10 := hS9.three hu; go_simp; exact hK _ hS10 trivial)); simp only [Nat.reduceAdd]
  refine late_done fun us wb hS12 hF => ?_
  obtain ⟨A', c', w2, b, -, hq2, hg2, hbA, hbb, -, hw0⟩ := hS12.2.2 (by omega)
  have hwu9 := hw0 (by omega)
  clear hF hS12 hw0
  have hG : Grow g (2 + 1) b cola (wx.alloc (.cells #[.slice (some ⟨gm, 0, none⟩) bs.length bs.length] 44)) w2 wb (blk (pa.zA 1)) := ⟨hMA.lt, hcg, by omega, by omega, by omega, hg2, hvs.blk, hbb, hq2.lt b hbA, by rw [hwu9]; exact Upd.setCell _ _ _ _⟩
  have hr12 := (hrowA w2 hg2).set 13 (.slice A' ((Sa.Z 1).length + 1) c')
  rw [← hwu9] at hr12
  have hlen : (Sa.Z 1 ++ [bs]).length = (Sa.Z 1).length + 1 := by simp
  have hMb : CM base g (paint cola b (2 + 1)) wb (CnS.appZ Sa 1 (bs)) _ := hMA.appZ (s := 1) (by omega) hG (hms.below hal) hvcap (Nat.le_refl _) hq2 hbA (hPMa.below hal) (by
    unfold CCell
    simp only [upd, if_true, hlen]
    exact hr12)
  have hWb : White col w wb := (hWd.stepU hCa (White.below hal)).stepU hCa hG.white.1
  have hCb : KeepC col (paint cola b (2 + 1)) w.heap.size := fun x hx h0 => wtr (hG.white.2 x (Nat.lt_of_lt_of_le hx (Nat.le_trans hszd hal.size))) (hCa x hx h0) h0
  have hIb : (CnS.appZ Sa 1 bs).I = Sa.I := rfl
  rw [← hIb] at hb2s hb24
  clear hPMa hIb
  clear z0 z1 i0 i1 i2 i3 i4 i5 fz e0 e1
  clear hwu9 hG hr12 hrowA hMA hMd hvq hvs hg2 hq2 hWd hszd hal hlg hcg hlen hbA hbb hMa hWa hCa hms hvcap
  obtain ⟨Sb, hSb⟩ : ∃ s, CnS.appZ Sa 1 (bs) = s := ⟨_, rfl⟩
  rw [hSb] at hMb hb2s hb24
  have HSb := Lib.hid hSb
  generalize paint cola b (2 + 1) = colb at *
  generalize ({ pa with zA := upd pa.zA 1 A', zc := upd pa.zc 1 c' } : CnP) = pb at *
  have hlg := hMb.lt
  have hvs := hMb.ints 0 (by omega)
  obtain ⟨⟨z0, z1, i0, i1, i2, i3, i4, i5⟩, fz, e0, e1⟩ := hMb.cells
  go_upto_region 8 with (fail)
  have hMd := hMb.drew
  have hcg := hMb.cg
  have hlg : g < wb.drew.heap.size := hlg
  have hvq : OwnQ wb.drew 3 1 (pb.iA 0) (Sb.I 0).length (pb.ic 0) ((Sb.I 0).map iv) := hvs.part.now
  have hal := (Below.refl wb.drew.heap.size wb.drew).alloc (Nat.le_refl _) (.cells #[.int .i64 v] 3)
  have hMA := hMd.below hal
  clear z0 z1 i0 i1 i2 i3 i4 i5 fz e0 e1
  obtain ⟨⟨z0, z1, i0, i1, i2, i3, i4, i5⟩, fz, e0, e1⟩ := hMd.cells
  have hrowA : ∀ w9, (wb.drew.alloc (.cells #[.int .i64 v] 3)).grownBy w9 (blk (pb.iA 0)) → Row w9 g 116 _ := fun w9 h3 => (h3.block g hMA.lt (fun e => by have h9 := hvs.blk g e.symm; have h8 := hcg; omega)).trans hMA.row.now
  have hWd : White col w wb.drew := hWb.stepU hCb (White.below ((Below.refl _ _).drew))
  have hszd : w.heap.size ≤ wb.drew.heap.size := hWd.size
  refine wp_region_late (n := 107) [9, 10, 14] (QS wb.drew g 14 3 1 (pb.iA 0) (Sb.I 0).length (((Sb.I 0).map iv)) (#[.int .i64 v]) 9 10) (fun _ _ => True) (by kernel_rfl) (by kernel_rfl) (by rfl) QS.loc QS.zero ?_
  generalize wb.drew = wx at *
  iterate 7 (refine late_pure (by simp) (fun _ => trivial) (v := ?_) (fun _ => rfl) ?_ ?_; rotate_left; (focus (intro c9 us w9 hm9 hS9 hF; clear hF hm9; go_simp; (try with_reducible rfl); done)); simp only [Act.put, zA, zB, zC, Nat.reduceAdd])
  refine late_pure (by simp) (fun _ => trivial) (v := ?_) (fun _ => rfl) ?_ ?_; rotate_left; (focus (intro c9 us w9 hm9 hS9 hF; have hc9 : c9 < 2 := (by rcases Nat.lt_or_ge c9 2 with h9 | h9; exact h9; exact absurd hm9 (by rw [mayAt_no (d := 1) (by kernel_rfl) (by omega) (by decide)]; decide)); have bcell := ((hS9.early hc9).cell (p := ⟨g, 14, none⟩) hlg).trans i0; clear hF hm9; go_simp; (try with_reducible rfl); done)); simp only [Act.put, zA, zB, zC, Nat.reduceAdd]
  refine late_pure (by simp) (fun _ => trivial) (v := ?_) (fun _ => rfl) ?_ ?_; rotate_left; (focus (intro c9 us w9 hm9 hS9 hF; clear hF hm9; go_simp; (try with_reducible rfl); done)); simp only [Act.put, zA, zB, zC, Nat.reduceAdd]
  refine late_chain (by simp) ?_ ?_; (focus (intro us w9 hS9 hF K hK; clear hF; obtain rfl := hS9.1 rfl; go_simp; exact hK _ _ QS.one trivial)); simp only [Act.put, zA, zB, zC, Nat.reduceAdd]
  refine late_chain (by simp) ?_ ?_; (focus (intro us w9 hS9 hF K hK; clear hF; obtain ⟨hu, rfl⟩ := hS9.2.1 rfl; simp only [hu] at hK ⊢; rw [if_pos (by rfl)]; exact step_append_q (P := Try.prog) Try.underlying52 info_n rfl (by omega) (hvq.of_same (fun b hb => hal.block b (hvq.lt b hb))) (Row.born _ _ _) rfl (by simp [Value.oneCell']) (by omega) (by omega) rfl rfl (fun A' c'' w' b h2 h3 h4 h5 => hK _ _ (QS.two h2 h3 h4 h5) trivial))); simp only [Act.put, zA, zB, zC, Nat.reduceAdd]
  iterate 3 (refine late_pure (by simp) (fun _ => trivial) (v := ?_) (fun _ => rfl) ?_ ?_; rotate_left; (focus (intro c9 us w9 hm9 hS9 hF; clear hF hm9; go_simp; (try with_reducible rfl); done)); simp only [Act.put, zA, zB, zC, Nat.reduceAdd])
  refine late_store rfl ?_ ?_; (focus (intro us w9 hS9 hF K hK; clear hF; obtain ⟨A', c', w2, b, hu, h2, h3, h4, h5, h6, -⟩ := hS9.2.2 (by omega); have h6 := h6 rfl; subst h6; simp only [hu] at hK ⊢; have hr9 := hrowA w9 h3; have k9 := hr9.cell 14; have f9 := hr9.frozen 14; simp only [CCell] at k9; have hS10 := hS9.three hu; go_simp; exact hK _ hS10 trivial)); simp only [Nat.reduceAdd]
  refine late_done fun us wc hS12 hF => ?_
  obtain ⟨A', c', w2, b, -, hq2, hg2, hbA, hbb, -, hw0⟩ := hS12.2.2 (by omega)
  have hwu9 := hw0 (by omega)
  clear hF hS12 hw0
  have hG : Grow g (4 + 0) b colb (wx.alloc (.cells #[.int .i64 v] 3)) w2 wc (blk (pb.iA 0)) := ⟨hMA.lt, hcg, by omega, by omega, by omega, hg2, hvs.blk, hbb, hq2.lt b hbA, by rw [hwu9]; exact Upd.setCell _ _ _ _⟩
  have hr12 := (hrowA w2 hg2).set 14 (.slice A' ((Sb.I 0).length + 1) c')
  rw [← hwu9] at hr12
  have hlen : (Sb.I 0 ++ [v]).length = (Sb.I 0).length + 1 := by simp
  have hMc : CM base g (paint colb b (4 + 0)) wc (CnS.appI Sb 0 (v)) _ := hMA.appI (i := 0) (x := v) (by omega) hG hq2 hbA (by
    unfold CCell
    simp only [upd, if_true, hlen]
    exact hr12)
  have hWc : White col w wc := (hWd.stepU hCb (White.below hal)).stepU hCb hG.white.1
  have hCc : KeepC col (paint colb b (4 + 0)) w.heap.size := fun x hx h0 => wtr (hG.white.2 x (Nat.lt_of_lt_of_le hx (Nat.le_trans hszd hal.size))) (hCb x hx h0) h0
  have hIc : (CnS.appI Sb 0 v).I 4 = Sb.I 4 := rfl
  rw [← hIc] at hb24
  clear hIc hb2s
  clear z0 z1 i0 i1 i2 i3 i4 i5 fz e0 e1
  clear hwu9 hG hr12 hrowA hMA hMd hvq hvs hg2 hq2 hWd hszd hal hlg hcg hlen hbA hbb hMb hWb hCb
  obtain ⟨Sc, hSc⟩ : ∃ s, CnS.appI Sb 0 (v) = s := ⟨_, rfl⟩
  rw [hSc] at hMc hb24
  have HSc := Lib.hid hSc
  generalize paint colb b (4 + 0) = colc at *
  generalize ({ pb with iA := upd pb.iA 0 A', ic := upd pb.ic 0 c' } : CnP) = pc at *
  have hlg := hMc.lt
  have hvs := hMc.ints 4 (by omega)
  obtain ⟨⟨z0, z1, i0, i1, i2, i3, i4, i5⟩, fz, e0, e1⟩ := hMc.cells
  go_upto_region 9 with (fail)
  have hMd := hMc.drew
  have hcg := hMc.cg
  have hlg : g < wc.drew.heap.size := hlg
  have hvq : OwnQ wc.drew 3 1 (pc.iA 4) (Sc.I 4).length (pc.ic 4) ((Sc.I 4).map iv) := hvs.part.now
  have hal := (Below.refl wc.drew.heap.size wc.drew).alloc (Nat.le_refl _) (.cells #[.int .i64 0] 3)
  have hMA := hMd.below hal
  clear z0 z1 i0 i1 i2 i3 i4 i5 fz e0 e1
  obtain ⟨⟨z0, z1, i0, i1, i2, i3, i4, i5⟩, fz, e0, e1⟩ := hMd.cells
  have hrowA : ∀ w9, (wc.drew.alloc (.cells #[.int .i64 0] 3)).grownBy w9 (blk (pc.iA 4)) → Row w9 g 116 _ := fun w9 h3 => (h3.block g hMA.lt (fun e => by have h9 := hvs.blk g e.symm; have h8 := hcg; omega)).trans hMA.row.now
  have hWd : White col w wc.drew := hWc.stepU hCc (White.below ((Below.refl _ _).drew))
  have hszd : w.heap.size ≤ wc.drew.heap.size := hWd.size
  refine wp_region_late (n := 107) [8, 9, 13] (QS wc.drew g 18 3 1 (pc.iA 4) (Sc.I 4).length (((Sc.I 4).map iv)) (#[.int .i64 0]) 8 9) (fun _ _ => True) (by kernel_rfl) (by kernel_rfl) (by rfl) QS.loc QS.zero ?_
  generalize wc.drew = wx at *
  iterate 7 (refine late_pure (by simp) (fun _ => trivial) (v := ?_) (fun _ => rfl) ?_ ?_; rotate_left; (focus (intro c9 us w9 hm9 hS9 hF; clear hF hm9; go_simp; (try with_reducible rfl); done)); simp only [Act.put, zA, zB, zC, Nat.reduceAdd])
  refine late_pure (by simp) (fun _ => trivial) (v := ?_) (fun _ => rfl) ?_ ?_; rotate_left; (focus (intro c9 us w9 hm9 hS9 hF; have hc9 : c9 < 2 := (by rcases Nat.lt_or_ge c9 2 with h9 | h9; exact h9; exact absurd hm9 (by rw [mayAt_no (d := 1) (by kernel_rfl) (by omega) (by decide)]; decide)); have bcell := ((hS9.early hc9).cell (p := ⟨g, 18, none⟩) hlg).trans i4; clear hF hm9; go_simp; (try with_reducible rfl); done)); simp only [Act.put, zA, zB, zC, Nat.reduceAdd]
  refine late_chain (by simp) ?_ ?_; (focus (intro us w9 hS9 hF K hK; clear hF; obtain rfl := hS9.1 rfl; go_simp; exact hK _ _ QS.one trivial)); simp only [Act.put, zA, zB, zC, Nat.reduceAdd]
  refine late_chain (by simp) ?_ ?_; (focus (intro us w9 hS9 hF K hK; clear hF; obtain ⟨hu, rfl⟩ := hS9.2.1 rfl; simp only [hu] at hK ⊢; rw [if_pos (by rfl)]; exact step_append_q (P := Try.prog) Try.underlying52 info_n rfl (by omega) (hvq.of_same (fun b hb => hal.block b (hvq.lt b hb))) (Row.born _ _ _) rfl (by simp [Value.oneCell']) (by omega) (by omega) rfl rfl (fun A' c'' w' b h2 h3 h4 h5 => hK _ _ (QS.two h2 h3 h4 h5) trivial))); simp only [Act.put, zA, zB, zC, Nat.reduceAdd]
  iterate 3 (refine late_pure (by simp) (fun _ => trivial) (v := ?_) (fun _ => rfl) ?_ ?_; rotate_left; (focus (intro c9 us w9 hm9 hS9 hF; clear hF hm9; go_simp; (try with_reducible rfl); done)); simp only [Act.put, zA, zB, zC, Nat.reduceAdd])
  refine late_store rfl ?_ ?_; (focus (intro us w9 hS9 hF K hK; clear hF; obtain ⟨A', c', w2, b, hu, h2, h3, h4, h5, h6, -⟩ := hS9.2.2 (by omega); have h6 := h6 rfl; subst h6; simp only [hu] at hK ⊢; have hr9 := hrowA w9 h3; have k9 := hr9.cell 18; have f9 := hr9.frozen 18; simp only [CCell] at k9; have hS10 := hS9.three hu; go_simp; exact hK _ hS10 trivial)); simp only [Nat.reduceAdd]
  refine late_done fun us wy hS12 hF => ?_
  obtain ⟨A', c', w2, b, -, hq2, hg2, hbA, hbb, -, hw0⟩ := hS12.2.2 (by omega)
  have hwu9 := hw0 (by omega)
  clear hF hS12 hw0
  have hG : Grow g (4 + 4) b colc (wx.alloc (.cells #[.int .i64 0] 3)) w2 wy (blk (pc.iA 4)) := ⟨hMA.lt, hcg, by omega, by omega, by omega, hg2, hvs.blk, hbb, hq2.lt b hbA, by rw [hwu9]; exact Upd.setCell _ _ _ _⟩
  have hr12 := (hrowA w2 hg2).set 18 (.slice A' ((Sc.I 4).length + 1) c')
  rw [← hwu9] at hr12
  have hlen : (Sc.I 4 ++ [0]).length = (Sc.I 4).length + 1 := by simp
  have hMy : CM base g (paint colc b (4 + 4)) wy (CnS.appI Sc 4 (0)) _ := hMA.appI (i := 4) (x := 0) (by omega) hG hq2 hbA (by
    unfold CCell
    simp only [upd, if_true, hlen]
    exact hr12)
  have hWy : White col w wy := (hWd.stepU hCc (White.below hal)).stepU hCc hG.white.1
  have hCy : KeepC col (paint colc b (4 + 4)) w.heap.size := fun x hx h0 => wtr (hG.white.2 x (Nat.lt_of_lt_of_le hx (Nat.le_trans hszd hal.size))) (hCc x hx h0) h0

  clear z0 z1 i0 i1 i2 i3 i4 i5 fz e0 e1
  clear hwu9 hG hr12 hrowA hMA hMd hvq hvs hg2 hq2 hWd hszd hal hlg hcg hlen hbA hbb hMc hWc hCc
  obtain ⟨Sy, hSy⟩ : ∃ s, CnS.appI Sc 4 (0) = s := ⟨_, rfl⟩
  rw [hSy] at hMy
  have HSy := Lib.hid hSy
  generalize paint colc b (4 + 4) = coly at *
  generalize ({ pc with iA := upd pc.iA 4 A', ic := upd pc.ic 4 c' } : CnP) = py at *
  go_wp2
  go_ret
  have h1 := HSy.out
  have h2 := HSc.out
  have h3 := HSb.out
  have h4 := HSa.out
  subst h4 h3 h2 h1
  exact ⟨rfl, coly, py, hMy, hWy, hCy⟩
set_option maxRecDepth 100000 in
set_option maxHeartbeats 8000000 in
theorem cn_call_full1 (base g : Nat) (col : Nat → Nat) (w : World) (S : CnS) (p : CnP) (hM : CM base g col w S p) (v : Int) (v0 : 0 ≤ v) (v1 : v ≤ 65535) (hE : calE (S.E 1) v (wdB v) = 65) (hl : (S.E 1).cr ≤ ((S.E 1).cs.length : Int)) : Calls Try.prog 117 #[.pointer (some ⟨g, 0, none⟩), .int .i64 1, .int .i64 v] w (CStep base g col w S) := by
  have HE := Lib.hid hE
  have dl : decide ((S.E 1).cr ≤ ((S.E 1).cs.length : Int)) = true := decide_eq_true hl
  clear hE hl
  have hlg := hM.lt
  go_enter Try.func117, Try.ntmps117
  go_upto_region 1 with (fail)
  have hMd := hM.drew
  have hHd : HeldU w.drew (S.E 1) (p.A 1) (p.c 1) (p.B 1) (p.d 1) := (hMd.held 1 (by omega)).now
  have hlgd : g < w.drew.heap.size := hlg
  have hB0 : Below w.heap.size w w.drew := (Below.refl _ _).drew
  obtain ⟨⟨z0, z1, i0, i1, i2, i3, i4, i5⟩, fz, e0, e1⟩ := hMd.cells
  refine wp_region_late (n := 107) [16] (ZaS w.drew) G7 (by kernel_rfl) (by kernel_rfl) (by rfl) ZaS.loc (Below.refl _ _) ?_
  generalize w.drew = wd at *
  iterate 5 (refine late_pure (by simp) (fun w => G7.refl _) (v := ?_) (fun _ => rfl) ?_ ?_; rotate_left; (focus (intro c9 us w9 hm9 hS9 hF; clear hF hm9; go_simp; (try with_reducible rfl); done)); simp only [Act.put, zA, zB, zC, Nat.reduceAdd])
  refine late_pure (by simp) (fun w => G7.refl _) (v := .agg (UEV (S.E 1) (p.A 1) (p.c 1) (p.B 1) (p.d 1))) (fun _ => rfl) ?_ ?_; (focus (intro c9 us w9 hm9 hS9 hF; exact exec_load_g (fun j v hv => (hS9.cell (p := ⟨g, 6 + j, none⟩) hlgd).trans (e1 j v hv)) Try.underlying112 rfl (uev_info _ _ _ _ _) rfl)); simp only [Act.put, zA, zB, zC, Nat.reduceAdd]
  iterate 2 (refine late_pure (by simp) (fun w => G7.refl _) (v := ?_) (fun _ => rfl) ?_ ?_; rotate_left; (focus (intro c9 us w9 hm9 hS9 hF; clear hF hm9; go_simp; (try with_reducible rfl); done)); simp only [Act.put, zA, zB, zC, Nat.reduceAdd])
  refine late_free (by simp) (WdV wd.heap.size v) (WdV.mono) ?_ ?_; (focus (intro c9 us w9 hm9 hS9 hF K hK; clear hF; go_simp; refine (word_is v v0 v1 _).mono ?_; rintro en w' ⟨u, rfl, hu, hb⟩; exact hK u w' (below_on hS9 hb) (G7.below hb) (hu.lower hS9.size))); simp only [Act.put, zA, zB, zC, Nat.reduceAdd]
  refine late_fix (by simp) (v := .tuple #[.agg ZU, .int .i64 0, .slice none 0 0, .int .i64 65]) ?_ ?_; (focus (intro c9 us w9 hm9 hS9 hF K hK; obtain ⟨gw, hu, ho⟩ := hF (8, WdV wd.heap.size v) (by simp) (by kernel_rfl); clear hF; dsimp only at hu; simp only [hu] at hK ⊢; go_simp; refine (call_wd_no HE.out (by omega) (hHd.below hS9) ho).mono ?_; rintro en w' ⟨rfl, hb⟩; exact hK w' (below_on hS9 hb) (G7.below hb))); simp only [Act.put, zA, zB, zC, Nat.reduceAdd]
  iterate 5 (refine late_pure (by simp) (fun w => G7.refl _) (v := ?_) (fun _ => rfl) ?_ ?_; rotate_left; (focus (intro c9 us w9 hm9 hS9 hF; clear hF hm9; go_simp; (try with_reducible rfl); done)); simp only [Act.put, zA, zB, zC, Nat.reduceAdd])
  refine late_free (by simp) (PtrU wd.heap.size) (PtrU.mono) ?_ ?_; (focus (intro c9 us w9 hm9 hS9 hF K hK; clear hF; go_simp; exact hK _ _ (hS9.alloc hS9.size (.cells ZU 112)) (G7.below ((Below.refl _ _).alloc (Nat.le_refl _) _)) ⟨w9.heap.size, rfl, hS9.size, ue0, none, 0, none, 0, Row.born w9 112 ZU⟩)); simp only [Act.put, zA, zB, zC, Nat.reduceAdd]
  refine late_store rfl ?_ ?_; (focus (intro us w9 hS9 hF K hK; obtain ⟨b3, hu, hb3, hur⟩ := hF (15, PtrU wd.heap.size) (by simp) (by kernel_rfl); dsimp only at hu; clear hF; simp only [hu] at hK ⊢; rw [if_pos (by rfl)]; obtain ⟨e3, A3, c3, B3, d3, hr⟩ := hur; exact step_put (L := ZU) hr rfl zu_info zu_one rfl rfl (fun w' u' r' => hK w' (Upd.below hS9 u' hb3) (G7.put (e := ue0) (A := none) (c := 0) (B := none) (d := 0) ⟨_, _, _, _, _, hr⟩ u' r')))); simp only [Nat.reduceAdd]
  iterate 3 (refine late_pure (by simp) (fun w => G7.refl _) (v := ?_) (fun _ => rfl) ?_ ?_; rotate_left; (focus (intro c9 us w9 hm9 hS9 hF; clear hF hm9; go_simp; (try with_reducible rfl); done)); simp only [Act.put, zA, zB, zC, Nat.reduceAdd])
  refine late_done fun us wf hS8 hF => ?_
  obtain ⟨b3, hu15, -⟩ := hF (15, PtrU wd.heap.size) (by simp)
  clear hF
  dsimp only at hu15
  simp only [hu15]
  clear hu15
  have hMf := hMd.below hS8
  clear z0 z1 i0 i1 i2 i3 i4 i5 fz e0 e1
  go_upto_region 2 with (fail)
  have hMg := hMf.drew
  have c0 : wf.drew.cell? ⟨g, 6, none⟩ = some (.int .i64 (S.E 1).cr) := hMg.row.now.cell 6
  have c3 : wf.drew.cell? ⟨g, 9, none⟩ = some (.slice (p.A 1) (S.E 1).cs.length (p.c 1)) := hMg.row.now.cell 9
  have c4 : wf.drew.cell? ⟨g, 10, none⟩ = some (.slice (p.B 1) (S.E 1).ss.length (p.d 1)) := hMg.row.now.cell 10
  refine wp_region_told (n := 107) (fun w' => w' = wf.drew) (fun _ _ => True) (by kernel_rfl) (by kernel_rfl) (by rfl) rfl ?_
  repeat (first | (refine walk_pure (v := ?_) (fun _ => trivial) (fun _ => rfl) ?_ ?_; rotate_left; (focus (intro us w9 hS9 hF; subst hS9; clear hF; go_simp; (try with_reducible rfl); done)); simp only [Act.put, zA, zB, zC, Nat.reduceAdd]) | (refine walk_skip (fun _ => trivial) (fun _ => rfl) ?_; simp only [Act.put, zA, zB, zC, Nat.reduceAdd]))
  refine walk_done fun us w9 hS9 hF => ?_
  subst hS9
  clear hF
  go_wp2
  go_ret
  exact CStep.same hM ((hB0.trans (Below.mono (show Below wd.heap.size wd wf from hS8) hB0.size)).drew)
set_option maxRecDepth 100000 in
set_option maxHeartbeats 8000000 in
theorem cn_call1 (base g : Nat) (col : Nat → Nat) (w : World) (S : CnS) (p : CnP) (hM : CM base g col w S p) (v : Int) (v0 : 0 ≤ v) (v1 : v ≤ 65535) (hE : calE (S.E 1) v (wdB v) = 0) (hl : ((S.E 1).cs.length : Int) < (S.E 1).cr) (hla : (S.E 1).la = (S.I 1).length) (hcl : (S.E 1).cs.length ≤ 100) (hsl : (S.E 1).ss.length ≤ 100) (hb1 : (S.Z 0).length ≤ 100000) (hb2 : ∀ i, (S.I i).length ≤ 100000) : Calls Try.prog 117 #[.pointer (some ⟨g, 0, none⟩), .int .i64 1, .int .i64 v] w (CStep base g col w ((((S.putE 1 (calU (S.E 1))).appZ 0 (rqM ((S.I 1).length + 1) v (wdB v)).by).appI 1 v).appI 5 0)) := by
  have HE := Lib.hid hE
  have dl : decide ((S.E 1).cr ≤ ((S.E 1).cs.length : Int)) = false := decide_eq_false (by omega)
  obtain ⟨bs, hbs⟩ : ∃ bs, (rqM ((S.I 1).length + 1) v (wdB v)).by = bs := ⟨_, rfl⟩
  obtain ⟨e9, he9⟩ : ∃ e9, calU (S.E 1) = e9 := ⟨_, rfl⟩
  have HBS := Lib.hid hbs
  have HU := Lib.hid he9
  have HLA := Lib.hid (show (S.E 1).la + 1 = ((S.I 1).length : Int) + 1 by rw [hla])
  have h9c : e9.cs.length ≤ 1000 := by rw [← he9]; simp [calU]; omega
  have h9s : e9.ss.length ≤ 1000 := by rw [← he9]; simp [calU]; omega
  rw [hbs, he9]
  have hb2s := hb2 1
  have hb24 := hb2 5
  have hwl : IntKind.i64.wrap (((S.I 1).length : Int) + 1) = ((S.I 1).length : Int) + 1 := by rw [IntKind.wrap_i64]; omega
  have hwr : IntKind.i64.wrap 0 = 0 := by rw [IntKind.wrap_i64]; rfl
  clear hE hl hla hbs he9 hcl hsl
  have hlg := hM.lt
  go_enter Try.func117, Try.ntmps117
  go_upto_region 1 with (fail)
  have hMd := hM.drew
  have hHd : HeldU w.drew (S.E 1) (p.A 1) (p.c 1) (p.B 1) (p.d 1) := (hMd.held 1 (by omega)).now
  have hlgd : g < w.drew.heap.size := hlg
  have hB0 : Below w.heap.size w w.drew := (Below.refl _ _).drew
  obtain ⟨⟨z0, z1, i0, i1, i2, i3, i4, i5⟩, fz, e0, e1⟩ := hMd.cells
  refine wp_region_late (n := 107) [16] (CaS w.drew e9 15) G7 (by kernel_rfl) (by kernel_rfl) (by rfl) (CaS.loc (by kernel_rfl)) ⟨Below.refl _ _, fun h => by omega⟩ ?_
  generalize w.drew = wd at *
  iterate 5 (refine late_pure (by simp) (fun w => G7.refl _) (v := ?_) (fun _ => rfl) ?_ ?_; rotate_left; (focus (intro c9 us w9 hm9 hS9 hF; clear hF hm9; go_simp; (try with_reducible rfl); done)); simp only [Act.put, zA, zB, zC, Nat.reduceAdd])
  refine late_pure (by simp) (fun w => G7.refl _) (v := .agg (UEV (S.E 1) (p.A 1) (p.c 1) (p.B 1) (p.d 1))) (fun _ => rfl) ?_ ?_; (focus (intro c9 us w9 hm9 hS9 hF; exact exec_load_g (fun j v hv => (hS9.1.cell (p := ⟨g, 6 + j, none⟩) hlgd).trans (e1 j v hv)) Try.underlying112 rfl (uev_info _ _ _ _ _) rfl)); simp only [Act.put, zA, zB, zC, Nat.reduceAdd]
  iterate 2 (refine late_pure (by simp) (fun w => G7.refl _) (v := ?_) (fun _ => rfl) ?_ ?_; rotate_left; (focus (intro c9 us w9 hm9 hS9 hF; clear hF hm9; go_simp; (try with_reducible rfl); done)); simp only [Act.put, zA, zB, zC, Nat.reduceAdd])
  refine late_free (by simp) (WdV wd.heap.size v) (WdV.mono) ?_ ?_; (focus (intro c9 us w9 hm9 hS9 hF K hK; have hc9 : c9 < 1 := (by rcases Nat.lt_or_ge c9 1 with h9 | h9; exact h9; exact absurd hm9 (by rw [mayAt_no (d := 0) (by kernel_rfl) (by omega) (by decide)]; decide)); clear hF; go_simp; refine (word_is v v0 v1 _).mono ?_; rintro en w' ⟨u, rfl, hu, hb⟩; exact hK u w' ⟨below_on hS9.1 hb, fun h => by omega⟩ (G7.below hb) (hu.lower hS9.1.size))); simp only [Act.put, zA, zB, zC, Nat.reduceAdd]
  refine late_free (by simp) (C4V wd.heap.size e9 (((S.I 1).length : Int) + 1) bs) (C4V.mono) ?_ ?_; (focus (intro c9 us w9 hm9 hS9 hF K hK; have hc9 : c9 < 1 := (by rcases Nat.lt_or_ge c9 1 with h9 | h9; exact h9; exact absurd hm9 (by rw [mayAt_no (d := 0) (by kernel_rfl) (by omega) (by decide)]; decide)); obtain ⟨gw, hu, ho⟩ := hF (8, WdV wd.heap.size v) (by simp) (by kernel_rfl); clear hF; dsimp only at hu; simp only [hu] at hK ⊢; go_simp; refine (call_wd HE.out HU.out HLA.out HBS.out (hHd.below hS9.1) ho).mono ?_; rintro en w' ⟨u, rfl, hu, hb⟩; exact hK u w' ⟨below_on hS9.1 hb, fun h => by omega⟩ (G7.below hb) (hu.lower hS9.1.size))); simp only [Act.put, zA, zB, zC, Nat.reduceAdd]
  refine late_free (by simp) (C4V wd.heap.size e9 (((S.I 1).length : Int) + 1) bs) (C4V.mono) ?_ ?_; (focus (intro c9 us w9 hm9 hS9 hF K hK; obtain ⟨A, c, B, d, gm, hu, h1, h2, h3⟩ := hF (9, C4V wd.heap.size e9 (((S.I 1).length : Int) + 1) bs) (by simp) (by kernel_rfl); clear hF; dsimp only at hu; simp only [hu] at hK ⊢; go_simp; exact hK _ w9 hS9 (G7.refl _) ⟨A, c, B, d, gm, rfl, h1, h2, h3⟩)); simp only [Act.put, zA, zB, zC, Nat.reduceAdd]
  refine late_free (by simp) (EnV wd.heap.size e9) (EnV.mono) ?_ ?_; (focus (intro c9 us w9 hm9 hS9 hF K hK; obtain ⟨A, c, B, d, gm, hu, h1, h2, h3⟩ := hF (10, C4V wd.heap.size e9 (((S.I 1).length : Int) + 1) bs) (by simp) (by kernel_rfl); clear hF; dsimp only at hu; simp only [hu] at hK ⊢; go_simp; exact hK _ w9 hS9 (G7.refl _) ⟨A, c, B, d, rfl, h1⟩)); simp only [Act.put, zA, zB, zC, Nat.reduceAdd]
  refine late_pure (by simp) (fun w => G7.refl _) (v := .int .i64 (((S.I 1).length : Int) + 1)) (fun _ => rfl) ?_ ?_; (focus (intro c9 us w9 hm9 hS9 hF; obtain ⟨A, c, B, d, gm, hu, -⟩ := hF (10, C4V wd.heap.size e9 (((S.I 1).length : Int) + 1) bs) (by simp) (by kernel_rfl); dsimp only at hu; simp only [hu]; go_simp)); simp only [Act.put, zA, zB, zC, Nat.reduceAdd]
  refine late_free (by simp) (MsV wd.heap.size bs) (MsV.mono) ?_ ?_; (focus (intro c9 us w9 hm9 hS9 hF K hK; obtain ⟨A, c, B, d, gm, hu, h1, h2, h3⟩ := hF (10, C4V wd.heap.size e9 (((S.I 1).length : Int) + 1) bs) (by simp) (by kernel_rfl); clear hF; dsimp only at hu; simp only [hu] at hK ⊢; go_simp; exact hK _ w9 hS9 (G7.refl _) ⟨gm, rfl, h2, h3⟩)); simp only [Act.put, zA, zB, zC, Nat.reduceAdd]
  refine late_pure (by simp) (fun w => G7.refl _) (v := .int .i64 0) (fun _ => rfl) ?_ ?_; (focus (intro c9 us w9 hm9 hS9 hF; obtain ⟨A, c, B, d, gm, hu, -⟩ := hF (10, C4V wd.heap.size e9 (((S.I 1).length : Int) + 1) bs) (by simp) (by kernel_rfl); dsimp only at hu; simp only [hu]; go_simp)); simp only [Act.put, zA, zB, zC, Nat.reduceAdd]
  refine late_free (by simp) (PtrU wd.heap.size) (PtrU.mono) ?_ ?_; (focus (intro c9 us w9 hm9 hS9 hF K hK; have hc9 : c9 < 1 := (by rcases Nat.lt_or_ge c9 1 with h9 | h9; exact h9; exact absurd hm9 (by rw [mayAt_no (d := 0) (by kernel_rfl) (by omega) (by decide)]; decide)); clear hF; go_simp; exact hK _ _ ⟨hS9.1.alloc hS9.1.size (.cells ZU 112), fun h => by omega⟩ (G7.below ((Below.refl _ _).alloc (Nat.le_refl _) _)) ⟨w9.heap.size, rfl, hS9.1.size, ue0, none, 0, none, 0, Row.born w9 112 ZU⟩)); simp only [Act.put, zA, zB, zC, Nat.reduceAdd]
  refine late_store rfl ?_ ?_; (focus (intro us w9 hS9 hF K hK; obtain ⟨A, c, B, d, hu9, h1⟩ := hF (11, EnV wd.heap.size e9) (by simp) (by kernel_rfl); obtain ⟨b3, hu, hb3, hur⟩ := hF (15, PtrU wd.heap.size) (by simp) (by kernel_rfl); dsimp only at hu9 hu; clear hF; simp only [hu9, hu] at hK ⊢; rw [if_pos (by rfl)]; obtain ⟨e3, A3, c3, B3, d3, hr⟩ := hur; exact step_put (L := UEV e9 A c B d) hr rfl (uev_info _ _ _ _ _) (uev_one _ _ _ _ _) rfl rfl (fun w' u' r' => hK w' ⟨Upd.below hS9.1 u' hb3, fun _ => ⟨b3, A, c, B, d, hu, hb3, r', h1.keeps (Keeps.upd (ts := [112]) u' hr (by simp)) (by decide)⟩⟩ (G7.put ⟨_, _, _, _, _, hr⟩ u' r')))); simp only [Nat.reduceAdd]
  refine late_pure (by simp) (fun w => G7.refl _) (v := ?_) (fun _ => rfl) ?_ ?_; rotate_left; (focus (intro c9 us w9 hm9 hS9 hF; clear hF hm9; go_simp; (try with_reducible rfl); done)); simp only [Act.put, zA, zB, zC, Nat.reduceAdd]
  refine late_free (by simp) (MsV wd.heap.size bs) (MsV.mono) ?_ ?_; (focus (intro c9 us w9 hm9 hS9 hF K hK; obtain ⟨gm, hu, h2⟩ := hF (13, MsV wd.heap.size bs) (by simp) (by kernel_rfl); clear hF; dsimp only at hu; simp only [hu] at hK ⊢; go_simp; exact hK _ w9 hS9 (G7.refl _) ⟨gm, rfl, h2⟩)); simp only [Act.put, zA, zB, zC, Nat.reduceAdd]
  refine late_pure (by simp) (fun w => G7.refl _) (v := ?_) (fun _ => rfl) ?_ ?_; rotate_left; (focus (intro c9 us w9 hm9 hS9 hF; clear hF hm9; go_simp; (try with_reducible rfl); done)); simp only [Act.put, zA, zB, zC, Nat.reduceAdd]
  refine late_done fun us wf hS8 hF => ?_
  obtain ⟨gm, hu18, hgm, hIm⟩ := hF (18, MsV wd.heap.size bs) (by simp)
  obtain ⟨g8, A3, c3, B3, d3, hu15, hg8, r8, hU8⟩ := hS8.2 (by omega)
  have hbf := hS8.1
  clear hF hS8
  dsimp only at hu15 hu18
  simp only [hu15, hu18]
  clear hu15 hu18
  have hMf := hMd.below hbf
  have hWf : White col w wf := (White.below hB0).stepU (fun _ _ _ => rfl) (White.below hbf)
  have hPE : Part col 0 wf (fun w => HeldU w e9 A3 c3 B3 d3) := Part.ownU hU8 (fun x h1 => hMd.cn x h1) h9c h9s
  have hPM : Part col 0 wf (fun w => IsB w (some ⟨gm, 0, none⟩) bs.length bs) := Part.msgU hIm (hMd.cn gm hgm)
  clear z0 z1 i0 i1 i2 i3 i4 i5 fz e0 e1
  clear hHd hlgd hlg hU8 hIm hbf
  go_upto_region 2 with (fail)
  have hMg := hMf.drew
  have c0 : wf.drew.cell? ⟨g, 6, none⟩ = some (.int .i64 (S.E 1).cr) := hMg.row.now.cell 6
  have c3 : wf.drew.cell? ⟨g, 9, none⟩ = some (.slice (p.A 1) (S.E 1).cs.length (p.c 1)) := hMg.row.now.cell 9
  have c4 : wf.drew.cell? ⟨g, 10, none⟩ = some (.slice (p.B 1) (S.E 1).ss.length (p.d 1)) := hMg.row.now.cell 10
  refine wp_region_told (n := 107) (fun w' => w' = wf.drew) (fun _ _ => True) (by kernel_rfl) (by kernel_rfl) (by rfl) rfl ?_
  repeat (first | (refine walk_pure (v := ?_) (fun _ => trivial) (fun _ => rfl) ?_ ?_; rotate_left; (focus (intro us w9 hS9 hF; subst hS9; clear hF; go_simp; (try with_reducible rfl); done)); simp only [Act.put, zA, zB, zC, Nat.reduceAdd]) | (refine walk_skip (fun _ => trivial) (fun _ => rfl) ?_; simp only [Act.put, zA, zB, zC, Nat.reduceAdd]))
  refine walk_done fun us w9 hS9 hF => ?_
  subst hS9
  clear hF
  clear c0 c3 c4
  have hWg : White col w wf.drew := hWf.stepU (fun _ _ _ => rfl) (White.below ((Below.refl _ _).drew))
  have hPE : Part col 0 wf.drew (fun w => HeldU w e9 A3 c3 B3 d3) := hPE.below ((Below.refl _ _).drew)
  have hPM : Part col 0 wf.drew (fun w => IsB w (some ⟨gm, 0, none⟩) bs.length bs) := hPM.below ((Below.refl _ _).drew)
  have r8 : Row wf.drew g8 112 (UEV e9 A3 c3 B3 d3) := r8
  clear hMf hWf
  generalize wf.drew = wg at *
  obtain ⟨⟨z0, z1, i0, i1, i2, i3, i4, i5⟩, fz, e0, e1⟩ := hMg.cells
  go_upto_region 6 with (fail)
  clear z0 z1 i0 i1 i2 i3 i4 i5 fz e0 e1
  have hrow : Row wg.drew g 116 ((UEV (S.E 0) (p.A 0) (p.c 0) (p.B 0) (p.d 0)).toList ++ (UEV (S.E 1) (p.A 1) (p.c 1) (p.B 1) (p.d 1)).toList ++ ([.slice (p.zA 0) (S.Z 0).length (p.zc 0), .slice (p.zA 1) (S.Z 1).length (p.zc 1), .slice (p.iA 0) (S.I 0).length (p.ic 0), .slice (p.iA 1) (S.I 1).length (p.ic 1), .slice (p.iA 2) (S.I 2).length (p.ic 2), .slice (p.iA 3) (S.I 3).length (p.ic 3), .slice (p.iA 4) (S.I 4).length (p.ic 4), .slice (p.iA 5) (S.I 5).length (p.ic 5)] : List Value)).toArray := hMg.row.now
  have r8 : Row wg.drew g8 112 (UEV e9 A3 c3 B3 d3) := r8
  refine wp_region_tailN (n := 107) 6 (fun w' => w' = wg.drew) (fun _ _ => True) (by kernel_rfl) (by kernel_rfl) (by decide) (by rfl) rfl ?_
  simp only [List.take_succ_cons, List.take_zero, List.drop_succ_cons, List.drop_zero]
  iterate 2 (refine tail_pure (fun w => trivial) (v := ?_) (fun _ => rfl) ?_ ?_; rotate_left; (focus (intro us w9 hS9 hF; clear hF; subst hS9; go_simp; (try with_reducible rfl); done)); simp only [Act.put, zA, zB, zC, Nat.reduceAdd])
  refine tail_pure (fun w => trivial) (v := .agg (UEV e9 A3 c3 B3 d3)) (fun _ => rfl) ?_ ?_; (focus (intro us w9 hS9 hF; clear hF; subst hS9; exact exec_load_g r8.range Try.underlying112 rfl (uev_info _ _ _ _ _) rfl)); simp only [Act.put, zA, zB, zC, Nat.reduceAdd]
  iterate 3 (refine tail_pure (fun w => trivial) (v := ?_) (fun _ => rfl) ?_ ?_; rotate_left; (focus (intro us w9 hS9 hF; clear hF; subst hS9; go_simp; (try with_reducible rfl); done)); simp only [Act.put, zA, zB, zC, Nat.reduceAdd])
  refine tail_done fun us w7 hS7 hF => ?_
  subst hS7
  clear hF
  refine wp_put_midU (g := g) (t := 116) (off := 6) (pre := (UEV (S.E 0) (p.A 0) (p.c 0) (p.B 0) (p.d 0)).toList) (cs := (UEV (S.E 1) (p.A 1) (p.c 1) (p.B 1) (p.d 1)).toList) (post := ([.slice (p.zA 0) (S.Z 0).length (p.zc 0), .slice (p.zA 1) (S.Z 1).length (p.zc 1), .slice (p.iA 0) (S.I 0).length (p.ic 0), .slice (p.iA 1) (S.I 1).length (p.ic 1), .slice (p.iA 2) (S.I 2).length (p.ic 2), .slice (p.iA 3) (S.I 3).length (p.ic 3), .slice (p.iA 4) (S.I 4).length (p.ic 4), .slice (p.iA 5) (S.I 5).length (p.ic 5)] : List Value)) (L := UEV e9 A3 c3 B3 d3) hrow rfl rfl (uev_info _ _ _ _ _) (uev_one _ _ _ _ _) ?_ ?_ ?_; rfl; rfl; intro wa u7 r7
  have hMgd := hMg.drew
  have hMa : CM base g col wa (S.putE 1 e9) _ := hMgd.putE (s := 1) (by omega) u7 (hPE.below ((Below.refl _ _).drew)) r7
  have hWa : White col w wa := (hWg.stepU (fun _ _ _ => rfl) (White.below ((Below.refl _ _).drew))).stepU (fun _ _ _ => rfl) ((Only.upd u7 hMg.cg).white (by omega))
  have hCa : KeepC col col w.heap.size := fun _ _ _ => rfl
  have hPMa : Part col 0 wa (fun w => IsB w (some ⟨gm, 0, none⟩) bs.length bs) := (hPM.below ((Below.refl _ _).drew)).only (Only.upd u7 hMg.cg) (by omega)
  have hSZ : (CnS.putE S 1 e9).Z 0 = S.Z 0 := rfl
  have hSI : (CnS.putE S 1 e9).I = S.I := rfl
  rw [← hSZ] at hb1
  rw [← hSI] at hb2s hb24
  have HS0 := Lib.hid hSI
  obtain ⟨Sa, hSa⟩ : ∃ s, CnS.putE S 1 e9 = s := ⟨_, rfl⟩
  rw [hSa] at hMa hb1 hb2s hb24 HS0
  have HSa := Lib.hid hSa
  clear hSa hSZ hSI hrow r8 u7 r7 hMg hMgd hPM hPE hWg
  generalize ({ p with A := upd p.A 1 A3, c := upd p.c 1 c3, B := upd p.B 1 B3, d := upd p.d 1 d3 } : CnP) = pa at *
  obtain ⟨cola, hcola⟩ : ∃ c, col = c := ⟨_, rfl⟩
  have hMa : CM base g cola wa Sa pa := by rw [← hcola]; exact hMa
  have hCa : KeepC col cola w.heap.size := by rw [← hcola]; exact hCa
  have hPMa : Part cola 0 wa (fun w => IsB w (some ⟨gm, 0, none⟩) bs.length bs) := by rw [← hcola]; exact hPMa
  clear hcola
  have hlg := hMa.lt
  obtain ⟨vs, hvs, hms, hvcap⟩ := hMa.way 0 (by omega)
  obtain ⟨⟨z0, z1, i0, i1, i2, i3, i4, i5⟩, fz, e0, e1⟩ := hMa.cells
  go_upto_region 7 with (fail)
  have hMd := hMa.drew
  have hcg := hMa.cg
  have hlg : g < wa.drew.heap.size := hlg
  have hvq : OwnQ wa.drew 44 1 (pa.zA 0) (Sa.Z 0).length (pa.zc 0) vs := hvs.part.now
  have hms : MsgK cola wa.drew vs (Sa.Z 0) := hms
  have hPMa : Part cola 0 wa.drew (fun w => IsB w (some ⟨gm, 0, none⟩) bs.length bs) := hPMa.below ((Below.refl _ _).drew)
  have hal := (Below.refl wa.drew.heap.size wa.drew).alloc (Nat.le_refl _) (.cells #[.slice (some ⟨gm, 0, none⟩) bs.length bs.length] 44)
  have hMA := hMd.below hal
  clear z0 z1 i0 i1 i2 i3 i4 i5 fz e0 e1
  obtain ⟨⟨z0, z1, i0, i1, i2, i3, i4, i5⟩, fz, e0, e1⟩ := hMd.cells
  have hrowA : ∀ w9, (wa.drew.alloc (.cells #[.slice (some ⟨gm, 0, none⟩) bs.length bs.length] 44)).grownBy w9 (blk (pa.zA 0)) → Row w9 g 116 _ := fun w9 h3 => (h3.block g hMA.lt (fun e => by have h9 := hvs.blk g e.symm; have h8 := hcg; omega)).trans hMA.row.now
  have hWd : White col w wa.drew := hWa.stepU hCa (White.below ((Below.refl _ _).drew))
  have hszd : w.heap.size ≤ wa.drew.heap.size := hWd.size
  refine wp_region_late (n := 107) [11, 12, 16] (QS wa.drew g 12 44 1 (pa.zA 0) (Sa.Z 0).length (vs) (#[.slice (some ⟨gm, 0, none⟩) bs.length bs.length]) 11 12) (fun _ _ => True) (by kernel_rfl) (by kernel_rfl) (by rfl) QS.loc QS.zero ?_
  generalize wa.drew = wx at *
  iterate 9 (refine late_pure (by simp) (fun _ => trivial) (v := ?_) (fun _ => rfl) ?_ ?_; rotate_left; (focus (intro c9 us w9 hm9 hS9 hF; clear hF hm9; go_simp; (try with_reducible rfl); done)); simp only [Act.put, zA, zB, zC, Nat.reduceAdd])
  refine late_pure (by simp) (fun _ => trivial) (v := ?_) (fun _ => rfl) ?_ ?_; rotate_left; (focus (intro c9 us w9 hm9 hS9 hF; have hc9 : c9 < 2 := (by rcases Nat.lt_or_ge c9 2 with h9 | h9; exact h9; exact absurd hm9 (by rw [mayAt_no (d := 1) (by kernel_rfl) (by omega) (by decide)]; decide)); have bcell := ((hS9.early hc9).cell (p := ⟨g, 12, none⟩) hlg).trans z0; clear hF hm9; go_simp; (try with_reducible rfl); done)); simp only [Act.put, zA, zB, zC, Nat.reduceAdd]
  refine late_pure (by simp) (fun _ => trivial) (v := ?_) (fun _ => rfl) ?_ ?_; rotate_left; (focus (intro c9 us w9 hm9 hS9 hF; clear hF hm9; go_simp; (try with_reducible rfl); done)); simp only [Act.put, zA, zB, zC, Nat.reduceAdd]
  refine late_chain (by simp) ?_ ?_; (focus (intro us w9 hS9 hF K hK; clear hF; obtain rfl := hS9.1 rfl; go_simp; exact hK _ _ QS.one trivial)); simp only [Act.put, zA, zB, zC, Nat.reduceAdd]
  refine late_chain (by simp) ?_ ?_; (focus (intro us w9 hS9 hF K hK; clear hF; obtain ⟨hu, rfl⟩ := hS9.2.1 rfl; simp only [hu] at hK ⊢; rw [if_pos (by rfl)]; exact step_append_q (P := Try.prog) Try.underlying67 info_44u rfl (by omega) (hvq.of_same (fun b hb => hal.block b (hvq.lt b hb))) (Row.born _ _ _) rfl (by simp [Value.oneCell']) (by omega) (by omega) rfl rfl (fun A' c'' w' b h2 h3 h4 h5 => hK _ _ (QS.two h2 h3 h4 h5) trivial))); simp only [Act.put, zA, zB, zC, Nat.reduceAdd]
  iterate 3 (refine late_pure (by simp) (fun _ => trivial) (v := ?_) (fun _ => rfl) ?_ ?_; rotate_left; (focus (intro c9 us w9 hm9 hS9 hF; clear hF hm9; go_simp; (try with_reducible rfl); done)); simp only [Act.put, zA, zB, zC, Nat.reduceAdd])
  refine late_store rfl ?_ ?_; (focus (intro us w9 hS9 hF K hK; clear hF; obtain ⟨A', c', w2, b, hu, h2, h3, h4, h5, h6, -⟩ := hS9.2.2 (by omega); have h6 := h6 rfl; subst h6; simp only [hu] at hK ⊢; have hr9 := hrowA w9 h3; have k9 := hr9.cell 12; have f9 := hr9.frozen 12; simp only [CCell] at k9; have hS10 := hS9.three hu; go_simp; exact hK _ hS10 trivial)); simp only [Nat.reduceAdd]
  refine late_done fun us wb hS12 hF => ?_
  obtain ⟨A', c', w2, b, -, hq2, hg2, hbA, hbb, -, hw0⟩ := hS12.2.2 (by omega)
  have hwu9 := hw0 (by omega)
  clear hF hS12 hw0
  have hG : Grow g (2 + 0) b cola (wx.alloc (.cells #[.slice (some ⟨gm, 0, none⟩) bs.length bs.length] 44)) w2 wb (blk (pa.zA 0)) := ⟨hMA.lt, hcg, by omega, by omega, by omega, hg2, hvs.blk, hbb, hq2.lt b hbA, by rw [hwu9]; exact Upd.setCell _ _ _ _⟩
  have hr12 := (hrowA w2 hg2).set 12 (.slice A' ((Sa.Z 0).length + 1) c')
  rw [← hwu9] at hr12
  have hlen : (Sa.Z 0 ++ [bs]).length = (Sa.Z 0).length + 1 := by simp
  have hMb : CM base g (paint cola b (2 + 0)) wb (CnS.appZ Sa 0 (bs)) _ := hMA.appZ (s := 0) (by omega) hG (hms.below hal) hvcap (Nat.le_refl _) hq2 hbA (hPMa.below hal) (by
    unfold CCell
    simp only [upd, if_true, hlen]
    exact hr12)
  have hWb : White col w wb := (hWd.stepU hCa (White.below hal)).stepU hCa hG.white.1
  have hCb : KeepC col (paint cola b (2 + 0)) w.heap.size := fun x hx h0 => wtr (hG.white.2 x (Nat.lt_of_lt_of_le hx (Nat.le_trans hszd hal.size))) (hCa x hx h0) h0
  have hIb : (CnS.appZ Sa 0 bs).I = Sa.I := rfl
  rw [← hIb] at hb2s hb24
  clear hPMa hIb
  clear z0 z1 i0 i1 i2 i3 i4 i5 fz e0 e1
  clear hwu9 hG hr12 hrowA hMA hMd hvq hvs hg2 hq2 hWd hszd hal hlg hcg hlen hbA hbb hMa hWa hCa hms hvcap
  obtain ⟨Sb, hSb⟩ : ∃ s, CnS.appZ Sa 0 (bs) = s := ⟨_, rfl⟩
  rw [hSb] at hMb hb2s hb24
  have HSb := Lib.hid hSb
  generalize paint cola b (2 + 0) = colb at *
  generalize ({ pa with zA := upd pa.zA 0 A', zc := upd pa.zc 0 c' } : CnP) = pb at *
  have hlg := hMb.lt
  have hvs := hMb.ints 1 (by omega)
  obtain ⟨⟨z0, z1, i0, i1, i2, i3, i4, i5⟩, fz, e0, e1⟩ := hMb.cells
  go_upto_region 8 with (fail)
  have hMd := hMb.drew
  have hcg := hMb.cg
  have hlg : g < wb.drew.heap.size := hlg
  have hvq : OwnQ wb.drew 3 1 (pb.iA 1) (Sb.I 1).length (pb.ic 1) ((Sb.I 1).map iv) := hvs.part.now
  have hal := (Below.refl wb.drew.heap.size wb.drew).alloc (Nat.le_refl _) (.cells #[.int .i64 v] 3)
  have hMA := hMd.below hal
  clear z0 z1 i0 i1 i2 i3 i4 i5 fz e0 e1
  obtain ⟨⟨z0, z1, i0, i1, i2, i3, i4, i5⟩, fz, e0, e1⟩ := hMd.cells
  have hrowA : ∀ w9, (wb.drew.alloc (.cells #[.int .i64 v] 3)).grownBy w9 (blk (pb.iA 1)) → Row w9 g 116 _ := fun w9 h3 => (h3.block g hMA.lt (fun e => by have h9 := hvs.blk g e.symm; have h8 := hcg; omega)).trans hMA.row.now
  have hWd : White col w wb.drew := hWb.stepU hCb (White.below ((Below.refl _ _).drew))
  have hszd : w.heap.size ≤ wb.drew.heap.size := hWd.size
  refine wp_region_late (n := 107) [9, 10, 14] (QS wb.drew g 15 3 1 (pb.iA 1) (Sb.I 1).length (((Sb.I 1).map iv)) (#[.int .i64 v]) 9 10) (fun _ _ => True) (by kernel_rfl) (by kernel_rfl) (by rfl) QS.loc QS.zero ?_
  generalize wb.drew = wx at *
  iterate 7 (refine late_pure (by simp) (fun _ => trivial) (v := ?_) (fun _ => rfl) ?_ ?_; rotate_left; (focus (intro c9 us w9 hm9 hS9 hF; clear hF hm9; go_simp; (try with_reducible rfl); done)); simp only [Act.put, zA, zB, zC, Nat.reduceAdd])
  refine late_pure (by simp) (fun _ => trivial) (v := ?_) (fun _ => rfl) ?_ ?_; rotate_left; (focus (intro c9 us w9 hm9 hS9 hF; have hc9 : c9 < 2 := (by rcases Nat.lt_or_ge c9 2 with h9 | h9; exact h9; exact absurd hm9 (by rw [mayAt_no (d := 1) (by kernel_rfl) (by omega) (by decide)]; decide)); have bcell := ((hS9.early hc9).cell (p := ⟨g, 15, none⟩) hlg).trans i1; clear hF hm9; go_simp; (try with_reducible rfl); done)); simp only [Act.put, zA, zB, zC, Nat.reduceAdd]
  refine late_pure (by simp) (fun _ => trivial) (v := ?_) (fun _ => rfl) ?_ ?_; rotate_left; (focus (intro c9 us w9 hm9 hS9 hF; clear hF hm9; go_simp; (try with_reducible rfl); done)); simp only [Act.put, zA, zB, zC, Nat.reduceAdd]
  refine late_chain (by simp) ?_ ?_; (focus (intro us w9 hS9 hF K hK; clear hF; obtain rfl := hS9.1 rfl; go_simp; exact hK _ _ QS.one trivial)); simp only [Act.put, zA, zB, zC, Nat.reduceAdd]
  refine late_chain (by simp) ?_ ?_; (focus (intro us w9 hS9 hF K hK; clear hF; obtain ⟨hu, rfl⟩ := hS9.2.1 rfl; simp only [hu] at hK ⊢; rw [if_pos (by rfl)]; exact step_append_q (P := Try.prog) Try.underlying52 info_n rfl (by omega) (hvq.of_same (fun b hb => hal.block b (hvq.lt b hb))) (Row.born _ _ _) rfl (by simp [Value.oneCell']) (by omega) (by omega) rfl rfl (fun A' c'' w' b h2 h3 h4 h5 => hK _ _ (QS.two h2 h3 h4 h5) trivial))); simp only [Act.put, zA, zB, zC, Nat.reduceAdd]
  iterate 3 (refine late_pure (by simp) (fun _ => trivial) (v := ?_) (fun _ => rfl) ?_ ?_; rotate_left; (focus (intro c9 us w9 hm9 hS9 hF; clear hF hm9; go_simp; (try with_reducible rfl); done)); simp only [Act.put, zA, zB, zC, Nat.reduceAdd])
  refine late_store rfl ?_ ?_; (focus (intro us w9 hS9 hF K hK; clear hF; obtain ⟨A', c', w2, b, hu, h2, h3, h4, h5, h6, -⟩ := hS9.2.2 (by omega); have h6 := h6 rfl; subst h6; simp only [hu] at hK ⊢; have hr9 := hrowA w9 h3; have k9 := hr9.cell 15; have f9 := hr9.frozen 15; simp only [CCell] at k9; have hS10 := hS9.three hu; go_simp; exact hK _ hS10 trivial)); simp only [Nat.reduceAdd]
  refine late_done fun us wc hS12 hF => ?_
  obtain ⟨A', c', w2, b, -, hq2, hg2, hbA, hbb, -, hw0⟩ := hS12.2.2 (by omega)
  have hwu9 := hw0 (by omega)
  clear hF hS12 hw0
  have hG : Grow g (4 + 1) b colb (wx.alloc (.cells #[.int .i64 v] 3)) w2 wc (blk (pb.iA 1)) := ⟨hMA.lt, hcg, by omega, by omega, by omega, hg2, hvs.blk, hbb, hq2.lt b hbA, by rw [hwu9]; exact Upd.setCell _ _ _ _⟩
  have hr12 := (hrowA w2 hg2).set 15 (.slice A' ((Sb.I 1).length + 1) c')
  rw [← hwu9] at hr12
  have hlen : (Sb.I 1 ++ [v]).length = (Sb.I 1).length + 1 := by simp
  have hMc : CM base g (paint colb b (4 + 1)) wc (CnS.appI Sb 1 (v)) _ := hMA.appI (i := 1) (x := v) (by omega) hG hq2 hbA (by
    unfold CCell
    simp only [upd, if_true, hlen]
    exact hr12)
  have hWc : White col w wc := (hWd.stepU hCb (White.below hal)).stepU hCb hG.white.1
  have hCc : KeepC col (paint colb b (4 + 1)) w.heap.size := fun x hx h0 => wtr (hG.white.2 x (Nat.lt_of_lt_of_le hx (Nat.le_trans hszd hal.size))) (hCb x hx h0) h0
  have hIc : (CnS.appI Sb 1 v).I 5 = Sb.I 5 := rfl
  rw [← hIc] at hb24
  clear hIc hb2s
  clear z0 z1 i0 i1 i2 i3 i4 i5 fz e0 e1
  clear hwu9 hG hr12 hrowA hMA hMd hvq hvs hg2 hq2 hWd hszd hal hlg hcg hlen hbA hbb hMb hWb hCb
  obtain ⟨Sc, hSc⟩ : ∃ s, CnS.appI Sb 1 (v) = s := ⟨_, rfl⟩
  rw [hSc] at hMc hb24
  have HSc := Lib.hid hSc
  generalize paint colb b (4 + 1) = colc at *
  generalize ({ pb with iA := upd pb.iA 1 A', ic := upd pb.ic 1 c' } : CnP) = pc at *
  have hlg := hMc.lt
  have hvs := hMc.ints 5 (by omega)
  obtain ⟨⟨z0, z1, i0, i1, i2, i3, i4, i5⟩, fz, e0, e1⟩ := hMc.cells
  go_upto_region 9 with (fail)
  have hMd := hMc.drew
  have hcg := hMc.cg
  have hlg : g < wc.drew.heap.size := hlg
  have hvq : OwnQ wc.drew 3 1 (pc.iA 5) (Sc.I 5).length (pc.ic 5) ((Sc.I 5).map iv) := hvs.part.now
  have hal := (Below.refl wc.drew.heap.size wc.drew).alloc (Nat.le_refl _) (.cells #[.int .i64 0] 3)
  have hMA := hMd.below hal
  clear z0 z1 i0 i1 i2 i3 i4 i5 fz e0 e1
  obtain ⟨⟨z0, z1, i0, i1, i2, i3, i4, i5⟩, fz, e0, e1⟩ := hMd.cells
  have hrowA : ∀ w9, (wc.drew.alloc (.cells #[.int .i64 0] 3)).grownBy w9 (blk (pc.iA 5)) → Row w9 g 116 _ := fun w9 h3 => (h3.block g hMA.lt (fun e => by have h9 := hvs.blk g e.symm; have h8 := hcg; omega)).trans hMA.row.now
  have hWd : White col w wc.drew := hWc.stepU hCc (White.below ((Below.refl _ _).drew))
  have hszd : w.heap.size ≤ wc.drew.heap.size := hWd.size
  refine wp_region_late (n := 107) [8, 9, 13] (QS wc.drew g 19 3 1 (pc.iA 5) (Sc.I 5).length (((Sc.I 5).map iv)) (#[.int .i64 0]) 8 9) (fun _ _ => True) (by kernel_rfl) (by kernel_rfl) (by rfl) QS.loc QS.zero ?_
  generalize wc.drew = wx at *
  iterate 7 (refine late_pure (by simp) (fun _ => trivial) (v := ?_) (fun _ => rfl) ?_ ?_; rotate_left; (focus (intro c9 us w9 hm9 hS9 hF; clear hF hm9; go_simp; (try with_reducible rfl); done)); simp only [Act.put, zA, zB, zC, Nat.reduceAdd])
  refine late_pure (by simp) (fun _ => trivial) (v := ?_) (fun _ => rfl) ?_ ?_; rotate_left; (focus (intro c9 us w9 hm9 hS9 hF; have hc9 : c9 < 2 := (by rcases Nat.lt_or_ge c9 2 with h9 | h9; exact h9; exact absurd hm9 (by rw [mayAt_no (d := 1) (by kernel_rfl) (by omega) (by decide)]; decide)); have bcell := ((hS9.early hc9).cell (p := ⟨g, 19, none⟩) hlg).trans i5; clear hF hm9; go_simp; (try with_reducible rfl); done)); simp only [Act.put, zA, zB, zC, Nat.reduceAdd]
  refine late_chain (by simp) ?_ ?_; (focus (intro us w9 hS9 hF K hK; clear hF; obtain rfl := hS9.1 rfl; go_simp; exact hK _ _ QS.one trivial)); simp only [Act.put, zA, zB, zC, Nat.reduceAdd]
  refine late_chain (by simp) ?_ ?_; (focus (intro us w9 hS9 hF K hK; clear hF; obtain ⟨hu, rfl⟩ := hS9.2.1 rfl; simp only [hu] at hK ⊢; rw [if_pos (by rfl)]; exact step_append_q (P := Try.prog) Try.underlying52 info_n rfl (by omega) (hvq.of_same (fun b hb => hal.block b (hvq.lt b hb))) (Row.born _ _ _) rfl (by simp [Value.oneCell']) (by omega) (by omega) rfl rfl (fun A' c'' w' b h2 h3 h4 h5 => hK _ _ (QS.two h2 h3 h4 h5) trivial))); simp only [Act.put, zA, zB, zC, Nat.reduceAdd]
  iterate 3 (refine late_pure (by simp) (fun _ => trivial) (v := ?_) (fun _ => rfl) ?_ ?_; rotate_left; (focus (intro c9 us w9 hm9 hS9 hF; clear hF hm9; go_simp; (try with_reducible rfl); done)); simp only [Act.put, zA, zB, zC, Nat.reduceAdd])
  refine late_store rfl ?_ ?_; (focus (intro us w9 hS9 hF K hK; clear hF; obtain ⟨A', c', w2, b, hu, h2, h3, h4, h5, h6, -⟩ := hS9.2.2 (by omega); have h6 := h6 rfl; subst h6; simp only [hu] at hK ⊢; have hr9 := hrowA w9 h3; have k9 := hr9.cell 19; have f9 := hr9.frozen 19; simp only [CCell] at k9; have hS10 := hS9.three hu; go_simp; exact hK _ hS10 trivial)); simp only [Nat.reduceAdd]
  refine late_done fun us wy hS12 hF => ?_
  obtain ⟨A', c', w2, b, -, hq2, hg2, hbA, hbb, -, hw0⟩ := hS12.2.2 (by omega)
  have hwu9 := hw0 (by omega)
  clear hF hS12 hw0
  have hG : Grow g (4 + 5) b colc (wx.alloc (.cells #[.int .i64 0] 3)) w2 wy (blk (pc.iA 5)) := ⟨hMA.lt, hcg, by omega, by omega, by omega, hg2, hvs.blk, hbb, hq2.lt b hbA, by rw [hwu9]; exact Upd.setCell _ _ _ _⟩
  have hr12 := (hrowA w2 hg2).set 19 (.slice A' ((Sc.I 5).length + 1) c')
  rw [← hwu9] at hr12
  have hlen : (Sc.I 5 ++ [0]).length = (Sc.I 5).length + 1 := by simp
  have hMy : CM base g (paint colc b (4 + 5)) wy (CnS.appI Sc 5 (0)) _ := hMA.appI (i := 5) (x := 0) (by omega) hG hq2 hbA (by
    unfold CCell
    simp only [upd, if_true, hlen]
    exact hr12)
  have hWy : White col w wy := (hWd.stepU hCc (White.below hal)).stepU hCc hG.white.1
  have hCy : KeepC col (paint colc b (4 + 5)) w.heap.size := fun x hx h0 => wtr (hG.white.2 x (Nat.lt_of_lt_of_le hx (Nat.le_trans hszd hal.size))) (hCc x hx h0) h0

  clear z0 z1 i0 i1 i2 i3 i4 i5 fz e0 e1
  clear hwu9 hG hr12 hrowA hMA hMd hvq hvs hg2 hq2 hWd hszd hal hlg hcg hlen hbA hbb hMc hWc hCc
  obtain ⟨Sy, hSy⟩ : ∃ s, CnS.appI Sc 5 (0) = s := ⟨_, rfl⟩
  rw [hSy] at hMy
  have HSy := Lib.hid hSy
  generalize paint colc b (4 + 5) = coly at *
  generalize ({ pc with iA := upd pc.iA 5 A', ic := upd pc.ic 5 c' } : CnP) = py at *
  go_wp2
  go_ret
  have h1 := HSy.out
  have h2 := HSc.out
  have h3 := HSb.out
  have h4 := HSa.out
  subst h4 h3 h2 h1
  exact ⟨rfl, coly, py, hMy, hWy, hCy⟩
end
end Go.Proofs.Ythjkhambmgepdaa
