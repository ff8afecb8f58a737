/- Texts Vr, without what this claim does not use. -/
import Derived.Test.YthjkhambmgepdaaQam
namespace Go.Proofs.Ythjkhambmgepdaa
section
open Go.RowKit
set_option linter.unusedVariables false
set_option linter.unusedSimpArgs false
theorem place_is {v n q : Int} (hq : v % n = q) (h1 : 1 ≤ n) (h2 : n ≤ 4611686018427387904) (W : World) : Calls Try.prog 20 #[.int .i64 v, .int .i64 n] W (fun e W' => e = .returned (.int .i64 q) ∧ W = W') := by
  rw [← hq]
  exact placeU v n h1 h2 W
theorem rep_wd {e e9 : UE} {n v : Int} {bs : List UInt8} {A B : Option Addr} {c d gd : Nat} {W : World} {base : Nat} (h : repE e n 0 (wdB v) = 0) (hU : repU e n = e9) (hb : (rpM n 0 (wdB v)).by = bs) (hH : HeldU W e A c B d) (ho : OwnB W base 5 (some ⟨gd, 0, none⟩) 2 2 (wdB v)) :
    Calls Try.prog 80 #[.agg (UEV e A c B d), .int .i64 n, .int .i64 0, .slice (some ⟨gd, 0, none⟩) 2 2] W (fun en W' => ∃ u, en = .returned u ∧ C3V W.heap.size e9 bs u W' ∧ Below W.heap.size W W') := by
  refine (rep_is h hU hb hH ho.isB).mono ?_
  rintro en W' ⟨A', c', B', d', g, h1, h2, h3, h4, h5⟩
  exact ⟨_, h1, ⟨A', c', B', d', g, rfl, h2, h3, h4⟩, h5⟩
theorem C3V.lower {base lo : Nat} {e9 : UE} {bs : List UInt8} {u : Value} {w : World} (h : C3V base e9 bs u w) (hl : lo ≤ base) : C3V lo e9 bs u w := by
  obtain ⟨A, c, B, d, g, h1, h2, h3, h4⟩ := h
  exact ⟨A, c, B, d, g, h1, h2.lower hl, Nat.le_trans hl h3, h4⟩
theorem iv_at {l : List Int} {m : Nat} {v : Int} (h : l[m]? = some v) : (l.map iv)[m]? = some (.int .i64 v) := by
  rw [List.getElem?_map, h]; rfl
set_option maxRecDepth 100000 in
set_option maxHeartbeats 8000000 in
theorem cn_rep_nil0 (base g : Nat) (col : Nat → Nat) (w : World) (S : CnS) (p : CnP) (hM : CM base g col w S p) (which : Int) (hl : (S.E 0).ss = []) : Calls Try.prog 69 #[.pointer (some ⟨g, 0, none⟩), .int .i64 0, .int .i64 which] w (CStep base g col w S) := by
  have hl0 : (S.E 0).ss.length = 0 := by rw [hl]; rfl
  have c0 : w.cell? ⟨g, 0, none⟩ = some (.int .i64 (S.E 0).cr) := hM.row.now.cell 0
  have c3 : w.cell? ⟨g, 3, none⟩ = some (.slice (p.A 0) (S.E 0).cs.length (p.c 0)) := hM.row.now.cell 3
  have c4 : w.cell? ⟨g, 4, none⟩ = some (.slice (p.B 0) (S.E 0).ss.length (p.d 0)) := hM.row.now.cell 4
  rw [hl0] at c4
  clear hl hl0
  go_enter Try.func69, Try.ntmps69
  go_wp2
  go_ret
  exact CStep.same hM (Below.refl _ _)
set_option maxRecDepth 100000 in
set_option maxHeartbeats 8000000 in
theorem cn_rep0 (base g : Nat) (col : Nat → Nat) (w : World) (S : CnS) (p : CnP) (hM : CM base g col w S p) (which : Int) {k m : Nat} {v : Int} (hk : which % ((S.E 0).ss.length : Int) = k) (hn : (S.E 0).ss[k]? = some ((m : Int) + 1)) (hv : (S.I 2)[m]? = some v) (v0 : 0 ≤ v) (v1 : v ≤ 65535) (hE : repE (S.E 0) ((m : Int) + 1) 0 (wdB v) = 0) (hcl : (S.E 0).cs.length ≤ 100) (hsl : (S.E 0).ss.length ≤ 100) (hb1 : (S.Z 1).length ≤ 100000) (hb2 : (S.I 2).length ≤ 100000) : Calls Try.prog 69 #[.pointer (some ⟨g, 0, none⟩), .int .i64 0, .int .i64 which] w (CStep base g col w ((S.putE 0 (repU (S.E 0) ((m : Int) + 1))).appZ 1 (rpM ((m : Int) + 1) 0 (wdB v)).by)) := by
  have HE := Lib.hid hE
  obtain ⟨bs, hbs⟩ : ∃ bs, (rpM ((m : Int) + 1) 0 (wdB v)).by = bs := ⟨_, rfl⟩
  obtain ⟨e9, he9⟩ : ∃ e9, repU (S.E 0) ((m : Int) + 1) = e9 := ⟨_, rfl⟩
  have HBS := Lib.hid hbs
  have HU := Lib.hid he9
  have h9c : e9.cs.length ≤ 1000 := by rw [← he9]; simp [repU]; omega
  have h9s : e9.ss.length ≤ 1000 := by rw [← he9]; simp [repU, List.length_eraseIdx]; split <;> omega
  rw [hbs, he9]
  have hkl := (List.getElem?_eq_some_iff.1 hn).1
  have hml := (List.getElem?_eq_some_iff.1 hv).1
  have HK := Lib.hid hk
  have dnil : (((S.E 0).ss.length : Int) == 0) = false := ef (by omega)
  have hki : (k : Int) < ((S.E 0).ss.length : Int) := by omega
  have hk0 : (0 : Int) ≤ (k : Int) := by omega
  have hmi : (m : Int) < ((S.I 2).length : Int) := by omega
  have hm0 : (0 : Int) ≤ (m : Int) := by omega
  have dm1 : decide ((m : Int) + 1 < 1) = false := decide_eq_false (by omega)
  have dm2 : decide (((S.I 2).length : Int) < (m : Int) + 1) = false := decide_eq_false (by omega)
  have hwm : IntKind.i64.wrap ((m : Int) + 1 - 1) = (m : Int) := by rw [IntKind.wrap_i64]; omega
  have hwm2 : IntKind.i64.wrap (m : Int) = (m : Int) := by rw [IntKind.wrap_i64]; omega
  have hwr : IntKind.i64.wrap 1 = 1 := by rw [IntKind.wrap_i64]; rfl
  have hH := (hM.held 0 (by omega)).now
  obtain ⟨bb, ob, hBb, hlbb, hcb⟩ := hH.b.at_ (by omega)
  have hcb : w.cell? ⟨bb, ob + k, none⟩ = some (.int .i64 ((m : Int) + 1)) := by
    have := hcb k hkl
    rwa [(List.getElem?_eq_some_iff.1 hn).2] at this
  obtain ⟨ba, oa, cura, hAa, hra, hca⟩ := (hM.ints 2 (by omega)).part.now.cells (by omega)
  have hca := hca m _ (iv_at hv)
  have hlga := hra.lt
  have c0 : w.cell? ⟨g, 0, none⟩ = some (.int .i64 (S.E 0).cr) := hM.row.now.cell 0
  have c3 : w.cell? ⟨g, 3, none⟩ = some (.slice (p.A 0) (S.E 0).cs.length (p.c 0)) := hM.row.now.cell 3
  have c4 : w.cell? ⟨g, 4, none⟩ = some (.slice (p.B 0) (S.E 0).ss.length (p.d 0)) := hM.row.now.cell 4
  have c4' := c4
  rw [hBb] at c4'
  have i2' : w.cell? ⟨g, 16, none⟩ = some (.slice (p.iA 2) (S.I 2).length (p.ic 2)) := hM.row.now.cell 16
  rw [hAa] at i2'
  have hlg := hM.lt
  have hlbs : 1 ≤ ((S.E 0).ss.length : Int) ∧ ((S.E 0).ss.length : Int) ≤ 4611686018427387904 := by omega
  clear hE hk hn hv hbs he9 hcl hsl hkl hml hra hBb hAa hH c0 c3 c4
  go_enter Try.func69, Try.ntmps69
  go_upto_region 3 with (fail)
  have hMw := hM.drew
  have hW0 : White col w w.drew := White.below ((Below.refl _ _).drew)
  have hlg : g < w.drew.heap.size := hlg
  have hlga : ba < w.drew.heap.size := hlga
  have hcb : w.drew.cell? ⟨bb, ob + k, none⟩ = some (.int .i64 ((m : Int) + 1)) := hcb
  have hca : w.drew.cell? ⟨ba, oa + m, none⟩ = some (.int .i64 v) := hca
  have c4' : w.drew.cell? ⟨g, 4, none⟩ = some (.slice (some ⟨bb, ob, none⟩) (S.E 0).ss.length (p.d 0)) := c4'
  have i2' : w.drew.cell? ⟨g, 16, none⟩ = some (.slice (some ⟨ba, oa, none⟩) (S.I 2).length (p.ic 2)) := i2'
  refine wp_region_told (n := 99) (fun w' => w' = w.drew) (fun _ _ => True) (by kernel_rfl) (by kernel_rfl) (by rfl) rfl ?_
  repeat (first | (refine walk_pure (v := ?_) (fun _ => trivial) (fun _ => rfl) ?_ ?_; rotate_left; (focus (intro us w9 hS9 hF; subst hS9; clear hF; go_simp; (try with_reducible rfl); done)); simp only [Act.put, zA, zB, zC, Nat.reduceAdd]) | (refine walk_skip (fun _ => trivial) (fun _ => rfl) ?_; simp only [Act.put, zA, zB, zC, Nat.reduceAdd]))
  refine walk_fix (v := .int .i64 (k : Int)) ?_ ?_; (focus (intro us w9 hS9 hF K hK; clear hF; subst hS9; go_simp; refine (place_is HK.out hlbs.1 hlbs.2 _).mono ?_; rintro e w' ⟨rfl, rfl⟩; exact hK _ rfl trivial)); simp only [Act.put, zA, zB, zC, Nat.reduceAdd]
  repeat (first | (refine walk_pure (v := ?_) (fun _ => trivial) (fun _ => rfl) ?_ ?_; rotate_left; (focus (intro us w9 hS9 hF; subst hS9; clear hF; go_simp; (try with_reducible rfl); done)); simp only [Act.put, zA, zB, zC, Nat.reduceAdd]) | (refine walk_skip (fun _ => trivial) (fun _ => rfl) ?_; simp only [Act.put, zA, zB, zC, Nat.reduceAdd]))
  refine walk_done fun us w9 hS9 hF => ?_
  subst hS9
  clear hF
  generalize w.drew = w1 at *
  clear c4' hcb
  go_upto_region 6 with (fail)
  have hMd := hMw.drew
  have hHd : HeldU w1.drew (S.E 0) (p.A 0) (p.c 0) (p.B 0) (p.d 0) := (hMd.held 0 (by omega)).now
  have hlgd : g < w1.drew.heap.size := hlg
  have hlga : ba < w1.drew.heap.size := hlga
  have hca : w1.drew.cell? ⟨ba, oa + m, none⟩ = some (.int .i64 v) := hca
  have i2' : w1.drew.cell? ⟨g, 16, none⟩ = some (.slice (some ⟨ba, oa, none⟩) (S.I 2).length (p.ic 2)) := i2'
  have hW1 : White col w w1.drew := hW0.stepU (fun _ _ _ => rfl) (White.below ((Below.refl _ _).drew))
  obtain ⟨-, fz, e0, e1⟩ := hMd.cells
  clear hW0 hlg hMw
  refine wp_region_late (n := 99) [24] (CaS w1.drew e9 23) G7 (by kernel_rfl) (by kernel_rfl) (by rfl) (CaS.loc (by kernel_rfl)) ⟨Below.refl _ _, fun h => by omega⟩ ?_
  generalize w1.drew = wd at *
  iterate 5 (refine late_pure (by simp) (fun w => G7.refl _) (v := ?_) (fun _ => rfl) ?_ ?_; rotate_left; (focus (intro c9 us w9 hm9 hS9 hF; clear hF hm9; go_simp; (try with_reducible rfl); done)); simp only [Act.put, zA, zB, zC, Nat.reduceAdd])
  refine late_pure (by simp) (fun w => G7.refl _) (v := .agg (UEV (S.E 0) (p.A 0) (p.c 0) (p.B 0) (p.d 0))) (fun _ => rfl) ?_ ?_; (focus (intro c9 us w9 hm9 hS9 hF; exact exec_load_g (fun j v hv => (hS9.1.cell (p := ⟨g, 0 + j, none⟩) hlgd).trans (e0 j v hv)) Try.underlying112 rfl (uev_info _ _ _ _ _) rfl)); simp only [Act.put, zA, zB, zC, Nat.reduceAdd]
  iterate 6 (refine late_pure (by simp) (fun w => G7.refl _) (v := ?_) (fun _ => rfl) ?_ ?_; rotate_left; (focus (intro c9 us w9 hm9 hS9 hF; clear hF hm9; go_simp; (try with_reducible rfl); done)); simp only [Act.put, zA, zB, zC, Nat.reduceAdd])
  refine late_pure (by simp) (fun w => G7.refl _) (v := ?_) (fun _ => rfl) ?_ ?_; rotate_left; (focus (intro c9 us w9 hm9 hS9 hF; have b1 := (hS9.1.cell (p := ⟨g, 16, none⟩) hlgd).trans i2'; clear hF hm9; go_simp; (try with_reducible rfl); done)); simp only [Act.put, zA, zB, zC, Nat.reduceAdd]
  iterate 3 (refine late_pure (by simp) (fun w => G7.refl _) (v := ?_) (fun _ => rfl) ?_ ?_; rotate_left; (focus (intro c9 us w9 hm9 hS9 hF; clear hF hm9; go_simp; (try with_reducible rfl); done)); simp only [Act.put, zA, zB, zC, Nat.reduceAdd])
  refine late_pure (by simp) (fun w => G7.refl _) (v := ?_) (fun _ => rfl) ?_ ?_; rotate_left; (focus (intro c9 us w9 hm9 hS9 hF; have b2 := (hS9.1.cell (p := ⟨ba, oa + m, none⟩) hlga).trans hca; clear hF hm9; go_simp; (try with_reducible rfl); done)); simp only [Act.put, zA, zB, zC, Nat.reduceAdd]
  refine late_free (by simp) (WdV wd.heap.size v) (WdV.mono) ?_ ?_; (focus (intro c9 us w9 hm9 hS9 hF K hK; have hc9 : c9 < 1 := (by rcases Nat.lt_or_ge c9 1 with h9 | h9; exact h9; exact absurd hm9 (by rw [mayAt_no (d := 0) (by kernel_rfl) (by omega) (by decide)]; decide)); clear hF; go_simp; refine (word_is v v0 v1 _).mono ?_; rintro en w' ⟨u, rfl, hu, hb⟩; exact hK u w' ⟨below_on hS9.1 hb, fun h => by omega⟩ (G7.below hb) (hu.lower hS9.1.size))); simp only [Act.put, zA, zB, zC, Nat.reduceAdd]
  refine late_free (by simp) (C3V wd.heap.size e9 bs) (C3V.mono) ?_ ?_; (focus (intro c9 us w9 hm9 hS9 hF K hK; have hc9 : c9 < 1 := (by rcases Nat.lt_or_ge c9 1 with h9 | h9; exact h9; exact absurd hm9 (by rw [mayAt_no (d := 0) (by kernel_rfl) (by omega) (by decide)]; decide)); obtain ⟨gw, hu, ho⟩ := hF (17, WdV wd.heap.size v) (by simp) (by kernel_rfl); clear hF; dsimp only at hu; simp only [hu] at hK ⊢; go_simp; refine (rep_wd HE.out HU.out HBS.out (hHd.below hS9.1) ho).mono ?_; rintro en w' ⟨u, rfl, hu, hb⟩; exact hK u w' ⟨below_on hS9.1 hb, fun h => by omega⟩ (G7.below hb) (hu.lower hS9.1.size))); simp only [Act.put, zA, zB, zC, Nat.reduceAdd]
  refine late_free (by simp) (C3V wd.heap.size e9 bs) (C3V.mono) ?_ ?_; (focus (intro c9 us w9 hm9 hS9 hF K hK; obtain ⟨A, c, B, d, gm, hu, h1, h2, h3⟩ := hF (18, C3V wd.heap.size e9 bs) (by simp) (by kernel_rfl); clear hF; dsimp only at hu; simp only [hu] at hK ⊢; go_simp; exact hK _ w9 hS9 (G7.refl _) ⟨A, c, B, d, gm, rfl, h1, h2, h3⟩)); simp only [Act.put, zA, zB, zC, Nat.reduceAdd]
  refine late_free (by simp) (EnV wd.heap.size e9) (EnV.mono) ?_ ?_; (focus (intro c9 us w9 hm9 hS9 hF K hK; obtain ⟨A, c, B, d, gm, hu, h1, h2, h3⟩ := hF (19, C3V wd.heap.size e9 bs) (by simp) (by kernel_rfl); clear hF; dsimp only at hu; simp only [hu] at hK ⊢; go_simp; exact hK _ w9 hS9 (G7.refl _) ⟨A, c, B, d, rfl, h1⟩)); simp only [Act.put, zA, zB, zC, Nat.reduceAdd]
  refine late_free (by simp) (MsV wd.heap.size bs) (MsV.mono) ?_ ?_; (focus (intro c9 us w9 hm9 hS9 hF K hK; obtain ⟨A, c, B, d, gm, hu, h1, h2, h3⟩ := hF (19, C3V wd.heap.size e9 bs) (by simp) (by kernel_rfl); clear hF; dsimp only at hu; simp only [hu] at hK ⊢; go_simp; exact hK _ w9 hS9 (G7.refl _) ⟨gm, rfl, h2, h3⟩)); simp only [Act.put, zA, zB, zC, Nat.reduceAdd]
  refine late_pure (by simp) (fun w => G7.refl _) (v := .int .i64 0) (fun _ => rfl) ?_ ?_; (focus (intro c9 us w9 hm9 hS9 hF; obtain ⟨A, c, B, d, gm, hu, -⟩ := hF (19, C3V wd.heap.size e9 bs) (by simp) (by kernel_rfl); dsimp only at hu; simp only [hu]; go_simp)); simp only [Act.put, zA, zB, zC, Nat.reduceAdd]
  refine late_free (by simp) (PtrU wd.heap.size) (PtrU.mono) ?_ ?_; (focus (intro c9 us w9 hm9 hS9 hF K hK; have hc9 : c9 < 1 := (by rcases Nat.lt_or_ge c9 1 with h9 | h9; exact h9; exact absurd hm9 (by rw [mayAt_no (d := 0) (by kernel_rfl) (by omega) (by decide)]; decide)); clear hF; go_simp; exact hK _ _ ⟨hS9.1.alloc hS9.1.size (.cells ZU 112), fun h => by omega⟩ (G7.below ((Below.refl _ _).alloc (Nat.le_refl _) _)) ⟨w9.heap.size, rfl, hS9.1.size, ue0, none, 0, none, 0, Row.born w9 112 ZU⟩)); simp only [Act.put, zA, zB, zC, Nat.reduceAdd]
  refine late_store rfl ?_ ?_; (focus (intro us w9 hS9 hF K hK; obtain ⟨A, c, B, d, hu9, h1⟩ := hF (20, EnV wd.heap.size e9) (by simp) (by kernel_rfl); obtain ⟨b3, hu, hb3, hur⟩ := hF (23, PtrU wd.heap.size) (by simp) (by kernel_rfl); dsimp only at hu9 hu; clear hF; simp only [hu9, hu] at hK ⊢; rw [if_pos (by rfl)]; obtain ⟨e3, A3, c3, B3, d3, hr⟩ := hur; exact step_put (L := UEV e9 A c B d) hr rfl (uev_info _ _ _ _ _) (uev_one _ _ _ _ _) rfl rfl (fun w' u' r' => hK w' ⟨Upd.below hS9.1 u' hb3, fun _ => ⟨b3, A, c, B, d, hu, hb3, r', h1.keeps (Keeps.upd (ts := [112]) u' hr (by simp)) (by decide)⟩⟩ (G7.put ⟨_, _, _, _, _, hr⟩ u' r')))); simp only [Nat.reduceAdd]
  refine late_free (by simp) (MsV wd.heap.size bs) (MsV.mono) ?_ ?_; (focus (intro c9 us w9 hm9 hS9 hF K hK; obtain ⟨gm, hu, h2⟩ := hF (21, MsV wd.heap.size bs) (by simp) (by kernel_rfl); clear hF; dsimp only at hu; simp only [hu] at hK ⊢; go_simp; exact hK _ w9 hS9 (G7.refl _) ⟨gm, rfl, h2⟩)); simp only [Act.put, zA, zB, zC, Nat.reduceAdd]
  refine late_pure (by simp) (fun w => G7.refl _) (v := ?_) (fun _ => rfl) ?_ ?_; rotate_left; (focus (intro c9 us w9 hm9 hS9 hF; clear hF hm9; go_simp; (try with_reducible rfl); done)); simp only [Act.put, zA, zB, zC, Nat.reduceAdd]
  refine late_done fun us wf hS8 hF => ?_
  obtain ⟨gm, hu18, hgm, hIm⟩ := hF (25, MsV wd.heap.size bs) (by simp)
  obtain ⟨g8, A3, c3, B3, d3, hu15, hg8, r8, hU8⟩ := hS8.2 (by omega)
  have hbf := hS8.1
  clear hF hS8
  dsimp only at hu15 hu18
  simp only [hu15, hu18]
  clear hu15 hu18
  have hMg := hMd.below hbf
  have hWg : White col w wf := hW1.stepU (fun _ _ _ => rfl) (White.below hbf)
  have hPE : Part col 0 wf (fun w => HeldU w e9 A3 c3 B3 d3) := Part.ownU hU8 (fun x h1 => hMd.cn x h1) h9c h9s
  have hPM : Part col 0 wf (fun w => IsB w (some ⟨gm, 0, none⟩) bs.length bs) := Part.msgU hIm (hMd.cn gm hgm)
  clear hHd hlgd hlga hca i2' hU8 hIm hbf fz e0 e1 hW1
  obtain ⟨⟨z0, z1, i0, i1, i2, i3, i4, i5⟩, fz, e0, e1⟩ := hMg.cells
  go_upto_region 9 with (fail)
  clear z0 z1 i0 i1 i2 i3 i4 i5 fz e0 e1
  have hrow : Row wf.drew g 116 (([] : List Value) ++ (UEV (S.E 0) (p.A 0) (p.c 0) (p.B 0) (p.d 0)).toList ++ ((UEV (S.E 1) (p.A 1) (p.c 1) (p.B 1) (p.d 1)).toList ++ ([.slice (p.zA 0) (S.Z 0).length (p.zc 0), .slice (p.zA 1) (S.Z 1).length (p.zc 1), .slice (p.iA 0) (S.I 0).length (p.ic 0), .slice (p.iA 1) (S.I 1).length (p.ic 1), .slice (p.iA 2) (S.I 2).length (p.ic 2), .slice (p.iA 3) (S.I 3).length (p.ic 3), .slice (p.iA 4) (S.I 4).length (p.ic 4), .slice (p.iA 5) (S.I 5).length (p.ic 5)] : List Value))).toArray := hMg.row.now
  have r8 : Row wf.drew g8 112 (UEV e9 A3 c3 B3 d3) := r8
  refine wp_region_tailN (n := 99) 6 (fun w' => w' = wf.drew) (fun _ _ => True) (by kernel_rfl) (by kernel_rfl) (by decide) (by rfl) rfl ?_
  simp only [List.take_succ_cons, List.take_zero, List.drop_succ_cons, List.drop_zero]
  iterate 2 (refine tail_pure (fun w => trivial) (v := ?_) (fun _ => rfl) ?_ ?_; rotate_left; (focus (intro us w9 hS9 hF; clear hF; subst hS9; go_simp; (try with_reducible rfl); done)); simp only [Act.put, zA, zB, zC, Nat.reduceAdd])
  refine tail_pure (fun w => trivial) (v := .agg (UEV e9 A3 c3 B3 d3)) (fun _ => rfl) ?_ ?_; (focus (intro us w9 hS9 hF; clear hF; subst hS9; exact exec_load_g r8.range Try.underlying112 rfl (uev_info _ _ _ _ _) rfl)); simp only [Act.put, zA, zB, zC, Nat.reduceAdd]
  iterate 3 (refine tail_pure (fun w => trivial) (v := ?_) (fun _ => rfl) ?_ ?_; rotate_left; (focus (intro us w9 hS9 hF; clear hF; subst hS9; go_simp; (try with_reducible rfl); done)); simp only [Act.put, zA, zB, zC, Nat.reduceAdd])
  refine tail_done fun us w7 hS7 hF => ?_
  subst hS7
  clear hF
  refine wp_put_midU (g := g) (t := 116) (off := 0) (pre := ([] : List Value)) (cs := (UEV (S.E 0) (p.A 0) (p.c 0) (p.B 0) (p.d 0)).toList) (post := ((UEV (S.E 1) (p.A 1) (p.c 1) (p.B 1) (p.d 1)).toList ++ ([.slice (p.zA 0) (S.Z 0).length (p.zc 0), .slice (p.zA 1) (S.Z 1).length (p.zc 1), .slice (p.iA 0) (S.I 0).length (p.ic 0), .slice (p.iA 1) (S.I 1).length (p.ic 1), .slice (p.iA 2) (S.I 2).length (p.ic 2), .slice (p.iA 3) (S.I 3).length (p.ic 3), .slice (p.iA 4) (S.I 4).length (p.ic 4), .slice (p.iA 5) (S.I 5).length (p.ic 5)] : List Value))) (L := UEV e9 A3 c3 B3 d3) hrow rfl rfl (uev_info _ _ _ _ _) (uev_one _ _ _ _ _) ?_ ?_ ?_; rfl; rfl; intro wa u7 r7
  have hMgd := hMg.drew
  have hMa : CM base g col wa (S.putE 0 e9) _ := hMgd.putE (s := 0) (by omega) u7 (hPE.below ((Below.refl _ _).drew)) r7
  have hWa : White col w wa := (hWg.stepU (fun _ _ _ => rfl) (White.below ((Below.refl _ _).drew))).stepU (fun _ _ _ => rfl) ((Only.upd u7 hMg.cg).white (by omega))
  have hCa : KeepC col col w.heap.size := fun _ _ _ => rfl
  have hPMa : Part col 0 wa (fun w => IsB w (some ⟨gm, 0, none⟩) bs.length bs) := (hPM.below ((Below.refl _ _).drew)).only (Only.upd u7 hMg.cg) (by omega)
  have hSZ : (CnS.putE S 0 e9).Z 1 = S.Z 1 := rfl
  rw [← hSZ] at hb1
  obtain ⟨Sa, hSa⟩ : ∃ s, CnS.putE S 0 e9 = s := ⟨_, rfl⟩
  rw [hSa] at hMa hb1
  have HSa := Lib.hid hSa
  clear hSa hSZ hrow r8 u7 r7 hMg hMgd hPM hPE hWg
  generalize ({ p with A := upd p.A 0 A3, c := upd p.c 0 c3, B := upd p.B 0 B3, d := upd p.d 0 d3 } : CnP) = pa at *
  obtain ⟨cola, hcola⟩ : ∃ c, col = c := ⟨_, rfl⟩
  have hMa : CM base g cola wa Sa pa := by rw [← hcola]; exact hMa
  have hCa : KeepC col cola w.heap.size := by rw [← hcola]; exact hCa
  have hPMa : Part cola 0 wa (fun w => IsB w (some ⟨gm, 0, none⟩) bs.length bs) := by rw [← hcola]; exact hPMa
  clear hcola
  have hlg := hMa.lt
  obtain ⟨vs, hvs, hms, hvcap⟩ := hMa.way 1 (by omega)
  obtain ⟨⟨z0, z1, i0, i1, i2, i3, i4, i5⟩, fz, e0, e1⟩ := hMa.cells
  go_upto_region 10 with (fail)
  have hMd := hMa.drew
  have hcg := hMa.cg
  have hlg : g < wa.drew.heap.size := hlg
  have hvq : OwnQ wa.drew 44 1 (pa.zA 1) (Sa.Z 1).length (pa.zc 1) vs := hvs.part.now
  have hms : MsgK cola wa.drew vs (Sa.Z 1) := hms
  have hPMa : Part cola 0 wa.drew (fun w => IsB w (some ⟨gm, 0, none⟩) bs.length bs) := hPMa.below ((Below.refl _ _).drew)
  have hal := (Below.refl wa.drew.heap.size wa.drew).alloc (Nat.le_refl _) (.cells #[.slice (some ⟨gm, 0, none⟩) bs.length bs.length] 44)
  have hMA := hMd.below hal
  clear z0 z1 i0 i1 i2 i3 i4 i5 fz e0 e1
  obtain ⟨⟨z0, z1, i0, i1, i2, i3, i4, i5⟩, fz, e0, e1⟩ := hMd.cells
  have hrowA : ∀ w9, (wa.drew.alloc (.cells #[.slice (some ⟨gm, 0, none⟩) bs.length bs.length] 44)).grownBy w9 (blk (pa.zA 1)) → Row w9 g 116 _ := fun w9 h3 => (h3.block g hMA.lt (fun e => by have h9 := hvs.blk g e.symm; have h8 := hcg; omega)).trans hMA.row.now
  have hWd : White col w wa.drew := hWa.stepU hCa (White.below ((Below.refl _ _).drew))
  have hszd : w.heap.size ≤ wa.drew.heap.size := hWd.size
  refine wp_region_late (n := 99) [11, 12, 16] (QS wa.drew g 13 44 1 (pa.zA 1) (Sa.Z 1).length (vs) (#[.slice (some ⟨gm, 0, none⟩) bs.length bs.length]) 11 12) (fun _ _ => True) (by kernel_rfl) (by kernel_rfl) (by rfl) QS.loc QS.zero ?_
  generalize wa.drew = wx at *
  iterate 9 (refine late_pure (by simp) (fun _ => trivial) (v := ?_) (fun _ => rfl) ?_ ?_; rotate_left; (focus (intro c9 us w9 hm9 hS9 hF; clear hF hm9; go_simp; (try with_reducible rfl); done)); simp only [Act.put, zA, zB, zC, Nat.reduceAdd])
  refine late_pure (by simp) (fun _ => trivial) (v := ?_) (fun _ => rfl) ?_ ?_; rotate_left; (focus (intro c9 us w9 hm9 hS9 hF; have hc9 : c9 < 2 := (by rcases Nat.lt_or_ge c9 2 with h9 | h9; exact h9; exact absurd hm9 (by rw [mayAt_no (d := 1) (by kernel_rfl) (by omega) (by decide)]; decide)); have bcell := ((hS9.early hc9).cell (p := ⟨g, 13, none⟩) hlg).trans z1; clear hF hm9; go_simp; (try with_reducible rfl); done)); simp only [Act.put, zA, zB, zC, Nat.reduceAdd]
  refine late_pure (by simp) (fun _ => trivial) (v := ?_) (fun _ => rfl) ?_ ?_; rotate_left; (focus (intro c9 us w9 hm9 hS9 hF; clear hF hm9; go_simp; (try with_reducible rfl); done)); simp only [Act.put, zA, zB, zC, Nat.reduceAdd]
  refine late_chain (by simp) ?_ ?_; (focus (intro us w9 hS9 hF K hK; clear hF; obtain rfl := hS9.1 rfl; go_simp; exact hK _ _ QS.one trivial)); simp only [Act.put, zA, zB, zC, Nat.reduceAdd]
  refine late_chain (by simp) ?_ ?_; (focus (intro us w9 hS9 hF K hK; clear hF; obtain ⟨hu, rfl⟩ := hS9.2.1 rfl; simp only [hu] at hK ⊢; rw [if_pos (by rfl)]; exact step_append_q (P := Try.prog) Try.underlying67 info_44u rfl (by omega) (hvq.of_same (fun b hb => hal.block b (hvq.lt b hb))) (Row.born _ _ _) rfl (by simp [Value.oneCell']) (by omega) (by omega) rfl rfl (fun A' c'' w' b h2 h3 h4 h5 => hK _ _ (QS.two h2 h3 h4 h5) trivial))); simp only [Act.put, zA, zB, zC, Nat.reduceAdd]
  iterate 3 (refine late_pure (by simp) (fun _ => trivial) (v := ?_) (fun _ => rfl) ?_ ?_; rotate_left; (focus (intro c9 us w9 hm9 hS9 hF; clear hF hm9; go_simp; (try with_reducible rfl); done)); simp only [Act.put, zA, zB, zC, Nat.reduceAdd])
  refine late_store rfl ?_ ?_; (focus (intro us w9 hS9 hF K hK; clear hF; obtain ⟨A', c', w2, b, hu, h2, h3, h4, h5, h6, -⟩ := hS9.2.2 (by omega); have h6 := h6 rfl; subst h6; simp only [hu] at hK ⊢; have hr9 := hrowA w9 h3; have k9 := hr9.cell 13; have f9 := hr9.frozen 13; simp only [CCell] at k9; have hS10 := hS9.three hu; go_simp; exact hK _ hS10 trivial)); simp only [Nat.reduceAdd]
  refine late_done fun us wy hS12 hF => ?_
  obtain ⟨A', c', w2, b, -, hq2, hg2, hbA, hbb, -, hw0⟩ := hS12.2.2 (by omega)
  have hwu9 := hw0 (by omega)
  clear hF hS12 hw0
  have hG : Grow g (2 + 1) b cola (wx.alloc (.cells #[.slice (some ⟨gm, 0, none⟩) bs.length bs.length] 44)) w2 wy (blk (pa.zA 1)) := ⟨hMA.lt, hcg, by omega, by omega, by omega, hg2, hvs.blk, hbb, hq2.lt b hbA, by rw [hwu9]; exact Upd.setCell _ _ _ _⟩
  have hr12 := (hrowA w2 hg2).set 13 (.slice A' ((Sa.Z 1).length + 1) c')
  rw [← hwu9] at hr12
  have hlen : (Sa.Z 1 ++ [bs]).length = (Sa.Z 1).length + 1 := by simp
  have hMy : CM base g (paint cola b (2 + 1)) wy (CnS.appZ Sa 1 (bs)) _ := hMA.appZ (s := 1) (by omega) hG (hms.below hal) hvcap (Nat.le_refl _) hq2 hbA (hPMa.below hal) (by
    unfold CCell
    simp only [upd, if_true, hlen]
    exact hr12)
  have hWy : White col w wy := (hWd.stepU hCa (White.below hal)).stepU hCa hG.white.1
  have hCy : KeepC col (paint cola b (2 + 1)) w.heap.size := fun x hx h0 => wtr (hG.white.2 x (Nat.lt_of_lt_of_le hx (Nat.le_trans hszd hal.size))) (hCa x hx h0) h0
  clear hPMa
  clear z0 z1 i0 i1 i2 i3 i4 i5 fz e0 e1
  clear hwu9 hG hr12 hrowA hMA hMd hvq hvs hg2 hq2 hWd hszd hal hlg hcg hlen hbA hbb hMa hWa hCa hms hvcap
  obtain ⟨Sy, hSy⟩ : ∃ s, CnS.appZ Sa 1 (bs) = s := ⟨_, rfl⟩
  rw [hSy] at hMy
  have HSy := Lib.hid hSy
  generalize paint cola b (2 + 1) = coly at *
  generalize ({ pa with zA := upd pa.zA 1 A', zc := upd pa.zc 1 c' } : CnP) = py at *
  go_wp2
  go_ret
  have h1 := HSy.out
  have h4 := HSa.out
  subst h4 h1
  exact ⟨rfl, coly, py, hMy, hWy, hCy⟩
set_option maxRecDepth 100000 in
set_option maxHeartbeats 8000000 in
theorem cn_rep_nil1 (base g : Nat) (col : Nat → Nat) (w : World) (S : CnS) (p : CnP) (hM : CM base g col w S p) (which : Int) (hl : (S.E 1).ss = []) : Calls Try.prog 69 #[.pointer (some ⟨g, 0, none⟩), .int .i64 1, .int .i64 which] w (CStep base g col w S) := by
  have hl0 : (S.E 1).ss.length = 0 := by rw [hl]; rfl
  have c0 : w.cell? ⟨g, 6, none⟩ = some (.int .i64 (S.E 1).cr) := hM.row.now.cell 6
  have c3 : w.cell? ⟨g, 9, none⟩ = some (.slice (p.A 1) (S.E 1).cs.length (p.c 1)) := hM.row.now.cell 9
  have c4 : w.cell? ⟨g, 10, none⟩ = some (.slice (p.B 1) (S.E 1).ss.length (p.d 1)) := hM.row.now.cell 10
  rw [hl0] at c4
  clear hl hl0
  go_enter Try.func69, Try.ntmps69
  go_wp2
  go_ret
  exact CStep.same hM (Below.refl _ _)
set_option maxRecDepth 100000 in
set_option maxHeartbeats 8000000 in
theorem cn_rep1 (base g : Nat) (col : Nat → Nat) (w : World) (S : CnS) (p : CnP) (hM : CM base g col w S p) (which : Int) {k m : Nat} {v : Int} (hk : which % ((S.E 1).ss.length : Int) = k) (hn : (S.E 1).ss[k]? = some ((m : Int) + 1)) (hv : (S.I 3)[m]? = some v) (v0 : 0 ≤ v) (v1 : v ≤ 65535) (hE : repE (S.E 1) ((m : Int) + 1) 0 (wdB v) = 0) (hcl : (S.E 1).cs.length ≤ 100) (hsl : (S.E 1).ss.length ≤ 100) (hb1 : (S.Z 0).length ≤ 100000) (hb2 : (S.I 3).length ≤ 100000) : Calls Try.prog 69 #[.pointer (some ⟨g, 0, none⟩), .int .i64 1, .int .i64 which] w (CStep base g col w ((S.putE 1 (repU (S.E 1) ((m : Int) + 1))).appZ 0 (rpM ((m : Int) + 1) 0 (wdB v)).by)) := by
  have HE := Lib.hid hE
  obtain ⟨bs, hbs⟩ : ∃ bs, (rpM ((m : Int) + 1) 0 (wdB v)).by = bs := ⟨_, rfl⟩
  obtain ⟨e9, he9⟩ : ∃ e9, repU (S.E 1) ((m : Int) + 1) = e9 := ⟨_, rfl⟩
  have HBS := Lib.hid hbs
  have HU := Lib.hid he9
  have h9c : e9.cs.length ≤ 1000 := by rw [← he9]; simp [repU]; omega
  have h9s : e9.ss.length ≤ 1000 := by rw [← he9]; simp [repU, List.length_eraseIdx]; split <;> omega
  rw [hbs, he9]
  have hkl := (List.getElem?_eq_some_iff.1 hn).1
  have hml := (List.getElem?_eq_some_iff.1 hv).1
  have HK := Lib.hid hk
  have dnil : (((S.E 1).ss.length : Int) == 0) = false := ef (by omega)
  have hki : (k : Int) < ((S.E 1).ss.length : Int) := by omega
  have hk0 : (0 : Int) ≤ (k : Int) := by omega
  have hmi : (m : Int) < ((S.I 3).length : Int) := by omega
  have hm0 : (0 : Int) ≤ (m : Int) := by omega
  have dm1 : decide ((m : Int) + 1 < 1) = false := decide_eq_false (by omega)
  have dm2 : decide (((S.I 3).length : Int) < (m : Int) + 1) = false := decide_eq_false (by omega)
  have hwm : IntKind.i64.wrap ((m : Int) + 1 - 1) = (m : Int) := by rw [IntKind.wrap_i64]; omega
  have hwm2 : IntKind.i64.wrap (m : Int) = (m : Int) := by rw [IntKind.wrap_i64]; omega
  have hwr : IntKind.i64.wrap 0 = 0 := by rw [IntKind.wrap_i64]; rfl
  have hH := (hM.held 1 (by omega)).now
  obtain ⟨bb, ob, hBb, hlbb, hcb⟩ := hH.b.at_ (by omega)
  have hcb : w.cell? ⟨bb, ob + k, none⟩ = some (.int .i64 ((m : Int) + 1)) := by
    have := hcb k hkl
    rwa [(List.getElem?_eq_some_iff.1 hn).2] at this
  obtain ⟨ba, oa, cura, hAa, hra, hca⟩ := (hM.ints 3 (by omega)).part.now.cells (by omega)
  have hca := hca m _ (iv_at hv)
  have hlga := hra.lt
  have c0 : w.cell? ⟨g, 6, none⟩ = some (.int .i64 (S.E 1).cr) := hM.row.now.cell 6
  have c3 : w.cell? ⟨g, 9, none⟩ = some (.slice (p.A 1) (S.E 1).cs.length (p.c 1)) := hM.row.now.cell 9
  have c4 : w.cell? ⟨g, 10, none⟩ = some (.slice (p.B 1) (S.E 1).ss.length (p.d 1)) := hM.row.now.cell 10
  have c4' := c4
  rw [hBb] at c4'
  have i3' : w.cell? ⟨g, 17, none⟩ = some (.slice (p.iA 3) (S.I 3).length (p.ic 3)) := hM.row.now.cell 17
  rw [hAa] at i3'
  have hlg := hM.lt
  have hlbs : 1 ≤ ((S.E 1).ss.length : Int) ∧ ((S.E 1).ss.length : Int) ≤ 4611686018427387904 := by omega
  clear hE hk hn hv hbs he9 hcl hsl hkl hml hra hBb hAa hH c0 c3 c4
  go_enter Try.func69, Try.ntmps69
  go_upto_region 3 with (fail)
  have hMw := hM.drew
  have hW0 : White col w w.drew := White.below ((Below.refl _ _).drew)
  have hlg : g < w.drew.heap.size := hlg
  have hlga : ba < w.drew.heap.size := hlga
  have hcb : w.drew.cell? ⟨bb, ob + k, none⟩ = some (.int .i64 ((m : Int) + 1)) := hcb
  have hca : w.drew.cell? ⟨ba, oa + m, none⟩ = some (.int .i64 v) := hca
  have c4' : w.drew.cell? ⟨g, 10, none⟩ = some (.slice (some ⟨bb, ob, none⟩) (S.E 1).ss.length (p.d 1)) := c4'
  have i3' : w.drew.cell? ⟨g, 17, none⟩ = some (.slice (some ⟨ba, oa, none⟩) (S.I 3).length (p.ic 3)) := i3'
  refine wp_region_told (n := 99) (fun w' => w' = w.drew) (fun _ _ => True) (by kernel_rfl) (by kernel_rfl) (by rfl) rfl ?_
  repeat (first | (refine walk_pure (v := ?_) (fun _ => trivial) (fun _ => rfl) ?_ ?_; rotate_left; (focus (intro us w9 hS9 hF; subst hS9; clear hF; go_simp; (try with_reducible rfl); done)); simp only [Act.put, zA, zB, zC, Nat.reduceAdd]) | (refine walk_skip (fun _ => trivial) (fun _ => rfl) ?_; simp only [Act.put, zA, zB, zC, Nat.reduceAdd]))
  refine walk_fix (v := .int .i64 (k : Int)) ?_ ?_; (focus (intro us w9 hS9 hF K hK; clear hF; subst hS9; go_simp; refine (place_is HK.out hlbs.1 hlbs.2 _).mono ?_; rintro e w' ⟨rfl, rfl⟩; exact hK _ rfl trivial)); simp only [Act.put, zA, zB, zC, Nat.reduceAdd]
  repeat (first | (refine walk_pure (v := ?_) (fun _ => trivial) (fun _ => rfl) ?_ ?_; rotate_left; (focus (intro us w9 hS9 hF; subst hS9; clear hF; go_simp; (try with_reducible rfl); done)); simp only [Act.put, zA, zB, zC, Nat.reduceAdd]) | (refine walk_skip (fun _ => trivial) (fun _ => rfl) ?_; simp only [Act.put, zA, zB, zC, Nat.reduceAdd]))
  refine walk_done fun us w9 hS9 hF => ?_
  subst hS9
  clear hF
  generalize w.drew = w1 at *
  clear c4' hcb
  go_upto_region 6 with (fail)
  have hMd := hMw.drew
  have hHd : HeldU w1.drew (S.E 1) (p.A 1) (p.c 1) (p.B 1) (p.d 1) := (hMd.held 1 (by omega)).now
  have hlgd : g < w1.drew.heap.size := hlg
  have hlga : ba < w1.drew.heap.size := hlga
  have hca : w1.drew.cell? ⟨ba, oa + m, none⟩ = some (.int .i64 v) := hca
  have i3' : w1.drew.cell? ⟨g, 17, none⟩ = some (.slice (some ⟨ba, oa, none⟩) (S.I 3).length (p.ic 3)) := i3'
  have hW1 : White col w w1.drew := hW0.stepU (fun _ _ _ => rfl) (White.below ((Below.refl _ _).drew))
  obtain ⟨-, fz, e0, e1⟩ := hMd.cells
  clear hW0 hlg hMw
  refine wp_region_late (n := 99) [24] (CaS w1.drew e9 23) G7 (by kernel_rfl) (by kernel_rfl) (by rfl) (CaS.loc (by kernel_rfl)) ⟨Below.refl _ _, fun h => by omega⟩ ?_
  generalize w1.drew = wd at *
  iterate 5 (refine late_pure (by simp) (fun w => G7.refl _) (v := ?_) (fun _ => rfl) ?_ ?_; rotate_left; (focus (intro c9 us w9 hm9 hS9 hF; clear hF hm9; go_simp; (try with_reducible rfl); done)); simp only [Act.put, zA, zB, zC, Nat.reduceAdd])
  refine late_pure (by simp) (fun w => G7.refl _) (v := .agg (UEV (S.E 1) (p.A 1) (p.c 1) (p.B 1) (p.d 1))) (fun _ => rfl) ?_ ?_; (focus (intro c9 us w9 hm9 hS9 hF; exact exec_load_g (fun j v hv => (hS9.1.cell (p := ⟨g, 6 + j, none⟩) hlgd).trans (e1 j v hv)) Try.underlying112 rfl (uev_info _ _ _ _ _) rfl)); simp only [Act.put, zA, zB, zC, Nat.reduceAdd]
  iterate 6 (refine late_pure (by simp) (fun w => G7.refl _) (v := ?_) (fun _ => rfl) ?_ ?_; rotate_left; (focus (intro c9 us w9 hm9 hS9 hF; clear hF hm9; go_simp; (try with_reducible rfl); done)); simp only [Act.put, zA, zB, zC, Nat.reduceAdd])
  refine late_pure (by simp) (fun w => G7.refl _) (v := ?_) (fun _ => rfl) ?_ ?_; rotate_left; (focus (intro c9 us w9 hm9 hS9 hF; have b1 := (hS9.1.cell (p := ⟨g, 17, none⟩) hlgd).trans i3'; clear hF hm9; go_simp; (try with_reducible rfl); done)); simp only [Act.put, zA, zB, zC, Nat.reduceAdd]
  iterate 3 (refine late_pure (by simp) (fun w => G7.refl _) (v := ?_) (fun _ => rfl) ?_ ?_; rotate_left; (focus (intro c9 us w9 hm9 hS9 hF; clear hF hm9; go_simp; (try with_reducible rfl); done)); simp only [Act.put, zA, zB, zC, Nat.reduceAdd])
  refine late_pure (by simp) (fun w => G7.refl _) (v := ?_) (fun _ => rfl) ?_ ?_; rotate_left; (focus (intro c9 us w9 hm9 hS9 hF; have b2 := (hS9.1.cell (p := ⟨ba, oa + m, none⟩) hlga).trans hca; clear hF hm9; go_simp; (try with_reducible rfl); done)); simp only [Act.put, zA, zB, zC, Nat.reduceAdd]
  refine late_free (by simp) (WdV wd.heap.size v) (WdV.mono) ?_ ?_; (focus (intro c9 us w9 hm9 hS9 hF K hK; have hc9 : c9 < 1 := (by rcases Nat.lt_or_ge c9 1 with h9 | h9; exact h9; exact absurd hm9 (by rw [mayAt_no (d := 0) (by kernel_rfl) (by omega) (by decide)]; decide)); clear hF; go_simp; refine (word_is v v0 v1 _).mono ?_; rintro en w' ⟨u, rfl, hu, hb⟩; exact hK u w' ⟨below_on hS9.1 hb, fun h => by omega⟩ (G7.below hb) (hu.lower hS9.1.size))); simp only [Act.put, zA, zB, zC, Nat.reduceAdd]
  refine late_free (by simp) (C3V wd.heap.size e9 bs) (C3V.mono) ?_ ?_; (focus (intro c9 us w9 hm9 hS9 hF K hK; have hc9 : c9 < 1 := (by rcases Nat.lt_or_ge c9 1 with h9 | h9; exact h9; exact absurd hm9 (by rw [mayAt_no (d := 0) (by kernel_rfl) (by omega) (by decide)]; decide)); obtain ⟨gw, hu, ho⟩ := hF (17, WdV wd.heap.size v) (by simp) (by kernel_rfl); clear hF; dsimp only at hu; simp only [hu] at hK ⊢; go_simp; refine (rep_wd HE.out HU.out HBS.out (hHd.below hS9.1) ho).mono ?_; rintro en w' ⟨u, rfl, hu, hb⟩; exact hK u w' ⟨below_on hS9.1 hb, fun h => by omega⟩ (G7.below hb) (hu.lower hS9.1.size))); simp only [Act.put, zA, zB, zC, Nat.reduceAdd]
  refine late_free (by simp) (C3V wd.heap.size e9 bs) (C3V.mono) ?_ ?_; (focus (intro c9 us w9 hm9 hS9 hF K hK; obtain ⟨A, c, B, d, gm, hu, h1, h2, h3⟩ := hF (18, C3V wd.heap.size e9 bs) (by simp) (by kernel_rfl); clear hF; dsimp only at hu; simp only [hu] at hK ⊢; go_simp; exact hK _ w9 hS9 (G7.refl _) ⟨A, c, B, d, gm, rfl, h1, h2, h3⟩)); simp only [Act.put, zA, zB, zC, Nat.reduceAdd]
  refine late_free (by simp) (EnV wd.heap.size e9) (EnV.mono) ?_ ?_; (focus (intro c9 us w9 hm9 hS9 hF K hK; obtain ⟨A, c, B, d, gm, hu, h1, h2, h3⟩ := hF (19, C3V wd.heap.size e9 bs) (by simp) (by kernel_rfl); clear hF; dsimp only at hu; simp only [hu] at hK ⊢; go_simp; exact hK _ w9 hS9 (G7.refl _) ⟨A, c, B, d, rfl, h1⟩)); simp only [Act.put, zA, zB, zC, Nat.reduceAdd]
  refine late_free (by simp) (MsV wd.heap.size bs) (MsV.mono) ?_ ?_; (focus (intro c9 us w9 hm9 hS9 hF K hK; obtain ⟨A, c, B, d, gm, hu, h1, h2, h3⟩ := hF (19, C3V wd.heap.size e9 bs) (by simp) (by kernel_rfl); clear hF; dsimp only at hu; simp only [hu] at hK ⊢; go_simp; exact hK _ w9 hS9 (G7.refl _) ⟨gm, rfl, h2, h3⟩)); simp only [Act.put, zA, zB, zC, Nat.reduceAdd]
  refine late_pure (by simp) (fun w => G7.refl _) (v := .int .i64 0) (fun _ => rfl) ?_ ?_; (focus (intro c9 us w9 hm9 hS9 hF; obtain ⟨A, c, B, d, gm, hu, -⟩ := hF (19, C3V wd.heap.size e9 bs) (by simp) (by kernel_rfl); dsimp only at hu; simp only [hu]; go_simp)); simp only [Act.put, zA, zB, zC, Nat.reduceAdd]
  refine late_free (by simp) (PtrU wd.heap.size) (PtrU.mono) ?_ ?_; (focus (intro c9 us w9 hm9 hS9 hF K hK; have hc9 : c9 < 1 := (by rcases Nat.lt_or_ge c9 1 with h9 | h9; exact h9; exact absurd hm9 (by rw [mayAt_no (d := 0) (by kernel_rfl) (by omega) (by decide)]; decide)); clear hF; go_simp; exact hK _ _ ⟨hS9.1.alloc hS9.1.size (.cells ZU 112), fun h => by omega⟩ (G7.below ((Below.refl _ _).alloc (Nat.le_refl _) _)) ⟨w9.heap.size, rfl, hS9.1.size, ue0, none, 0, none, 0, Row.born w9 112 ZU⟩)); simp only [Act.put, zA, zB, zC, Nat.reduceAdd]
  refine late_store rfl ?_ ?_; (focus (intro us w9 hS9 hF K hK; obtain ⟨A, c, B, d, hu9, h1⟩ := hF (20, EnV wd.heap.size e9) (by simp) (by kernel_rfl); obtain ⟨b3, hu, hb3, hur⟩ := hF (23, PtrU wd.heap.size) (by simp) (by kernel_rfl); dsimp only at hu9 hu; clear hF; simp only [hu9, hu] at hK ⊢; rw [if_pos (by rfl)]; obtain ⟨e3, A3, c3, B3, d3, hr⟩ := hur; exact step_put (L := UEV e9 A c B d) hr rfl (uev_info _ _ _ _ _) (uev_one _ _ _ _ _) rfl rfl (fun w' u' r' => hK w' ⟨Upd.below hS9.1 u' hb3, fun _ => ⟨b3, A, c, B, d, hu, hb3, r', h1.keeps (Keeps.upd (ts := [112]) u' hr (by simp)) (by decide)⟩⟩ (G7.put ⟨_, _, _, _, _, hr⟩ u' r')))); simp only [Nat.reduceAdd]
  refine late_free (by simp) (MsV wd.heap.size bs) (MsV.mono) ?_ ?_; (focus (intro c9 us w9 hm9 hS9 hF K hK; obtain ⟨gm, hu, h2⟩ := hF (21, MsV wd.heap.size bs) (by simp) (by kernel_rfl); clear hF; dsimp only at hu; simp only [hu] at hK ⊢; go_simp; exact hK _ w9 hS9 (G7.refl _) ⟨gm, rfl, h2⟩)); simp only [Act.put, zA, zB, zC, Nat.reduceAdd]
  refine late_pure (by simp) (fun w => G7.refl _) (v := ?_) (fun _ => rfl) ?_ ?_; rotate_left; (focus (intro c9 us w9 hm9 hS9 hF; clear hF hm9; go_simp; (try with_reducible rfl); done)); simp only [Act.put, zA, zB, zC, Nat.reduceAdd]
  refine late_done fun us wf hS8 hF => ?_
  obtain ⟨gm, hu18, hgm, hIm⟩ := hF (25, MsV wd.heap.size bs) (by simp)
  obtain ⟨g8, A3, c3, B3, d3, hu15, hg8, r8, hU8⟩ := hS8.2 (by omega)
  have hbf := hS8.1
  clear hF hS8
  dsimp only at hu15 hu18
  simp only [hu15, hu18]
  clear hu15 hu18
  have hMg := hMd.below hbf
  have hWg : White col w wf := hW1.stepU (fun _ _ _ => rfl) (White.below hbf)
  have hPE : Part col 0 wf (fun w => HeldU w e9 A3 c3 B3 d3) := Part.ownU hU8 (fun x h1 => hMd.cn x h1) h9c h9s
  have hPM : Part col 0 wf (fun w => IsB w (some ⟨gm, 0, none⟩) bs.length bs) := Part.msgU hIm (hMd.cn gm hgm)
  clear hHd hlgd hlga hca i3' hU8 hIm hbf fz e0 e1 hW1
  obtain ⟨⟨z0, z1, i0, i1, i2, i3, i4, i5⟩, fz, e0, e1⟩ := hMg.cells
  go_upto_region 9 with (fail)
  clear z0 z1 i0 i1 i2 i3 i4 i5 fz e0 e1
  have hrow : Row wf.drew g 116 ((UEV (S.E 0) (p.A 0) (p.c 0) (p.B 0) (p.d 0)).toList ++ (UEV (S.E 1) (p.A 1) (p.c 1) (p.B 1) (p.d 1)).toList ++ ([.slice (p.zA 0) (S.Z 0).length (p.zc 0), .slice (p.zA 1) (S.Z 1).length (p.zc 1), .slice (p.iA 0) (S.I 0).length (p.ic 0), .slice (p.iA 1) (S.I 1).length (p.ic 1), .slice (p.iA 2) (S.I 2).length (p.ic 2), .slice (p.iA 3) (S.I 3).length (p.ic 3), .slice (p.iA 4) (S.I 4).length (p.ic 4), .slice (p.iA 5) (S.I 5).length (p.ic 5)] : List Value)).toArray := hMg.row.now
  have r8 : Row wf.drew g8 112 (UEV e9 A3 c3 B3 d3) := r8
  refine wp_region_tailN (n := 99) 6 (fun w' => w' = wf.drew) (fun _ _ => True) (by kernel_rfl) (by kernel_rfl) (by decide) (by rfl) rfl ?_
  simp only [List.take_succ_cons, List.take_zero, List.drop_succ_cons, List.drop_zero]
  iterate 2 (refine tail_pure (fun w => trivial) (v := ?_) (fun _ => rfl) ?_ ?_; rotate_left; (focus (intro us w9 hS9 hF; clear hF; subst hS9; go_simp; (try with_reducible rfl); done)); simp only [Act.put, zA, zB, zC, Nat.reduceAdd])
  refine tail_pure (fun w => trivial) (v := .agg (UEV e9 A3 c3 B3 d3)) (fun _ => rfl) ?_ ?_; (focus (intro us w9 hS9 hF; clear hF; subst hS9; exact exec_load_g r8.range Try.underlying112 rfl (uev_info _ _ _ _ _) rfl)); simp only [Act.put, zA, zB, zC, Nat.reduceAdd]
  iterate 3 (refine tail_pure (fun w => trivial) (v := ?_) (fun _ => rfl) ?_ ?_; rotate_left; (focus (intro us w9 hS9 hF; clear hF; subst hS9; go_simp; (try with_reducible rfl); done)); simp only [Act.put, zA, zB, zC, Nat.reduceAdd])
  refine tail_done fun us w7 hS7 hF => ?_
  subst hS7
  clear hF
  refine wp_put_midU (g := g) (t := 116) (off := 6) (pre := (UEV (S.E 0) (p.A 0) (p.c 0) (p.B 0) (p.d 0)).toList) (cs := (UEV (S.E 1) (p.A 1) (p.c 1) (p.B 1) (p.d 1)).toList) (post := ([.slice (p.zA 0) (S.Z 0).length (p.zc 0), .slice (p.zA 1) (S.Z 1).length (p.zc 1), .slice (p.iA 0) (S.I 0).length (p.ic 0), .slice (p.iA 1) (S.I 1).length (p.ic 1), .slice (p.iA 2) (S.I 2).length (p.ic 2), .slice (p.iA 3) (S.I 3).length (p.ic 3), .slice (p.iA 4) (S.I 4).length (p.ic 4), .slice (p.iA 5) (S.I 5).length (p.ic 5)] : List Value)) (L := UEV e9 A3 c3 B3 d3) hrow rfl rfl (uev_info _ _ _ _ _) (uev_one _ _ _ _ _) ?_ ?_ ?_; rfl; rfl; intro wa u7 r7
  have hMgd := hMg.drew
  have hMa : CM base g col wa (S.putE 1 e9) _ := hMgd.putE (s := 1) (by omega) u7 (hPE.below ((Below.refl _ _).drew)) r7
  have hWa : White col w wa := (hWg.stepU (fun _ _ _ => rfl) (White.below ((Below.refl _ _).drew))).stepU (fun _ _ _ => rfl) ((Only.upd u7 hMg.cg).white (by omega))
  have hCa : KeepC col col w.heap.size := fun _ _ _ => rfl
  have hPMa : Part col 0 wa (fun w => IsB w (some ⟨gm, 0, none⟩) bs.length bs) := (hPM.below ((Below.refl _ _).drew)).only (Only.upd u7 hMg.cg) (by omega)
  have hSZ : (CnS.putE S 1 e9).Z 0 = S.Z 0 := rfl
  rw [← hSZ] at hb1
  obtain ⟨Sa, hSa⟩ : ∃ s, CnS.putE S 1 e9 = s := ⟨_, rfl⟩
  rw [hSa] at hMa hb1
  have HSa := Lib.hid hSa
  clear hSa hSZ hrow r8 u7 r7 hMg hMgd hPM hPE hWg
  generalize ({ p with A := upd p.A 1 A3, c := upd p.c 1 c3, B := upd p.B 1 B3, d := upd p.d 1 d3 } : CnP) = pa at *
  obtain ⟨cola, hcola⟩ : ∃ c, col = c := ⟨_, rfl⟩
  have hMa : CM base g cola wa Sa pa := by rw [← hcola]; exact hMa
  have hCa : KeepC col cola w.heap.size := by rw [← hcola]; exact hCa
  have hPMa : Part cola 0 wa (fun w => IsB w (some ⟨gm, 0, none⟩) bs.length bs) := by rw [← hcola]; exact hPMa
  clear hcola
  have hlg := hMa.lt
  obtain ⟨vs, hvs, hms, hvcap⟩ := hMa.way 0 (by omega)
  obtain ⟨⟨z0, z1, i0, i1, i2, i3, i4, i5⟩, fz, e0, e1⟩ := hMa.cells
  go_upto_region 10 with (fail)
  have hMd := hMa.drew
  have hcg := hMa.cg
  have hlg : g < wa.drew.heap.size := hlg
  have hvq : OwnQ wa.drew 44 1 (pa.zA 0) (Sa.Z 0).length (pa.zc 0) vs := hvs.part.now
  have hms : MsgK cola wa.drew vs (Sa.Z 0) := hms
  have hPMa : Part cola 0 wa.drew (fun w => IsB w (some ⟨gm, 0, none⟩) bs.length bs) := hPMa.below ((Below.refl _ _).drew)
  have hal := (Below.refl wa.drew.heap.size wa.drew).alloc (Nat.le_refl _) (.cells #[.slice (some ⟨gm, 0, none⟩) bs.length bs.length] 44)
  have hMA := hMd.below hal
  clear z0 z1 i0 i1 i2 i3 i4 i5 fz e0 e1
  obtain ⟨⟨z0, z1, i0, i1, i2, i3, i4, i5⟩, fz, e0, e1⟩ := hMd.cells
  have hrowA : ∀ w9, (wa.drew.alloc (.cells #[.slice (some ⟨gm, 0, none⟩) bs.length bs.length] 44)).grownBy w9 (blk (pa.zA 0)) → Row w9 g 116 _ := fun w9 h3 => (h3.block g hMA.lt (fun e => by have h9 := hvs.blk g e.symm; have h8 := hcg; omega)).trans hMA.row.now
  have hWd : White col w wa.drew := hWa.stepU hCa (White.below ((Below.refl _ _).drew))
  have hszd : w.heap.size ≤ wa.drew.heap.size := hWd.size
  refine wp_region_late (n := 99) [11, 12, 16] (QS wa.drew g 12 44 1 (pa.zA 0) (Sa.Z 0).length (vs) (#[.slice (some ⟨gm, 0, none⟩) bs.length bs.length]) 11 12) (fun _ _ => True) (by kernel_rfl) (by kernel_rfl) (by rfl) QS.loc QS.zero ?_
  generalize wa.drew = wx at *
  iterate 9 (refine late_pure (by simp) (fun _ => trivial) (v := ?_) (fun _ => rfl) ?_ ?_; rotate_left; (focus (intro c9 us w9 hm9 hS9 hF; clear hF hm9; go_simp; (try with_reducible rfl); done)); simp only [Act.put, zA, zB, zC, Nat.reduceAdd])
  refine late_pure (by simp) (fun _ => trivial) (v := ?_) (fun _ => rfl) ?_ ?_; rotate_left; (focus (intro c9 us w9 hm9 hS9 hF; have hc9 : c9 < 2 := (by rcases Nat.lt_or_ge c9 2 with h9 | h9; exact h9; exact absurd hm9 (by rw [mayAt_no (d := 1) (by kernel_rfl) (by omega) (by decide)]; decide)); have bcell := ((hS9.early hc9).cell (p := ⟨g, 12, none⟩) hlg).trans z0; clear hF hm9; go_simp; (try with_reducible rfl); done)); simp only [Act.put, zA, zB, zC, Nat.reduceAdd]
  refine late_pure (by simp) (fun _ => trivial) (v := ?_) (fun _ => rfl) ?_ ?_; rotate_left; (focus (intro c9 us w9 hm9 hS9 hF; clear hF hm9; go_simp; (try with_reducible rfl); done)); simp only [Act.put, zA, zB, zC, Nat.reduceAdd]
  refine late_chain (by simp) ?_ ?_; (focus (intro us w9 hS9 hF K hK; clear hF; obtain rfl := hS9.1 rfl; go_simp; exact hK _ _ QS.one trivial)); simp only [Act.put, zA, zB, zC, Nat.reduceAdd]
  refine late_chain (by simp) ?_ ?_; (focus (intro us w9 hS9 hF K hK; clear hF; obtain ⟨hu, rfl⟩ := hS9.2.1 rfl; simp only [hu] at hK ⊢; rw [if_pos (by rfl)]; exact step_append_q (P := Try.prog) Try.underlying67 info_44u rfl (by omega) (hvq.of_same (fun b hb => hal.block b (hvq.lt b hb))) (Row.born _ _ _) rfl (by simp [Value.oneCell']) (by omega) (by omega) rfl rfl (fun A' c'' w' b h2 h3 h4 h5 => hK _ _ (QS.two h2 h3 h4 h5) trivial))); simp only [Act.put, zA, zB, zC, Nat.reduceAdd]
  iterate 3 (refine late_pure (by simp) (fun _ => trivial) (v := ?_) (fun _ => rfl) ?_ ?_; rotate_left; (focus (intro c9 us w9 hm9 hS9 hF; clear hF hm9; go_simp; (try with_reducible rfl); done)); simp only [Act.put, zA, zB, zC, Nat.reduceAdd])
  refine late_store rfl ?_ ?_; (focus (intro us w9 hS9 hF K hK; clear hF; obtain ⟨A', c', w2, b, hu, h2, h3, h4, h5, h6, -⟩ := hS9.2.2 (by omega); have h6 := h6 rfl; subst h6; simp only [hu] at hK ⊢; have hr9 := hrowA w9 h3; have k9 := hr9.cell 12; have f9 := hr9.frozen 12; simp only [CCell] at k9; have hS10 := hS9.three hu; go_simp; exact hK _ hS10 trivial)); simp only [Nat.reduceAdd]
  refine late_done fun us wy hS12 hF => ?_
  obtain ⟨A', c', w2, b, -, hq2, hg2, hbA, hbb, -, hw0⟩ := hS12.2.2 (by omega)
  have hwu9 := hw0 (by omega)
  clear hF hS12 hw0
  have hG : Grow g (2 + 0) b cola (wx.alloc (.cells #[.slice (some ⟨gm, 0, none⟩) bs.length bs.length] 44)) w2 wy (blk (pa.zA 0)) := ⟨hMA.lt, hcg, by omega, by omega, by omega, hg2, hvs.blk, hbb, hq2.lt b hbA, by rw [hwu9]; exact Upd.setCell _ _ _ _⟩
  have hr12 := (hrowA w2 hg2).set 12 (.slice A' ((Sa.Z 0).length + 1) c')
  rw [← hwu9] at hr12
  have hlen : (Sa.Z 0 ++ [bs]).length = (Sa.Z 0).length + 1 := by simp
  have hMy : CM base g (paint cola b (2 + 0)) wy (CnS.appZ Sa 0 (bs)) _ := hMA.appZ (s := 0) (by omega) hG (hms.below hal) hvcap (Nat.le_refl _) hq2 hbA (hPMa.below hal) (by
    unfold CCell
    simp only [upd, if_true, hlen]
    exact hr12)
  have hWy : White col w wy := (hWd.stepU hCa (White.below hal)).stepU hCa hG.white.1
  have hCy : KeepC col (paint cola b (2 + 0)) w.heap.size := fun x hx h0 => wtr (hG.white.2 x (Nat.lt_of_lt_of_le hx (Nat.le_trans hszd hal.size))) (hCa x hx h0) h0
  clear hPMa
  clear z0 z1 i0 i1 i2 i3 i4 i5 fz e0 e1
  clear hwu9 hG hr12 hrowA hMA hMd hvq hvs hg2 hq2 hWd hszd hal hlg hcg hlen hbA hbb hMa hWa hCa hms hvcap
  obtain ⟨Sy, hSy⟩ : ∃ s, CnS.appZ Sa 0 (bs) = s := ⟨_, rfl⟩
  rw [hSy] at hMy
  have HSy := Lib.hid hSy
  generalize paint cola b (2 + 0) = coly at *
  generalize ({ pa with zA := upd pa.zA 0 A', zc := upd pa.zc 0 c' } : CnP) = py at *
  go_wp2
  go_ret
  have h1 := HSy.out
  have h4 := HSa.out
  subst h4 h1
  exact ⟨rfl, coly, py, hMy, hWy, hCy⟩
end
end Go.Proofs.Ythjkhambmgepdaa
