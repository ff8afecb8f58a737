/- Texts Vv, without what this claim does not use. -/
import Derived.Test.YthjkhambmgepdaaQan
namespace Go.Proofs.Ythjkhambmgepdaa
section
open Go.RowKit
set_option linter.unusedVariables false
set_option linter.unusedSimpArgs false
theorem number_v {A : Option Addr} {n c : Nat} {b : List UInt8} {v : Int} {W : World} (h : wdN b = v) (hA : IsB W A n b) : Calls Try.prog 133 #[.slice A n c] W (fun en W' => en = .returned (.int .i64 v) ∧ Below W.heap.size W W') := by
  rw [← h]
  exact number_is A n c b W hA
theorem rcv_at {e e9 : UE} {m : RM} {A B : Option Addr} {c d : Nat} {D : Option Addr} {n dc : Nat} {ms : List UInt8} {W : World} (h0 : rcvE e ms = 0) (hU : rcvU e ms = e9) (hm : dM ms = m) (hH : HeldU W e A c B d) (hD : IsB W D n ms) (hDn : n ≤ 1000000) (hDc : n ≤ dc) :
    Calls Try.prog 78 #[.agg (UEV e A c B d), .slice D n dc] W (fun en W' => ∃ A c B d A' c', en = .returned (.tuple #[.agg (UEV e9 A c B d), .agg (RMV m A' c'), .int .i64 0]) ∧ OwnU W' W.heap.size e9 A c B d ∧ OwnB W' W.heap.size 5 A' m.b.length c' m.b ∧ Below W.heap.size W W') := rcv_is h0 hU hm hH hD hDn hDc
theorem Part.bodyU {col : Nat → Nat} {w : World} {lo : Nat} {A : Option Addr} {n c : Nat} {bs : List UInt8} (h : OwnB w lo 5 A n c bs) (hc : ∀ x, lo ≤ x → col x = 0) : Part col 0 w (fun w => IsB w A n bs) := fun w' hs hk =>
  h.isB.of_same fun b o e h0 => by
    obtain ⟨g, hA, hg, hl⟩ := OwnV.form (size := 1) h h0
    rw [hA] at e
    injection e with e
    injection e with e1 e2 e3
    subst e1
    exact hk _ hl (hc _ hg)
set_option maxRecDepth 100000 in
set_option maxHeartbeats 8000000 in
theorem cn_take_req0 (base g : Nat) (col : Nat → Nat) (w : World) (S : CnS) (p : CnP) (hM : CM base g col w S p) {D : Option Addr} {dc : Nat} {ms : List UInt8} {L : Nat} {v er : Int} {bd : List UInt8} (hI : Part col 0 w (fun w => IsB w D ms.length ms)) (hn : ms.length ≤ 1000000) (hdc : ms.length ≤ dc) (hE : rcvE (S.E 0) ms = 0) (hm : dM ms = ⟨1, (L : Int) + 1, v, er, bd⟩) (hL : (S.I 2).length = L) (hv : (S.I 1)[L]? = some v) (hw : wdN bd = v) (h9c : (rcvU (S.E 0) ms).cs.length ≤ 1000) (h9s : (rcvU (S.E 0) ms).ss.length ≤ 1000) (hb2 : ∀ i, (S.I i).length ≤ 100000) : Calls Try.prog 87 #[.pointer (some ⟨g, 0, none⟩), .int .i64 0, .slice D ms.length dc] w (CStep base g col w ((S.putE 0 (rcvU (S.E 0) ms)).appI 2 v)) := by
  have HE := Lib.hid hE
  have HM := Lib.hid hm
  have HW := Lib.hid hw
  have HV := Lib.hid hv
  obtain ⟨e9, he9⟩ : ∃ e9, rcvU (S.E 0) ms = e9 := ⟨_, rfl⟩
  have HU := Lib.hid he9
  rw [he9] at h9c h9s ⊢
  have hH := (hM.held 0 (by omega)).now
  have hIw := hI.now
  have hlg := hM.lt
  have HL := Lib.hid hL
  have hLv := (List.getElem?_eq_some_iff.1 hv).1
  have hb2a := hb2 2
  have hb2o := hb2 1
  clear hE hm hw hv he9 hL
  obtain ⟨⟨z0, z1, i0, i1, i2, i3, i4, i5⟩, fz, e0, e1⟩ := hM.cells
  go_enter Try.func87, Try.ntmps87
  go_upto_region 2 with (first | ((with_reducible refine wp_load_g ?_ e0 Try.underlying112 rfl (uev_info _ _ _ _ _) ?_ ?_); rfl; rfl) | (go_at_call 78; (with_reducible refine (rcv_at HE.out HU.out HM.out hH hIw hn hdc).mono ?_); rintro en w3 ⟨A3, c3, B3, d3, A8, c8, rfl, ho3, hm3, hb3⟩) | ((with_reducible refine wp_row_store (L := UEV e9 A3 c3 B3 d3) ((Row.bornAt' (g := w3.heap.size) rfl 112 _).alloc _) ?_ (uev_info _ _ _ _ _) (uev_one _ _ _ _ _) ?_ ?_ ?_); rfl; rfl; rfl; intro w4 u4 r8) | ((with_reducible refine wp_row_store (L := RMV ⟨1, (L : Int) + 1, v, er, bd⟩ A8 c8) ((Row.bornAt' (g := w3.heap.size + 1) (by simp) 97 _).upd u4 (by omega)) ?_ (rmv_info _ _ _) (rmv_one _ _ _) ?_ ?_ ?_); rfl; rfl; rfl; intro w5 u5 r9))
  clear z0 z1 i0 i1 i2 i3 i4 i5 fz e0 e1
  have hal := ((Below.refl w3.heap.size w3).alloc (Nat.le_refl _) (.cells ZU 112)).alloc (by simp) (.cells ZRm 97)
  have hal2 := Upd.below (Upd.below hal u4 (Nat.le_refl _)) u5 (by omega)
  have hB5 := hb3.trans (hal2.mono hb3.size)
  have r8 := r8.upd u5 (by omega)
  have hMg := hM.below hB5
  have hWg : White col w w5 := White.below hB5
  have hlo := hb3.size
  have hPE : Part col 0 w5 (fun w => HeldU w e9 A3 c3 B3 d3) := (Part.ownU ho3 (fun x h1 => hM.cn x h1) h9c h9s).below hal2
  have hPB : Part col 0 w5 (fun w => IsB w A8 bd.length bd) := (Part.bodyU hm3 (fun x h1 => hM.cn x h1)).below hal2
  have hPR : Part col 0 w5 (fun w => Row w (w3.heap.size + 1) 97 (RMV ⟨1, (L : Int) + 1, v, er, bd⟩ A8 c8)) := Part.row r9 (hM.cn _ (by omega))
  clear hal hal2 hB5 u4 u5 hb3 ho3 hm3 hIw hH hI r9 hlg h9c h9s
  generalize w3.heap.size + 1 = g9 at *
  obtain ⟨⟨z0, z1, i0, i1, i2, i3, i4, i5⟩, fz, e0, e1⟩ := hMg.cells
  go_upto_region 4 with (fail)
  clear z0 z1 i0 i1 i2 i3 i4 i5 fz e0 e1
  have hrow : Row w5.drew g 116 (([] : List Value) ++ (UEV (S.E 0) (p.A 0) (p.c 0) (p.B 0) (p.d 0)).toList ++ ((UEV (S.E 1) (p.A 1) (p.c 1) (p.B 1) (p.d 1)).toList ++ ([.slice (p.zA 0) (S.Z 0).length (p.zc 0), .slice (p.zA 1) (S.Z 1).length (p.zc 1), .slice (p.iA 0) (S.I 0).length (p.ic 0), .slice (p.iA 1) (S.I 1).length (p.ic 1), .slice (p.iA 2) (S.I 2).length (p.ic 2), .slice (p.iA 3) (S.I 3).length (p.ic 3), .slice (p.iA 4) (S.I 4).length (p.ic 4), .slice (p.iA 5) (S.I 5).length (p.ic 5)] : List Value))).toArray := hMg.row.now
  have r8 : Row w5.drew w3.heap.size 112 (UEV e9 A3 c3 B3 d3) := r8
  refine wp_region_tailN (n := 154) 6 (fun w' => w' = w5.drew) (fun _ _ => True) (by kernel_rfl) (by kernel_rfl) (by decide) (by rfl) rfl ?_
  simp only [List.take_succ_cons, List.take_zero, List.drop_succ_cons, List.drop_zero]
  iterate 2 (refine tail_pure (fun w => trivial) (v := ?_) (fun _ => rfl) ?_ ?_; rotate_left; (focus (intro us w9 hS9 hF; clear hF; subst hS9; go_simp; (try with_reducible rfl); done)); simp only [Act.put, zA, zB, zC, Nat.reduceAdd])
  refine tail_pure (fun w => trivial) (v := .agg (UEV e9 A3 c3 B3 d3)) (fun _ => rfl) ?_ ?_; (focus (intro us w9 hS9 hF; clear hF; subst hS9; exact exec_load_g r8.range Try.underlying112 rfl (uev_info _ _ _ _ _) rfl)); simp only [Act.put, zA, zB, zC, Nat.reduceAdd]
  iterate 3 (refine tail_pure (fun w => trivial) (v := ?_) (fun _ => rfl) ?_ ?_; rotate_left; (focus (intro us w9 hS9 hF; clear hF; subst hS9; go_simp; (try with_reducible rfl); done)); simp only [Act.put, zA, zB, zC, Nat.reduceAdd])
  refine tail_done fun us w7 hS7 hF => ?_
  subst hS7
  clear hF
  refine wp_put_midU (g := g) (t := 116) (off := 0) (pre := ([] : List Value)) (cs := (UEV (S.E 0) (p.A 0) (p.c 0) (p.B 0) (p.d 0)).toList) (post := ((UEV (S.E 1) (p.A 1) (p.c 1) (p.B 1) (p.d 1)).toList ++ ([.slice (p.zA 0) (S.Z 0).length (p.zc 0), .slice (p.zA 1) (S.Z 1).length (p.zc 1), .slice (p.iA 0) (S.I 0).length (p.ic 0), .slice (p.iA 1) (S.I 1).length (p.ic 1), .slice (p.iA 2) (S.I 2).length (p.ic 2), .slice (p.iA 3) (S.I 3).length (p.ic 3), .slice (p.iA 4) (S.I 4).length (p.ic 4), .slice (p.iA 5) (S.I 5).length (p.ic 5)] : List Value))) (L := UEV e9 A3 c3 B3 d3) hrow rfl rfl (uev_info _ _ _ _ _) (uev_one _ _ _ _ _) ?_ ?_ ?_; rfl; rfl; intro wa u7 r7
  have hMgd := hMg.drew
  have hMa : CM base g col wa (S.putE 0 e9) _ := hMgd.putE (s := 0) (by omega) u7 (hPE.below ((Below.refl _ _).drew)) r7
  have hWa : White col w wa := (hWg.stepU (fun _ _ _ => rfl) (White.below ((Below.refl _ _).drew))).stepU (fun _ _ _ => rfl) ((Only.upd u7 hMg.cg).white (by omega))
  have hCa : KeepC col col w.heap.size := fun _ _ _ => rfl
  have hPBa : Part col 0 wa (fun w => IsB w A8 bd.length bd) := (hPB.below ((Below.refl _ _).drew)).only (Only.upd u7 hMg.cg) (by omega)
  have hPRa : Part col 0 wa (fun w => Row w g9 97 (RMV ⟨1, (L : Int) + 1, v, er, bd⟩ A8 c8)) := (hPR.below ((Below.refl _ _).drew)).only (Only.upd u7 hMg.cg) (by omega)
  have hSI : (CnS.putE S 0 e9).I = S.I := rfl
  obtain ⟨Sa, hSa⟩ : ∃ s, CnS.putE S 0 e9 = s := ⟨_, rfl⟩
  rw [hSa] at hMa hSI
  have HSI := Lib.hid hSI
  have HSa := Lib.hid hSa
  rw [← hSI] at hb2a hb2o hLv HL HV
  clear hSa hSI hrow r8 u7 r7 hMg hMgd hPB hPR hPE hWg hb2 hM
  generalize ({ p with A := upd p.A 0 A3, c := upd p.c 0 c3, B := upd p.B 0 B3, d := upd p.d 0 d3 } : CnP) = pa at *
  obtain ⟨cola, hcola⟩ : ∃ c, col = c := ⟨_, rfl⟩
  have hMa : CM base g cola wa Sa pa := by rw [← hcola]; exact hMa
  have hCa : KeepC col cola w.heap.size := by rw [← hcola]; exact hCa
  have hPBa : Part cola 0 wa (fun w => IsB w A8 bd.length bd) := by rw [← hcola]; exact hPBa
  have hPRa : Part cola 0 wa (fun w => Row w g9 97 (RMV ⟨1, (L : Int) + 1, v, er, bd⟩ A8 c8)) := by rw [← hcola]; exact hPRa
  clear hcola
  have m0 : wa.cell? ⟨g9, 0, none⟩ = some (.int .i64 1) := hPRa.now.cell 0
  have hlg := hMa.lt
  have hvs := hMa.ints 2 (by omega)
  obtain ⟨⟨z0, z1, i0, i1, i2, i3, i4, i5⟩, fz, e0, e1⟩ := hMa.cells
  go_upto_region 6 with (fail)
  have hMd := hMa.drew
  have hcg := hMa.cg
  have hlg : g < wa.drew.heap.size := hlg
  have hvq : OwnQ wa.drew 3 1 (pa.iA 2) (Sa.I 2).length (pa.ic 2) ((Sa.I 2).map iv) := hvs.part.now
  have m2 : wa.drew.cell? ⟨g9, 2, none⟩ = some (.int .i64 v) := hPRa.now.cell 2
  have hPBa : Part cola 0 wa.drew (fun w => IsB w A8 bd.length bd) := hPBa.below ((Below.refl _ _).drew)
  have hPRa : Part cola 0 wa.drew (fun w => Row w g9 97 (RMV ⟨1, (L : Int) + 1, v, er, bd⟩ A8 c8)) := hPRa.below ((Below.refl _ _).drew)
  have hal := (Below.refl wa.drew.heap.size wa.drew).alloc (Nat.le_refl _) (.cells #[.int .i64 v] 3)
  have hMA := hMd.below hal
  clear z0 z1 i0 i1 i2 i3 i4 i5 fz e0 e1
  obtain ⟨⟨z0, z1, i0, i1, i2, i3, i4, i5⟩, fz, e0, e1⟩ := hMd.cells
  have hrowA : ∀ w9, (wa.drew.alloc (.cells #[.int .i64 v] 3)).grownBy w9 (blk (pa.iA 2)) → Row w9 g 116 _ := fun w9 h3 => (h3.block g hMA.lt (fun e => by have h9 := hvs.blk g e.symm; have h8 := hcg; omega)).trans hMA.row.now
  have hWd : White col w wa.drew := hWa.stepU hCa (White.below ((Below.refl _ _).drew))
  have hszd : w.heap.size ≤ wa.drew.heap.size := hWd.size
  refine wp_region_late (n := 154) [10, 11, 15] (QS wa.drew g 16 3 1 (pa.iA 2) (Sa.I 2).length (((Sa.I 2).map iv)) (#[.int .i64 v]) 10 11) (fun _ _ => True) (by kernel_rfl) (by kernel_rfl) (by rfl) QS.loc QS.zero ?_
  generalize wa.drew = wx at *
  iterate 7 (refine late_pure (by simp) (fun _ => trivial) (v := ?_) (fun _ => rfl) ?_ ?_; rotate_left; (focus (intro c9 us w9 hm9 hS9 hF; clear hF hm9; go_simp; (try with_reducible rfl); done)); simp only [Act.put, zA, zB, zC, Nat.reduceAdd])
  refine late_pure (by simp) (fun _ => trivial) (v := ?_) (fun _ => rfl) ?_ ?_; rotate_left; (focus (intro c9 us w9 hm9 hS9 hF; have hc9 : c9 < 2 := (by rcases Nat.lt_or_ge c9 2 with h9 | h9; exact h9; exact absurd hm9 (by rw [mayAt_no (d := 1) (by kernel_rfl) (by omega) (by decide)]; decide)); have bcell := ((hS9.early hc9).cell (p := ⟨g, 16, none⟩) hlg).trans i2; clear hF hm9; go_simp; (try with_reducible rfl); done)); simp only [Act.put, zA, zB, zC, Nat.reduceAdd]
  refine late_pure (by simp) (fun _ => trivial) (v := ?_) (fun _ => rfl) ?_ ?_; rotate_left; (focus (intro c9 us w9 hm9 hS9 hF; clear hF hm9; go_simp; (try with_reducible rfl); done)); simp only [Act.put, zA, zB, zC, Nat.reduceAdd]
  refine late_pure (by simp) (fun _ => trivial) (v := .int .i64 v) (fun _ => rfl) ?_ ?_; (focus (intro c9 us w9 hm9 hS9 hF; have hc9 : c9 < 1 := (by rcases Nat.lt_or_ge c9 1 with h9 | h9; exact h9; exact absurd hm9 (by rw [mayAt_no (d := 0) (by kernel_rfl) (by omega) (by decide)]; decide)); have h0 : c9 = 0 := (by omega); have hw9 := hS9.1 h0; subst hw9; go_simp)); simp only [Act.put, zA, zB, zC, Nat.reduceAdd]
  refine late_chain (by simp) ?_ ?_; (focus (intro us w9 hS9 hF K hK; clear hF; obtain rfl := hS9.1 rfl; go_simp; exact hK _ _ QS.one trivial)); simp only [Act.put, zA, zB, zC, Nat.reduceAdd]
  refine late_chain (by simp) ?_ ?_; (focus (intro us w9 hS9 hF K hK; clear hF; obtain ⟨hu, rfl⟩ := hS9.2.1 rfl; simp only [hu] at hK ⊢; rw [if_pos (by rfl)]; exact step_append_q (P := Try.prog) Try.underlying52 info_n rfl (by omega) (hvq.of_same (fun b hb => hal.block b (hvq.lt b hb))) (Row.born _ _ _) rfl (by simp [Value.oneCell']) (by omega) (by omega) rfl rfl (fun A' c'' w' b h2 h3 h4 h5 => hK _ _ (QS.two h2 h3 h4 h5) trivial))); simp only [Act.put, zA, zB, zC, Nat.reduceAdd]
  iterate 3 (refine late_pure (by simp) (fun _ => trivial) (v := ?_) (fun _ => rfl) ?_ ?_; rotate_left; (focus (intro c9 us w9 hm9 hS9 hF; clear hF hm9; go_simp; (try with_reducible rfl); done)); simp only [Act.put, zA, zB, zC, Nat.reduceAdd])
  refine late_store rfl ?_ ?_; (focus (intro us w9 hS9 hF K hK; clear hF; obtain ⟨A', c', w2, b, hu, h2, h3, h4, h5, h6, -⟩ := hS9.2.2 (by omega); have h6 := h6 rfl; subst h6; simp only [hu] at hK ⊢; have hr9 := hrowA w9 h3; have k9 := hr9.cell 16; have f9 := hr9.frozen 16; simp only [CCell] at k9; have hS10 := hS9.three hu; go_simp; exact hK _ hS10 trivial)); simp only [Nat.reduceAdd]
  refine late_done fun us wy hS12 hF => ?_
  obtain ⟨A', c', w2, b, -, hq2, hg2, hbA, hbb, -, hw0⟩ := hS12.2.2 (by omega)
  have hwu9 := hw0 (by omega)
  clear hF hS12 hw0
  have hG : Grow g (4 + 2) b cola (wx.alloc (.cells #[.int .i64 v] 3)) w2 wy (blk (pa.iA 2)) := ⟨hMA.lt, hcg, by omega, by omega, by omega, hg2, hvs.blk, hbb, hq2.lt b hbA, by rw [hwu9]; exact Upd.setCell _ _ _ _⟩
  have hr12 := (hrowA w2 hg2).set 16 (.slice A' ((Sa.I 2).length + 1) c')
  rw [← hwu9] at hr12
  have hlen : (Sa.I 2 ++ [v]).length = (Sa.I 2).length + 1 := by simp
  have hMy : CM base g (paint cola b (4 + 2)) wy (CnS.appI Sa 2 (v)) _ := hMA.appI (i := 2) (x := v) (by omega) hG hq2 hbA (by
    unfold CCell
    simp only [upd, if_true, hlen]
    exact hr12)
  have hWy : White col w wy := (hWd.stepU hCa (White.below hal)).stepU hCa hG.white.1
  have hCy : KeepC col (paint cola b (4 + 2)) w.heap.size := fun x hx h0 => wtr (hG.white.2 x (Nat.lt_of_lt_of_le hx (Nat.le_trans hszd hal.size))) (hCa x hx h0) h0
  have hPBy := hG.part (hPBa.below hal) (by omega) (by omega)
  have hPRy := hG.part (hPRa.below hal) (by omega) (by omega)
  have hly : ((CnS.appI Sa 2 v).I 2).length = L + 1 := by
    show (Sa.I 2 ++ [v]).length = L + 1
    rw [List.length_append, HL.out]
    rfl
  have hlo2 : (CnS.appI Sa 2 v).I 1 = Sa.I 1 := rfl
  have HV2 : Hid (((CnS.appI Sa 2 v).I 1)[L]? = some v) := HV
  rw [← hlo2] at hLv hb2o
  rw [HL.out] at hb2a
  clear m0 m2 hPBa hPRa hlo2 HV
  clear z0 z1 i0 i1 i2 i3 i4 i5 fz e0 e1
  clear hwu9 hG hr12 hrowA hMA hMd hvq hvs hg2 hq2 hWd hszd hal hlg hcg hlen hbA hbb hMa hWa hCa
  obtain ⟨Sy, hSy⟩ : ∃ s, CnS.appI Sa 2 (v) = s := ⟨_, rfl⟩
  rw [hSy] at hMy hly hLv hb2o HV2
  have HSy := Lib.hid hSy
  generalize paint cola b (4 + 2) = coly at *
  generalize ({ pa with iA := upd pa.iA 2 A', ic := upd pa.ic 2 c' } : CnP) = py at *
  obtain ⟨bo, oo, curo, hAo, hro, hco⟩ := (hMy.ints 1 (by omega)).part.now.cells (by omega)
  replace hco := hco L _ (iv_at HV2.out)
  have hlbo := hro.lt
  have hlg := hMy.lt
  have hlr := hPRy.now.lt
  have m1 : wy.cell? ⟨g9, 1, none⟩ = some (.int .i64 ((L : Int) + 1)) := hPRy.now.cell 1
  have m2 : wy.cell? ⟨g9, 2, none⟩ = some (.int .i64 v) := hPRy.now.cell 2
  have m4 : wy.cell? ⟨g9, 4, none⟩ = some (.slice A8 bd.length c8) := hPRy.now.cell 4
  obtain ⟨⟨z0, z1, i0, i1, i2, i3, i4, i5⟩, fz, e0, e1⟩ := hMy.cells
  have ia' := i2
  rw [hly] at ia'
  have io' := i1
  rw [hAo] at io'
  clear z0 z1 i0 i1 i2 i3 i4 i5 fz e0 e1
  clear hAo hro hPRy HL hly
  have hLi : (L : Int) < ((Sy.I 1).length : Int) := by omega
  have hL0 : (0 : Int) ≤ (L : Int) := by omega
  have dL : decide ((L : Int) + 1 ≤ ((Sy.I 1).length : Int)) = true := decide_eq_true (by omega)
  have dLn : decide (L + 1 ≤ (Sy.I 1).length) = true := decide_eq_true (by omega)
  have hwL : IntKind.i64.wrap ((L : Int) + 1 - 1) = (L : Int) := by rw [IntKind.wrap_i64]; omega
  have hwL2 : IntKind.i64.wrap (L : Int) = (L : Int) := by rw [IntKind.wrap_i64]; omega
  have hwo : IntKind.i64.wrap 1 = 1 := by rw [IntKind.wrap_i64]; rfl
  have hIB := hPBy.now
  go_upto_region 7 with (fail)
  have hlg : g < wy.drew.heap.size := hlg
  have hlr : g9 < wy.drew.heap.size := hlr
  have hlbo : bo < wy.drew.heap.size := hlbo
  have ia' : wy.drew.cell? ⟨g, 16, none⟩ = some (.slice (py.iA 2) (L + 1) (py.ic 2)) := ia'
  have io' : wy.drew.cell? ⟨g, 15, none⟩ = some (.slice (some ⟨bo, oo, none⟩) (Sy.I 1).length (py.ic 1)) := io'
  have hco : wy.drew.cell? ⟨bo, oo + L, none⟩ = some (.int .i64 v) := hco
  have m1 : wy.drew.cell? ⟨g9, 1, none⟩ = some (.int .i64 ((L : Int) + 1)) := m1
  have m2 : wy.drew.cell? ⟨g9, 2, none⟩ = some (.int .i64 v) := m2
  have m4 : wy.drew.cell? ⟨g9, 4, none⟩ = some (.slice A8 bd.length c8) := m4
  have hMz := hMy.drew
  have hWz : White col w wy.drew := hWy.stepU hCy (White.below ((Below.refl _ _).drew))
  have hIB : IsB wy.drew A8 bd.length bd := hIB
  refine wp_region_told (n := 154) (fun w' => Below wy.drew.heap.size wy.drew w') (fun _ _ => True) (by kernel_rfl) (by kernel_rfl) (by rfl) (Below.refl _ _) ?_
  repeat (first | (refine walk_pure (v := ?_) (fun _ => trivial) (fun _ => rfl) ?_ ?_; rotate_left; (focus (intro us w9 hS9 hF; clear hF; have b0 := (hS9.cell (p := ⟨g, 16, none⟩) hlg).trans ia'; have b1 := (hS9.cell (p := ⟨g, 15, none⟩) hlg).trans io'; have b2 := (hS9.cell (p := ⟨bo, oo + L, none⟩) hlbo).trans hco; have b3 := (hS9.cell (p := ⟨g9, 1, none⟩) hlr).trans m1; have b4 := (hS9.cell (p := ⟨g9, 2, none⟩) hlr).trans m2; have b5 := (hS9.cell (p := ⟨g9, 4, none⟩) hlr).trans m4; go_simp; (try with_reducible rfl); done)); simp only [Act.put, zA, zB, zC, Nat.reduceAdd]) | (refine walk_skip (fun _ => trivial) (fun _ => rfl) ?_; simp only [Act.put, zA, zB, zC, Nat.reduceAdd]))
  refine walk_fix (v := .int .i64 v) ?_ ?_; (focus (intro us w9 hS9 hF K hK; clear hF; go_simp; refine (number_v HW.out (hIB.below hS9)).mono ?_; rintro en w' ⟨rfl, hb⟩; exact hK _ (below_on hS9 hb) trivial)); simp only [Act.put, zA, zB, zC, Nat.reduceAdd]
  repeat (first | (refine walk_pure (v := ?_) (fun _ => trivial) (fun _ => rfl) ?_ ?_; rotate_left; (focus (intro us w9 hS9 hF; clear hF; have b0 := (hS9.cell (p := ⟨g, 16, none⟩) hlg).trans ia'; have b1 := (hS9.cell (p := ⟨g, 15, none⟩) hlg).trans io'; have b2 := (hS9.cell (p := ⟨bo, oo + L, none⟩) hlbo).trans hco; have b3 := (hS9.cell (p := ⟨g9, 1, none⟩) hlr).trans m1; have b4 := (hS9.cell (p := ⟨g9, 2, none⟩) hlr).trans m2; have b5 := (hS9.cell (p := ⟨g9, 4, none⟩) hlr).trans m4; go_simp; (try with_reducible rfl); done)); simp only [Act.put, zA, zB, zC, Nat.reduceAdd]) | (refine walk_skip (fun _ => trivial) (fun _ => rfl) ?_; simp only [Act.put, zA, zB, zC, Nat.reduceAdd]))
  refine walk_done fun us w9 hS9 hF => ?_
  clear hF
  clear ia' io' hco m1 m2 m4 hIB
  go_wp2
  go_ret
  have h1 := HSy.out
  have h4 := HSa.out
  subst h4 h1
  exact ⟨rfl, coly, py, hMz.below hS9, hWz.stepU hCy (White.below hS9), hCy⟩
set_option maxRecDepth 100000 in
set_option maxHeartbeats 8000000 in
theorem cn_take_rep0 (base g : Nat) (col : Nat → Nat) (w : World) (S : CnS) (p : CnP) (hM : CM base g col w S p) {D : Option Addr} {dc : Nat} {ms : List UInt8} {k : Nat} {v s0 er : Int} {bd : List UInt8} (hI : Part col 0 w (fun w => IsB w D ms.length ms)) (hn : ms.length ≤ 1000000) (hdc : ms.length ≤ dc) (hE : rcvE (S.E 0) ms = 0) (hm : dM ms = ⟨2, (k : Int) + 1, s0, er, bd⟩) (ho : (S.I 4)[k]? = some 0) (hv : (S.I 0)[k]? = some v) (hw : wdN bd = v) (h9c : (rcvU (S.E 0) ms).cs.length ≤ 1000) (h9s : (rcvU (S.E 0) ms).ss.length ≤ 1000) (hb2 : ∀ i, (S.I i).length ≤ 100000) : Calls Try.prog 87 #[.pointer (some ⟨g, 0, none⟩), .int .i64 0, .slice D ms.length dc] w (CStep base g col w ((S.putE 0 (rcvU (S.E 0) ms)).setI 4 k 1)) := by
  have HE := Lib.hid hE
  have HM := Lib.hid hm
  have HW := Lib.hid hw
  have HV := Lib.hid hv
  obtain ⟨e9, he9⟩ : ∃ e9, rcvU (S.E 0) ms = e9 := ⟨_, rfl⟩
  have HU := Lib.hid he9
  rw [he9] at h9c h9s ⊢
  have hH := (hM.held 0 (by omega)).now
  have hIw := hI.now
  have hlg := hM.lt
  have HO := Lib.hid ho
  have hkO := (List.getElem?_eq_some_iff.1 ho).1
  have hkv := (List.getElem?_eq_some_iff.1 hv).1
  have hb2O := hb2 4
  clear hE hm hw hv he9 ho
  obtain ⟨⟨z0, z1, i0, i1, i2, i3, i4, i5⟩, fz, e0, e1⟩ := hM.cells
  go_enter Try.func87, Try.ntmps87
  go_upto_region 2 with (first | ((with_reducible refine wp_load_g ?_ e0 Try.underlying112 rfl (uev_info _ _ _ _ _) ?_ ?_); rfl; rfl) | (go_at_call 78; (with_reducible refine (rcv_at HE.out HU.out HM.out hH hIw hn hdc).mono ?_); rintro en w3 ⟨A3, c3, B3, d3, A8, c8, rfl, ho3, hm3, hb3⟩) | ((with_reducible refine wp_row_store (L := UEV e9 A3 c3 B3 d3) ((Row.bornAt' (g := w3.heap.size) rfl 112 _).alloc _) ?_ (uev_info _ _ _ _ _) (uev_one _ _ _ _ _) ?_ ?_ ?_); rfl; rfl; rfl; intro w4 u4 r8) | ((with_reducible refine wp_row_store (L := RMV ⟨2, (k : Int) + 1, s0, er, bd⟩ A8 c8) ((Row.bornAt' (g := w3.heap.size + 1) (by simp) 97 _).upd u4 (by omega)) ?_ (rmv_info _ _ _) (rmv_one _ _ _) ?_ ?_ ?_); rfl; rfl; rfl; intro w5 u5 r9))
  clear z0 z1 i0 i1 i2 i3 i4 i5 fz e0 e1
  have hal := ((Below.refl w3.heap.size w3).alloc (Nat.le_refl _) (.cells ZU 112)).alloc (by simp) (.cells ZRm 97)
  have hal2 := Upd.below (Upd.below hal u4 (Nat.le_refl _)) u5 (by omega)
  have hB5 := hb3.trans (hal2.mono hb3.size)
  have r8 := r8.upd u5 (by omega)
  have hMg := hM.below hB5
  have hWg : White col w w5 := White.below hB5
  have hlo := hb3.size
  have hPE : Part col 0 w5 (fun w => HeldU w e9 A3 c3 B3 d3) := (Part.ownU ho3 (fun x h1 => hM.cn x h1) h9c h9s).below hal2
  have hPB : Part col 0 w5 (fun w => IsB w A8 bd.length bd) := (Part.bodyU hm3 (fun x h1 => hM.cn x h1)).below hal2
  have hPR : Part col 0 w5 (fun w => Row w (w3.heap.size + 1) 97 (RMV ⟨2, (k : Int) + 1, s0, er, bd⟩ A8 c8)) := Part.row r9 (hM.cn _ (by omega))
  clear hal hal2 hB5 u4 u5 hb3 ho3 hm3 hIw hH hI r9 hlg h9c h9s
  generalize w3.heap.size + 1 = g9 at *
  obtain ⟨⟨z0, z1, i0, i1, i2, i3, i4, i5⟩, fz, e0, e1⟩ := hMg.cells
  go_upto_region 4 with (fail)
  clear z0 z1 i0 i1 i2 i3 i4 i5 fz e0 e1
  have hrow : Row w5.drew g 116 (([] : List Value) ++ (UEV (S.E 0) (p.A 0) (p.c 0) (p.B 0) (p.d 0)).toList ++ ((UEV (S.E 1) (p.A 1) (p.c 1) (p.B 1) (p.d 1)).toList ++ ([.slice (p.zA 0) (S.Z 0).length (p.zc 0), .slice (p.zA 1) (S.Z 1).length (p.zc 1), .slice (p.iA 0) (S.I 0).length (p.ic 0), .slice (p.iA 1) (S.I 1).length (p.ic 1), .slice (p.iA 2) (S.I 2).length (p.ic 2), .slice (p.iA 3) (S.I 3).length (p.ic 3), .slice (p.iA 4) (S.I 4).length (p.ic 4), .slice (p.iA 5) (S.I 5).length (p.ic 5)] : List Value))).toArray := hMg.row.now
  have r8 : Row w5.drew w3.heap.size 112 (UEV e9 A3 c3 B3 d3) := r8
  refine wp_region_tailN (n := 154) 6 (fun w' => w' = w5.drew) (fun _ _ => True) (by kernel_rfl) (by kernel_rfl) (by decide) (by rfl) rfl ?_
  simp only [List.take_succ_cons, List.take_zero, List.drop_succ_cons, List.drop_zero]
  iterate 2 (refine tail_pure (fun w => trivial) (v := ?_) (fun _ => rfl) ?_ ?_; rotate_left; (focus (intro us w9 hS9 hF; clear hF; subst hS9; go_simp; (try with_reducible rfl); done)); simp only [Act.put, zA, zB, zC, Nat.reduceAdd])
  refine tail_pure (fun w => trivial) (v := .agg (UEV e9 A3 c3 B3 d3)) (fun _ => rfl) ?_ ?_; (focus (intro us w9 hS9 hF; clear hF; subst hS9; exact exec_load_g r8.range Try.underlying112 rfl (uev_info _ _ _ _ _) rfl)); simp only [Act.put, zA, zB, zC, Nat.reduceAdd]
  iterate 3 (refine tail_pure (fun w => trivial) (v := ?_) (fun _ => rfl) ?_ ?_; rotate_left; (focus (intro us w9 hS9 hF; clear hF; subst hS9; go_simp; (try with_reducible rfl); done)); simp only [Act.put, zA, zB, zC, Nat.reduceAdd])
  refine tail_done fun us w7 hS7 hF => ?_
  subst hS7
  clear hF
  refine wp_put_midU (g := g) (t := 116) (off := 0) (pre := ([] : List Value)) (cs := (UEV (S.E 0) (p.A 0) (p.c 0) (p.B 0) (p.d 0)).toList) (post := ((UEV (S.E 1) (p.A 1) (p.c 1) (p.B 1) (p.d 1)).toList ++ ([.slice (p.zA 0) (S.Z 0).length (p.zc 0), .slice (p.zA 1) (S.Z 1).length (p.zc 1), .slice (p.iA 0) (S.I 0).length (p.ic 0), .slice (p.iA 1) (S.I 1).length (p.ic 1), .slice (p.iA 2) (S.I 2).length (p.ic 2), .slice (p.iA 3) (S.I 3).length (p.ic 3), .slice (p.iA 4) (S.I 4).length (p.ic 4), .slice (p.iA 5) (S.I 5).length (p.ic 5)] : List Value))) (L := UEV e9 A3 c3 B3 d3) hrow rfl rfl (uev_info _ _ _ _ _) (uev_one _ _ _ _ _) ?_ ?_ ?_; rfl; rfl; intro wa u7 r7
  have hMgd := hMg.drew
  have hMa : CM base g col wa (S.putE 0 e9) _ := hMgd.putE (s := 0) (by omega) u7 (hPE.below ((Below.refl _ _).drew)) r7
  have hWa : White col w wa := (hWg.stepU (fun _ _ _ => rfl) (White.below ((Below.refl _ _).drew))).stepU (fun _ _ _ => rfl) ((Only.upd u7 hMg.cg).white (by omega))
  have hCa : KeepC col col w.heap.size := fun _ _ _ => rfl
  have hPBa : Part col 0 wa (fun w => IsB w A8 bd.length bd) := (hPB.below ((Below.refl _ _).drew)).only (Only.upd u7 hMg.cg) (by omega)
  have hPRa : Part col 0 wa (fun w => Row w g9 97 (RMV ⟨2, (k : Int) + 1, s0, er, bd⟩ A8 c8)) := (hPR.below ((Below.refl _ _).drew)).only (Only.upd u7 hMg.cg) (by omega)
  have hSI : (CnS.putE S 0 e9).I = S.I := rfl
  obtain ⟨Sa, hSa⟩ : ∃ s, CnS.putE S 0 e9 = s := ⟨_, rfl⟩
  rw [hSa] at hMa hSI
  have HSI := Lib.hid hSI
  have HSa := Lib.hid hSa
  rw [← hSI] at hb2O hkO hkv HO HV
  clear hSa hSI hrow r8 u7 r7 hMg hMgd hPB hPR hPE hWg hb2 hM
  generalize ({ p with A := upd p.A 0 A3, c := upd p.c 0 c3, B := upd p.B 0 B3, d := upd p.d 0 d3 } : CnP) = pa at *
  obtain ⟨cola, hcola⟩ : ∃ c, col = c := ⟨_, rfl⟩
  have hMa : CM base g cola wa Sa pa := by rw [← hcola]; exact hMa
  have hCa : KeepC col cola w.heap.size := by rw [← hcola]; exact hCa
  have hPBa : Part cola 0 wa (fun w => IsB w A8 bd.length bd) := by rw [← hcola]; exact hPBa
  have hPRa : Part cola 0 wa (fun w => Row w g9 97 (RMV ⟨2, (k : Int) + 1, s0, er, bd⟩ A8 c8)) := by rw [← hcola]; exact hPRa
  clear hcola
  have m0 : wa.cell? ⟨g9, 0, none⟩ = some (.int .i64 2) := hPRa.now.cell 0
  have m1 : wa.cell? ⟨g9, 1, none⟩ = some (.int .i64 ((k : Int) + 1)) := hPRa.now.cell 1
  obtain ⟨bO, oO, curO, hAO, hrO, hcO⟩ := (hMa.ints 4 (by omega)).part.now.cells (by omega)
  replace hcO := hcO k _ (iv_at HO.out)
  have hoq := (hMa.ints 4 (by omega)).part.now
  rw [hAO] at hoq
  have hfO := hoq.frozen (oO + k)
  obtain ⟨⟨z0, z1, i0, i1, i2, i3, i4, i5⟩, fz, e0, e1⟩ := hMa.cells
  have iO' := i4
  rw [hAO] at iO'
  clear z0 z1 i0 i1 i2 i3 i4 i5 fz e0 e1
  clear hrO hoq
  have hki : (k : Int) < ((Sa.I 4).length : Int) := by omega
  have hk0 : (0 : Int) ≤ (k : Int) := by omega
  have dk0 : decide ((k : Int) < 0) = false := decide_eq_false (by omega)
  have dkO : decide (((Sa.I 4).length : Int) ≤ (k : Int)) = false := decide_eq_false (by omega)
  have dkOn : decide ((Sa.I 4).length ≤ k) = false := decide_eq_false (by omega)
  have hwk : IntKind.i64.wrap ((k : Int) + 1 - 1) = (k : Int) := by rw [IntKind.wrap_i64]; omega
  have hwk2 : IntKind.i64.wrap (k : Int) = (k : Int) := by rw [IntKind.wrap_i64]; omega
  have hw01 : IntKind.i64.wrap 1 = 1 := by rw [IntKind.wrap_i64]; rfl
  have hw02 : IntKind.i64.wrap (0 + 1) = 1 := by rw [IntKind.wrap_i64]; rfl
  go_upto_region 12 with (fail)
  have hMb := hMa.setI (i := 4) (x := 1) (by omega) hAO hkO
  have hMb : CM base g cola (wa.setCell ⟨bO, oO + k, none⟩ (.int .i64 1)) (CnS.setI Sa 4 k 1) pa := hMb
  have hcolO : cola bO = 4 + 4 := (hMa.ints 4 (by omega)).blk bO (by rw [hAO]; rfl)
  have uO := Upd.setCell wa bO (oO + k) (.int .i64 1)
  have hOnly : Only cola (4 + 4) wa (wa.setCell ⟨bO, oO + k, none⟩ (.int .i64 1)) := Only.upd uO hcolO
  have hPBb := hPBa.only hOnly (by omega)
  have hPRb := hPRa.only hOnly (by omega)
  have hWb : White col w (wa.setCell ⟨bO, oO + k, none⟩ (.int .i64 1)) := hWa.stepU hCa (hOnly.white (by omega))
  have hkv2 : k < ((CnS.setI Sa 4 k 1).I 0).length := hkv
  have HV2 : Hid (((CnS.setI Sa 4 k 1).I 0)[k]? = some v) := HV
  have HO2 : Hid (((CnS.setI Sa 4 k 1).I 4)[k]? = some 1) := Lib.hid (by
    show ((Sa.I 4).set k 1)[k]? = some 1
    exact List.getElem?_set_self hkO)
  have hlO2 : ((CnS.setI Sa 4 k 1).I 4).length = (Sa.I 4).length := by
    show ((Sa.I 4).set k 1).length = _
    exact List.length_set
  rw [← hlO2] at hki
  clear m0 m1 hcO hfO iO' hPBa hPRa hOnly uO hcolO hMa hWa dkO dkOn hkv HV HO hkO hlO2
  generalize wa.setCell ⟨bO, oO + k, none⟩ (.int .i64 1) = wb at *
  obtain ⟨Sb, hSb⟩ : ∃ s, CnS.setI Sa 4 k 1 = s := ⟨_, rfl⟩
  rw [hSb] at hMb hkv2 HV2 HO2 hki
  have HSb := Lib.hid hSb
  clear hSb
  obtain ⟨bo, oo, curo, hAo, hro, hco⟩ := (hMb.ints 0 (by omega)).part.now.cells (by omega)
  replace hco := hco k _ (iv_at HV2.out)
  have hlbo := hro.lt
  obtain ⟨bq, oq, curq, hAq, hrq, hcq⟩ := (hMb.ints 4 (by omega)).part.now.cells (by omega)
  replace hcq := hcq k _ (iv_at HO2.out)
  have hlbq := hrq.lt
  have hlg := hMb.lt
  have hlr := hPRb.now.lt
  have m4 : wb.cell? ⟨g9, 4, none⟩ = some (.slice A8 bd.length c8) := hPRb.now.cell 4
  obtain ⟨⟨z0, z1, i0, i1, i2, i3, i4, i5⟩, fz, e0, e1⟩ := hMb.cells
  have io' := i0
  rw [hAo] at io'
  have iq' := i4
  rw [hAq] at iq'
  clear z0 z1 i0 i1 i2 i3 i4 i5 fz e0 e1
  clear hAo hro hAq hrq hPRb hAO
  have hks : (k : Int) < ((Sb.I 0).length : Int) := by omega
  have hIB := hPBb.now
  have hlg : g < wb.drew.heap.size := hlg
  have hlr : g9 < wb.drew.heap.size := hlr
  have hlbo : bo < wb.drew.heap.size := hlbo
  have hlbq : bq < wb.drew.heap.size := hlbq
  have iq' : wb.drew.cell? ⟨g, 18, none⟩ = some (.slice (some ⟨bq, oq, none⟩) (Sb.I 4).length (pa.ic 4)) := iq'
  have io' : wb.drew.cell? ⟨g, 14, none⟩ = some (.slice (some ⟨bo, oo, none⟩) (Sb.I 0).length (pa.ic 0)) := io'
  have hco : wb.drew.cell? ⟨bo, oo + k, none⟩ = some (.int .i64 v) := hco
  have hcq : wb.drew.cell? ⟨bq, oq + k, none⟩ = some (.int .i64 1) := hcq
  have m4 : wb.drew.cell? ⟨g9, 4, none⟩ = some (.slice A8 bd.length c8) := m4
  have hMz := hMb.drew
  have hWz : White col w wb.drew := hWb.stepU hCa (White.below ((Below.refl _ _).drew))
  have hIB : IsB wb.drew A8 bd.length bd := hIB
  refine wp_region_told (n := 154) (fun w' => Below wb.drew.heap.size wb.drew w') (fun _ _ => True) (by kernel_rfl) (by kernel_rfl) (by rfl) (Below.refl _ _) ?_
  repeat (first | (refine walk_pure (v := ?_) (fun _ => trivial) (fun _ => rfl) ?_ ?_; rotate_left; (focus (intro us w9 hS9 hF; clear hF; have b0 := (hS9.cell (p := ⟨g, 18, none⟩) hlg).trans iq'; have b1 := (hS9.cell (p := ⟨g, 14, none⟩) hlg).trans io'; have b2 := (hS9.cell (p := ⟨bo, oo + k, none⟩) hlbo).trans hco; have b3 := (hS9.cell (p := ⟨bq, oq + k, none⟩) hlbq).trans hcq; have b4 := (hS9.cell (p := ⟨g9, 4, none⟩) hlr).trans m4; go_simp; (try with_reducible rfl); done)); simp only [Act.put, zA, zB, zC, Nat.reduceAdd]) | (refine walk_skip (fun _ => trivial) (fun _ => rfl) ?_; simp only [Act.put, zA, zB, zC, Nat.reduceAdd]))
  refine walk_fix (v := .int .i64 v) ?_ ?_; (focus (intro us w9 hS9 hF K hK; clear hF; go_simp; refine (number_v HW.out (hIB.below hS9)).mono ?_; rintro en w' ⟨rfl, hb⟩; exact hK _ (below_on hS9 hb) trivial)); simp only [Act.put, zA, zB, zC, Nat.reduceAdd]
  repeat (first | (refine walk_pure (v := ?_) (fun _ => trivial) (fun _ => rfl) ?_ ?_; rotate_left; (focus (intro us w9 hS9 hF; clear hF; have b0 := (hS9.cell (p := ⟨g, 18, none⟩) hlg).trans iq'; have b1 := (hS9.cell (p := ⟨g, 14, none⟩) hlg).trans io'; have b2 := (hS9.cell (p := ⟨bo, oo + k, none⟩) hlbo).trans hco; have b3 := (hS9.cell (p := ⟨bq, oq + k, none⟩) hlbq).trans hcq; have b4 := (hS9.cell (p := ⟨g9, 4, none⟩) hlr).trans m4; go_simp; (try with_reducible rfl); done)); simp only [Act.put, zA, zB, zC, Nat.reduceAdd]) | (refine walk_skip (fun _ => trivial) (fun _ => rfl) ?_; simp only [Act.put, zA, zB, zC, Nat.reduceAdd]))
  refine walk_done fun us w9 hS9 hF => ?_
  clear hF
  clear iq' io' hco hcq m4 hIB
  go_wp2
  go_ret
  have h1 := HSb.out
  have h4 := HSa.out
  subst h4 h1
  exact ⟨rfl, cola, pa, hMz.below hS9, hWz.stepU hCa (White.below hS9), hCa⟩
set_option maxRecDepth 100000 in
set_option maxHeartbeats 8000000 in
theorem cn_take_req1 (base g : Nat) (col : Nat → Nat) (w : World) (S : CnS) (p : CnP) (hM : CM base g col w S p) {D : Option Addr} {dc : Nat} {ms : List UInt8} {L : Nat} {v er : Int} {bd : List UInt8} (hI : Part col 0 w (fun w => IsB w D ms.length ms)) (hn : ms.length ≤ 1000000) (hdc : ms.length ≤ dc) (hE : rcvE (S.E 1) ms = 0) (hm : dM ms = ⟨1, (L : Int) + 1, v, er, bd⟩) (hL : (S.I 3).length = L) (hv : (S.I 0)[L]? = some v) (hw : wdN bd = v) (h9c : (rcvU (S.E 1) ms).cs.length ≤ 1000) (h9s : (rcvU (S.E 1) ms).ss.length ≤ 1000) (hb2 : ∀ i, (S.I i).length ≤ 100000) : Calls Try.prog 87 #[.pointer (some ⟨g, 0, none⟩), .int .i64 1, .slice D ms.length dc] w (CStep base g col w ((S.putE 1 (rcvU (S.E 1) ms)).appI 3 v)) := by
  have HE := Lib.hid hE
  have HM := Lib.hid hm
  have HW := Lib.hid hw
  have HV := Lib.hid hv
  obtain ⟨e9, he9⟩ : ∃ e9, rcvU (S.E 1) ms = e9 := ⟨_, rfl⟩
  have HU := Lib.hid he9
  rw [he9] at h9c h9s ⊢
  have hH := (hM.held 1 (by omega)).now
  have hIw := hI.now
  have hlg := hM.lt
  have HL := Lib.hid hL
  have hLv := (List.getElem?_eq_some_iff.1 hv).1
  have hb2a := hb2 3
  have hb2o := hb2 0
  clear hE hm hw hv he9 hL
  obtain ⟨⟨z0, z1, i0, i1, i2, i3, i4, i5⟩, fz, e0, e1⟩ := hM.cells
  go_enter Try.func87, Try.ntmps87
  go_upto_region 2 with (first | ((with_reducible refine wp_load_g ?_ e1 Try.underlying112 rfl (uev_info _ _ _ _ _) ?_ ?_); rfl; rfl) | (go_at_call 78; (with_reducible refine (rcv_at HE.out HU.out HM.out hH hIw hn hdc).mono ?_); rintro en w3 ⟨A3, c3, B3, d3, A8, c8, rfl, ho3, hm3, hb3⟩) | ((with_reducible refine wp_row_store (L := UEV e9 A3 c3 B3 d3) ((Row.bornAt' (g := w3.heap.size) rfl 112 _).alloc _) ?_ (uev_info _ _ _ _ _) (uev_one _ _ _ _ _) ?_ ?_ ?_); rfl; rfl; rfl; intro w4 u4 r8) | ((with_reducible refine wp_row_store (L := RMV ⟨1, (L : Int) + 1, v, er, bd⟩ A8 c8) ((Row.bornAt' (g := w3.heap.size + 1) (by simp) 97 _).upd u4 (by omega)) ?_ (rmv_info _ _ _) (rmv_one _ _ _) ?_ ?_ ?_); rfl; rfl; rfl; intro w5 u5 r9))
  clear z0 z1 i0 i1 i2 i3 i4 i5 fz e0 e1
  have hal := ((Below.refl w3.heap.size w3).alloc (Nat.le_refl _) (.cells ZU 112)).alloc (by simp) (.cells ZRm 97)
  have hal2 := Upd.below (Upd.below hal u4 (Nat.le_refl _)) u5 (by omega)
  have hB5 := hb3.trans (hal2.mono hb3.size)
  have r8 := r8.upd u5 (by omega)
  have hMg := hM.below hB5
  have hWg : White col w w5 := White.below hB5
  have hlo := hb3.size
  have hPE : Part col 0 w5 (fun w => HeldU w e9 A3 c3 B3 d3) := (Part.ownU ho3 (fun x h1 => hM.cn x h1) h9c h9s).below hal2
  have hPB : Part col 0 w5 (fun w => IsB w A8 bd.length bd) := (Part.bodyU hm3 (fun x h1 => hM.cn x h1)).below hal2
  have hPR : Part col 0 w5 (fun w => Row w (w3.heap.size + 1) 97 (RMV ⟨1, (L : Int) + 1, v, er, bd⟩ A8 c8)) := Part.row r9 (hM.cn _ (by omega))
  clear hal hal2 hB5 u4 u5 hb3 ho3 hm3 hIw hH hI r9 hlg h9c h9s
  generalize w3.heap.size + 1 = g9 at *
  obtain ⟨⟨z0, z1, i0, i1, i2, i3, i4, i5⟩, fz, e0, e1⟩ := hMg.cells
  go_upto_region 4 with (fail)
  clear z0 z1 i0 i1 i2 i3 i4 i5 fz e0 e1
  have hrow : Row w5.drew g 116 ((UEV (S.E 0) (p.A 0) (p.c 0) (p.B 0) (p.d 0)).toList ++ (UEV (S.E 1) (p.A 1) (p.c 1) (p.B 1) (p.d 1)).toList ++ ([.slice (p.zA 0) (S.Z 0).length (p.zc 0), .slice (p.zA 1) (S.Z 1).length (p.zc 1), .slice (p.iA 0) (S.I 0).length (p.ic 0), .slice (p.iA 1) (S.I 1).length (p.ic 1), .slice (p.iA 2) (S.I 2).length (p.ic 2), .slice (p.iA 3) (S.I 3).length (p.ic 3), .slice (p.iA 4) (S.I 4).length (p.ic 4), .slice (p.iA 5) (S.I 5).length (p.ic 5)] : List Value)).toArray := hMg.row.now
  have r8 : Row w5.drew w3.heap.size 112 (UEV e9 A3 c3 B3 d3) := r8
  refine wp_region_tailN (n := 154) 6 (fun w' => w' = w5.drew) (fun _ _ => True) (by kernel_rfl) (by kernel_rfl) (by decide) (by rfl) rfl ?_
  simp only [List.take_succ_cons, List.take_zero, List.drop_succ_cons, List.drop_zero]
  iterate 2 (refine tail_pure (fun w => trivial) (v := ?_) (fun _ => rfl) ?_ ?_; rotate_left; (focus (intro us w9 hS9 hF; clear hF; subst hS9; go_simp; (try with_reducible rfl); done)); simp only [Act.put, zA, zB, zC, Nat.reduceAdd])
  refine tail_pure (fun w => trivial) (v := .agg (UEV e9 A3 c3 B3 d3)) (fun _ => rfl) ?_ ?_; (focus (intro us w9 hS9 hF; clear hF; subst hS9; exact exec_load_g r8.range Try.underlying112 rfl (uev_info _ _ _ _ _) rfl)); simp only [Act.put, zA, zB, zC, Nat.reduceAdd]
  iterate 3 (refine tail_pure (fun w => trivial) (v := ?_) (fun _ => rfl) ?_ ?_; rotate_left; (focus (intro us w9 hS9 hF; clear hF; subst hS9; go_simp; (try with_reducible rfl); done)); simp only [Act.put, zA, zB, zC, Nat.reduceAdd])
  refine tail_done fun us w7 hS7 hF => ?_
  subst hS7
  clear hF
  refine wp_put_midU (g := g) (t := 116) (off := 6) (pre := (UEV (S.E 0) (p.A 0) (p.c 0) (p.B 0) (p.d 0)).toList) (cs := (UEV (S.E 1) (p.A 1) (p.c 1) (p.B 1) (p.d 1)).toList) (post := ([.slice (p.zA 0) (S.Z 0).length (p.zc 0), .slice (p.zA 1) (S.Z 1).length (p.zc 1), .slice (p.iA 0) (S.I 0).length (p.ic 0), .slice (p.iA 1) (S.I 1).length (p.ic 1), .slice (p.iA 2) (S.I 2).length (p.ic 2), .slice (p.iA 3) (S.I 3).length (p.ic 3), .slice (p.iA 4) (S.I 4).length (p.ic 4), .slice (p.iA 5) (S.I 5).length (p.ic 5)] : List Value)) (L := UEV e9 A3 c3 B3 d3) hrow rfl rfl (uev_info _ _ _ _ _) (uev_one _ _ _ _ _) ?_ ?_ ?_; rfl; rfl; intro wa u7 r7
  have hMgd := hMg.drew
  have hMa : CM base g col wa (S.putE 1 e9) _ := hMgd.putE (s := 1) (by omega) u7 (hPE.below ((Below.refl _ _).drew)) r7
  have hWa : White col w wa := (hWg.stepU (fun _ _ _ => rfl) (White.below ((Below.refl _ _).drew))).stepU (fun _ _ _ => rfl) ((Only.upd u7 hMg.cg).white (by omega))
  have hCa : KeepC col col w.heap.size := fun _ _ _ => rfl
  have hPBa : Part col 0 wa (fun w => IsB w A8 bd.length bd) := (hPB.below ((Below.refl _ _).drew)).only (Only.upd u7 hMg.cg) (by omega)
  have hPRa : Part col 0 wa (fun w => Row w g9 97 (RMV ⟨1, (L : Int) + 1, v, er, bd⟩ A8 c8)) := (hPR.below ((Below.refl _ _).drew)).only (Only.upd u7 hMg.cg) (by omega)
  have hSI : (CnS.putE S 1 e9).I = S.I := rfl
  obtain ⟨Sa, hSa⟩ : ∃ s, CnS.putE S 1 e9 = s := ⟨_, rfl⟩
  rw [hSa] at hMa hSI
  have HSI := Lib.hid hSI
  have HSa := Lib.hid hSa
  rw [← hSI] at hb2a hb2o hLv HL HV
  clear hSa hSI hrow r8 u7 r7 hMg hMgd hPB hPR hPE hWg hb2 hM
  generalize ({ p with A := upd p.A 1 A3, c := upd p.c 1 c3, B := upd p.B 1 B3, d := upd p.d 1 d3 } : CnP) = pa at *
  obtain ⟨cola, hcola⟩ : ∃ c, col = c := ⟨_, rfl⟩
  have hMa : CM base g cola wa Sa pa := by rw [← hcola]; exact hMa
  have hCa : KeepC col cola w.heap.size := by rw [← hcola]; exact hCa
  have hPBa : Part cola 0 wa (fun w => IsB w A8 bd.length bd) := by rw [← hcola]; exact hPBa
  have hPRa : Part cola 0 wa (fun w => Row w g9 97 (RMV ⟨1, (L : Int) + 1, v, er, bd⟩ A8 c8)) := by rw [← hcola]; exact hPRa
  clear hcola
  have m0 : wa.cell? ⟨g9, 0, none⟩ = some (.int .i64 1) := hPRa.now.cell 0
  have hlg := hMa.lt
  have hvs := hMa.ints 3 (by omega)
  obtain ⟨⟨z0, z1, i0, i1, i2, i3, i4, i5⟩, fz, e0, e1⟩ := hMa.cells
  go_upto_region 6 with (fail)
  have hMd := hMa.drew
  have hcg := hMa.cg
  have hlg : g < wa.drew.heap.size := hlg
  have hvq : OwnQ wa.drew 3 1 (pa.iA 3) (Sa.I 3).length (pa.ic 3) ((Sa.I 3).map iv) := hvs.part.now
  have m2 : wa.drew.cell? ⟨g9, 2, none⟩ = some (.int .i64 v) := hPRa.now.cell 2
  have hPBa : Part cola 0 wa.drew (fun w => IsB w A8 bd.length bd) := hPBa.below ((Below.refl _ _).drew)
  have hPRa : Part cola 0 wa.drew (fun w => Row w g9 97 (RMV ⟨1, (L : Int) + 1, v, er, bd⟩ A8 c8)) := hPRa.below ((Below.refl _ _).drew)
  have hal := (Below.refl wa.drew.heap.size wa.drew).alloc (Nat.le_refl _) (.cells #[.int .i64 v] 3)
  have hMA := hMd.below hal
  clear z0 z1 i0 i1 i2 i3 i4 i5 fz e0 e1
  obtain ⟨⟨z0, z1, i0, i1, i2, i3, i4, i5⟩, fz, e0, e1⟩ := hMd.cells
  have hrowA : ∀ w9, (wa.drew.alloc (.cells #[.int .i64 v] 3)).grownBy w9 (blk (pa.iA 3)) → Row w9 g 116 _ := fun w9 h3 => (h3.block g hMA.lt (fun e => by have h9 := hvs.blk g e.symm; have h8 := hcg; omega)).trans hMA.row.now
  have hWd : White col w wa.drew := hWa.stepU hCa (White.below ((Below.refl _ _).drew))
  have hszd : w.heap.size ≤ wa.drew.heap.size := hWd.size
  refine wp_region_late (n := 154) [10, 11, 15] (QS wa.drew g 17 3 1 (pa.iA 3) (Sa.I 3).length (((Sa.I 3).map iv)) (#[.int .i64 v]) 10 11) (fun _ _ => True) (by kernel_rfl) (by kernel_rfl) (by rfl) QS.loc QS.zero ?_
  generalize wa.drew = wx at *
  iterate 7 (refine late_pure (by simp) (fun _ => trivial) (v := ?_) (fun _ => rfl) ?_ ?_; rotate_left; (focus (intro c9 us w9 hm9 hS9 hF; clear hF hm9; go_simp; (try with_reducible rfl); done)); simp only [Act.put, zA, zB, zC, Nat.reduceAdd])
  refine late_pure (by simp) (fun _ => trivial) (v := ?_) (fun _ => rfl) ?_ ?_; rotate_left; (focus (intro c9 us w9 hm9 hS9 hF; have hc9 : c9 < 2 := (by rcases Nat.lt_or_ge c9 2 with h9 | h9; exact h9; exact absurd hm9 (by rw [mayAt_no (d := 1) (by kernel_rfl) (by omega) (by decide)]; decide)); have bcell := ((hS9.early hc9).cell (p := ⟨g, 17, none⟩) hlg).trans i3; clear hF hm9; go_simp; (try with_reducible rfl); done)); simp only [Act.put, zA, zB, zC, Nat.reduceAdd]
  refine late_pure (by simp) (fun _ => trivial) (v := ?_) (fun _ => rfl) ?_ ?_; rotate_left; (focus (intro c9 us w9 hm9 hS9 hF; clear hF hm9; go_simp; (try with_reducible rfl); done)); simp only [Act.put, zA, zB, zC, Nat.reduceAdd]
  refine late_pure (by simp) (fun _ => trivial) (v := .int .i64 v) (fun _ => rfl) ?_ ?_; (focus (intro c9 us w9 hm9 hS9 hF; have hc9 : c9 < 1 := (by rcases Nat.lt_or_ge c9 1 with h9 | h9; exact h9; exact absurd hm9 (by rw [mayAt_no (d := 0) (by kernel_rfl) (by omega) (by decide)]; decide)); have h0 : c9 = 0 := (by omega); have hw9 := hS9.1 h0; subst hw9; go_simp)); simp only [Act.put, zA, zB, zC, Nat.reduceAdd]
  refine late_chain (by simp) ?_ ?_; (focus (intro us w9 hS9 hF K hK; clear hF; obtain rfl := hS9.1 rfl; go_simp; exact hK _ _ QS.one trivial)); simp only [Act.put, zA, zB, zC, Nat.reduceAdd]
  refine late_chain (by simp) ?_ ?_; (focus (intro us w9 hS9 hF K hK; clear hF; obtain ⟨hu, rfl⟩ := hS9.2.1 rfl; simp only [hu] at hK ⊢; rw [if_pos (by rfl)]; exact step_append_q (P := Try.prog) Try.underlying52 info_n rfl (by omega) (hvq.of_same (fun b hb => hal.block b (hvq.lt b hb))) (Row.born _ _ _) rfl (by simp [Value.oneCell']) (by omega) (by omega) rfl rfl (fun A' c'' w' b h2 h3 h4 h5 => hK _ _ (QS.two h2 h3 h4 h5) trivial))); simp only [Act.put, zA, zB, zC, Nat.reduceAdd]
  iterate 3 (refine late_pure (by simp) (fun _ => trivial) (v := ?_) (fun _ => rfl) ?_ ?_; rotate_left; (focus (intro c9 us w9 hm9 hS9 hF; clear hF hm9; go_simp; (try with_reducible rfl); done)); simp only [Act.put, zA, zB, zC, Nat.reduceAdd])
  refine late_store rfl ?_ ?_; (focus (intro us w9 hS9 hF K hK; clear hF; obtain ⟨A', c', w2, b, hu, h2, h3, h4, h5, h6, -⟩ := hS9.2.2 (by omega); have h6 := h6 rfl; subst h6; simp only [hu] at hK ⊢; have hr9 := hrowA w9 h3; have k9 := hr9.cell 17; have f9 := hr9.frozen 17; simp only [CCell] at k9; have hS10 := hS9.three hu; go_simp; exact hK _ hS10 trivial)); simp only [Nat.reduceAdd]
  refine late_done fun us wy hS12 hF => ?_
  obtain ⟨A', c', w2, b, -, hq2, hg2, hbA, hbb, -, hw0⟩ := hS12.2.2 (by omega)
  have hwu9 := hw0 (by omega)
  clear hF hS12 hw0
  have hG : Grow g (4 + 3) b cola (wx.alloc (.cells #[.int .i64 v] 3)) w2 wy (blk (pa.iA 3)) := ⟨hMA.lt, hcg, by omega, by omega, by omega, hg2, hvs.blk, hbb, hq2.lt b hbA, by rw [hwu9]; exact Upd.setCell _ _ _ _⟩
  have hr12 := (hrowA w2 hg2).set 17 (.slice A' ((Sa.I 3).length + 1) c')
  rw [← hwu9] at hr12
  have hlen : (Sa.I 3 ++ [v]).length = (Sa.I 3).length + 1 := by simp
  have hMy : CM base g (paint cola b (4 + 3)) wy (CnS.appI Sa 3 (v)) _ := hMA.appI (i := 3) (x := v) (by omega) hG hq2 hbA (by
    unfold CCell
    simp only [upd, if_true, hlen]
    exact hr12)
  have hWy : White col w wy := (hWd.stepU hCa (White.below hal)).stepU hCa hG.white.1
  have hCy : KeepC col (paint cola b (4 + 3)) w.heap.size := fun x hx h0 => wtr (hG.white.2 x (Nat.lt_of_lt_of_le hx (Nat.le_trans hszd hal.size))) (hCa x hx h0) h0
  have hPBy := hG.part (hPBa.below hal) (by omega) (by omega)
  have hPRy := hG.part (hPRa.below hal) (by omega) (by omega)
  have hly : ((CnS.appI Sa 3 v).I 3).length = L + 1 := by
    show (Sa.I 3 ++ [v]).length = L + 1
    rw [List.length_append, HL.out]
    rfl
  have hlo2 : (CnS.appI Sa 3 v).I 0 = Sa.I 0 := rfl
  have HV2 : Hid (((CnS.appI Sa 3 v).I 0)[L]? = some v) := HV
  rw [← hlo2] at hLv hb2o
  rw [HL.out] at hb2a
  clear m0 m2 hPBa hPRa hlo2 HV
  clear z0 z1 i0 i1 i2 i3 i4 i5 fz e0 e1
  clear hwu9 hG hr12 hrowA hMA hMd hvq hvs hg2 hq2 hWd hszd hal hlg hcg hlen hbA hbb hMa hWa hCa
  obtain ⟨Sy, hSy⟩ : ∃ s, CnS.appI Sa 3 (v) = s := ⟨_, rfl⟩
  rw [hSy] at hMy hly hLv hb2o HV2
  have HSy := Lib.hid hSy
  generalize paint cola b (4 + 3) = coly at *
  generalize ({ pa with iA := upd pa.iA 3 A', ic := upd pa.ic 3 c' } : CnP) = py at *
  obtain ⟨bo, oo, curo, hAo, hro, hco⟩ := (hMy.ints 0 (by omega)).part.now.cells (by omega)
  replace hco := hco L _ (iv_at HV2.out)
  have hlbo := hro.lt
  have hlg := hMy.lt
  have hlr := hPRy.now.lt
  have m1 : wy.cell? ⟨g9, 1, none⟩ = some (.int .i64 ((L : Int) + 1)) := hPRy.now.cell 1
  have m2 : wy.cell? ⟨g9, 2, none⟩ = some (.int .i64 v) := hPRy.now.cell 2
  have m4 : wy.cell? ⟨g9, 4, none⟩ = some (.slice A8 bd.length c8) := hPRy.now.cell 4
  obtain ⟨⟨z0, z1, i0, i1, i2, i3, i4, i5⟩, fz, e0, e1⟩ := hMy.cells
  have ia' := i3
  rw [hly] at ia'
  have io' := i0
  rw [hAo] at io'
  clear z0 z1 i0 i1 i2 i3 i4 i5 fz e0 e1
  clear hAo hro hPRy HL hly
  have hLi : (L : Int) < ((Sy.I 0).length : Int) := by omega
  have hL0 : (0 : Int) ≤ (L : Int) := by omega
  have dL : decide ((L : Int) + 1 ≤ ((Sy.I 0).length : Int)) = true := decide_eq_true (by omega)
  have dLn : decide (L + 1 ≤ (Sy.I 0).length) = true := decide_eq_true (by omega)
  have hwL : IntKind.i64.wrap ((L : Int) + 1 - 1) = (L : Int) := by rw [IntKind.wrap_i64]; omega
  have hwL2 : IntKind.i64.wrap (L : Int) = (L : Int) := by rw [IntKind.wrap_i64]; omega
  have hwo : IntKind.i64.wrap 0 = 0 := by rw [IntKind.wrap_i64]; rfl
  have hIB := hPBy.now
  go_upto_region 7 with (fail)
  have hlg : g < wy.drew.heap.size := hlg
  have hlr : g9 < wy.drew.heap.size := hlr
  have hlbo : bo < wy.drew.heap.size := hlbo
  have ia' : wy.drew.cell? ⟨g, 17, none⟩ = some (.slice (py.iA 3) (L + 1) (py.ic 3)) := ia'
  have io' : wy.drew.cell? ⟨g, 14, none⟩ = some (.slice (some ⟨bo, oo, none⟩) (Sy.I 0).length (py.ic 0)) := io'
  have hco : wy.drew.cell? ⟨bo, oo + L, none⟩ = some (.int .i64 v) := hco
  have m1 : wy.drew.cell? ⟨g9, 1, none⟩ = some (.int .i64 ((L : Int) + 1)) := m1
  have m2 : wy.drew.cell? ⟨g9, 2, none⟩ = some (.int .i64 v) := m2
  have m4 : wy.drew.cell? ⟨g9, 4, none⟩ = some (.slice A8 bd.length c8) := m4
  have hMz := hMy.drew
  have hWz : White col w wy.drew := hWy.stepU hCy (White.below ((Below.refl _ _).drew))
  have hIB : IsB wy.drew A8 bd.length bd := hIB
  refine wp_region_told (n := 154) (fun w' => Below wy.drew.heap.size wy.drew w') (fun _ _ => True) (by kernel_rfl) (by kernel_rfl) (by rfl) (Below.refl _ _) ?_
  repeat (first | (refine walk_pure (v := ?_) (fun _ => trivial) (fun _ => rfl) ?_ ?_; rotate_left; (focus (intro us w9 hS9 hF; clear hF; have b0 := (hS9.cell (p := ⟨g, 17, none⟩) hlg).trans ia'; have b1 := (hS9.cell (p := ⟨g, 14, none⟩) hlg).trans io'; have b2 := (hS9.cell (p := ⟨bo, oo + L, none⟩) hlbo).trans hco; have b3 := (hS9.cell (p := ⟨g9, 1, none⟩) hlr).trans m1; have b4 := (hS9.cell (p := ⟨g9, 2, none⟩) hlr).trans m2; have b5 := (hS9.cell (p := ⟨g9, 4, none⟩) hlr).trans m4; go_simp; (try with_reducible rfl); done)); simp only [Act.put, zA, zB, zC, Nat.reduceAdd]) | (refine walk_skip (fun _ => trivial) (fun _ => rfl) ?_; simp only [Act.put, zA, zB, zC, Nat.reduceAdd]))
  refine walk_fix (v := .int .i64 v) ?_ ?_; (focus (intro us w9 hS9 hF K hK; clear hF; go_simp; refine (number_v HW.out (hIB.below hS9)).mono ?_; rintro en w' ⟨rfl, hb⟩; exact hK _ (below_on hS9 hb) trivial)); simp only [Act.put, zA, zB, zC, Nat.reduceAdd]
  repeat (first | (refine walk_pure (v := ?_) (fun _ => trivial) (fun _ => rfl) ?_ ?_; rotate_left; (focus (intro us w9 hS9 hF; clear hF; have b0 := (hS9.cell (p := ⟨g, 17, none⟩) hlg).trans ia'; have b1 := (hS9.cell (p := ⟨g, 14, none⟩) hlg).trans io'; have b2 := (hS9.cell (p := ⟨bo, oo + L, none⟩) hlbo).trans hco; have b3 := (hS9.cell (p := ⟨g9, 1, none⟩) hlr).trans m1; have b4 := (hS9.cell (p := ⟨g9, 2, none⟩) hlr).trans m2; have b5 := (hS9.cell (p := ⟨g9, 4, none⟩) hlr).trans m4; go_simp; (try with_reducible rfl); done)); simp only [Act.put, zA, zB, zC, Nat.reduceAdd]) | (refine walk_skip (fun _ => trivial) (fun _ => rfl) ?_; simp only [Act.put, zA, zB, zC, Nat.reduceAdd]))
  refine walk_done fun us w9 hS9 hF => ?_
  clear hF
  clear ia' io' hco m1 m2 m4 hIB
  go_wp2
  go_ret
  have h1 := HSy.out
  have h4 := HSa.out
  subst h4 h1
  exact ⟨rfl, coly, py, hMz.below hS9, hWz.stepU hCy (White.below hS9), hCy⟩
set_option maxRecDepth 100000 in
set_option maxHeartbeats 8000000 in
theorem cn_take_rep1 (base g : Nat) (col : Nat → Nat) (w : World) (S : CnS) (p : CnP) (hM : CM base g col w S p) {D : Option Addr} {dc : Nat} {ms : List UInt8} {k : Nat} {v s0 er : Int} {bd : List UInt8} (hI : Part col 0 w (fun w => IsB w D ms.length ms)) (hn : ms.length ≤ 1000000) (hdc : ms.length ≤ dc) (hE : rcvE (S.E 1) ms = 0) (hm : dM ms = ⟨2, (k : Int) + 1, s0, er, bd⟩) (ho : (S.I 5)[k]? = some 0) (hv : (S.I 1)[k]? = some v) (hw : wdN bd = v) (h9c : (rcvU (S.E 1) ms).cs.length ≤ 1000) (h9s : (rcvU (S.E 1) ms).ss.length ≤ 1000) (hb2 : ∀ i, (S.I i).length ≤ 100000) : Calls Try.prog 87 #[.pointer (some ⟨g, 0, none⟩), .int .i64 1, .slice D ms.length dc] w (CStep base g col w ((S.putE 1 (rcvU (S.E 1) ms)).setI 5 k 1)) := by
  have HE := Lib.hid hE
  have HM := Lib.hid hm
  have HW := Lib.hid hw
  have HV := Lib.hid hv
  obtain ⟨e9, he9⟩ : ∃ e9, rcvU (S.E 1) ms = e9 := ⟨_, rfl⟩
  have HU := Lib.hid he9
  rw [he9] at h9c h9s ⊢
  have hH := (hM.held 1 (by omega)).now
  have hIw := hI.now
  have hlg := hM.lt
  have HO := Lib.hid ho
  have hkO := (List.getElem?_eq_some_iff.1 ho).1
  have hkv := (List.getElem?_eq_some_iff.1 hv).1
  have hb2O := hb2 5
  clear hE hm hw hv he9 ho
  obtain ⟨⟨z0, z1, i0, i1, i2, i3, i4, i5⟩, fz, e0, e1⟩ := hM.cells
  go_enter Try.func87, Try.ntmps87
  go_upto_region 2 with (first | ((with_reducible refine wp_load_g ?_ e1 Try.underlying112 rfl (uev_info _ _ _ _ _) ?_ ?_); rfl; rfl) | (go_at_call 78; (with_reducible refine (rcv_at HE.out HU.out HM.out hH hIw hn hdc).mono ?_); rintro en w3 ⟨A3, c3, B3, d3, A8, c8, rfl, ho3, hm3, hb3⟩) | ((with_reducible refine wp_row_store (L := UEV e9 A3 c3 B3 d3) ((Row.bornAt' (g := w3.heap.size) rfl 112 _).alloc _) ?_ (uev_info _ _ _ _ _) (uev_one _ _ _ _ _) ?_ ?_ ?_); rfl; rfl; rfl; intro w4 u4 r8) | ((with_reducible refine wp_row_store (L := RMV ⟨2, (k : Int) + 1, s0, er, bd⟩ A8 c8) ((Row.bornAt' (g := w3.heap.size + 1) (by simp) 97 _).upd u4 (by omega)) ?_ (rmv_info _ _ _) (rmv_one _ _ _) ?_ ?_ ?_); rfl; rfl; rfl; intro w5 u5 r9))
  clear z0 z1 i0 i1 i2 i3 i4 i5 fz e0 e1
  have hal := ((Below.refl w3.heap.size w3).alloc (Nat.le_refl _) (.cells ZU 112)).alloc (by simp) (.cells ZRm 97)
  have hal2 := Upd.below (Upd.below hal u4 (Nat.le_refl _)) u5 (by omega)
  have hB5 := hb3.trans (hal2.mono hb3.size)
  have r8 := r8.upd u5 (by omega)
  have hMg := hM.below hB5
  have hWg : White col w w5 := White.below hB5
  have hlo := hb3.size
  have hPE : Part col 0 w5 (fun w => HeldU w e9 A3 c3 B3 d3) := (Part.ownU ho3 (fun x h1 => hM.cn x h1) h9c h9s).below hal2
  have hPB : Part col 0 w5 (fun w => IsB w A8 bd.length bd) := (Part.bodyU hm3 (fun x h1 => hM.cn x h1)).below hal2
  have hPR : Part col 0 w5 (fun w => Row w (w3.heap.size + 1) 97 (RMV ⟨2, (k : Int) + 1, s0, er, bd⟩ A8 c8)) := Part.row r9 (hM.cn _ (by omega))
  clear hal hal2 hB5 u4 u5 hb3 ho3 hm3 hIw hH hI r9 hlg h9c h9s
  generalize w3.heap.size + 1 = g9 at *
  obtain ⟨⟨z0, z1, i0, i1, i2, i3, i4, i5⟩, fz, e0, e1⟩ := hMg.cells
  go_upto_region 4 with (fail)
  clear z0 z1 i0 i1 i2 i3 i4 i5 fz e0 e1
  have hrow : Row w5.drew g 116 ((UEV (S.E 0) (p.A 0) (p.c 0) (p.B 0) (p.d 0)).toList ++ (UEV (S.E 1) (p.A 1) (p.c 1) (p.B 1) (p.d 1)).toList ++ ([.slice (p.zA 0) (S.Z 0).length (p.zc 0), .slice (p.zA 1) (S.Z 1).length (p.zc 1), .slice (p.iA 0) (S.I 0).length (p.ic 0), .slice (p.iA 1) (S.I 1).length (p.ic 1), .slice (p.iA 2) (S.I 2).length (p.ic 2), .slice (p.iA 3) (S.I 3).length (p.ic 3), .slice (p.iA 4) (S.I 4).length (p.ic 4), .slice (p.iA 5) (S.I 5).length (p.ic 5)] : List Value)).toArray := hMg.row.now
  have r8 : Row w5.drew w3.heap.size 112 (UEV e9 A3 c3 B3 d3) := r8
  refine wp_region_tailN (n := 154) 6 (fun w' => w' = w5.drew) (fun _ _ => True) (by kernel_rfl) (by kernel_rfl) (by decide) (by rfl) rfl ?_
  simp only [List.take_succ_cons, List.take_zero, List.drop_succ_cons, List.drop_zero]
  iterate 2 (refine tail_pure (fun w => trivial) (v := ?_) (fun _ => rfl) ?_ ?_; rotate_left; (focus (intro us w9 hS9 hF; clear hF; subst hS9; go_simp; (try with_reducible rfl); done)); simp only [Act.put, zA, zB, zC, Nat.reduceAdd])
  refine tail_pure (fun w => trivial) (v := .agg (UEV e9 A3 c3 B3 d3)) (fun _ => rfl) ?_ ?_; (focus (intro us w9 hS9 hF; clear hF; subst hS9; exact exec_load_g r8.range Try.underlying112 rfl (uev_info _ _ _ _ _) rfl)); simp only [Act.put, zA, zB, zC, Nat.reduceAdd]
  iterate 3 (refine tail_pure (fun w => trivial) (v := ?_) (fun _ => rfl) ?_ ?_; rotate_left; (focus (intro us w9 hS9 hF; clear hF; subst hS9; go_simp; (try with_reducible rfl); done)); simp only [Act.put, zA, zB, zC, Nat.reduceAdd])
  refine tail_done fun us w7 hS7 hF => ?_
  subst hS7
  clear hF
  refine wp_put_midU (g := g) (t := 116) (off := 6) (pre := (UEV (S.E 0) (p.A 0) (p.c 0) (p.B 0) (p.d 0)).toList) (cs := (UEV (S.E 1) (p.A 1) (p.c 1) (p.B 1) (p.d 1)).toList) (post := ([.slice (p.zA 0) (S.Z 0).length (p.zc 0), .slice (p.zA 1) (S.Z 1).length (p.zc 1), .slice (p.iA 0) (S.I 0).length (p.ic 0), .slice (p.iA 1) (S.I 1).length (p.ic 1), .slice (p.iA 2) (S.I 2).length (p.ic 2), .slice (p.iA 3) (S.I 3).length (p.ic 3), .slice (p.iA 4) (S.I 4).length (p.ic 4), .slice (p.iA 5) (S.I 5).length (p.ic 5)] : List Value)) (L := UEV e9 A3 c3 B3 d3) hrow rfl rfl (uev_info _ _ _ _ _) (uev_one _ _ _ _ _) ?_ ?_ ?_; rfl; rfl; intro wa u7 r7
  have hMgd := hMg.drew
  have hMa : CM base g col wa (S.putE 1 e9) _ := hMgd.putE (s := 1) (by omega) u7 (hPE.below ((Below.refl _ _).drew)) r7
  have hWa : White col w wa := (hWg.stepU (fun _ _ _ => rfl) (White.below ((Below.refl _ _).drew))).stepU (fun _ _ _ => rfl) ((Only.upd u7 hMg.cg).white (by omega))
  have hCa : KeepC col col w.heap.size := fun _ _ _ => rfl
  have hPBa : Part col 0 wa (fun w => IsB w A8 bd.length bd) := (hPB.below ((Below.refl _ _).drew)).only (Only.upd u7 hMg.cg) (by omega)
  have hPRa : Part col 0 wa (fun w => Row w g9 97 (RMV ⟨2, (k : Int) + 1, s0, er, bd⟩ A8 c8)) := (hPR.below ((Below.refl _ _).drew)).only (Only.upd u7 hMg.cg) (by omega)
  have hSI : (CnS.putE S 1 e9).I = S.I := rfl
  obtain ⟨Sa, hSa⟩ : ∃ s, CnS.putE S 1 e9 = s := ⟨_, rfl⟩
  rw [hSa] at hMa hSI
  have HSI := Lib.hid hSI
  have HSa := Lib.hid hSa
  rw [← hSI] at hb2O hkO hkv HO HV
  clear hSa hSI hrow r8 u7 r7 hMg hMgd hPB hPR hPE hWg hb2 hM
  generalize ({ p with A := upd p.A 1 A3, c := upd p.c 1 c3, B := upd p.B 1 B3, d := upd p.d 1 d3 } : CnP) = pa at *
  obtain ⟨cola, hcola⟩ : ∃ c, col = c := ⟨_, rfl⟩
  have hMa : CM base g cola wa Sa pa := by rw [← hcola]; exact hMa
  have hCa : KeepC col cola w.heap.size := by rw [← hcola]; exact hCa
  have hPBa : Part cola 0 wa (fun w => IsB w A8 bd.length bd) := by rw [← hcola]; exact hPBa
  have hPRa : Part cola 0 wa (fun w => Row w g9 97 (RMV ⟨2, (k : Int) + 1, s0, er, bd⟩ A8 c8)) := by rw [← hcola]; exact hPRa
  clear hcola
  have m0 : wa.cell? ⟨g9, 0, none⟩ = some (.int .i64 2) := hPRa.now.cell 0
  have m1 : wa.cell? ⟨g9, 1, none⟩ = some (.int .i64 ((k : Int) + 1)) := hPRa.now.cell 1
  obtain ⟨bO, oO, curO, hAO, hrO, hcO⟩ := (hMa.ints 5 (by omega)).part.now.cells (by omega)
  replace hcO := hcO k _ (iv_at HO.out)
  have hoq := (hMa.ints 5 (by omega)).part.now
  rw [hAO] at hoq
  have hfO := hoq.frozen (oO + k)
  obtain ⟨⟨z0, z1, i0, i1, i2, i3, i4, i5⟩, fz, e0, e1⟩ := hMa.cells
  have iO' := i5
  rw [hAO] at iO'
  clear z0 z1 i0 i1 i2 i3 i4 i5 fz e0 e1
  clear hrO hoq
  have hki : (k : Int) < ((Sa.I 5).length : Int) := by omega
  have hk0 : (0 : Int) ≤ (k : Int) := by omega
  have dk0 : decide ((k : Int) < 0) = false := decide_eq_false (by omega)
  have dkO : decide (((Sa.I 5).length : Int) ≤ (k : Int)) = false := decide_eq_false (by omega)
  have dkOn : decide ((Sa.I 5).length ≤ k) = false := decide_eq_false (by omega)
  have hwk : IntKind.i64.wrap ((k : Int) + 1 - 1) = (k : Int) := by rw [IntKind.wrap_i64]; omega
  have hwk2 : IntKind.i64.wrap (k : Int) = (k : Int) := by rw [IntKind.wrap_i64]; omega
  have hw01 : IntKind.i64.wrap 1 = 1 := by rw [IntKind.wrap_i64]; rfl
  have hw02 : IntKind.i64.wrap (0 + 1) = 1 := by rw [IntKind.wrap_i64]; rfl
  go_upto_region 12 with (fail)
  have hMb := hMa.setI (i := 5) (x := 1) (by omega) hAO hkO
  have hMb : CM base g cola (wa.setCell ⟨bO, oO + k, none⟩ (.int .i64 1)) (CnS.setI Sa 5 k 1) pa := hMb
  have hcolO : cola bO = 4 + 5 := (hMa.ints 5 (by omega)).blk bO (by rw [hAO]; rfl)
  have uO := Upd.setCell wa bO (oO + k) (.int .i64 1)
  have hOnly : Only cola (4 + 5) wa (wa.setCell ⟨bO, oO + k, none⟩ (.int .i64 1)) := Only.upd uO hcolO
  have hPBb := hPBa.only hOnly (by omega)
  have hPRb := hPRa.only hOnly (by omega)
  have hWb : White col w (wa.setCell ⟨bO, oO + k, none⟩ (.int .i64 1)) := hWa.stepU hCa (hOnly.white (by omega))
  have hkv2 : k < ((CnS.setI Sa 5 k 1).I 1).length := hkv
  have HV2 : Hid (((CnS.setI Sa 5 k 1).I 1)[k]? = some v) := HV
  have HO2 : Hid (((CnS.setI Sa 5 k 1).I 5)[k]? = some 1) := Lib.hid (by
    show ((Sa.I 5).set k 1)[k]? = some 1
    exact List.getElem?_set_self hkO)
  have hlO2 : ((CnS.setI Sa 5 k 1).I 5).length = (Sa.I 5).length := by
    show ((Sa.I 5).set k 1).length = _
    exact List.length_set
  rw [← hlO2] at hki
  clear m0 m1 hcO hfO iO' hPBa hPRa hOnly uO hcolO hMa hWa dkO dkOn hkv HV HO hkO hlO2
  generalize wa.setCell ⟨bO, oO + k, none⟩ (.int .i64 1) = wb at *
  obtain ⟨Sb, hSb⟩ : ∃ s, CnS.setI Sa 5 k 1 = s := ⟨_, rfl⟩
  rw [hSb] at hMb hkv2 HV2 HO2 hki
  have HSb := Lib.hid hSb
  clear hSb
  obtain ⟨bo, oo, curo, hAo, hro, hco⟩ := (hMb.ints 1 (by omega)).part.now.cells (by omega)
  replace hco := hco k _ (iv_at HV2.out)
  have hlbo := hro.lt
  obtain ⟨bq, oq, curq, hAq, hrq, hcq⟩ := (hMb.ints 5 (by omega)).part.now.cells (by omega)
  replace hcq := hcq k _ (iv_at HO2.out)
  have hlbq := hrq.lt
  have hlg := hMb.lt
  have hlr := hPRb.now.lt
  have m4 : wb.cell? ⟨g9, 4, none⟩ = some (.slice A8 bd.length c8) := hPRb.now.cell 4
  obtain ⟨⟨z0, z1, i0, i1, i2, i3, i4, i5⟩, fz, e0, e1⟩ := hMb.cells
  have io' := i1
  rw [hAo] at io'
  have iq' := i5
  rw [hAq] at iq'
  clear z0 z1 i0 i1 i2 i3 i4 i5 fz e0 e1
  clear hAo hro hAq hrq hPRb hAO
  have hks : (k : Int) < ((Sb.I 1).length : Int) := by omega
  have hIB := hPBb.now
  have hlg : g < wb.drew.heap.size := hlg
  have hlr : g9 < wb.drew.heap.size := hlr
  have hlbo : bo < wb.drew.heap.size := hlbo
  have hlbq : bq < wb.drew.heap.size := hlbq
  have iq' : wb.drew.cell? ⟨g, 19, none⟩ = some (.slice (some ⟨bq, oq, none⟩) (Sb.I 5).length (pa.ic 5)) := iq'
  have io' : wb.drew.cell? ⟨g, 15, none⟩ = some (.slice (some ⟨bo, oo, none⟩) (Sb.I 1).length (pa.ic 1)) := io'
  have hco : wb.drew.cell? ⟨bo, oo + k, none⟩ = some (.int .i64 v) := hco
  have hcq : wb.drew.cell? ⟨bq, oq + k, none⟩ = some (.int .i64 1) := hcq
  have m4 : wb.drew.cell? ⟨g9, 4, none⟩ = some (.slice A8 bd.length c8) := m4
  have hMz := hMb.drew
  have hWz : White col w wb.drew := hWb.stepU hCa (White.below ((Below.refl _ _).drew))
  have hIB : IsB wb.drew A8 bd.length bd := hIB
  refine wp_region_told (n := 154) (fun w' => Below wb.drew.heap.size wb.drew w') (fun _ _ => True) (by kernel_rfl) (by kernel_rfl) (by rfl) (Below.refl _ _) ?_
  repeat (first | (refine walk_pure (v := ?_) (fun _ => trivial) (fun _ => rfl) ?_ ?_; rotate_left; (focus (intro us w9 hS9 hF; clear hF; have b0 := (hS9.cell (p := ⟨g, 19, none⟩) hlg).trans iq'; have b1 := (hS9.cell (p := ⟨g, 15, none⟩) hlg).trans io'; have b2 := (hS9.cell (p := ⟨bo, oo + k, none⟩) hlbo).trans hco; have b3 := (hS9.cell (p := ⟨bq, oq + k, none⟩) hlbq).trans hcq; have b4 := (hS9.cell (p := ⟨g9, 4, none⟩) hlr).trans m4; go_simp; (try with_reducible rfl); done)); simp only [Act.put, zA, zB, zC, Nat.reduceAdd]) | (refine walk_skip (fun _ => trivial) (fun _ => rfl) ?_; simp only [Act.put, zA, zB, zC, Nat.reduceAdd]))
  refine walk_fix (v := .int .i64 v) ?_ ?_; (focus (intro us w9 hS9 hF K hK; clear hF; go_simp; refine (number_v HW.out (hIB.below hS9)).mono ?_; rintro en w' ⟨rfl, hb⟩; exact hK _ (below_on hS9 hb) trivial)); simp only [Act.put, zA, zB, zC, Nat.reduceAdd]
  repeat (first | (refine walk_pure (v := ?_) (fun _ => trivial) (fun _ => rfl) ?_ ?_; rotate_left; (focus (intro us w9 hS9 hF; clear hF; have b0 := (hS9.cell (p := ⟨g, 19, none⟩) hlg).trans iq'; have b1 := (hS9.cell (p := ⟨g, 15, none⟩) hlg).trans io'; have b2 := (hS9.cell (p := ⟨bo, oo + k, none⟩) hlbo).trans hco; have b3 := (hS9.cell (p := ⟨bq, oq + k, none⟩) hlbq).trans hcq; have b4 := (hS9.cell (p := ⟨g9, 4, none⟩) hlr).trans m4; go_simp; (try with_reducible rfl); done)); simp only [Act.put, zA, zB, zC, Nat.reduceAdd]) | (refine walk_skip (fun _ => trivial) (fun _ => rfl) ?_; simp only [Act.put, zA, zB, zC, Nat.reduceAdd]))
  refine walk_done fun us w9 hS9 hF => ?_
  clear hF
  clear iq' io' hco hcq m4 hIB
  go_wp2
  go_ret
  have h1 := HSb.out
  have h4 := HSa.out
  subst h4 h1
  exact ⟨rfl, cola, pa, hMz.below hS9, hWz.stepU hCa (White.below hS9), hCa⟩
end
end Go.Proofs.Ythjkhambmgepdaa
