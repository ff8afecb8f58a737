/- Texts Me, without what this claim does not use. -/
import Derived.Test.YthjkhambmgepdaaQax
namespace Go.Proofs.Ythjkhambmgepdaa
section
open Go
set_option linter.unusedVariables false
section
open Go.RowKit
def dvE (e : LE) (k : Int) (el fl : Bool) (len ack : Int) (p : List UInt8) : Int :=
  if vE e then (if lnE k el fl len p = 0 then (if mv ack e.a ≤ e.s - e.a then (if k = 1 then (if acD e el fl len p then (if e.rc = 4611686018427387904 then 15 else 0) else 66) else 0) else 66) else 66) else 74
def dvC (e : LE) (k : Int) (fl : Bool) (len : Int) (p : List UInt8) : Bool := decide (k = 1) && acE e fl len p
def dvM (e : LE) (k : Int) (fl : Bool) (len : Int) (p : List UInt8) : List UInt8 := if dvC e k fl len p then acP e fl len p else []
def dvG (e : LE) (k : Int) (fl : Bool) (len ack : Int) (p : List UInt8) : LE :=
  if k = 1 then { e with a := e.a + mv ack e.a, rc := e.rc + 1, want := if acE e fl len p then -1 else acW e fl p, pt := if acE e fl len p then [] else acP e fl len p } else { e with a := e.a + mv ack e.a }
def HeldT (w : World) (lo : Nat) (e : LE) (A : Option Addr) (c : Nat) (B : Option Addr) (d : Nat) : Prop := ∃ vs b2 b3, lo ≤ b2 ∧ lo ≤ b3 ∧ OwnV w b2 44 1 A e.q.length c vs ∧ QV w b2 vs e.q ∧ OwnB w b3 5 B e.pt.length d e.pt ∧ ∀ m ∈ e.q, m.length ≤ 1000000000
theorem HeldT.keeps {ts : List TypeId} {w w' : World} {lo : Nat} {e : LE} {A B : Option Addr} {c d : Nat} (h : HeldT w lo e A c B d) (k : Keeps ts w w') (h1 : 44 ∉ ts) (h2 : 5 ∉ ts) : HeldT w' lo e A c B d := by
  obtain ⟨vs, b2, b3, l2, l3, ho, hq, hb, hm⟩ := h
  exact ⟨vs, b2, b3, l2, l3, ho.keeps k h1, hq.keeps k h2, hb.keeps k h2, hm⟩
theorem HeldT.heldI {w : World} {lo : Nat} {e : LE} {A B : Option Addr} {c d : Nat} (h : HeldT w lo e A c B d) : HeldI w lo w.heap.size e A c B d := by
  obtain ⟨vs, b2, b3, l2, l3, ho, hq, hb, hm⟩ := h
  exact ⟨Nat.le_refl _, fun w' hw' => ⟨isM_of (ho.stay l2 hw') (hq.stay l2 hw') (fun x hx => by have := hm x hx; omega), ho.cap, (hb.stay l3 hw').isB, hb.capM⟩⟩
def DvP (e : LE) (k : Int) (el fl : Bool) (len ack : Int) (p : List UInt8) (W : World) (en : Ending) (W' : World) : Prop :=
  (dvE e k el fl len ack p ≠ 0 ∧ en = .returned (.tuple #[.agg ZE, .slice none 0 0, .bool false, .int .i64 (dvE e k el fl len ack p)]) ∧ Below W.heap.size W W') ∨
  (dvE e k el fl len ack p = 0 ∧ ∃ A c B d M mc, en = .returned (.tuple #[.agg (LEV (dvG e k fl len ack p) A c B d), .slice M (dvM e k fl len p).length mc, .bool (dvC e k fl len p), .int .i64 0]) ∧
    HeldT W' W.heap.size (dvG e k fl len ack p) A c B d ∧ OwnB W' W.heap.size 5 M (dvM e k fl len p).length mc (dvM e k fl len p) ∧ Below W.heap.size W W')
end
section
open Go.RowKit
theorem results_cttt {P : Program} {fn : Func} {p u v x : Tmp} {ty1 : TypeId} {d1 : TypeDesc} (h : fn.results = #[.cell p ty1, .tmp u, .tmp v, .tmp x]) {tmps : Array Value} {w : World} {g1 : Nat} {t1 : TypeId} {cs1 : Array Value}
    (h1 : tmps.getD p undef = .pointer (some ⟨g1, 0, none⟩)) (r1 : Row w g1 t1 cs1)
    (u1 : P.underlying ty1 = some d1) (k1 : d1.isRow = true) (i1 : (P.info? ty1).map (·.size) = some cs1.size) :
    (results fn tmps).run P w = .ok (.tuple #[.agg cs1, tmps.getD u undef, tmps.getD v undef, tmps.getD x undef]) w := by
  have l1 := run_loadVar_mid (P := P) w g1 0 ty1 cs1.toList d1 r1.range u1 k1 (by simpa using i1)
  simp only [Array.toArray_toList] at l1
  simp only [Array.getD_eq_getD_getElem?] at h1
  simp [results, h, h1, asAddr, l1]
theorem enc_yes (k : Int) (e f : Bool) (n a : Int) (p : List UInt8) (a0 : 0 ≤ a) (a1 : a < 65536) (hp : p.length = 56) (W : World) (hE : lnE k e f n p = 0) : Calls Try.prog 30 #[.agg (LV k e f n a p)] W (fun en W' => ∃ g, en = .returned (.tuple #[.slice (some ⟨g, 0, none⟩) 64 64, .int .i64 0]) ∧ Below W.heap.size W W') := by
  refine (encode_line k e f n a p a0 a1 hp W).mono ?_
  rintro en W' ⟨h | ⟨-, g, -, h, -⟩, hb⟩
  · exact absurd hE h.1
  · exact ⟨g, h, hb⟩
section
variable {P : Program} {a : Act} {w : World} {typ : TypeId} {pos : String} {after : Array Edge}
theorem wp_put_mid {ops : Array Oper} {rest : List Oper} {Q : Exit → Act → World → Prop} {ty : TypeId} {x y : Operand} {g off : Nat} {t : TypeId} {pre cs post : List Value} {L : Array Value} (hrow : Row w g t (pre ++ cs ++ post).toArray) (ho : off = pre.length) (hs : cs.length = L.size) (hn : (P.info? ty).map (·.size) = some L.size)
    (h1 : L.all (·.oneCell') = true) (hx : a.eval x = .pointer (some ⟨g, off, none⟩)) (hy : a.eval y = .agg L) (h : ∀ w', Upd w w' g → Row w' g t (pre ++ L.toList ++ post).toArray → wpList P ops Q rest (a.put none undef) w') :
    wpList P ops Q ({ dst := none, op := .store ty x y, type := typ, pos := pos, after := after, guard := none } :: rest) a w := by
  subst ho
  have ht : w.there g pre.length L.size := fun j hj => by
    refine ⟨?_, hrow.frozen _⟩
    rw [hrow.cell]
    simp; omega
  refine wpList_store_mid (op := { dst := none, op := .store ty x y, type := typ, pos := pos, after := after, guard := none }) rfl ty x y rfl g pre.length L hx hy ht hn h1 ?_
  exact h _ (Upd.setCells g _ w _) (Row.setCells (g := g) (t := t) L.toList w pre post cs hrow (by simpa using hs))
end
end
section
open Go.RowKit
theorem Two.below {W w w' : World} {g : Nat} {k : Option Nat} (h : Two w w' g k) (hB : Below W.heap.size W w) (hg : W.heap.size ≤ g) (hk : ∀ x, k = some x → W.heap.size ≤ x) : Below W.heap.size W w' :=
  ⟨h.os.trans hB.os, h.tape.trans hB.tape, h.output.trans hB.output, Nat.le_trans hB.size h.size, fun x hx => (h.block x (Nat.lt_of_lt_of_le hx hB.size) (by omega) (fun e => by have := hk x e; omega)).trans (hB.block x hx)⟩
theorem QV.two {w w' : World} {base g : Nat} {k : Option Nat} {vs : List Value} {q : List (List UInt8)} {cs : Array Value} (h : QV w base vs q) (t : Two w w' g k) (hr : Row w g 155 cs) (hk : ∀ x, k = some x → x < base) : QV w' base vs q := ⟨h.1, fun i hi => by
  obtain ⟨A, c, e, ho⟩ := h.2 i hi
  refine ⟨A, c, e, ?_⟩
  obtain ⟨h1, h2⟩ := ho
  refine ⟨h1, ?_⟩
  rcases h2 with h2 | ⟨g', cap, cur, e1, hb, hg, r⟩
  · exact .inl h2
  · refine .inr ⟨g', cap, cur, e1, hb, (t.block g' (Array.getElem?_eq_some_iff.1 hg).1 (fun e => ?_) (fun e => ?_)).trans hg, r⟩
    · subst e
      have e2 := hr.symm.trans hg
      injection e2 with e2
      injection e2 with e3 e4 e5
      cases e4
    · have := hk g' e
      omega⟩
set_option maxRecDepth 100000 in
set_option maxHeartbeats 8000000 in
theorem dv_ack (e : LE) (A B : Option Addr) (c d : Nat) (k : Int) (el fl : Bool) (len ack : Int) (p : List UInt8) (W : World) (ht : e.ty) (hH : Held W e A c B d) (hl : p.length = 56) (ha : 0 ≤ ack ∧ ack < 65536) (hv : vE e = true) (hE : lnE k el fl len p = 0) (hm : mv ack e.a ≤ e.s - e.a) (hk : k ≠ 1) : Calls Try.prog 51 #[.agg (LEV e A c B d), .agg (LV k el fl len ack p)] W (DvP e k el fl len ack p W) := by
  have hvs := (vE_yes hv).vs
  have HE := Lib.hid (show dvE e k el fl len ack p = 0 by unfold dvE; rw [if_pos hv, if_pos hE, if_pos hm, if_neg hk])
  have HG := Lib.hid (show dvG e k fl len ack p = { e with a := e.a + mv ack e.a } by unfold dvG; rw [if_neg hk])
  have HC := Lib.hid (show dvC e k fl len p = false by unfold dvC; rw [decide_eq_false hk]; rfl)
  have HM := Lib.hid (show dvM e k fl len p = [] by unfold dvM; rw [HC.out]; rfl)
  have hok : akOk e.n e.s e.a ack = true := by simp [akOk, hvs, hm]
  have HN := Lib.hid (show akN e.n e.s e.a ack = e.n by unfold akN; rw [if_pos hok])
  have HS := Lib.hid (show akS e.n e.s e.a ack = e.s by unfold akS; rw [if_pos hok])
  have HA := Lib.hid (show akA e.n e.s e.a ack = e.a + mv ack e.a by unfold akA; rw [if_pos hok])
  have hak : akE e.n e.s e.a ack = 0 := by unfold akE; rw [if_pos hvs, if_pos hm]
  have dak : (akE e.n e.s e.a ack == 0) = true := by rw [hak]; rfl
  have d9 : (k == 1) = false := by rw [beq_eq_false_iff_ne]; exact hk
  clear hak hk hok hm hvs
  have hve := vE_yes hv
  have HV := Lib.hid hv
  have HL := Lib.hid hE
  clear hv hE
  obtain ⟨r1, r2, r3, hB1⟩ := three_born W 69 40 69 (LEV e A c B d) (LV k el fl len ack p) ZE
  go_enter Try.func51, Try.ntmps51
  go_upto_region 1 with (fail)
  change Code.wp _ _ _ _ (((W.alloc (.cells (LEV e A c B d) 69)).alloc (.cells (LV k el fl len ack p) 40)).alloc (.cells ZE 69))
  generalize ((W.alloc (.cells (LEV e A c B d) 69)).alloc (.cells (LV k el fl len ack p) 40)).alloc (.cells ZE 69) = w1 at *
  have hH1 := hH.below hB1
  go_upto_region 3 with (first | ((with_reducible refine wp_load_g ?_ r1.range Try.underlying69 rfl (lev_info _ _ _ _ _) ?_ ?_); rfl; rfl) | (go_at_call 101; (with_reducible refine (valid_is HV.out ht hH1).mono ?_); rintro en w2 ⟨rfl, hb⟩))
  have r1 := r1.below hb r1.lt
  have r2 := r2.below hb r2.lt
  have r3 := r3.below hb r3.lt
  have hB2 := hB1.trans (hb.mono hB1.size)
  clear hb hB1 hH1
  go_upto_region 6 with (first | ((with_reducible refine wp_load_g ?_ r2.range Try.underlying40 rfl (line_info _ _ _ _ _ hl) ?_ ?_); rfl; rfl) | (go_at_call 30; refine (enc_yes _ _ _ _ _ _ ha.1 ha.2 hl _ HL.out).mono ?_; rintro en w3 ⟨g3, rfl, hb⟩))
  have r1 := r1.below hb r1.lt
  have r2 := r2.below hb r2.lt
  have r3 := r3.below hb r3.lt
  have hB3 := hB2.trans (hb.mono hB2.size)
  clear hb hB2
  have hH3 := hH.below hB3
  go_upto_region 7 with (first | ((with_reducible refine wp_load_g ?_ r1.range Try.underlying69 rfl (lev_info _ _ _ _ _) ?_ ?_); rfl; rfl) | (go_at_call 102; (with_reducible refine (open_own e _ _ _ _ _ ht hH3).mono ?_); rintro en w6 ⟨g, A1, c1, B1, dd1, vs, b2, rfl, hWg, hr, hown, hq, hoB, hkB, hb2, hb⟩))
  have r2 := r2.below hb r2.lt
  have r3 := r3.below hb r3.lt
  have hB6 := hB3.trans (hb.mono hB3.size)
  clear hb hB3 hH3
  have hlg := hr.lt
  have h2lt := r2.lt
  obtain ⟨⟨c0, c1', c2, -, -⟩, -, fz⟩ := bv_cells hr
  obtain ⟨l0, l1, l2, l3, l4⟩ := line_cells r2
  refine wp_region_late (n := 90) [12] (CalS w6 12 (NoC) 1 11 27 #[.int .i64 (akN e.n e.s e.a ack), .int .u64 (akS e.n e.s e.a ack), .int .u64 (akA e.n e.s e.a ack)] 1000 11 27 #[.int .i64 (akN e.n e.s e.a ack), .int .u64 (akS e.n e.s e.a ack), .int .u64 (akA e.n e.s e.a ack)]) (Shp w6.heap.size) (by kernel_rfl) (by kernel_rfl) (by rfl) (CalS.loc (by decide) (fun c hc => mayAt_no (d := 0) (by kernel_rfl) (by omega) (by decide)) (fun c hc => mayAt_no (d := 0) (by kernel_rfl) (by omega) (by decide))) (CalS.start (by decide) (by decide)) ?_
  iterate 4 (refine late_pure (by simp) (Shp.refl _) (v := ?_) (fun _ => rfl) ?_ ?_; rotate_left; (focus (intro c9 us w9 hm9 hS9 hF; clear hF hm9; go_simp; (try with_reducible rfl); done)); simp only [Act.put, zA, zB, zC, Nat.reduceAdd])
  refine late_pure (by simp) (Shp.refl _) (v := .agg #[.int .i64 e.n, .int .u64 e.s, .int .u64 e.a]) (fun _ => rfl) ?_ ?_; (focus (intro c9 us w9 hm9 hS9 hF; have b0 := (hS9.1.cell (p := ⟨g, 0, none⟩) hlg).trans c0; have b1 := (hS9.1.cell (p := ⟨g, 1, none⟩) hlg).trans c1'; have b2' := (hS9.1.cell (p := ⟨g, 2, none⟩) hlg).trans c2; clear hF hm9; go_simp; (try with_reducible rfl); done)); simp only [Act.put, zA, zB, zC, Nat.reduceAdd]
  refine late_pure (by simp) (Shp.refl _) (v := ?_) (fun _ => rfl) ?_ ?_; rotate_left; (focus (intro c9 us w9 hm9 hS9 hF; clear hF hm9; go_simp; (try with_reducible rfl); done)); simp only [Act.put, zA, zB, zC, Nat.reduceAdd]
  refine late_pure (by simp) (Shp.refl _) (v := .int .u16 ack) (fun _ => rfl) ?_ ?_; (focus (intro c9 us w9 hm9 hS9 hF; have k4 := (hS9.1.cell (p := ⟨W.heap.size + 1, 4, none⟩) h2lt).trans l4; clear hF hm9; go_simp; (try with_reducible rfl); done)); simp only [Act.put, zA, zB, zC, Nat.reduceAdd]
  refine late_fix (by simp) (v := .tuple #[.agg #[.int .i64 (akN e.n e.s e.a ack), .int .u64 (akS e.n e.s e.a ack), .int .u64 (akA e.n e.s e.a ack)], .int .i64 (akE e.n e.s e.a ack)]) ?_ ?_; (focus (intro c9 us w9 hm9 hS9 hF K hK; clear hF; go_simp; refine (acknowledge e.n e.s e.a ack ht.s0 ht.s1 ht.a0 ha.1 ha.2 _).mono ?_; rintro e w' ⟨rfl, hb⟩; exact hK w' (hS9.below hb NoC.mono) (Shp.below hb))); simp only [Act.put, zA, zB, zC, Nat.reduceAdd]
  iterate 3 (refine late_pure (by simp) (Shp.refl _) (v := ?_) (fun _ => rfl) ?_ ?_; rotate_left; (focus (intro c9 us w9 hm9 hS9 hF; clear hF hm9; go_simp; (try with_reducible rfl); done)); simp only [Act.put, zA, zB, zC, Nat.reduceAdd])
  refine late_free (by simp) (PtrN w6.heap.size 27 3) PtrN.mono ?_ ?_; (focus (intro c9 us w9 hm9 hS9 hF K hK; go_simp; exact hK _ _ (hS9.alloc NoC.mono (.cells ZS 27)) (Shp.alloc _ _ _) ⟨w9.heap.size, ZS, rfl, hS9.1.size, Row.born w9 27 ZS, rfl⟩)); simp only [Act.put, zA, zB, zC, Nat.reduceAdd]
  refine late_store rfl ?_ ?_; (focus (intro us w9 hS9 hF K hK; obtain ⟨b3, cs, hu, hb3, hr, hn⟩ := hF (11, PtrN w6.heap.size 27 3) (by simp) (by kernel_rfl); simp only [hu] at hK ⊢; rw [if_pos (by rfl)]; exact step_put (L := #[.int .i64 (akN e.n e.s e.a ack), .int .u64 (akS e.n e.s e.a ack), .int .u64 (akA e.n e.s e.a ack)]) hr hn info27 (sender_one _ _ _) rfl rfl (fun w' u' r' => hK w' (hS9.st1 u' r' hu hb3 (by omega) (by omega) (fun h => trivial)) (Shp.upd u' hr r' hn)))); simp only [Nat.reduceAdd]
  refine late_pure (by simp) (Shp.refl _) (v := ?_) (fun _ => rfl) ?_ ?_; rotate_left; (focus (intro c9 us w9 hm9 hS9 hF; clear hF hm9; go_simp; (try with_reducible rfl); done)); simp only [Act.put, zA, zB, zC, Nat.reduceAdd]
  refine late_done fun us w7 hS8 hF => ?_
  obtain ⟨g9, hu1, hg9, r9⟩ := hS8.2.2.1 (by omega)
  have hBa := hS8.1
  clear hF hS8
  simp only [hu1]
  clear c0 c1' c2 fz l0 l1 l2 l3 l4
  have r2 := r2.below hBa r2.lt
  have r3 := r3.below hBa r3.lt
  have hr := hr.below hBa hr.lt
  have hB7 := hB6.trans (hBa.mono hB6.size)
  have hown := hown.below hBa
  have hq := hq.keeps (ts := []) (Keeps.below hBa) (by simp)
  have hoB := hoB.below hBa
  clear hBa
  obtain ⟨l0, l1, l2, l3, l4⟩ := line_cells r2
  have hw3 : W.heap.size < w3.heap.size := r1.lt
  obtain ⟨⟨s0, s1, s2⟩, sf⟩ := three_cells r9
  go_upto_region 17 with ((refine wp_put_mid (pre := []) (cs := [.int .i64 e.n, .int .u64 e.s, .int .u64 e.a]) (post := [.slice A1 e.q.length c1, .int .i64 e.off, .int .i64 e.rn, .int .u64 e.rc, .int .i64 e.want, .slice B1 e.pt.length dd1, .int .u64 e.told]) (L := #[.int .i64 (akN e.n e.s e.a ack), .int .u64 (akS e.n e.s e.a ack), .int .u64 (akA e.n e.s e.a ack)]) hr rfl rfl info27 (sender_one _ _ _) ?_ ?_ ?_; rfl; rfl; intro w8 u8 hr8))
  clear s0 s1 s2 sf
  have hkb : Keeps [155] w7 w8 := Keeps.upd u8 hr (by simp)
  have r3 := hkb.row r3 (by decide)
  have hown := hown.keeps hkb (by decide)
  have hq := hq.keeps hkb (by decide)
  have hoB := hoB.keeps hkb (by decide)
  have hB8 := Upd.below hB7 u8 (by omega)
  clear hkb u8 hr
  obtain ⟨e', he'⟩ : ∃ e', ({ e with a := e.a + mv ack e.a } : LE) = e' := ⟨_, rfl⟩
  have hr : Row w8 g 155 (LBV e' A1 c1 B1 dd1) := by
    rw [← he']
    have h := hr8
    rw [HN.out, HS.out, HA.out] at h
    exact h
  have HP := Lib.hid he'
  clear he' hr8
  go_wp2_with (first | (go_at_call 104; (with_reducible refine (end_any g e' _ _ _ _ _ hr).mono ?_); rintro en w10 ⟨rfl, hb⟩; have r3 := r3.below hb r3.lt) | ((with_reducible refine wp_row_store (L := LEV e' A1 c1 B1 dd1) r3 rfl (lev_info _ _ _ _ _) (lev_one _ _ _ _ _) ?_ ?_ ?_); rfl; rfl; intro w11 u11 r11))
  have hk11 : Keeps [69] w8 w11 := (Keeps.below hb).trans (Keeps.upd u11 r3 (by simp))
  have hB11 := Upd.below (hB8.trans (hb.mono hB8.size)) u11 (by omega)
  have hown := hown.keeps hk11 (by decide)
  have hq := hq.keeps hk11 (by decide)
  have hoB := hoB.keeps hk11 (by decide)
  refine bodyPost_ret (results_cttt rfl rfl r11 Try.underlying69 rfl (lev_info _ _ _ _ _)) rfl ?_
  have h' := HP.out
  subst h'
  have hve := vE_yes HV.out
  refine .inr ⟨HE.out, A1, c1, B1, dd1, none, 0, ?_, ?_, ?_, hB11⟩
  · rw [HM.out, HC.out, HG.out]
    rfl
  · rw [HG.out]
    exact ⟨vs, b2, w3.heap.size, by omega, by omega, hown, hq, hoB, fun x hx => by have := hve.qm x hx; omega⟩
  · rw [HM.out]
    exact OwnB.nil _ _ _
def AcF (e : LE) (Q : Value) (base g : Nat) (k0 : Option Nat) (fl : Bool) (len : Int) (p : List UInt8) (wt : Int) (R : Value) (B' : Option Addr) (d' : Nat) (W W' : World) : Prop :=
  OwnB W' base 5 B' (acP e fl len p).length d' (acP e fl len p) ∧ Two W W' g k0 ∧ Row W' g 155 (BW e.n e.s e.a Q e.off e.rn e.rc wt R e.told)
theorem acc_inc {e : LE} {Q : Value} {base g : Nat} {k0 : Option Nat} {el fl : Bool} {len : Int} {p : List UInt8} {W W' : World} {en : Ending} (h : AcP e Q base g k0 el fl len p W en W') (hD : acD e el fl len p = true) (hE : acE e fl len p = false) :
    ∃ B' d', en = .returned (.tuple #[.slice none 0 0, .bool false, .bool true]) ∧ AcF e Q base g k0 fl len p (acW e fl p) (.slice B' (acP e fl len p).length d') B' d' W W' := by
  rcases h with h | ⟨-, B', d', h1, h2, h3⟩
  · rw [hD] at h; cases h.1
  · rcases h3 with ⟨-, h4, h5⟩ | h3
    · exact ⟨B', d', h4, h1, h2, h5⟩
    · rw [hE] at h3; cases h3.1
theorem acc_com {e : LE} {Q : Value} {base g : Nat} {k0 : Option Nat} {el fl : Bool} {len : Int} {p : List UInt8} {W W' : World} {en : Ending} (h : AcP e Q base g k0 el fl len p W en W') (hD : acD e el fl len p = true) (hE : acE e fl len p = true) :
    ∃ B' d', en = .returned (.tuple #[.slice B' (acP e fl len p).length d', .bool true, .bool true]) ∧ AcF e Q base g k0 fl len p (-1) (.slice none 0 0) B' d' W W' := by
  rcases h with h | ⟨-, B', d', h1, h2, h3⟩
  · rw [hD] at h; cases h.1
  · rcases h3 with h3 | ⟨-, h4, h5⟩
    · rw [hE] at h3; cases h3.1
    · exact ⟨B', d', h4, h1, h2, h5⟩
structure AcH (e : LE) : Prop where
  rn : 2 ≤ e.rn ∧ e.rn ≤ 64
  rc : 0 ≤ e.rc ∧ e.rc < 18446744073709551616
  w : -1 ≤ e.want ∧ e.want ≤ 1048576
  pl : e.pt.length ≤ 1048576
  p0 : e.want = -1 → e.pt.length = 0
theorem ac_h {e : LE} (hv : VE e) (ht : e.ty) : AcH e := by
  have hp := hv.part
  unfold partOk at hp
  by_cases hw : e.want = -1
  · rw [if_pos hw] at hp
    have hp : e.pt.length = 0 := by simpa using hp
    exact ⟨vl_range (vr_vl hv.vr), ⟨ht.r0, ht.r1⟩, by omega, by omega, fun _ => hp⟩
  · rw [if_neg hw, Bool.and_eq_true, decide_eq_true_eq] at hp
    have h2 := cutB_yes hp.2
    exact ⟨vl_range (vr_vl hv.vr), ⟨ht.r0, ht.r1⟩, by omega, by omega, fun h => absurd h hw⟩
theorem ch4_loc {Q0 : World → Prop} {Q1 Q2 Q3 Q4 : Value → World → Prop} {ops : Array Oper} :
    ∀ c us us' w', (∀ k, mayAt ops [4, 5, 6, 9] c k = false ∨ k ∈ [4, 5, 6, 9].take c → us k = us' k) → Ch5 Q0 4 Q1 5 Q2 6 Q3 9 Q4 9 (fun _ _ => True) c us w' → Ch5 Q0 4 Q1 5 Q2 6 Q3 9 Q4 9 (fun _ _ => True) c us' w' := by
  intro c us us' w' hk ⟨a0, a1, a2, a3, a4, a5⟩
  refine ⟨a0, fun hc => ?_, fun hc => ?_, fun hc => ?_, fun hc => ?_, fun hc => trivial⟩
  · subst hc; rw [← hk 4 (.inr (by decide))]; exact a1 rfl
  · subst hc; rw [← hk 5 (.inr (by decide))]; exact a2 rfl
  · subst hc; rw [← hk 6 (.inr (by decide))]; exact a3 rfl
  · subst hc; rw [← hk 9 (.inr (by decide))]; exact a4 rfl
set_option maxRecDepth 100000 in
set_option maxHeartbeats 8000000 in
theorem dv_inc (e : LE) (A B : Option Addr) (c d : Nat) (k : Int) (el fl : Bool) (len ack : Int) (p : List UInt8) (W : World) (ht : e.ty) (hH : Held W e A c B d) (hl : p.length = 56) (ha : 0 ≤ ack ∧ ack < 65536) (hv : vE e = true) (hE : lnE k el fl len p = 0) (hm : mv ack e.a ≤ e.s - e.a) (hk : k = 1) (hD : acD e el fl len p = true) (hE2 : acE e fl len p = false) (hl62 : e.rc ≠ 4611686018427387904) : Calls Try.prog 51 #[.agg (LEV e A c B d), .agg (LV k el fl len ack p)] W (DvP e k el fl len ack p W) := by
  have hve := vE_yes hv
  have hvs := hve.vs
  have HE := Lib.hid (show dvE e k el fl len ack p = 0 by unfold dvE; rw [if_pos hv, if_pos hE, if_pos hm, if_pos hk, if_pos hD, if_neg hl62])
  have hok : akOk e.n e.s e.a ack = true := by simp [akOk, hvs, hm]
  have HN := Lib.hid (show akN e.n e.s e.a ack = e.n by unfold akN; rw [if_pos hok])
  have HS := Lib.hid (show akS e.n e.s e.a ack = e.s by unfold akS; rw [if_pos hok])
  have HA := Lib.hid (show akA e.n e.s e.a ack = e.a + mv ack e.a by unfold akA; rw [if_pos hok])
  have hak : akE e.n e.s e.a ack = 0 := by unfold akE; rw [if_pos hvs, if_pos hm]
  have dak : (akE e.n e.s e.a ack == 0) = true := by rw [hak]; rfl
  have d9 : (k == 1) = true := by rw [beq_iff_eq]; exact hk
  have hAc := ac_h hve ht
  have HG := Lib.hid (show dvG e k fl len ack p = { e with a := e.a + mv ack e.a, rc := e.rc + 1, want := acW e fl p, pt := acP e fl len p } by unfold dvG; rw [if_pos hk, hE2, if_neg (by decide), if_neg (by decide)])
  have HC := Lib.hid (show dvC e k fl len p = false by unfold dvC; rw [decide_eq_true hk, hE2]; rfl)
  have HM := Lib.hid (show dvM e k fl len p = [] by unfold dvM; rw [HC.out]; rfl)
  have HD := Lib.hid hD
  have HE2 := Lib.hid hE2
  have dr : (e.rc == 4611686018427387904) = false := by rw [beq_eq_false_iff_ne]; exact hl62
  have hr0 := ht.r0
  have hrx : e.rc ≤ 4611686018427387904 := by have h := hve.vr; simp [vr] at h; exact h.2
  have hwr : IntKind.u64.wrap (e.rc + 1) = e.rc + 1 := by rw [IntKind.wrap_u64]; omega
  clear hak hk hok hm hvs hD hE2 hve hl62
  have hve := vE_yes hv
  have HV := Lib.hid hv
  have HL := Lib.hid hE
  clear hv hE
  obtain ⟨r1, r2, r3, hB1⟩ := three_born W 69 40 69 (LEV e A c B d) (LV k el fl len ack p) ZE
  go_enter Try.func51, Try.ntmps51
  go_upto_region 1 with (fail)
  change Code.wp _ _ _ _ (((W.alloc (.cells (LEV e A c B d) 69)).alloc (.cells (LV k el fl len ack p) 40)).alloc (.cells ZE 69))
  generalize ((W.alloc (.cells (LEV e A c B d) 69)).alloc (.cells (LV k el fl len ack p) 40)).alloc (.cells ZE 69) = w1 at *
  have hH1 := hH.below hB1
  go_upto_region 3 with (first | ((with_reducible refine wp_load_g ?_ r1.range Try.underlying69 rfl (lev_info _ _ _ _ _) ?_ ?_); rfl; rfl) | (go_at_call 101; (with_reducible refine (valid_is HV.out ht hH1).mono ?_); rintro en w2 ⟨rfl, hb⟩))
  have r1 := r1.below hb r1.lt
  have r2 := r2.below hb r2.lt
  have r3 := r3.below hb r3.lt
  have hB2 := hB1.trans (hb.mono hB1.size)
  clear hb hB1 hH1
  go_upto_region 6 with (first | ((with_reducible refine wp_load_g ?_ r2.range Try.underlying40 rfl (line_info _ _ _ _ _ hl) ?_ ?_); rfl; rfl) | (go_at_call 30; refine (enc_yes _ _ _ _ _ _ ha.1 ha.2 hl _ HL.out).mono ?_; rintro en w3 ⟨g3, rfl, hb⟩))
  have r1 := r1.below hb r1.lt
  have r2 := r2.below hb r2.lt
  have r3 := r3.below hb r3.lt
  have hB3 := hB2.trans (hb.mono hB2.size)
  clear hb hB2
  have hH3 := hH.below hB3
  go_upto_region 7 with (first | ((with_reducible refine wp_load_g ?_ r1.range Try.underlying69 rfl (lev_info _ _ _ _ _) ?_ ?_); rfl; rfl) | (go_at_call 102; (with_reducible refine (open_own e _ _ _ _ _ ht hH3).mono ?_); rintro en w6 ⟨g, A1, c1, B1, dd1, vs, b2, rfl, hWg, hr, hown, hq, hoB, hkB, hb2, hb⟩))
  have r2 := r2.below hb r2.lt
  have r3 := r3.below hb r3.lt
  have hB6 := hB3.trans (hb.mono hB3.size)
  clear hb hB3 hH3
  have hlg := hr.lt
  have h2lt := r2.lt
  obtain ⟨⟨c0, c1', c2, -, -⟩, -, fz⟩ := bv_cells hr
  obtain ⟨l0, l1, l2, l3, l4⟩ := line_cells r2
  refine wp_region_late (n := 90) [12] (CalS w6 12 (NoC) 1 11 27 #[.int .i64 (akN e.n e.s e.a ack), .int .u64 (akS e.n e.s e.a ack), .int .u64 (akA e.n e.s e.a ack)] 1000 11 27 #[.int .i64 (akN e.n e.s e.a ack), .int .u64 (akS e.n e.s e.a ack), .int .u64 (akA e.n e.s e.a ack)]) (Shp w6.heap.size) (by kernel_rfl) (by kernel_rfl) (by rfl) (CalS.loc (by decide) (fun c hc => mayAt_no (d := 0) (by kernel_rfl) (by omega) (by decide)) (fun c hc => mayAt_no (d := 0) (by kernel_rfl) (by omega) (by decide))) (CalS.start (by decide) (by decide)) ?_
  iterate 4 (refine late_pure (by simp) (Shp.refl _) (v := ?_) (fun _ => rfl) ?_ ?_; rotate_left; (focus (intro c9 us w9 hm9 hS9 hF; clear hF hm9; go_simp; (try with_reducible rfl); done)); simp only [Act.put, zA, zB, zC, Nat.reduceAdd])
  refine late_pure (by simp) (Shp.refl _) (v := .agg #[.int .i64 e.n, .int .u64 e.s, .int .u64 e.a]) (fun _ => rfl) ?_ ?_; (focus (intro c9 us w9 hm9 hS9 hF; have b0 := (hS9.1.cell (p := ⟨g, 0, none⟩) hlg).trans c0; have b1 := (hS9.1.cell (p := ⟨g, 1, none⟩) hlg).trans c1'; have b2' := (hS9.1.cell (p := ⟨g, 2, none⟩) hlg).trans c2; clear hF hm9; go_simp; (try with_reducible rfl); done)); simp only [Act.put, zA, zB, zC, Nat.reduceAdd]
  refine late_pure (by simp) (Shp.refl _) (v := ?_) (fun _ => rfl) ?_ ?_; rotate_left; (focus (intro c9 us w9 hm9 hS9 hF; clear hF hm9; go_simp; (try with_reducible rfl); done)); simp only [Act.put, zA, zB, zC, Nat.reduceAdd]
  refine late_pure (by simp) (Shp.refl _) (v := .int .u16 ack) (fun _ => rfl) ?_ ?_; (focus (intro c9 us w9 hm9 hS9 hF; have k4 := (hS9.1.cell (p := ⟨W.heap.size + 1, 4, none⟩) h2lt).trans l4; clear hF hm9; go_simp; (try with_reducible rfl); done)); simp only [Act.put, zA, zB, zC, Nat.reduceAdd]
  refine late_fix (by simp) (v := .tuple #[.agg #[.int .i64 (akN e.n e.s e.a ack), .int .u64 (akS e.n e.s e.a ack), .int .u64 (akA e.n e.s e.a ack)], .int .i64 (akE e.n e.s e.a ack)]) ?_ ?_; (focus (intro c9 us w9 hm9 hS9 hF K hK; clear hF; go_simp; refine (acknowledge e.n e.s e.a ack ht.s0 ht.s1 ht.a0 ha.1 ha.2 _).mono ?_; rintro e w' ⟨rfl, hb⟩; exact hK w' (hS9.below hb NoC.mono) (Shp.below hb))); simp only [Act.put, zA, zB, zC, Nat.reduceAdd]
  iterate 3 (refine late_pure (by simp) (Shp.refl _) (v := ?_) (fun _ => rfl) ?_ ?_; rotate_left; (focus (intro c9 us w9 hm9 hS9 hF; clear hF hm9; go_simp; (try with_reducible rfl); done)); simp only [Act.put, zA, zB, zC, Nat.reduceAdd])
  refine late_free (by simp) (PtrN w6.heap.size 27 3) PtrN.mono ?_ ?_; (focus (intro c9 us w9 hm9 hS9 hF K hK; go_simp; exact hK _ _ (hS9.alloc NoC.mono (.cells ZS 27)) (Shp.alloc _ _ _) ⟨w9.heap.size, ZS, rfl, hS9.1.size, Row.born w9 27 ZS, rfl⟩)); simp only [Act.put, zA, zB, zC, Nat.reduceAdd]
  refine late_store rfl ?_ ?_; (focus (intro us w9 hS9 hF K hK; obtain ⟨b3, cs, hu, hb3, hr, hn⟩ := hF (11, PtrN w6.heap.size 27 3) (by simp) (by kernel_rfl); simp only [hu] at hK ⊢; rw [if_pos (by rfl)]; exact step_put (L := #[.int .i64 (akN e.n e.s e.a ack), .int .u64 (akS e.n e.s e.a ack), .int .u64 (akA e.n e.s e.a ack)]) hr hn info27 (sender_one _ _ _) rfl rfl (fun w' u' r' => hK w' (hS9.st1 u' r' hu hb3 (by omega) (by omega) (fun h => trivial)) (Shp.upd u' hr r' hn)))); simp only [Nat.reduceAdd]
  refine late_pure (by simp) (Shp.refl _) (v := ?_) (fun _ => rfl) ?_ ?_; rotate_left; (focus (intro c9 us w9 hm9 hS9 hF; clear hF hm9; go_simp; (try with_reducible rfl); done)); simp only [Act.put, zA, zB, zC, Nat.reduceAdd]
  refine late_done fun us w7 hS8 hF => ?_
  obtain ⟨g9, hu1, hg9, r9⟩ := hS8.2.2.1 (by omega)
  have hBa := hS8.1
  clear hF hS8
  simp only [hu1]
  clear c0 c1' c2 fz l0 l1 l2 l3 l4
  have r2 := r2.below hBa r2.lt
  have r3 := r3.below hBa r3.lt
  have hr := hr.below hBa hr.lt
  have hB7 := hB6.trans (hBa.mono hB6.size)
  have hown := hown.below hBa
  have hq := hq.keeps (ts := []) (Keeps.below hBa) (by simp)
  have hoB := hoB.below hBa
  clear hBa
  obtain ⟨l0, l1, l2, l3, l4⟩ := line_cells r2
  have hw3 : W.heap.size < w3.heap.size := r1.lt
  have hbs : w3.heap.size ≤ w7.heap.size := by have := hr.lt; omega
  go_upto_region 10 with (fail)
  clear l0 l1 l2 l3 l4
  have r2 : Row w7.drew (W.heap.size + 1) 40 (LV k el fl len ack p) := r2
  have hr : Row w7.drew g 155 (BV e (.slice A1 e.q.length c1) (.slice B1 e.pt.length dd1)) := hr
  have hoB : OwnB w7.drew w3.heap.size 5 B1 e.pt.length dd1 e.pt := hoB
  have hbs : w3.heap.size ≤ w7.drew.heap.size := hbs
  refine wp_region_late (n := 90) [4, 5, 6, 9] (Ch5 (fun w => w = w7.drew) 4 (fun u w => ∃ (B' : Option Addr) (d' : Nat), u = .tuple #[.slice none 0 0, .bool false, .bool true] ∧ AcF e (.slice A1 e.q.length c1) w3.heap.size g (Value.slice B1 e.pt.length dd1).ownBlock fl len p (acW e fl p) (.slice B' (acP e fl len p).length d') B' d' w7.drew w) 5 (fun u w => ∃ (B' : Option Addr) (d' : Nat), u = .tuple #[.slice none 0 0, .bool false, .bool true] ∧ AcF e (.slice A1 e.q.length c1) w3.heap.size g (Value.slice B1 e.pt.length dd1).ownBlock fl len p (acW e fl p) (.slice B' (acP e fl len p).length d') B' d' w7.drew w) 6 (fun u w => ∃ (B' : Option Addr) (d' : Nat), u = .slice none 0 0 ∧ AcF e (.slice A1 e.q.length c1) w3.heap.size g (Value.slice B1 e.pt.length dd1).ownBlock fl len p (acW e fl p) (.slice B' (acP e fl len p).length d') B' d' w7.drew w) 9 (fun u w => ∃ (B' : Option Addr) (d' : Nat), u = .slice none 0 0 ∧ AcF e (.slice A1 e.q.length c1) w3.heap.size g (Value.slice B1 e.pt.length dd1).ownBlock fl len p (acW e fl p) (.slice B' (acP e fl len p).length d') B' d' w7.drew w) 9 (fun _ _ => True)) (fun _ _ => True) (by kernel_rfl) (by kernel_rfl) (by rfl) ch4_loc (Ch5.zero rfl) ?_
  iterate 3 (refine late_pure (by simp) (fun _ => trivial) (v := ?_) (fun _ => rfl) ?_ ?_; rotate_left; (focus (intro c9 us w9 hm9 hS9 hF; clear hF hm9; go_simp; (try with_reducible rfl); done)); simp only [Act.put, zA, zB, zC, Nat.reduceAdd])
  refine late_pure (by simp) (fun _ => trivial) (v := .agg (LV k el fl len ack p)) (fun _ => rfl) ?_ ?_; (focus (intro c9 us w9 hm9 hS9 hF; have hc9 : c9 < 1 := (by rcases Nat.lt_or_ge c9 1 with h9 | h9; exact h9; exact absurd hm9 (by rw [mayAt_no (d := 0) (by kernel_rfl) (by omega) (by decide)]; decide)); have h0 : c9 = 0 := (by omega); have hw9 := hS9.1 h0; subst hw9; exact exec_load_g r2.range Try.underlying40 rfl (line_info _ _ _ _ _ hl) rfl)); simp only [Act.put, zA, zB, zC, Nat.reduceAdd]
  refine late_chain_is (fun _ => True) (by simp) ?_ ?_; (focus (intro us w9 hS9 hF K hK; clear hF; have hw9 := hS9.1 rfl; subst hw9; go_simp; refine (acc_due e (.slice A1 e.q.length c1) _ g B1 dd1 k el fl len ack p _ hr hoB hl hAc.rn hAc.rc hAc.w hAc.pl hbs hAc.p0 HD.out).mono ?_; intro en w' hP; obtain ⟨B', d', rfl, hF9⟩ := acc_inc hP HD.out HE2.out; exact hK _ w' trivial (Ch5.one ⟨B', d', by simp, hF9⟩) trivial)); simp only [Act.put, zA, zB, zC, Nat.reduceAdd]
  refine late_chain_is (fun u => ∃ X, u = .tuple #[X, .bool false, .bool true]) (by simp) ?_ ?_; (focus (intro us w9 hS9 hF K hK; clear hF; obtain ⟨B', d', hu, hF9⟩ := hS9.2.1 rfl; simp only [hu] at hK ⊢; go_simp; exact hK _ w9 ⟨_, rfl⟩ (Ch5.two ⟨B', d', by simp, hF9⟩) trivial)); simp only [Act.put, zA, zB, zC, Nat.reduceAdd]
  refine late_chain_is (fun _ => True) (by simp) ?_ ?_; (focus (intro us w9 hS9 hF K hK; clear hF; obtain ⟨B', d', hu, hF9⟩ := hS9.2.2.1 rfl; simp only [hu] at hK ⊢; go_simp; exact hK _ w9 trivial (Ch5.three ⟨B', d', by simp, hF9⟩) trivial)); simp only [Act.put, zA, zB, zC, Nat.reduceAdd]
  refine late_pure (by simp) (fun _ => trivial) (v := .bool false) (fun _ => rfl) ?_ ?_; (focus (intro c9 us w9 hm9 hS9 hF; obtain ⟨X, hu⟩ := hF (5, fun u _ => ∃ X, u = .tuple #[X, .bool false, .bool true]) (by simp) (by kernel_rfl); dsimp only at hu; simp only [hu]; go_simp)); simp only [Act.put, zA, zB, zC, Nat.reduceAdd]
  refine late_pure (by simp) (fun _ => trivial) (v := .bool true) (fun _ => rfl) ?_ ?_; (focus (intro c9 us w9 hm9 hS9 hF; obtain ⟨X, hu⟩ := hF (5, fun u _ => ∃ X, u = .tuple #[X, .bool false, .bool true]) (by simp) (by kernel_rfl); dsimp only at hu; simp only [hu]; go_simp)); simp only [Act.put, zA, zB, zC, Nat.reduceAdd]
  refine late_chain_is (fun _ => True) (by simp) ?_ ?_; (focus (intro us w9 hS9 hF K hK; clear hF; obtain ⟨B', d', hu, hF9⟩ := hS9.2.2.2.1 rfl; simp only [hu] at hK ⊢; go_simp; exact hK _ w9 trivial (Ch5.four ⟨B', d', by simp, hF9⟩) trivial)); simp only [Act.put, zA, zB, zC, Nat.reduceAdd]
  iterate 2 (refine late_pure (by simp) (fun _ => trivial) (v := ?_) (fun _ => rfl) ?_ ?_; rotate_left; (focus (intro c9 us w9 hm9 hS9 hF; clear hF hm9; go_simp; (try with_reducible rfl); done)); simp only [Act.put, zA, zB, zC, Nat.reduceAdd])
  refine late_done fun us2 w8 hS8 hF => ?_
  obtain ⟨B', d', hu8, hF8⟩ := hS8.2.2.2.2.1 rfl
  clear hF hS8
  simp only [hu8]
  clear hu8
  obtain ⟨hoM, h2, hr8⟩ := hF8
  have r3 := h2.ks.row (show Row w7.drew _ _ _ from r3) (by decide)
  have r9 := h2.ks.row (show Row w7.drew _ _ _ from r9) (by decide)
  have hown := OwnV.keeps (show OwnV w7.drew b2 44 1 A1 e.q.length c1 vs from hown) h2.ks (by decide)
  have hq := QV.two (show QV w7.drew b2 vs e.q from hq) h2 hr hkB
  have hkW : ∀ x, (Value.slice B1 e.pt.length dd1).ownBlock = some x → W.heap.size ≤ x := fun x hx => by have := (World.ownsRow.lt hoB x hx).1; omega
  have hB8 := h2.below (show Below W.heap.size W w7.drew from hB7.drew) (by omega) hkW
  clear h2 hr r2 hoB hkW
  have hr := hr8
  clear hr8
  obtain ⟨⟨c0, c1', c2, c3, c4⟩, ⟨c5, c6, c7, c8, c9⟩, fz⟩ := bw_cells hr
  go_upto_region 16 with (fail)
  have u6 := Upd.setCell w8 g 6 (.int .u64 (e.rc + 1))
  have hka : Keeps [155] w8 (w8.setCell ⟨g, 6, none⟩ (.int .u64 (e.rc + 1))) := Keeps.upd u6 hr (by simp)
  have hr6 := hr.set 6 (.int .u64 (e.rc + 1))
  have r3 := hka.row r3 (by decide)
  have r9 := hka.row r9 (by decide)
  have hown := hown.keeps hka (by decide)
  have hq := hq.keeps hka (by decide)
  have hoM := hoM.keeps hka (by decide)
  have hB9 := Upd.below hB8 u6 (by omega)
  generalize w8.setCell ⟨g, 6, none⟩ (.int .u64 (e.rc + 1)) = wb at *
  clear c0 c1' c2 c3 c4 c5 c6 c7 c8 c9 fz hka u6 hr hB8
  have hr : Row wb g 155 (BW e.n e.s e.a (.slice A1 e.q.length c1) e.off e.rn (e.rc + 1) (acW e fl p) (.slice B' (acP e fl len p).length d') e.told) := hr6
  clear hr6
  obtain ⟨⟨s0, s1, s2⟩, sf⟩ := three_cells r9
  go_upto_region 17 with ((refine wp_put_mid (pre := []) (cs := [.int .i64 e.n, .int .u64 e.s, .int .u64 e.a]) (post := [.slice A1 e.q.length c1, .int .i64 e.off, .int .i64 e.rn, .int .u64 (e.rc + 1), .int .i64 (acW e fl p), (.slice B' (acP e fl len p).length d'), .int .u64 e.told]) (L := #[.int .i64 (akN e.n e.s e.a ack), .int .u64 (akS e.n e.s e.a ack), .int .u64 (akA e.n e.s e.a ack)]) hr rfl rfl info27 (sender_one _ _ _) ?_ ?_ ?_; rfl; rfl; intro wc uc hrc))
  clear s0 s1 s2 sf
  have hkb : Keeps [155] wb wc := Keeps.upd uc hr (by simp)
  have r3 := hkb.row r3 (by decide)
  have hown := hown.keeps hkb (by decide)
  have hq := hq.keeps hkb (by decide)
  have hoM := hoM.keeps hkb (by decide)
  have hBc := Upd.below hB9 uc (by omega)
  clear hkb uc hr
  obtain ⟨e', he'⟩ : ∃ e', ({ e with a := e.a + mv ack e.a, rc := e.rc + 1, want := acW e fl p, pt := acP e fl len p } : LE) = e' := ⟨_, rfl⟩
  have hr : Row wc g 155 (LBV e' A1 c1 B' d') := by
    rw [← he']
    have h := hrc
    rw [HN.out, HS.out, HA.out] at h
    exact h
  have HP := Lib.hid he'
  clear he' hrc
  go_wp2_with (first | (go_at_call 104; (with_reducible refine (end_any g e' _ _ _ _ _ hr).mono ?_); rintro en w10 ⟨rfl, hb⟩; have r3 := r3.below hb r3.lt) | ((with_reducible refine wp_row_store (L := LEV e' A1 c1 B' d') r3 rfl (lev_info _ _ _ _ _) (lev_one _ _ _ _ _) ?_ ?_ ?_); rfl; rfl; intro w11 u11 r11))
  have hk11 : Keeps [69] wc w11 := (Keeps.below hb).trans (Keeps.upd u11 r3 (by simp))
  have hB11 := Upd.below (hBc.trans (hb.mono hBc.size)) u11 (by omega)
  have hown := hown.keeps hk11 (by decide)
  have hq := hq.keeps hk11 (by decide)
  have hoM := hoM.keeps hk11 (by decide)
  refine bodyPost_ret (results_cttt rfl rfl r11 Try.underlying69 rfl (lev_info _ _ _ _ _)) rfl ?_
  have h' := HP.out
  subst h'
  have hve := vE_yes HV.out
  refine .inr ⟨HE.out, A1, c1, B', d', none, 0, ?_, ?_, ?_, hB11⟩
  · rw [HM.out, HC.out, HG.out]
    rfl
  · rw [HG.out]
    exact ⟨vs, b2, w3.heap.size, by omega, by omega, hown, hq, hoM, fun x hx => by have := hve.qm x hx; omega⟩
  · rw [HM.out]
    exact OwnB.nil _ _ _
set_option maxRecDepth 100000 in
set_option maxHeartbeats 8000000 in
theorem dv_com (e : LE) (A B : Option Addr) (c d : Nat) (k : Int) (el fl : Bool) (len ack : Int) (p : List UInt8) (W : World) (ht : e.ty) (hH : Held W e A c B d) (hl : p.length = 56) (ha : 0 ≤ ack ∧ ack < 65536) (hv : vE e = true) (hE : lnE k el fl len p = 0) (hm : mv ack e.a ≤ e.s - e.a) (hk : k = 1) (hD : acD e el fl len p = true) (hE2 : acE e fl len p = true) (hl62 : e.rc ≠ 4611686018427387904) : Calls Try.prog 51 #[.agg (LEV e A c B d), .agg (LV k el fl len ack p)] W (DvP e k el fl len ack p W) := by
  have hve := vE_yes hv
  have hvs := hve.vs
  have HE := Lib.hid (show dvE e k el fl len ack p = 0 by unfold dvE; rw [if_pos hv, if_pos hE, if_pos hm, if_pos hk, if_pos hD, if_neg hl62])
  have hok : akOk e.n e.s e.a ack = true := by simp [akOk, hvs, hm]
  have HN := Lib.hid (show akN e.n e.s e.a ack = e.n by unfold akN; rw [if_pos hok])
  have HS := Lib.hid (show akS e.n e.s e.a ack = e.s by unfold akS; rw [if_pos hok])
  have HA := Lib.hid (show akA e.n e.s e.a ack = e.a + mv ack e.a by unfold akA; rw [if_pos hok])
  have hak : akE e.n e.s e.a ack = 0 := by unfold akE; rw [if_pos hvs, if_pos hm]
  have dak : (akE e.n e.s e.a ack == 0) = true := by rw [hak]; rfl
  have d9 : (k == 1) = true := by rw [beq_iff_eq]; exact hk
  have hAc := ac_h hve ht
  have HG := Lib.hid (show dvG e k fl len ack p = { e with a := e.a + mv ack e.a, rc := e.rc + 1, want := -1, pt := [] } by unfold dvG; rw [if_pos hk, hE2, if_pos rfl, if_pos rfl])
  have HC := Lib.hid (show dvC e k fl len p = true by unfold dvC; rw [decide_eq_true hk, hE2]; rfl)
  have HM := Lib.hid (show dvM e k fl len p = acP e fl len p by unfold dvM; rw [HC.out]; rfl)
  have HD := Lib.hid hD
  have HE2 := Lib.hid hE2
  have dr : (e.rc == 4611686018427387904) = false := by rw [beq_eq_false_iff_ne]; exact hl62
  have hr0 := ht.r0
  have hrx : e.rc ≤ 4611686018427387904 := by have h := hve.vr; simp [vr] at h; exact h.2
  have hwr : IntKind.u64.wrap (e.rc + 1) = e.rc + 1 := by rw [IntKind.wrap_u64]; omega
  clear hak hk hok hm hvs hD hE2 hve hl62
  have hve := vE_yes hv
  have HV := Lib.hid hv
  have HL := Lib.hid hE
  clear hv hE
  obtain ⟨r1, r2, r3, hB1⟩ := three_born W 69 40 69 (LEV e A c B d) (LV k el fl len ack p) ZE
  go_enter Try.func51, Try.ntmps51
  go_upto_region 1 with (fail)
  change Code.wp _ _ _ _ (((W.alloc (.cells (LEV e A c B d) 69)).alloc (.cells (LV k el fl len ack p) 40)).alloc (.cells ZE 69))
  generalize ((W.alloc (.cells (LEV e A c B d) 69)).alloc (.cells (LV k el fl len ack p) 40)).alloc (.cells ZE 69) = w1 at *
  have hH1 := hH.below hB1
  go_upto_region 3 with (first | ((with_reducible refine wp_load_g ?_ r1.range Try.underlying69 rfl (lev_info _ _ _ _ _) ?_ ?_); rfl; rfl) | (go_at_call 101; (with_reducible refine (valid_is HV.out ht hH1).mono ?_); rintro en w2 ⟨rfl, hb⟩))
  have r1 := r1.below hb r1.lt
  have r2 := r2.below hb r2.lt
  have r3 := r3.below hb r3.lt
  have hB2 := hB1.trans (hb.mono hB1.size)
  clear hb hB1 hH1
  go_upto_region 6 with (first | ((with_reducible refine wp_load_g ?_ r2.range Try.underlying40 rfl (line_info _ _ _ _ _ hl) ?_ ?_); rfl; rfl) | (go_at_call 30; refine (enc_yes _ _ _ _ _ _ ha.1 ha.2 hl _ HL.out).mono ?_; rintro en w3 ⟨g3, rfl, hb⟩))
  have r1 := r1.below hb r1.lt
  have r2 := r2.below hb r2.lt
  have r3 := r3.below hb r3.lt
  have hB3 := hB2.trans (hb.mono hB2.size)
  clear hb hB2
  have hH3 := hH.below hB3
  go_upto_region 7 with (first | ((with_reducible refine wp_load_g ?_ r1.range Try.underlying69 rfl (lev_info _ _ _ _ _) ?_ ?_); rfl; rfl) | (go_at_call 102; (with_reducible refine (open_own e _ _ _ _ _ ht hH3).mono ?_); rintro en w6 ⟨g, A1, c1, B1, dd1, vs, b2, rfl, hWg, hr, hown, hq, hoB, hkB, hb2, hb⟩))
  have r2 := r2.below hb r2.lt
  have r3 := r3.below hb r3.lt
  have hB6 := hB3.trans (hb.mono hB3.size)
  clear hb hB3 hH3
  have hlg := hr.lt
  have h2lt := r2.lt
  obtain ⟨⟨c0, c1', c2, -, -⟩, -, fz⟩ := bv_cells hr
  obtain ⟨l0, l1, l2, l3, l4⟩ := line_cells r2
  refine wp_region_late (n := 90) [12] (CalS w6 12 (NoC) 1 11 27 #[.int .i64 (akN e.n e.s e.a ack), .int .u64 (akS e.n e.s e.a ack), .int .u64 (akA e.n e.s e.a ack)] 1000 11 27 #[.int .i64 (akN e.n e.s e.a ack), .int .u64 (akS e.n e.s e.a ack), .int .u64 (akA e.n e.s e.a ack)]) (Shp w6.heap.size) (by kernel_rfl) (by kernel_rfl) (by rfl) (CalS.loc (by decide) (fun c hc => mayAt_no (d := 0) (by kernel_rfl) (by omega) (by decide)) (fun c hc => mayAt_no (d := 0) (by kernel_rfl) (by omega) (by decide))) (CalS.start (by decide) (by decide)) ?_
  iterate 4 (refine late_pure (by simp) (Shp.refl _) (v := ?_) (fun _ => rfl) ?_ ?_; rotate_left; (focus (intro c9 us w9 hm9 hS9 hF; clear hF hm9; go_simp; (try with_reducible rfl); done)); simp only [Act.put, zA, zB, zC, Nat.reduceAdd])
  refine late_pure (by simp) (Shp.refl _) (v := .agg #[.int .i64 e.n, .int .u64 e.s, .int .u64 e.a]) (fun _ => rfl) ?_ ?_; (focus (intro c9 us w9 hm9 hS9 hF; have b0 := (hS9.1.cell (p := ⟨g, 0, none⟩) hlg).trans c0; have b1 := (hS9.1.cell (p := ⟨g, 1, none⟩) hlg).trans c1'; have b2' := (hS9.1.cell (p := ⟨g, 2, none⟩) hlg).trans c2; clear hF hm9; go_simp; (try with_reducible rfl); done)); simp only [Act.put, zA, zB, zC, Nat.reduceAdd]
  refine late_pure (by simp) (Shp.refl _) (v := ?_) (fun _ => rfl) ?_ ?_; rotate_left; (focus (intro c9 us w9 hm9 hS9 hF; clear hF hm9; go_simp; (try with_reducible rfl); done)); simp only [Act.put, zA, zB, zC, Nat.reduceAdd]
  refine late_pure (by simp) (Shp.refl _) (v := .int .u16 ack) (fun _ => rfl) ?_ ?_; (focus (intro c9 us w9 hm9 hS9 hF; have k4 := (hS9.1.cell (p := ⟨W.heap.size + 1, 4, none⟩) h2lt).trans l4; clear hF hm9; go_simp; (try with_reducible rfl); done)); simp only [Act.put, zA, zB, zC, Nat.reduceAdd]
  refine late_fix (by simp) (v := .tuple #[.agg #[.int .i64 (akN e.n e.s e.a ack), .int .u64 (akS e.n e.s e.a ack), .int .u64 (akA e.n e.s e.a ack)], .int .i64 (akE e.n e.s e.a ack)]) ?_ ?_; (focus (intro c9 us w9 hm9 hS9 hF K hK; clear hF; go_simp; refine (acknowledge e.n e.s e.a ack ht.s0 ht.s1 ht.a0 ha.1 ha.2 _).mono ?_; rintro e w' ⟨rfl, hb⟩; exact hK w' (hS9.below hb NoC.mono) (Shp.below hb))); simp only [Act.put, zA, zB, zC, Nat.reduceAdd]
  iterate 3 (refine late_pure (by simp) (Shp.refl _) (v := ?_) (fun _ => rfl) ?_ ?_; rotate_left; (focus (intro c9 us w9 hm9 hS9 hF; clear hF hm9; go_simp; (try with_reducible rfl); done)); simp only [Act.put, zA, zB, zC, Nat.reduceAdd])
  refine late_free (by simp) (PtrN w6.heap.size 27 3) PtrN.mono ?_ ?_; (focus (intro c9 us w9 hm9 hS9 hF K hK; go_simp; exact hK _ _ (hS9.alloc NoC.mono (.cells ZS 27)) (Shp.alloc _ _ _) ⟨w9.heap.size, ZS, rfl, hS9.1.size, Row.born w9 27 ZS, rfl⟩)); simp only [Act.put, zA, zB, zC, Nat.reduceAdd]
  refine late_store rfl ?_ ?_; (focus (intro us w9 hS9 hF K hK; obtain ⟨b3, cs, hu, hb3, hr, hn⟩ := hF (11, PtrN w6.heap.size 27 3) (by simp) (by kernel_rfl); simp only [hu] at hK ⊢; rw [if_pos (by rfl)]; exact step_put (L := #[.int .i64 (akN e.n e.s e.a ack), .int .u64 (akS e.n e.s e.a ack), .int .u64 (akA e.n e.s e.a ack)]) hr hn info27 (sender_one _ _ _) rfl rfl (fun w' u' r' => hK w' (hS9.st1 u' r' hu hb3 (by omega) (by omega) (fun h => trivial)) (Shp.upd u' hr r' hn)))); simp only [Nat.reduceAdd]
  refine late_pure (by simp) (Shp.refl _) (v := ?_) (fun _ => rfl) ?_ ?_; rotate_left; (focus (intro c9 us w9 hm9 hS9 hF; clear hF hm9; go_simp; (try with_reducible rfl); done)); simp only [Act.put, zA, zB, zC, Nat.reduceAdd]
  refine late_done fun us w7 hS8 hF => ?_
  obtain ⟨g9, hu1, hg9, r9⟩ := hS8.2.2.1 (by omega)
  have hBa := hS8.1
  clear hF hS8
  simp only [hu1]
  clear c0 c1' c2 fz l0 l1 l2 l3 l4
  have r2 := r2.below hBa r2.lt
  have r3 := r3.below hBa r3.lt
  have hr := hr.below hBa hr.lt
  have hB7 := hB6.trans (hBa.mono hB6.size)
  have hown := hown.below hBa
  have hq := hq.keeps (ts := []) (Keeps.below hBa) (by simp)
  have hoB := hoB.below hBa
  clear hBa
  obtain ⟨l0, l1, l2, l3, l4⟩ := line_cells r2
  have hw3 : W.heap.size < w3.heap.size := r1.lt
  have hbs : w3.heap.size ≤ w7.heap.size := by have := hr.lt; omega
  go_upto_region 10 with (fail)
  clear l0 l1 l2 l3 l4
  have r2 : Row w7.drew (W.heap.size + 1) 40 (LV k el fl len ack p) := r2
  have hr : Row w7.drew g 155 (BV e (.slice A1 e.q.length c1) (.slice B1 e.pt.length dd1)) := hr
  have hoB : OwnB w7.drew w3.heap.size 5 B1 e.pt.length dd1 e.pt := hoB
  have hbs : w3.heap.size ≤ w7.drew.heap.size := hbs
  refine wp_region_late (n := 90) [4, 5, 6, 9] (Ch5 (fun w => w = w7.drew) 4 (fun u w => ∃ (B' : Option Addr) (d' : Nat), u = .tuple #[.slice B' (acP e fl len p).length d', .bool true, .bool true] ∧ AcF e (.slice A1 e.q.length c1) w3.heap.size g (Value.slice B1 e.pt.length dd1).ownBlock fl len p (-1) (.slice none 0 0) B' d' w7.drew w) 5 (fun u w => ∃ (B' : Option Addr) (d' : Nat), u = .tuple #[.slice B' (acP e fl len p).length d', .bool true, .bool true] ∧ AcF e (.slice A1 e.q.length c1) w3.heap.size g (Value.slice B1 e.pt.length dd1).ownBlock fl len p (-1) (.slice none 0 0) B' d' w7.drew w) 6 (fun u w => ∃ (B' : Option Addr) (d' : Nat), u = .slice B' (acP e fl len p).length d' ∧ AcF e (.slice A1 e.q.length c1) w3.heap.size g (Value.slice B1 e.pt.length dd1).ownBlock fl len p (-1) (.slice none 0 0) B' d' w7.drew w) 9 (fun u w => ∃ (B' : Option Addr) (d' : Nat), u = .slice B' (acP e fl len p).length d' ∧ AcF e (.slice A1 e.q.length c1) w3.heap.size g (Value.slice B1 e.pt.length dd1).ownBlock fl len p (-1) (.slice none 0 0) B' d' w7.drew w) 9 (fun _ _ => True)) (fun _ _ => True) (by kernel_rfl) (by kernel_rfl) (by rfl) ch4_loc (Ch5.zero rfl) ?_
  iterate 3 (refine late_pure (by simp) (fun _ => trivial) (v := ?_) (fun _ => rfl) ?_ ?_; rotate_left; (focus (intro c9 us w9 hm9 hS9 hF; clear hF hm9; go_simp; (try with_reducible rfl); done)); simp only [Act.put, zA, zB, zC, Nat.reduceAdd])
  refine late_pure (by simp) (fun _ => trivial) (v := .agg (LV k el fl len ack p)) (fun _ => rfl) ?_ ?_; (focus (intro c9 us w9 hm9 hS9 hF; have hc9 : c9 < 1 := (by rcases Nat.lt_or_ge c9 1 with h9 | h9; exact h9; exact absurd hm9 (by rw [mayAt_no (d := 0) (by kernel_rfl) (by omega) (by decide)]; decide)); have h0 : c9 = 0 := (by omega); have hw9 := hS9.1 h0; subst hw9; exact exec_load_g r2.range Try.underlying40 rfl (line_info _ _ _ _ _ hl) rfl)); simp only [Act.put, zA, zB, zC, Nat.reduceAdd]
  refine late_chain_is (fun _ => True) (by simp) ?_ ?_; (focus (intro us w9 hS9 hF K hK; clear hF; have hw9 := hS9.1 rfl; subst hw9; go_simp; refine (acc_due e (.slice A1 e.q.length c1) _ g B1 dd1 k el fl len ack p _ hr hoB hl hAc.rn hAc.rc hAc.w hAc.pl hbs hAc.p0 HD.out).mono ?_; intro en w' hP; obtain ⟨B', d', rfl, hF9⟩ := acc_com hP HD.out HE2.out; exact hK _ w' trivial (Ch5.one ⟨B', d', by simp, hF9⟩) trivial)); simp only [Act.put, zA, zB, zC, Nat.reduceAdd]
  refine late_chain_is (fun u => ∃ X, u = .tuple #[X, .bool true, .bool true]) (by simp) ?_ ?_; (focus (intro us w9 hS9 hF K hK; clear hF; obtain ⟨B', d', hu, hF9⟩ := hS9.2.1 rfl; simp only [hu] at hK ⊢; go_simp; exact hK _ w9 ⟨_, rfl⟩ (Ch5.two ⟨B', d', by simp, hF9⟩) trivial)); simp only [Act.put, zA, zB, zC, Nat.reduceAdd]
  refine late_chain_is (fun _ => True) (by simp) ?_ ?_; (focus (intro us w9 hS9 hF K hK; clear hF; obtain ⟨B', d', hu, hF9⟩ := hS9.2.2.1 rfl; simp only [hu] at hK ⊢; go_simp; exact hK _ w9 trivial (Ch5.three ⟨B', d', by simp, hF9⟩) trivial)); simp only [Act.put, zA, zB, zC, Nat.reduceAdd]
  iterate 2 (refine late_pure (by simp) (fun _ => trivial) (v := .bool true) (fun _ => rfl) ?_ ?_; (focus (intro c9 us w9 hm9 hS9 hF; obtain ⟨X, hu⟩ := hF (5, fun u _ => ∃ X, u = .tuple #[X, .bool true, .bool true]) (by simp) (by kernel_rfl); dsimp only at hu; simp only [hu]; go_simp)); simp only [Act.put, zA, zB, zC, Nat.reduceAdd])
  refine late_chain_is (fun _ => True) (by simp) ?_ ?_; (focus (intro us w9 hS9 hF K hK; clear hF; obtain ⟨B', d', hu, hF9⟩ := hS9.2.2.2.1 rfl; simp only [hu] at hK ⊢; go_simp; exact hK _ w9 trivial (Ch5.four ⟨B', d', by simp, hF9⟩) trivial)); simp only [Act.put, zA, zB, zC, Nat.reduceAdd]
  iterate 2 (refine late_pure (by simp) (fun _ => trivial) (v := ?_) (fun _ => rfl) ?_ ?_; rotate_left; (focus (intro c9 us w9 hm9 hS9 hF; clear hF hm9; go_simp; (try with_reducible rfl); done)); simp only [Act.put, zA, zB, zC, Nat.reduceAdd])
  refine late_done fun us2 w8 hS8 hF => ?_
  obtain ⟨B', d', hu8, hF8⟩ := hS8.2.2.2.2.1 rfl
  clear hF hS8
  simp only [hu8]
  clear hu8
  obtain ⟨hoM, h2, hr8⟩ := hF8
  have r3 := h2.ks.row (show Row w7.drew _ _ _ from r3) (by decide)
  have r9 := h2.ks.row (show Row w7.drew _ _ _ from r9) (by decide)
  have hown := OwnV.keeps (show OwnV w7.drew b2 44 1 A1 e.q.length c1 vs from hown) h2.ks (by decide)
  have hq := QV.two (show QV w7.drew b2 vs e.q from hq) h2 hr hkB
  have hkW : ∀ x, (Value.slice B1 e.pt.length dd1).ownBlock = some x → W.heap.size ≤ x := fun x hx => by have := (World.ownsRow.lt hoB x hx).1; omega
  have hB8 := h2.below (show Below W.heap.size W w7.drew from hB7.drew) (by omega) hkW
  clear h2 hr r2 hoB hkW
  have hr := hr8
  clear hr8
  obtain ⟨⟨c0, c1', c2, c3, c4⟩, ⟨c5, c6, c7, c8, c9⟩, fz⟩ := bw_cells hr
  go_upto_region 16 with (fail)
  have u6 := Upd.setCell w8 g 6 (.int .u64 (e.rc + 1))
  have hka : Keeps [155] w8 (w8.setCell ⟨g, 6, none⟩ (.int .u64 (e.rc + 1))) := Keeps.upd u6 hr (by simp)
  have hr6 := hr.set 6 (.int .u64 (e.rc + 1))
  have r3 := hka.row r3 (by decide)
  have r9 := hka.row r9 (by decide)
  have hown := hown.keeps hka (by decide)
  have hq := hq.keeps hka (by decide)
  have hoM := hoM.keeps hka (by decide)
  have hB9 := Upd.below hB8 u6 (by omega)
  generalize w8.setCell ⟨g, 6, none⟩ (.int .u64 (e.rc + 1)) = wb at *
  clear c0 c1' c2 c3 c4 c5 c6 c7 c8 c9 fz hka u6 hr hB8
  have hr : Row wb g 155 (BW e.n e.s e.a (.slice A1 e.q.length c1) e.off e.rn (e.rc + 1) (-1) (.slice none 0 0) e.told) := hr6
  clear hr6
  obtain ⟨⟨s0, s1, s2⟩, sf⟩ := three_cells r9
  go_upto_region 17 with ((refine wp_put_mid (pre := []) (cs := [.int .i64 e.n, .int .u64 e.s, .int .u64 e.a]) (post := [.slice A1 e.q.length c1, .int .i64 e.off, .int .i64 e.rn, .int .u64 (e.rc + 1), .int .i64 (-1), (.slice none 0 0), .int .u64 e.told]) (L := #[.int .i64 (akN e.n e.s e.a ack), .int .u64 (akS e.n e.s e.a ack), .int .u64 (akA e.n e.s e.a ack)]) hr rfl rfl info27 (sender_one _ _ _) ?_ ?_ ?_; rfl; rfl; intro wc uc hrc))
  clear s0 s1 s2 sf
  have hkb : Keeps [155] wb wc := Keeps.upd uc hr (by simp)
  have r3 := hkb.row r3 (by decide)
  have hown := hown.keeps hkb (by decide)
  have hq := hq.keeps hkb (by decide)
  have hoM := hoM.keeps hkb (by decide)
  have hBc := Upd.below hB9 uc (by omega)
  clear hkb uc hr
  obtain ⟨e', he'⟩ : ∃ e', ({ e with a := e.a + mv ack e.a, rc := e.rc + 1, want := -1, pt := [] } : LE) = e' := ⟨_, rfl⟩
  have hr : Row wc g 155 (LBV e' A1 c1 none 0) := by
    rw [← he']
    have h := hrc
    rw [HN.out, HS.out, HA.out] at h
    exact h
  have HP := Lib.hid he'
  clear he' hrc
  go_wp2_with (first | (go_at_call 104; (with_reducible refine (end_any g e' _ _ _ _ _ hr).mono ?_); rintro en w10 ⟨rfl, hb⟩; have r3 := r3.below hb r3.lt) | ((with_reducible refine wp_row_store (L := LEV e' A1 c1 none 0) r3 rfl (lev_info _ _ _ _ _) (lev_one _ _ _ _ _) ?_ ?_ ?_); rfl; rfl; intro w11 u11 r11))
  have hk11 : Keeps [69] wc w11 := (Keeps.below hb).trans (Keeps.upd u11 r3 (by simp))
  have hB11 := Upd.below (hBc.trans (hb.mono hBc.size)) u11 (by omega)
  have hown := hown.keeps hk11 (by decide)
  have hq := hq.keeps hk11 (by decide)
  have hoM := hoM.keeps hk11 (by decide)
  refine bodyPost_ret (results_cttt rfl rfl r11 Try.underlying69 rfl (lev_info _ _ _ _ _)) rfl ?_
  have h' := HP.out
  subst h'
  have hve := vE_yes HV.out
  refine .inr ⟨HE.out, A1, c1, none, 0, B', d', ?_, ?_, ?_, hB11⟩
  · rw [HM.out, HC.out, HG.out]
    rfl
  · rw [HG.out]
    exact ⟨vs, b2, w3.heap.size, by omega, by omega, hown, hq, OwnB.nil _ _ _, fun x hx => by have := hve.qm x hx; omega⟩
  · rw [HM.out]
    exact hoM.lower (by omega)
end
end
end Go.Proofs.Ythjkhambmgepdaa
