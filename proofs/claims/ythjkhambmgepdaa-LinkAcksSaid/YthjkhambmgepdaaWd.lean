/- Links: the wire: an end takes the oldest line on its way to it. -/
import Derived.Test.YthjkhambmgepdaaWq
import Derived.Test.YthjkhambmgepdaaDec
namespace Go.Proofs.Ythjkhambmgepdaa
open Go.RowKit
set_option linter.unusedVariables false
theorem enc_full (k : Int) (e f : Bool) (n a : Int) (p : List UInt8) (a0 : 0 ≤ a) (a1 : a < 65536) (hp : p.length = 56) (W : World) (hE : lnE k e f n p = 0) : Calls Try.prog 30 #[.agg (LV k e f n a p)] W (fun en W' => ∃ g, en = .returned (.tuple #[.slice (some ⟨g, 0, none⟩) 64 64, .int .i64 0]) ∧ IsB W' (some ⟨g, 0, none⟩) 64 (lnB k e f n a p) ∧ Below W.heap.size W W') := by
  refine (encode_line k e f n a p a0 a1 hp W).mono ?_
  rintro en W' ⟨h | ⟨-, g, -, h, hr⟩, hb⟩
  · exact absurd hE h.1
  · refine ⟨g, h, ?_, hb⟩
    have := IsB.of_row hr
    rwa [(dec_enc hE hp a0 a1).len] at this
theorem dec_full (k : Int) (e f : Bool) (n a : Int) (p : List UInt8) (a0 : 0 ≤ a) (a1 : a < 65536) (hp : p.length = 56) (A : Option Addr) (c : Nat) (W : World) (hE : lnE k e f n p = 0) (hA : IsB W A 64 (lnB k e f n a p)) (hc : 64 ≤ c) : Calls Try.prog 32 #[.slice A 64 c] W (fun en W' => en = .returned (.tuple #[.agg (LV k e f n a p), .int .i64 0]) ∧ Below W.heap.size W W') := by
  have h := dec_enc hE hp a0 a1
  refine (decode_line A 64 c _ W hA hc).mono ?_
  rintro en W' ⟨h1, hb⟩
  refine ⟨?_, hb⟩
  rw [h1, h.dc]
  unfold dcL
  rw [if_pos h.dc, h.k, h.e, h.f, h.n, h.a, h.p]
def DvI (e : LE) (ms : List UInt8) (cc : Bool) (W : World) (en : Ending) (W' : World) : Prop := ∃ A c B d M mc, en = .returned (.tuple #[.agg (LEV e A c B d), .slice M ms.length mc, .bool cc, .int .i64 0]) ∧ HeldT W' W.heap.size e A c B d ∧ OwnB W' W.heap.size 5 M ms.length mc ms ∧ Below W.heap.size W W'
theorem deliver_is {e e9 : LE} {ms : List UInt8} {cc : Bool} {A B : Option Addr} {c d : Nat} {k : Int} {el fl : Bool} {len ack : Int} {p : List UInt8} {W : World} (hE : dvE e k el fl len ack p = 0) (hG : dvG e k fl len ack p = e9) (hM : dvM e k fl len p = ms) (hC : dvC e k fl len p = cc) (ht : e.ty) (hH : Held W e A c B d) (hl : p.length = 56) (ha : 0 ≤ ack ∧ ack < 65536) :
    Calls Try.prog 51 #[.agg (LEV e A c B d), .agg (LV k el fl len ack p)] W (DvI e9 ms cc W) := by
  refine (deliver e A B c d k el fl len ack p W ht hH hl ha).mono ?_
  rintro en W' (h | ⟨-, A', c', B', d', M, mc, h1, h2, h3, h4⟩)
  · exact absurd hE h.1
  · subst hG hM hC
    exact ⟨A', c', B', d', M, mc, h1, h2, h3, h4⟩
theorem Part.ownB {col : Nat → Nat} {w : World} {lo : Nat} {A : Option Addr} {n c : Nat} {bs : List UInt8} (h : OwnB w lo 5 A n c bs) (hc : ∀ x, lo ≤ x → col x = 0) : Part col 0 w (fun w => IsB w A n bs) := fun w' hs hk =>
  h.isB.of_same fun b o e h0 => by
    obtain ⟨g, hA, hg, hl⟩ := OwnV.form (size := 1) h h0
    rw [hA] at e
    injection e with e
    injection e with e1 e2 e3
    subst e1
    exact hk _ hl (hc _ hg)
/-- The region in which Deliver is called and what it gives is laid down. -/
def DeS (w0 : World) (e9 : LE) (c : Nat) (us : Nat → Value) (w : World) : Prop := Below w0.heap.size w0 w ∧ (1 ≤ c → ∃ g8 A c B d, us 13 = .pointer (some ⟨g8, 0, none⟩) ∧ w0.heap.size ≤ g8 ∧ Row w g8 69 (LEV e9 A c B d) ∧ HeldT w w0.heap.size e9 A c B d)
def DeG (w0 w w' : World) : Prop := Keeps [69] w w' ∧ Shp w0.heap.size w w'
def De7 (w0 : World) (e9 : LE) (ms : List UInt8) (cc : Bool) (u : Value) (w : World) : Prop := ∃ A c B d M mc, u = .tuple #[.agg (LEV e9 A c B d), .slice M ms.length mc, .bool cc, .int .i64 0] ∧ HeldT w w0.heap.size e9 A c B d ∧ OwnB w w0.heap.size 5 M ms.length mc ms
def De9 (w0 : World) (e9 : LE) (u : Value) (w : World) : Prop := ∃ A c B d, u = .agg (LEV e9 A c B d) ∧ HeldT w w0.heap.size e9 A c B d
def De10 (w0 : World) (ms : List UInt8) (u : Value) (w : World) : Prop := ∃ M mc, u = .slice M ms.length mc ∧ OwnB w w0.heap.size 5 M ms.length mc ms
theorem DeG.refl (w0 w : World) : DeG w0 w w := ⟨Keeps.refl _ _, Shp.refl _ _⟩
theorem DeG.below {w0 w w' : World} (h : Below w.heap.size w w') : DeG w0 w w' := ⟨Keeps.below h, Shp.below h⟩
theorem De7.mono {w0 : World} {e9 : LE} {ms : List UInt8} {cc : Bool} (u : Value) (w w' : World) (hg : DeG w0 w w') (h : De7 w0 e9 ms cc u w) : De7 w0 e9 ms cc u w' := by
  obtain ⟨A, c, B, d, M, mc, e, h1, h2⟩ := h
  exact ⟨A, c, B, d, M, mc, e, h1.keeps hg.1 (by decide) (by decide), h2.keeps hg.1 (by decide)⟩
theorem De9.mono {w0 : World} {e9 : LE} (u : Value) (w w' : World) (hg : DeG w0 w w') (h : De9 w0 e9 u w) : De9 w0 e9 u w' := by
  obtain ⟨A, c, B, d, e, h1⟩ := h
  exact ⟨A, c, B, d, e, h1.keeps hg.1 (by decide) (by decide)⟩
theorem De10.mono {w0 : World} {ms : List UInt8} (u : Value) (w w' : World) (hg : DeG w0 w w') (h : De10 w0 ms u w) : De10 w0 ms u w' := by
  obtain ⟨M, mc, e, h1⟩ := h
  exact ⟨M, mc, e, h1.keeps hg.1 (by decide)⟩
theorem PtrN.monoG {w0 : World} {t : TypeId} {n : Nat} (u : Value) (w w' : World) (h : DeG w0 w w') (k : PtrN w0.heap.size t n u w) : PtrN w0.heap.size t n u w' := PtrN.mono u w w' h.2 k
theorem DeS.loc {w0 : World} {e9 : LE} {ops : Array Oper} (hw : waits (opOf ops 14) 13 = true) : ∀ c us us' w', (∀ k, mayAt ops [14] c k = false ∨ k ∈ [14].take c → us k = us' k) → DeS w0 e9 c us w' → DeS w0 e9 c us' w' := by
  intro c us us' w' hk ⟨a, b⟩
  refine ⟨a, fun hc => ?_⟩
  rw [← hk 13 (.inl (mayAt_no (d := 0) hw (by omega) (by decide)))]
  exact b hc
theorem HeldT.lower {w : World} {lo lo' : Nat} {e : LE} {A B : Option Addr} {c d : Nat} (h : HeldT w lo e A c B d) (hl : lo' ≤ lo) : HeldT w lo' e A c B d := by
  obtain ⟨vs, b2, b3, l2, l3, h⟩ := h
  exact ⟨vs, b2, b3, by omega, by omega, h⟩
set_option maxRecDepth 100000 in
set_option maxHeartbeats 8000000 in
theorem de_nil0 (base g : Nat) (col : Nat → Nat) (w : World) (S : WrS) (p : WrP) (hM : WM base g col w S p) (hY : S.Y 0 = []) : Calls Try.prog 60 #[.pointer (some ⟨g, 0, none⟩), .int .i64 0] w (WStep base g col w S) := by
  have hlg := hM.lt
  obtain ⟨⟨y0, y1, v0, v1, t0, t1⟩, fz, e0, e1⟩ := hM.cells
  have hl : (S.Y 0).length = 0 := by rw [hY]; rfl
  rw [hl] at y0
  clear hl hY
  go_enter Try.func60, Try.ntmps60
  go_wp2
  go_ret
  exact WStep.same hM (Below.refl _ _)
set_option maxRecDepth 100000 in
set_option maxHeartbeats 8000000 in
theorem de_inc0 (base g : Nat) (col : Nat → Nat) (w : World) (S : WrS) (p : WrP) (hM : WM base g col w S p) (hgd : Gd (S.E 0)) {l : Ln} {ls : List Ln} (hY : S.Y 0 = l :: ls) (tk : Takes (S.E 0) l (S.V 1) (S.T 0)) (hC : dvC (S.E 0) l.k l.f l.n l.p = false) (hTb : S.T 0 ≤ 100000) (hVb : (S.V 1).length ≤ 100000) (hYb : (S.Y 0).length ≤ 100000) : Calls Try.prog 60 #[.pointer (some ⟨g, 0, none⟩), .int .i64 0] w (WStep base g col w { S with E := upd S.E 0 (dvG (S.E 0) l.k l.f l.n l.a l.p), Y := upd S.Y 0 ls }) := by
  have hok := tk.ok
  obtain ⟨k, el, fl, len, ack, pp⟩ := l
  have hpp : pp.length = 56 := hok.1
  have hack : 0 ≤ ack ∧ ack < 65536 := hok.2
  have HL := Lib.hid (show lnE k el fl len pp = 0 from tk.e)
  have HE := Lib.hid (show dvE (S.E 0) k el fl len ack pp = 0 from tk.dv)
  obtain ⟨e9, he9⟩ : ∃ e9, dvG (S.E 0) k fl len ack pp = e9 := ⟨_, rfl⟩
  have HG := Lib.hid he9
  show Calls Try.prog 60 #[.pointer (some ⟨g, 0, none⟩), .int .i64 0] w (WStep base g col w { S with E := upd S.E 0 (dvG (S.E 0) k fl len ack pp), Y := upd S.Y 0 ls })
  rw [he9]
  clear he9
  obtain ⟨cc, hcc⟩ : ∃ cc, dvC (S.E 0) k fl len pp = cc := ⟨_, rfl⟩
  have HC := Lib.hid hcc
  obtain rfl : cc = false := hcc.symm.trans hC
  clear hcc
  obtain ⟨ms, hms⟩ : ∃ ms : List UInt8, ms = [] := ⟨_, rfl⟩
  have HM := Lib.hid (show dvM (S.E 0) k fl len pp = ms from (tk.no hC).trans hms.symm)
  have HMS := Lib.hid hms
  clear hms
  clear hC tk
  have hlg := hM.lt
  have ht := hgd.ty
  obtain ⟨⟨y0, y1, v0, v1, t0, t1⟩, fz, e0, e1⟩ := hM.cells
  have hvs := hM.way 0 (by omega)
  have hvq := hvs.part.now
  have hY1 : (S.Y 0).length = ls.length + 1 := by rw [hY]; rfl
  obtain ⟨b, ob, cur, hA, hrb, hcell⟩ := hvq.cells (by omega)
  have hrng : w.rangeAt b ob (LV k el fl len ack pp).toList := fun j v hv => by
    refine hcell j v ?_
    rw [hY]
    show ((LV k el fl len ack pp).toList ++ lsC ls)[j]? = some v
    rw [List.getElem?_append_left (List.getElem?_eq_some_iff.1 hv).1]
    exact hv
  have y0' := y0
  rw [hA, hY1] at y0'
  have HA := Lib.hid hA
  have HY1 := Lib.hid hY1
  have HY := Lib.hid hY
  clear hA hY1 hY hcell y0
  have hi0 : (0 : Int) < (ls.length : Int) + 1 := by omega
  have hne : ((ls.length : Int) + 1 == 0) = false := by rw [beq_eq_false_iff_ne]; omega
  go_enter Try.func60, Try.ntmps60
  go_upto_region 4 with (first | ((with_reducible refine wp_load_g ?_ hrng Try.underlying40 rfl (line_info _ _ _ _ _ hpp) ?_ ?_); rfl; rfl) | (go_at_call 30; refine (enc_full _ _ _ _ _ _ hack.1 hack.2 hpp _ HL.out).mono ?_; rintro en w3 ⟨g5, rfl, hI5, hb3⟩))
  clear y1 y0' v0 v1 t0 t1 fz e0 e1 hrng hrb
  have hM3 := hM.below hb3
  go_upto_region 7 with (first | (go_at_call 32; refine (dec_full _ _ _ _ _ _ hack.1 hack.2 hpp _ _ _ HL.out hI5 (Nat.le_refl _)).mono ?_; rintro en w4 ⟨rfl, hb4⟩) | ((with_reducible refine wp_row_store (L := LV k el fl len ack pp) (Row.bornAt (g := w4.heap.size) rfl 40 _) ?_ (line_info _ _ _ _ _ hpp) (LV_one _ _ _ _ _ _) ?_ ?_ ?_); exact (LV_size _ _ _ _ _ hpp).symm; rfl; rfl; intro w5 u5 r7))
  have hal := (Below.refl w4.heap.size w4).alloc (Nat.le_refl _) (.cells ZL 40)
  have hal2 := Upd.below (hb4.trans (hal.mono hb4.size)) u5 hb4.size
  have hM5 := hM3.below hal2
  have hw5 : White col w w5 := White.below (hb3.trans (hal2.mono hb3.size))
  have hg7 : w4.heap.size ≠ g := by have := hM3.lt; have := hb4.size; omega
  clear hb3 hI5 hb4 hal hal2 u5 hM3
  generalize w4.heap.size = g7 at *
  have hvq := (hM5.way 0 (by omega)).part.now
  have hcap := hvq.cap
  rw [HY1.out] at hcap
  obtain ⟨⟨y0, y1, v0, v1, t0, t1⟩, fz, e0, e1⟩ := hM5.cells
  have y0' := y0
  rw [HA.out, HY1.out] at y0'
  clear y0
  rw [HA.out, HY1.out, HY.out] at hvq
  have hdrop : (lsC (({ k := k, e := el, f := fl, n := len, a := ack, p := pp } : Ln) :: ls)).drop 61 = lsC ls := by
    show ((LV k el fl len ack pp).toList ++ lsC ls).drop 61 = lsC ls
    rw [List.drop_append_of_le_length (by rw [LV_list _ _ _ _ _ hpp]; omega), List.drop_of_length_le (by rw [LV_list _ _ _ _ _ hpp]; omega)]
    rfl
  obtain ⟨cY, hcY⟩ : ∃ cY, p.yc 0 = cY := ⟨_, rfl⟩
  rw [hcY] at y0' hvq hcap
  clear hcY
  have hci : (1 : Int) ≤ (ls.length : Int) + 1 := by omega
  have hcj : (1 : Int) ≤ cY := by omega
  have hck : (ls.length : Int) + 1 ≤ cY := by omega
  obtain ⟨A2, hA2⟩ : ∃ A2 : Option Addr, (if cY - 1 = 0 then some ⟨b, ob, none⟩ else some ⟨b, ob + 61, none⟩) = A2 := ⟨_, rfl⟩
  have HA2 := Lib.hid hA2
  have hq2 : OwnQ w5 40 61 A2 ls.length (cY - 1) (lsC ls) := by
    rw [← hdrop, ← hA2]
    split
    · next hz =>
      obtain rfl : cY = 1 := by omega
      have hl0 : ls.length = 0 := by omega
      rw [hl0] at hvq ⊢
      exact hvq.tail0
    · exact hvq.tail (by omega)
  have hbA2 : blk A2 = blk (p.yA 0) := by
    rw [HA.out, ← hA2]
    split <;> rfl
  clear hA2 hdrop hvq
  go_upto_region 9 with (fail)
  have hrow : Row w5.drew g 94 (WCell S p).toArray := hM5.row.now
  refine wp_region_tailN (n := 126) 12 (fun w' => w' = w5.drew) (fun _ _ => True) (by kernel_rfl) (by kernel_rfl) (by decide) (by rfl) rfl ?_
  simp only [List.take_succ_cons, List.take_zero, List.drop_succ_cons, List.drop_zero]
  refine tail_pure (fun w => trivial) (v := ?_) (fun _ => rfl) ?_ ?_; rotate_left; (focus (intro us w9 hS9 hF; clear hF; subst hS9; go_simp; (try with_reducible rfl); done)); simp only [Act.put, List.setIfInBounds_toArray, List.set_cons_zero, List.set_cons_succ, Nat.reduceAdd]
  refine tail_pure (fun w => trivial) (v := ?_) (fun _ => rfl) ?_ ?_; rotate_left; (focus (intro us w9 hS9 hF; clear hF; subst hS9; go_simp; (try with_reducible rfl); done)); simp only [Act.put, List.setIfInBounds_toArray, List.set_cons_zero, List.set_cons_succ, Nat.reduceAdd]
  refine tail_pure (fun w => trivial) (v := ?_) (fun _ => rfl) ?_ ?_; rotate_left; (focus (intro us w9 hS9 hF; clear hF; subst hS9; go_simp; (try with_reducible rfl); done)); simp only [Act.put, List.setIfInBounds_toArray, List.set_cons_zero, List.set_cons_succ, Nat.reduceAdd]
  refine tail_pure (fun w => trivial) (v := ?_) (fun _ => rfl) ?_ ?_; rotate_left; (focus (intro us w9 hS9 hF; clear hF; subst hS9; go_simp; (try with_reducible rfl); done)); simp only [Act.put, List.setIfInBounds_toArray, List.set_cons_zero, List.set_cons_succ, Nat.reduceAdd]
  refine tail_pure (fun w => trivial) (v := ?_) (fun _ => rfl) ?_ ?_; rotate_left; (focus (intro us w9 hS9 hF; clear hF; subst hS9; go_simp; (try with_reducible rfl); done)); simp only [Act.put, List.setIfInBounds_toArray, List.set_cons_zero, List.set_cons_succ, Nat.reduceAdd]
  refine tail_pure (fun w => trivial) (v := ?_) (fun _ => rfl) ?_ ?_; rotate_left; (focus (intro us w9 hS9 hF; clear hF; subst hS9; go_simp; (try with_reducible rfl); done)); simp only [Act.put, List.setIfInBounds_toArray, List.set_cons_zero, List.set_cons_succ, Nat.reduceAdd]
  refine tail_pure (fun w => trivial) (v := ?_) (fun _ => rfl) ?_ ?_; rotate_left; (focus (intro us w9 hS9 hF; clear hF; subst hS9; go_simp; (try with_reducible rfl); done)); simp only [Act.put, List.setIfInBounds_toArray, List.set_cons_zero, List.set_cons_succ, Nat.reduceAdd]
  refine tail_pure (fun w => trivial) (v := ?_) (fun _ => rfl) ?_ ?_; rotate_left; (focus (intro us w9 hS9 hF; clear hF; subst hS9; go_simp; (try with_reducible rfl); done)); simp only [Act.put, List.setIfInBounds_toArray, List.set_cons_zero, List.set_cons_succ, Nat.reduceAdd]
  refine tail_pure (fun w => trivial) (v := .slice A2 ls.length (cY - 1)) (fun _ => rfl) ?_ ?_; (focus (intro us w9 hS9 hF; clear hF; subst hS9; rw [← HA2.out]; by_cases hz : cY - 1 = 0; (rw [if_pos hz]; go_simp; omega); (rw [if_neg hz]; go_simp; (try omega); done))); simp only [Act.put, List.setIfInBounds_toArray, List.set_cons_zero, List.set_cons_succ, Nat.reduceAdd]
  refine tail_pure (fun w => trivial) (v := ?_) (fun _ => rfl) ?_ ?_; rotate_left; (focus (intro us w9 hS9 hF; clear hF; subst hS9; go_simp; (try with_reducible rfl); done)); simp only [Act.put, List.setIfInBounds_toArray, List.set_cons_zero, List.set_cons_succ, Nat.reduceAdd]
  refine tail_pure (fun w => trivial) (v := ?_) (fun _ => rfl) ?_ ?_; rotate_left; (focus (intro us w9 hS9 hF; clear hF; subst hS9; go_simp; (try with_reducible rfl); done)); simp only [Act.put, List.setIfInBounds_toArray, List.set_cons_zero, List.set_cons_succ, Nat.reduceAdd]
  refine tail_pure (fun w => trivial) (v := ?_) (fun _ => rfl) ?_ ?_; rotate_left; (focus (intro us w9 hS9 hF; clear hF; subst hS9; go_simp; (try with_reducible rfl); done)); simp only [Act.put, List.setIfInBounds_toArray, List.set_cons_zero, List.set_cons_succ, Nat.reduceAdd]
  refine tail_done fun us w7 hS7 hF => ?_
  subst hS7
  clear hF
  go_upto_region 10 with (fail)
  have hr6 := hM5.row.now.set 20 (.slice A2 ls.length (cY - 1))
  have u6 : Upd w5 ((w5.setCell ⟨g, 20, none⟩ (.slice A2 ls.length (cY - 1))).drew) g := ⟨rfl, rfl, rfl, (Upd.setCell w5 g 20 _).size, (Upd.setCell w5 g 20 _).block⟩
  have hr6 : Row ((w5.setCell ⟨g, 20, none⟩ (.slice A2 ls.length (cY - 1))).drew) g 94 _ := hr6
  generalize (w5.setCell ⟨g, 20, none⟩ (.slice A2 ls.length (cY - 1))).drew = wa at *
  have hM6 := hM5.tailY (s := 0) (by omega) HY.out u6 hbA2 hq2 (by
    unfold WCell
    simp only [upd, if_true]
    exact hr6)
  have r7 := r7.upd u6 hg7
  have hw6 : White col w wa := hw5.trans ((Only.upd u6 hM5.cg).white (by omega))
  clear y1 y0' v0 v1 t0 t1 fz e0 e1 hq2 u6 hr6 hrow hM5 hw5 hci hcj hck hcap hbA2
  have hM6d := hM6.drew
  have hHd : Held wa.drew (S.E 0) (p.A 0) (p.c 0) (p.B 0) (p.d 0) := (hM6d.held 0 (by omega)).now
  have hlgd : g < wa.drew.heap.size := hM6d.lt
  have r7 : Row wa.drew g7 40 (LV k el fl len ack pp) := r7
  have hw6 : White col w wa.drew := hw6.trans (White.below ((Below.refl _ _).drew))
  obtain ⟨⟨y0, y1, v0, v1, t0, t1⟩, fz, e0, e1⟩ := hM6d.cells
  clear hM6
  refine wp_region_late (n := 126) [14] (DeS wa.drew e9) (DeG wa.drew) (by kernel_rfl) (by kernel_rfl) (by rfl) (DeS.loc (by kernel_rfl)) ⟨Below.refl _ _, fun h => by omega⟩ ?_
  generalize wa.drew = wd at *
  refine late_pure (by simp) (fun w => DeG.refl _ _) (v := ?_) (fun _ => rfl) ?_ ?_; rotate_left; (focus (intro c9 us w9 hm9 hS9 hF; clear hF hm9; go_simp; (try with_reducible rfl); done)); simp only [Act.put, List.setIfInBounds_toArray, List.set_cons_zero, List.set_cons_succ, Nat.reduceAdd]
  refine late_pure (by simp) (fun w => DeG.refl _ _) (v := ?_) (fun _ => rfl) ?_ ?_; rotate_left; (focus (intro c9 us w9 hm9 hS9 hF; clear hF hm9; go_simp; (try with_reducible rfl); done)); simp only [Act.put, List.setIfInBounds_toArray, List.set_cons_zero, List.set_cons_succ, Nat.reduceAdd]
  refine late_pure (by simp) (fun w => DeG.refl _ _) (v := ?_) (fun _ => rfl) ?_ ?_; rotate_left; (focus (intro c9 us w9 hm9 hS9 hF; clear hF hm9; go_simp; (try with_reducible rfl); done)); simp only [Act.put, List.setIfInBounds_toArray, List.set_cons_zero, List.set_cons_succ, Nat.reduceAdd]
  refine late_pure (by simp) (fun w => DeG.refl _ _) (v := ?_) (fun _ => rfl) ?_ ?_; rotate_left; (focus (intro c9 us w9 hm9 hS9 hF; clear hF hm9; go_simp; (try with_reducible rfl); done)); simp only [Act.put, List.setIfInBounds_toArray, List.set_cons_zero, List.set_cons_succ, Nat.reduceAdd]
  refine late_pure (by simp) (fun w => DeG.refl _ _) (v := ?_) (fun _ => rfl) ?_ ?_; rotate_left; (focus (intro c9 us w9 hm9 hS9 hF; clear hF hm9; go_simp; (try with_reducible rfl); done)); simp only [Act.put, List.setIfInBounds_toArray, List.set_cons_zero, List.set_cons_succ, Nat.reduceAdd]
  refine late_pure (by simp) (fun w => DeG.refl _ _) (v := .agg (LEV (S.E 0) (p.A 0) (p.c 0) (p.B 0) (p.d 0))) (fun _ => rfl) ?_ ?_; (focus (intro c9 us w9 hm9 hS9 hF; exact exec_load_g (fun j v hv => (hS9.1.cell (p := ⟨g, 0 + j, none⟩) hlgd).trans (e0 j v hv)) Try.underlying69 rfl (lev_info _ _ _ _ _) rfl)); simp only [Act.put, List.setIfInBounds_toArray, List.set_cons_zero, List.set_cons_succ, Nat.reduceAdd]
  refine late_pure (by simp) (fun w => DeG.refl _ _) (v := .agg (LV k el fl len ack pp)) (fun _ => rfl) ?_ ?_; (focus (intro c9 us w9 hm9 hS9 hF; exact exec_load_g (r7.below hS9.1 r7.lt).range Try.underlying40 rfl (line_info _ _ _ _ _ hpp) rfl)); simp only [Act.put, List.setIfInBounds_toArray, List.set_cons_zero, List.set_cons_succ, Nat.reduceAdd]
  refine late_free (by simp) (De7 wd e9 ms false) (De7.mono) ?_ ?_; (focus (intro c9 us w9 hm9 hS9 hF K hK; have hc9 : c9 < 1 := (by rcases Nat.lt_or_ge c9 1 with h9 | h9; exact h9; exact absurd hm9 (by rw [mayAt_no (d := 0) (by kernel_rfl) (by omega) (by decide)]; decide)); clear hF; go_simp; refine (deliver_is HE.out HG.out HM.out HC.out ht (hHd.below hS9.1) hpp hack).mono ?_; rintro en w' ⟨A, c, B, d, M, mc, rfl, h1, h2, hb⟩; exact hK _ w' ⟨below_on hS9.1 hb, fun h => by omega⟩ (DeG.below hb) ⟨A, c, B, d, M, mc, rfl, HeldT.lower h1 hS9.1.size, h2.lower hS9.1.size⟩)); simp only [Act.put, List.setIfInBounds_toArray, List.set_cons_zero, List.set_cons_succ, Nat.reduceAdd]
  refine late_free (by simp) (De7 wd e9 ms false) (De7.mono) ?_ ?_; (focus (intro c9 us w9 hm9 hS9 hF K hK; obtain ⟨A, c, B, d, M, mc, hu, h1, h2⟩ := hF (7, De7 wd e9 ms false) (by simp) (by kernel_rfl); clear hF; dsimp only at hu; simp only [hu] at hK ⊢; go_simp; exact hK _ w9 hS9 (DeG.refl _ _) ⟨A, c, B, d, M, mc, rfl, h1, h2⟩)); simp only [Act.put, List.setIfInBounds_toArray, List.set_cons_zero, List.set_cons_succ, Nat.reduceAdd]
  refine late_free (by simp) (De9 wd e9) (De9.mono) ?_ ?_; (focus (intro c9 us w9 hm9 hS9 hF K hK; obtain ⟨A, c, B, d, M, mc, hu, h1, h2⟩ := hF (8, De7 wd e9 ms false) (by simp) (by kernel_rfl); clear hF; dsimp only at hu; simp only [hu] at hK ⊢; go_simp; exact hK _ w9 hS9 (DeG.refl _ _) ⟨A, c, B, d, rfl, h1⟩)); simp only [Act.put, List.setIfInBounds_toArray, List.set_cons_zero, List.set_cons_succ, Nat.reduceAdd]
  refine late_free (by simp) (De10 wd ms) (De10.mono) ?_ ?_; (focus (intro c9 us w9 hm9 hS9 hF K hK; obtain ⟨A, c, B, d, M, mc, hu, h1, h2⟩ := hF (8, De7 wd e9 ms false) (by simp) (by kernel_rfl); clear hF; dsimp only at hu; simp only [hu] at hK ⊢; go_simp; exact hK _ w9 hS9 (DeG.refl _ _) ⟨M, mc, rfl, h2⟩)); simp only [Act.put, List.setIfInBounds_toArray, List.set_cons_zero, List.set_cons_succ, Nat.reduceAdd]
  refine late_pure (by simp) (fun w => DeG.refl _ _) (v := .bool false) (fun _ => rfl) ?_ ?_; (focus (intro c9 us w9 hm9 hS9 hF; obtain ⟨A, c, B, d, M, mc, hu, -⟩ := hF (8, De7 wd e9 ms false) (by simp) (by kernel_rfl); dsimp only at hu; simp only [hu]; go_simp)); simp only [Act.put, List.setIfInBounds_toArray, List.set_cons_zero, List.set_cons_succ, Nat.reduceAdd]
  refine late_pure (by simp) (fun w => DeG.refl _ _) (v := .int .i64 0) (fun _ => rfl) ?_ ?_; (focus (intro c9 us w9 hm9 hS9 hF; obtain ⟨A, c, B, d, M, mc, hu, -⟩ := hF (8, De7 wd e9 ms false) (by simp) (by kernel_rfl); dsimp only at hu; simp only [hu]; go_simp)); simp only [Act.put, List.setIfInBounds_toArray, List.set_cons_zero, List.set_cons_succ, Nat.reduceAdd]
  refine late_free (by simp) (PtrN wd.heap.size 69 10) (PtrN.monoG) ?_ ?_; (focus (intro c9 us w9 hm9 hS9 hF K hK; have hc9 : c9 < 1 := (by rcases Nat.lt_or_ge c9 1 with h9 | h9; exact h9; exact absurd hm9 (by rw [mayAt_no (d := 0) (by kernel_rfl) (by omega) (by decide)]; decide)); clear hF; go_simp; exact hK _ _ ⟨hS9.1.alloc hS9.1.size (.cells ZE 69), fun h => by omega⟩ ⟨Keeps.below ((Below.refl _ _).alloc (Nat.le_refl _) _), Shp.alloc _ _ _⟩ ⟨w9.heap.size, ZE, rfl, hS9.1.size, Row.born w9 69 ZE, rfl⟩)); simp only [Act.put, List.setIfInBounds_toArray, List.set_cons_zero, List.set_cons_succ, Nat.reduceAdd]
  refine late_store rfl ?_ ?_; (focus (intro us w9 hS9 hF K hK; obtain ⟨A, c, B, d, hu9, h1⟩ := hF (9, De9 wd e9) (by simp) (by kernel_rfl); obtain ⟨b3, cs, hu, hb3, hr, hn⟩ := hF (13, PtrN wd.heap.size 69 10) (by simp) (by kernel_rfl); dsimp only at hu9 hu; clear hF; simp only [hu9, hu] at hK ⊢; rw [if_pos (by rfl)]; exact step_put (L := LEV e9 A c B d) hr hn (lev_info _ _ _ _ _) (lev_one _ _ _ _ _) rfl rfl (fun w' u' r' => hK w' ⟨Upd.below hS9.1 u' hb3, fun _ => ⟨b3, A, c, B, d, hu, hb3, r', h1.keeps (Keeps.upd (ts := [69]) u' hr (by simp)) (by decide) (by decide)⟩⟩ ⟨Keeps.upd (ts := [69]) u' hr (by simp), Shp.upd u' hr r' hn⟩))); simp only [Nat.reduceAdd]
  refine late_free (by simp) (De10 wd ms) (De10.mono) ?_ ?_; (focus (intro c9 us w9 hm9 hS9 hF K hK; obtain ⟨M, mc, hu, h2⟩ := hF (10, De10 wd ms) (by simp) (by kernel_rfl); clear hF; dsimp only at hu; simp only [hu] at hK ⊢; go_simp; exact hK _ w9 hS9 (DeG.refl _ _) ⟨M, mc, rfl, h2⟩)); simp only [Act.put, List.setIfInBounds_toArray, List.set_cons_zero, List.set_cons_succ, Nat.reduceAdd]
  refine late_pure (by simp) (fun w => DeG.refl _ _) (v := ?_) (fun _ => rfl) ?_ ?_; rotate_left; (focus (intro c9 us w9 hm9 hS9 hF; clear hF hm9; go_simp; (try with_reducible rfl); done)); simp only [Act.put, List.setIfInBounds_toArray, List.set_cons_zero, List.set_cons_succ, Nat.reduceAdd]
  refine late_pure (by simp) (fun w => DeG.refl _ _) (v := ?_) (fun _ => rfl) ?_ ?_; rotate_left; (focus (intro c9 us w9 hm9 hS9 hF; clear hF hm9; go_simp; (try with_reducible rfl); done)); simp only [Act.put, List.setIfInBounds_toArray, List.set_cons_zero, List.set_cons_succ, Nat.reduceAdd]
  refine late_done fun us wf hS8 hF => ?_
  obtain ⟨M, mc, hu15, hoM⟩ := hF (15, De10 wd ms) (by simp)
  obtain ⟨g8, A3, c3, B3, d3, hu13, hg8, r8, hT8⟩ := hS8.2 (by omega)
  have hbf := hS8.1
  clear hF hS8
  dsimp only at hu15 hu13
  simp only [hu15, hu13]
  clear hu15 hu13
  have hM11 := hM6d.below hbf
  have hw11 := hw6.trans (White.below (col := col) hbf)
  have hP11 : Part col 0 wf (fun w => Held w e9 A3 c3 B3 d3) := Part.held hT8.heldI (fun x h1 h2 => hM6d.cn x h1)
  have hMP : Part col 0 wf (fun w => IsB w M ms.length ms) := Part.ownB hoM (fun x h1 => hM6d.cn x h1)
  have hcap2 := OwnB.capM hoM
  clear y0 y1 v0 v1 t0 t1 fz e0 e1 hHd hlgd r7 hw6 hM6d hT8 hoM hbf
  obtain ⟨S1, hS1⟩ : ∃ S1, ({ S with Y := upd S.Y 0 ls } : WrS) = S1 := ⟨_, rfl⟩
  rw [hS1] at hM11
  have hT1 : S1.T 0 ≤ 100000 := by rw [← hS1]; exact hTb
  have hVeq : S1.V 1 = S.V 1 := by rw [← hS1]
  have HVeq := Lib.hid hVeq
  have HTS := Lib.hid (show S1.T 0 = S.T 0 by rw [← hS1])
  have HS1 := Lib.hid hS1
  clear hS1 hVeq
  generalize ({ p with yA := upd p.yA 0 A2, yc := upd p.yc 0 (cY - 1) } : WrP) = p1 at *
  go_upto_region 13 with (fail)
  have hrow : Row wf.drew g 94 (([] : List Value) ++ (LEV (S1.E 0) (p1.A 0) (p1.c 0) (p1.B 0) (p1.d 0)).toList ++ ((LEV (S1.E 1) (p1.A 1) (p1.c 1) (p1.B 1) (p1.d 1)).toList ++ ([.slice (p1.yA 0) (S1.Y 0).length (p1.yc 0), .slice (p1.yA 1) (S1.Y 1).length (p1.yc 1), .slice (p1.vA 0) (S1.V 0).length (p1.vc 0), .slice (p1.vA 1) (S1.V 1).length (p1.vc 1), .slice (p1.tA 0) (S1.T 0) (p1.tc 0), .slice (p1.tA 1) (S1.T 1) (p1.tc 1)] : List Value))).toArray := hM11.row.now
  have r8 : Row wf.drew g8 69 (LEV e9 A3 c3 B3 d3) := r8
  refine wp_region_tailN (n := 126) 6 (fun w' => w' = wf.drew) (fun _ _ => True) (by kernel_rfl) (by kernel_rfl) (by decide) (by rfl) rfl ?_
  simp only [List.take_succ_cons, List.take_zero, List.drop_succ_cons, List.drop_zero]
  refine tail_pure (fun w => trivial) (v := ?_) (fun _ => rfl) ?_ ?_; rotate_left; (focus (intro us w9 hS9 hF; clear hF; subst hS9; go_simp; (try with_reducible rfl); done)); simp only [Act.put, List.setIfInBounds_toArray, List.set_cons_zero, List.set_cons_succ, Nat.reduceAdd]
  refine tail_pure (fun w => trivial) (v := ?_) (fun _ => rfl) ?_ ?_; rotate_left; (focus (intro us w9 hS9 hF; clear hF; subst hS9; go_simp; (try with_reducible rfl); done)); simp only [Act.put, List.setIfInBounds_toArray, List.set_cons_zero, List.set_cons_succ, Nat.reduceAdd]
  refine tail_pure (fun w => trivial) (v := .agg (LEV e9 A3 c3 B3 d3)) (fun _ => rfl) ?_ ?_; (focus (intro us w9 hS9 hF; clear hF; subst hS9; exact exec_load_g r8.range Try.underlying69 rfl (lev_info _ _ _ _ _) rfl)); simp only [Act.put, List.setIfInBounds_toArray, List.set_cons_zero, List.set_cons_succ, Nat.reduceAdd]
  refine tail_pure (fun w => trivial) (v := ?_) (fun _ => rfl) ?_ ?_; rotate_left; (focus (intro us w9 hS9 hF; clear hF; subst hS9; go_simp; (try with_reducible rfl); done)); simp only [Act.put, List.setIfInBounds_toArray, List.set_cons_zero, List.set_cons_succ, Nat.reduceAdd]
  refine tail_pure (fun w => trivial) (v := ?_) (fun _ => rfl) ?_ ?_; rotate_left; (focus (intro us w9 hS9 hF; clear hF; subst hS9; go_simp; (try with_reducible rfl); done)); simp only [Act.put, List.setIfInBounds_toArray, List.set_cons_zero, List.set_cons_succ, Nat.reduceAdd]
  refine tail_pure (fun w => trivial) (v := ?_) (fun _ => rfl) ?_ ?_; rotate_left; (focus (intro us w9 hS9 hF; clear hF; subst hS9; go_simp; (try with_reducible rfl); done)); simp only [Act.put, List.setIfInBounds_toArray, List.set_cons_zero, List.set_cons_succ, Nat.reduceAdd]
  refine tail_done fun us w7 hS7 hF => ?_
  subst hS7
  clear hF
  refine wp_put_mid (g := g) (t := 94) (off := 0) (pre := ([] : List Value)) (cs := (LEV (S1.E 0) (p1.A 0) (p1.c 0) (p1.B 0) (p1.d 0)).toList) (post := ((LEV (S1.E 1) (p1.A 1) (p1.c 1) (p1.B 1) (p1.d 1)).toList ++ ([.slice (p1.yA 0) (S1.Y 0).length (p1.yc 0), .slice (p1.yA 1) (S1.Y 1).length (p1.yc 1), .slice (p1.vA 0) (S1.V 0).length (p1.vc 0), .slice (p1.vA 1) (S1.V 1).length (p1.vc 1), .slice (p1.tA 0) (S1.T 0) (p1.tc 0), .slice (p1.tA 1) (S1.T 1) (p1.tc 1)] : List Value))) (L := LEV e9 A3 c3 B3 d3) hrow rfl rfl (lev_info _ _ _ _ _) (lev_one _ _ _ _ _) ?_ ?_ ?_; rfl; rfl; intro w8 u7 r7
  have hM11d := hM11.drew
  have hM8 := hM11d.putE (s := 0) (by omega) u7 hP11 r7
  have hw8 : White col w w8 := hw11.trans (((Only.upd u7 hM11.cg).white (by omega)).undrew)
  have hMP8 := Part.only (show Part col 0 wf.drew _ from hMP) (Only.upd u7 hM11.cg) (by omega)
  clear hM11 hM11d hrow r8 u7 r7 hMP hP11 hw11
  have hml : ms.length = 0 := by rw [HMS.out]; rfl
  go_wp2
  go_ret
  have h' := HS1.out
  subst h'
  exact ⟨rfl, col, _, hM8, hw8, fun _ _ h => h⟩

set_option maxRecDepth 100000 in
set_option maxHeartbeats 8000000 in
theorem de_com0 (base g : Nat) (col : Nat → Nat) (w : World) (S : WrS) (p : WrP) (hM : WM base g col w S p) (hgd : Gd (S.E 0)) {l : Ln} {ls : List Ln} (hY : S.Y 0 = l :: ls) (tk : Takes (S.E 0) l (S.V 1) (S.T 0)) (hC : dvC (S.E 0) l.k l.f l.n l.p = true) (hTb : S.T 0 ≤ 100000) (hVb : (S.V 1).length ≤ 100000) (hYb : (S.Y 0).length ≤ 100000) : Calls Try.prog 60 #[.pointer (some ⟨g, 0, none⟩), .int .i64 0] w (WStep base g col w { S with E := upd S.E 0 (dvG (S.E 0) l.k l.f l.n l.a l.p), Y := upd S.Y 0 ls, T := upd S.T 0 (S.T 0 + 1) }) := by
  have hok := tk.ok
  obtain ⟨k, el, fl, len, ack, pp⟩ := l
  have hpp : pp.length = 56 := hok.1
  have hack : 0 ≤ ack ∧ ack < 65536 := hok.2
  have HL := Lib.hid (show lnE k el fl len pp = 0 from tk.e)
  have HE := Lib.hid (show dvE (S.E 0) k el fl len ack pp = 0 from tk.dv)
  obtain ⟨e9, he9⟩ : ∃ e9, dvG (S.E 0) k fl len ack pp = e9 := ⟨_, rfl⟩
  have HG := Lib.hid he9
  show Calls Try.prog 60 #[.pointer (some ⟨g, 0, none⟩), .int .i64 0] w (WStep base g col w { S with E := upd S.E 0 (dvG (S.E 0) k fl len ack pp), Y := upd S.Y 0 ls, T := upd S.T 0 (S.T 0 + 1) })
  rw [he9]
  clear he9
  obtain ⟨cc, hcc⟩ : ∃ cc, dvC (S.E 0) k fl len pp = cc := ⟨_, rfl⟩
  have HC := Lib.hid hcc
  obtain rfl : cc = true := hcc.symm.trans hC
  clear hcc
  have hV0 := tk.m hC
  obtain ⟨ms, hms⟩ : ∃ ms, dvM (S.E 0) k fl len pp = ms := ⟨_, rfl⟩
  have HM := Lib.hid hms
  have hV0 : (S.V 1)[S.T 0]? = some ms := by rw [← hms]; exact hV0
  have HV0 := Lib.hid hV0
  clear hms hV0
  clear hC tk
  have hlg := hM.lt
  have ht := hgd.ty
  obtain ⟨⟨y0, y1, v0, v1, t0, t1⟩, fz, e0, e1⟩ := hM.cells
  have hvs := hM.way 0 (by omega)
  have hvq := hvs.part.now
  have hY1 : (S.Y 0).length = ls.length + 1 := by rw [hY]; rfl
  obtain ⟨b, ob, cur, hA, hrb, hcell⟩ := hvq.cells (by omega)
  have hrng : w.rangeAt b ob (LV k el fl len ack pp).toList := fun j v hv => by
    refine hcell j v ?_
    rw [hY]
    show ((LV k el fl len ack pp).toList ++ lsC ls)[j]? = some v
    rw [List.getElem?_append_left (List.getElem?_eq_some_iff.1 hv).1]
    exact hv
  have y0' := y0
  rw [hA, hY1] at y0'
  have HA := Lib.hid hA
  have HY1 := Lib.hid hY1
  have HY := Lib.hid hY
  clear hA hY1 hY hcell y0
  have hi0 : (0 : Int) < (ls.length : Int) + 1 := by omega
  have hne : ((ls.length : Int) + 1 == 0) = false := by rw [beq_eq_false_iff_ne]; omega
  go_enter Try.func60, Try.ntmps60
  go_upto_region 4 with (first | ((with_reducible refine wp_load_g ?_ hrng Try.underlying40 rfl (line_info _ _ _ _ _ hpp) ?_ ?_); rfl; rfl) | (go_at_call 30; refine (enc_full _ _ _ _ _ _ hack.1 hack.2 hpp _ HL.out).mono ?_; rintro en w3 ⟨g5, rfl, hI5, hb3⟩))
  clear y1 y0' v0 v1 t0 t1 fz e0 e1 hrng hrb
  have hM3 := hM.below hb3
  go_upto_region 7 with (first | (go_at_call 32; refine (dec_full _ _ _ _ _ _ hack.1 hack.2 hpp _ _ _ HL.out hI5 (Nat.le_refl _)).mono ?_; rintro en w4 ⟨rfl, hb4⟩) | ((with_reducible refine wp_row_store (L := LV k el fl len ack pp) (Row.bornAt (g := w4.heap.size) rfl 40 _) ?_ (line_info _ _ _ _ _ hpp) (LV_one _ _ _ _ _ _) ?_ ?_ ?_); exact (LV_size _ _ _ _ _ hpp).symm; rfl; rfl; intro w5 u5 r7))
  have hal := (Below.refl w4.heap.size w4).alloc (Nat.le_refl _) (.cells ZL 40)
  have hal2 := Upd.below (hb4.trans (hal.mono hb4.size)) u5 hb4.size
  have hM5 := hM3.below hal2
  have hw5 : White col w w5 := White.below (hb3.trans (hal2.mono hb3.size))
  have hg7 : w4.heap.size ≠ g := by have := hM3.lt; have := hb4.size; omega
  clear hb3 hI5 hb4 hal hal2 u5 hM3
  generalize w4.heap.size = g7 at *
  have hvq := (hM5.way 0 (by omega)).part.now
  have hcap := hvq.cap
  rw [HY1.out] at hcap
  obtain ⟨⟨y0, y1, v0, v1, t0, t1⟩, fz, e0, e1⟩ := hM5.cells
  have y0' := y0
  rw [HA.out, HY1.out] at y0'
  clear y0
  rw [HA.out, HY1.out, HY.out] at hvq
  have hdrop : (lsC (({ k := k, e := el, f := fl, n := len, a := ack, p := pp } : Ln) :: ls)).drop 61 = lsC ls := by
    show ((LV k el fl len ack pp).toList ++ lsC ls).drop 61 = lsC ls
    rw [List.drop_append_of_le_length (by rw [LV_list _ _ _ _ _ hpp]; omega), List.drop_of_length_le (by rw [LV_list _ _ _ _ _ hpp]; omega)]
    rfl
  obtain ⟨cY, hcY⟩ : ∃ cY, p.yc 0 = cY := ⟨_, rfl⟩
  rw [hcY] at y0' hvq hcap
  clear hcY
  have hci : (1 : Int) ≤ (ls.length : Int) + 1 := by omega
  have hcj : (1 : Int) ≤ cY := by omega
  have hck : (ls.length : Int) + 1 ≤ cY := by omega
  obtain ⟨A2, hA2⟩ : ∃ A2 : Option Addr, (if cY - 1 = 0 then some ⟨b, ob, none⟩ else some ⟨b, ob + 61, none⟩) = A2 := ⟨_, rfl⟩
  have HA2 := Lib.hid hA2
  have hq2 : OwnQ w5 40 61 A2 ls.length (cY - 1) (lsC ls) := by
    rw [← hdrop, ← hA2]
    split
    · next hz =>
      obtain rfl : cY = 1 := by omega
      have hl0 : ls.length = 0 := by omega
      rw [hl0] at hvq ⊢
      exact hvq.tail0
    · exact hvq.tail (by omega)
  have hbA2 : blk A2 = blk (p.yA 0) := by
    rw [HA.out, ← hA2]
    split <;> rfl
  clear hA2 hdrop hvq
  go_upto_region 9 with (fail)
  have hrow : Row w5.drew g 94 (WCell S p).toArray := hM5.row.now
  refine wp_region_tailN (n := 126) 12 (fun w' => w' = w5.drew) (fun _ _ => True) (by kernel_rfl) (by kernel_rfl) (by decide) (by rfl) rfl ?_
  simp only [List.take_succ_cons, List.take_zero, List.drop_succ_cons, List.drop_zero]
  refine tail_pure (fun w => trivial) (v := ?_) (fun _ => rfl) ?_ ?_; rotate_left; (focus (intro us w9 hS9 hF; clear hF; subst hS9; go_simp; (try with_reducible rfl); done)); simp only [Act.put, List.setIfInBounds_toArray, List.set_cons_zero, List.set_cons_succ, Nat.reduceAdd]
  refine tail_pure (fun w => trivial) (v := ?_) (fun _ => rfl) ?_ ?_; rotate_left; (focus (intro us w9 hS9 hF; clear hF; subst hS9; go_simp; (try with_reducible rfl); done)); simp only [Act.put, List.setIfInBounds_toArray, List.set_cons_zero, List.set_cons_succ, Nat.reduceAdd]
  refine tail_pure (fun w => trivial) (v := ?_) (fun _ => rfl) ?_ ?_; rotate_left; (focus (intro us w9 hS9 hF; clear hF; subst hS9; go_simp; (try with_reducible rfl); done)); simp only [Act.put, List.setIfInBounds_toArray, List.set_cons_zero, List.set_cons_succ, Nat.reduceAdd]
  refine tail_pure (fun w => trivial) (v := ?_) (fun _ => rfl) ?_ ?_; rotate_left; (focus (intro us w9 hS9 hF; clear hF; subst hS9; go_simp; (try with_reducible rfl); done)); simp only [Act.put, List.setIfInBounds_toArray, List.set_cons_zero, List.set_cons_succ, Nat.reduceAdd]
  refine tail_pure (fun w => trivial) (v := ?_) (fun _ => rfl) ?_ ?_; rotate_left; (focus (intro us w9 hS9 hF; clear hF; subst hS9; go_simp; (try with_reducible rfl); done)); simp only [Act.put, List.setIfInBounds_toArray, List.set_cons_zero, List.set_cons_succ, Nat.reduceAdd]
  refine tail_pure (fun w => trivial) (v := ?_) (fun _ => rfl) ?_ ?_; rotate_left; (focus (intro us w9 hS9 hF; clear hF; subst hS9; go_simp; (try with_reducible rfl); done)); simp only [Act.put, List.setIfInBounds_toArray, List.set_cons_zero, List.set_cons_succ, Nat.reduceAdd]
  refine tail_pure (fun w => trivial) (v := ?_) (fun _ => rfl) ?_ ?_; rotate_left; (focus (intro us w9 hS9 hF; clear hF; subst hS9; go_simp; (try with_reducible rfl); done)); simp only [Act.put, List.setIfInBounds_toArray, List.set_cons_zero, List.set_cons_succ, Nat.reduceAdd]
  refine tail_pure (fun w => trivial) (v := ?_) (fun _ => rfl) ?_ ?_; rotate_left; (focus (intro us w9 hS9 hF; clear hF; subst hS9; go_simp; (try with_reducible rfl); done)); simp only [Act.put, List.setIfInBounds_toArray, List.set_cons_zero, List.set_cons_succ, Nat.reduceAdd]
  refine tail_pure (fun w => trivial) (v := .slice A2 ls.length (cY - 1)) (fun _ => rfl) ?_ ?_; (focus (intro us w9 hS9 hF; clear hF; subst hS9; rw [← HA2.out]; by_cases hz : cY - 1 = 0; (rw [if_pos hz]; go_simp; omega); (rw [if_neg hz]; go_simp; (try omega); done))); simp only [Act.put, List.setIfInBounds_toArray, List.set_cons_zero, List.set_cons_succ, Nat.reduceAdd]
  refine tail_pure (fun w => trivial) (v := ?_) (fun _ => rfl) ?_ ?_; rotate_left; (focus (intro us w9 hS9 hF; clear hF; subst hS9; go_simp; (try with_reducible rfl); done)); simp only [Act.put, List.setIfInBounds_toArray, List.set_cons_zero, List.set_cons_succ, Nat.reduceAdd]
  refine tail_pure (fun w => trivial) (v := ?_) (fun _ => rfl) ?_ ?_; rotate_left; (focus (intro us w9 hS9 hF; clear hF; subst hS9; go_simp; (try with_reducible rfl); done)); simp only [Act.put, List.setIfInBounds_toArray, List.set_cons_zero, List.set_cons_succ, Nat.reduceAdd]
  refine tail_pure (fun w => trivial) (v := ?_) (fun _ => rfl) ?_ ?_; rotate_left; (focus (intro us w9 hS9 hF; clear hF; subst hS9; go_simp; (try with_reducible rfl); done)); simp only [Act.put, List.setIfInBounds_toArray, List.set_cons_zero, List.set_cons_succ, Nat.reduceAdd]
  refine tail_done fun us w7 hS7 hF => ?_
  subst hS7
  clear hF
  go_upto_region 10 with (fail)
  have hr6 := hM5.row.now.set 20 (.slice A2 ls.length (cY - 1))
  have u6 : Upd w5 ((w5.setCell ⟨g, 20, none⟩ (.slice A2 ls.length (cY - 1))).drew) g := ⟨rfl, rfl, rfl, (Upd.setCell w5 g 20 _).size, (Upd.setCell w5 g 20 _).block⟩
  have hr6 : Row ((w5.setCell ⟨g, 20, none⟩ (.slice A2 ls.length (cY - 1))).drew) g 94 _ := hr6
  generalize (w5.setCell ⟨g, 20, none⟩ (.slice A2 ls.length (cY - 1))).drew = wa at *
  have hM6 := hM5.tailY (s := 0) (by omega) HY.out u6 hbA2 hq2 (by
    unfold WCell
    simp only [upd, if_true]
    exact hr6)
  have r7 := r7.upd u6 hg7
  have hw6 : White col w wa := hw5.trans ((Only.upd u6 hM5.cg).white (by omega))
  clear y1 y0' v0 v1 t0 t1 fz e0 e1 hq2 u6 hr6 hrow hM5 hw5 hci hcj hck hcap hbA2
  have hM6d := hM6.drew
  have hHd : Held wa.drew (S.E 0) (p.A 0) (p.c 0) (p.B 0) (p.d 0) := (hM6d.held 0 (by omega)).now
  have hlgd : g < wa.drew.heap.size := hM6d.lt
  have r7 : Row wa.drew g7 40 (LV k el fl len ack pp) := r7
  have hw6 : White col w wa.drew := hw6.trans (White.below ((Below.refl _ _).drew))
  obtain ⟨⟨y0, y1, v0, v1, t0, t1⟩, fz, e0, e1⟩ := hM6d.cells
  clear hM6
  refine wp_region_late (n := 126) [14] (DeS wa.drew e9) (DeG wa.drew) (by kernel_rfl) (by kernel_rfl) (by rfl) (DeS.loc (by kernel_rfl)) ⟨Below.refl _ _, fun h => by omega⟩ ?_
  generalize wa.drew = wd at *
  refine late_pure (by simp) (fun w => DeG.refl _ _) (v := ?_) (fun _ => rfl) ?_ ?_; rotate_left; (focus (intro c9 us w9 hm9 hS9 hF; clear hF hm9; go_simp; (try with_reducible rfl); done)); simp only [Act.put, List.setIfInBounds_toArray, List.set_cons_zero, List.set_cons_succ, Nat.reduceAdd]
  refine late_pure (by simp) (fun w => DeG.refl _ _) (v := ?_) (fun _ => rfl) ?_ ?_; rotate_left; (focus (intro c9 us w9 hm9 hS9 hF; clear hF hm9; go_simp; (try with_reducible rfl); done)); simp only [Act.put, List.setIfInBounds_toArray, List.set_cons_zero, List.set_cons_succ, Nat.reduceAdd]
  refine late_pure (by simp) (fun w => DeG.refl _ _) (v := ?_) (fun _ => rfl) ?_ ?_; rotate_left; (focus (intro c9 us w9 hm9 hS9 hF; clear hF hm9; go_simp; (try with_reducible rfl); done)); simp only [Act.put, List.setIfInBounds_toArray, List.set_cons_zero, List.set_cons_succ, Nat.reduceAdd]
  refine late_pure (by simp) (fun w => DeG.refl _ _) (v := ?_) (fun _ => rfl) ?_ ?_; rotate_left; (focus (intro c9 us w9 hm9 hS9 hF; clear hF hm9; go_simp; (try with_reducible rfl); done)); simp only [Act.put, List.setIfInBounds_toArray, List.set_cons_zero, List.set_cons_succ, Nat.reduceAdd]
  refine late_pure (by simp) (fun w => DeG.refl _ _) (v := ?_) (fun _ => rfl) ?_ ?_; rotate_left; (focus (intro c9 us w9 hm9 hS9 hF; clear hF hm9; go_simp; (try with_reducible rfl); done)); simp only [Act.put, List.setIfInBounds_toArray, List.set_cons_zero, List.set_cons_succ, Nat.reduceAdd]
  refine late_pure (by simp) (fun w => DeG.refl _ _) (v := .agg (LEV (S.E 0) (p.A 0) (p.c 0) (p.B 0) (p.d 0))) (fun _ => rfl) ?_ ?_; (focus (intro c9 us w9 hm9 hS9 hF; exact exec_load_g (fun j v hv => (hS9.1.cell (p := ⟨g, 0 + j, none⟩) hlgd).trans (e0 j v hv)) Try.underlying69 rfl (lev_info _ _ _ _ _) rfl)); simp only [Act.put, List.setIfInBounds_toArray, List.set_cons_zero, List.set_cons_succ, Nat.reduceAdd]
  refine late_pure (by simp) (fun w => DeG.refl _ _) (v := .agg (LV k el fl len ack pp)) (fun _ => rfl) ?_ ?_; (focus (intro c9 us w9 hm9 hS9 hF; exact exec_load_g (r7.below hS9.1 r7.lt).range Try.underlying40 rfl (line_info _ _ _ _ _ hpp) rfl)); simp only [Act.put, List.setIfInBounds_toArray, List.set_cons_zero, List.set_cons_succ, Nat.reduceAdd]
  refine late_free (by simp) (De7 wd e9 ms true) (De7.mono) ?_ ?_; (focus (intro c9 us w9 hm9 hS9 hF K hK; have hc9 : c9 < 1 := (by rcases Nat.lt_or_ge c9 1 with h9 | h9; exact h9; exact absurd hm9 (by rw [mayAt_no (d := 0) (by kernel_rfl) (by omega) (by decide)]; decide)); clear hF; go_simp; refine (deliver_is HE.out HG.out HM.out HC.out ht (hHd.below hS9.1) hpp hack).mono ?_; rintro en w' ⟨A, c, B, d, M, mc, rfl, h1, h2, hb⟩; exact hK _ w' ⟨below_on hS9.1 hb, fun h => by omega⟩ (DeG.below hb) ⟨A, c, B, d, M, mc, rfl, HeldT.lower h1 hS9.1.size, h2.lower hS9.1.size⟩)); simp only [Act.put, List.setIfInBounds_toArray, List.set_cons_zero, List.set_cons_succ, Nat.reduceAdd]
  refine late_free (by simp) (De7 wd e9 ms true) (De7.mono) ?_ ?_; (focus (intro c9 us w9 hm9 hS9 hF K hK; obtain ⟨A, c, B, d, M, mc, hu, h1, h2⟩ := hF (7, De7 wd e9 ms true) (by simp) (by kernel_rfl); clear hF; dsimp only at hu; simp only [hu] at hK ⊢; go_simp; exact hK _ w9 hS9 (DeG.refl _ _) ⟨A, c, B, d, M, mc, rfl, h1, h2⟩)); simp only [Act.put, List.setIfInBounds_toArray, List.set_cons_zero, List.set_cons_succ, Nat.reduceAdd]
  refine late_free (by simp) (De9 wd e9) (De9.mono) ?_ ?_; (focus (intro c9 us w9 hm9 hS9 hF K hK; obtain ⟨A, c, B, d, M, mc, hu, h1, h2⟩ := hF (8, De7 wd e9 ms true) (by simp) (by kernel_rfl); clear hF; dsimp only at hu; simp only [hu] at hK ⊢; go_simp; exact hK _ w9 hS9 (DeG.refl _ _) ⟨A, c, B, d, rfl, h1⟩)); simp only [Act.put, List.setIfInBounds_toArray, List.set_cons_zero, List.set_cons_succ, Nat.reduceAdd]
  refine late_free (by simp) (De10 wd ms) (De10.mono) ?_ ?_; (focus (intro c9 us w9 hm9 hS9 hF K hK; obtain ⟨A, c, B, d, M, mc, hu, h1, h2⟩ := hF (8, De7 wd e9 ms true) (by simp) (by kernel_rfl); clear hF; dsimp only at hu; simp only [hu] at hK ⊢; go_simp; exact hK _ w9 hS9 (DeG.refl _ _) ⟨M, mc, rfl, h2⟩)); simp only [Act.put, List.setIfInBounds_toArray, List.set_cons_zero, List.set_cons_succ, Nat.reduceAdd]
  refine late_pure (by simp) (fun w => DeG.refl _ _) (v := .bool true) (fun _ => rfl) ?_ ?_; (focus (intro c9 us w9 hm9 hS9 hF; obtain ⟨A, c, B, d, M, mc, hu, -⟩ := hF (8, De7 wd e9 ms true) (by simp) (by kernel_rfl); dsimp only at hu; simp only [hu]; go_simp)); simp only [Act.put, List.setIfInBounds_toArray, List.set_cons_zero, List.set_cons_succ, Nat.reduceAdd]
  refine late_pure (by simp) (fun w => DeG.refl _ _) (v := .int .i64 0) (fun _ => rfl) ?_ ?_; (focus (intro c9 us w9 hm9 hS9 hF; obtain ⟨A, c, B, d, M, mc, hu, -⟩ := hF (8, De7 wd e9 ms true) (by simp) (by kernel_rfl); dsimp only at hu; simp only [hu]; go_simp)); simp only [Act.put, List.setIfInBounds_toArray, List.set_cons_zero, List.set_cons_succ, Nat.reduceAdd]
  refine late_free (by simp) (PtrN wd.heap.size 69 10) (PtrN.monoG) ?_ ?_; (focus (intro c9 us w9 hm9 hS9 hF K hK; have hc9 : c9 < 1 := (by rcases Nat.lt_or_ge c9 1 with h9 | h9; exact h9; exact absurd hm9 (by rw [mayAt_no (d := 0) (by kernel_rfl) (by omega) (by decide)]; decide)); clear hF; go_simp; exact hK _ _ ⟨hS9.1.alloc hS9.1.size (.cells ZE 69), fun h => by omega⟩ ⟨Keeps.below ((Below.refl _ _).alloc (Nat.le_refl _) _), Shp.alloc _ _ _⟩ ⟨w9.heap.size, ZE, rfl, hS9.1.size, Row.born w9 69 ZE, rfl⟩)); simp only [Act.put, List.setIfInBounds_toArray, List.set_cons_zero, List.set_cons_succ, Nat.reduceAdd]
  refine late_store rfl ?_ ?_; (focus (intro us w9 hS9 hF K hK; obtain ⟨A, c, B, d, hu9, h1⟩ := hF (9, De9 wd e9) (by simp) (by kernel_rfl); obtain ⟨b3, cs, hu, hb3, hr, hn⟩ := hF (13, PtrN wd.heap.size 69 10) (by simp) (by kernel_rfl); dsimp only at hu9 hu; clear hF; simp only [hu9, hu] at hK ⊢; rw [if_pos (by rfl)]; exact step_put (L := LEV e9 A c B d) hr hn (lev_info _ _ _ _ _) (lev_one _ _ _ _ _) rfl rfl (fun w' u' r' => hK w' ⟨Upd.below hS9.1 u' hb3, fun _ => ⟨b3, A, c, B, d, hu, hb3, r', h1.keeps (Keeps.upd (ts := [69]) u' hr (by simp)) (by decide) (by decide)⟩⟩ ⟨Keeps.upd (ts := [69]) u' hr (by simp), Shp.upd u' hr r' hn⟩))); simp only [Nat.reduceAdd]
  refine late_free (by simp) (De10 wd ms) (De10.mono) ?_ ?_; (focus (intro c9 us w9 hm9 hS9 hF K hK; obtain ⟨M, mc, hu, h2⟩ := hF (10, De10 wd ms) (by simp) (by kernel_rfl); clear hF; dsimp only at hu; simp only [hu] at hK ⊢; go_simp; exact hK _ w9 hS9 (DeG.refl _ _) ⟨M, mc, rfl, h2⟩)); simp only [Act.put, List.setIfInBounds_toArray, List.set_cons_zero, List.set_cons_succ, Nat.reduceAdd]
  refine late_pure (by simp) (fun w => DeG.refl _ _) (v := ?_) (fun _ => rfl) ?_ ?_; rotate_left; (focus (intro c9 us w9 hm9 hS9 hF; clear hF hm9; go_simp; (try with_reducible rfl); done)); simp only [Act.put, List.setIfInBounds_toArray, List.set_cons_zero, List.set_cons_succ, Nat.reduceAdd]
  refine late_pure (by simp) (fun w => DeG.refl _ _) (v := ?_) (fun _ => rfl) ?_ ?_; rotate_left; (focus (intro c9 us w9 hm9 hS9 hF; clear hF hm9; go_simp; (try with_reducible rfl); done)); simp only [Act.put, List.setIfInBounds_toArray, List.set_cons_zero, List.set_cons_succ, Nat.reduceAdd]
  refine late_done fun us wf hS8 hF => ?_
  obtain ⟨M, mc, hu15, hoM⟩ := hF (15, De10 wd ms) (by simp)
  obtain ⟨g8, A3, c3, B3, d3, hu13, hg8, r8, hT8⟩ := hS8.2 (by omega)
  have hbf := hS8.1
  clear hF hS8
  dsimp only at hu15 hu13
  simp only [hu15, hu13]
  clear hu15 hu13
  have hM11 := hM6d.below hbf
  have hw11 := hw6.trans (White.below (col := col) hbf)
  have hP11 : Part col 0 wf (fun w => Held w e9 A3 c3 B3 d3) := Part.held hT8.heldI (fun x h1 h2 => hM6d.cn x h1)
  have hMP : Part col 0 wf (fun w => IsB w M ms.length ms) := Part.ownB hoM (fun x h1 => hM6d.cn x h1)
  have hcap2 := OwnB.capM hoM
  clear y0 y1 v0 v1 t0 t1 fz e0 e1 hHd hlgd r7 hw6 hM6d hT8 hoM hbf
  obtain ⟨S1, hS1⟩ : ∃ S1, ({ S with Y := upd S.Y 0 ls } : WrS) = S1 := ⟨_, rfl⟩
  rw [hS1] at hM11
  have hT1 : S1.T 0 ≤ 100000 := by rw [← hS1]; exact hTb
  have hVeq : S1.V 1 = S.V 1 := by rw [← hS1]
  have HVeq := Lib.hid hVeq
  have HTS := Lib.hid (show S1.T 0 = S.T 0 by rw [← hS1])
  have HS1 := Lib.hid hS1
  clear hS1 hVeq
  generalize ({ p with yA := upd p.yA 0 A2, yc := upd p.yc 0 (cY - 1) } : WrP) = p1 at *
  go_upto_region 13 with (fail)
  have hrow : Row wf.drew g 94 (([] : List Value) ++ (LEV (S1.E 0) (p1.A 0) (p1.c 0) (p1.B 0) (p1.d 0)).toList ++ ((LEV (S1.E 1) (p1.A 1) (p1.c 1) (p1.B 1) (p1.d 1)).toList ++ ([.slice (p1.yA 0) (S1.Y 0).length (p1.yc 0), .slice (p1.yA 1) (S1.Y 1).length (p1.yc 1), .slice (p1.vA 0) (S1.V 0).length (p1.vc 0), .slice (p1.vA 1) (S1.V 1).length (p1.vc 1), .slice (p1.tA 0) (S1.T 0) (p1.tc 0), .slice (p1.tA 1) (S1.T 1) (p1.tc 1)] : List Value))).toArray := hM11.row.now
  have r8 : Row wf.drew g8 69 (LEV e9 A3 c3 B3 d3) := r8
  refine wp_region_tailN (n := 126) 6 (fun w' => w' = wf.drew) (fun _ _ => True) (by kernel_rfl) (by kernel_rfl) (by decide) (by rfl) rfl ?_
  simp only [List.take_succ_cons, List.take_zero, List.drop_succ_cons, List.drop_zero]
  refine tail_pure (fun w => trivial) (v := ?_) (fun _ => rfl) ?_ ?_; rotate_left; (focus (intro us w9 hS9 hF; clear hF; subst hS9; go_simp; (try with_reducible rfl); done)); simp only [Act.put, List.setIfInBounds_toArray, List.set_cons_zero, List.set_cons_succ, Nat.reduceAdd]
  refine tail_pure (fun w => trivial) (v := ?_) (fun _ => rfl) ?_ ?_; rotate_left; (focus (intro us w9 hS9 hF; clear hF; subst hS9; go_simp; (try with_reducible rfl); done)); simp only [Act.put, List.setIfInBounds_toArray, List.set_cons_zero, List.set_cons_succ, Nat.reduceAdd]
  refine tail_pure (fun w => trivial) (v := .agg (LEV e9 A3 c3 B3 d3)) (fun _ => rfl) ?_ ?_; (focus (intro us w9 hS9 hF; clear hF; subst hS9; exact exec_load_g r8.range Try.underlying69 rfl (lev_info _ _ _ _ _) rfl)); simp only [Act.put, List.setIfInBounds_toArray, List.set_cons_zero, List.set_cons_succ, Nat.reduceAdd]
  refine tail_pure (fun w => trivial) (v := ?_) (fun _ => rfl) ?_ ?_; rotate_left; (focus (intro us w9 hS9 hF; clear hF; subst hS9; go_simp; (try with_reducible rfl); done)); simp only [Act.put, List.setIfInBounds_toArray, List.set_cons_zero, List.set_cons_succ, Nat.reduceAdd]
  refine tail_pure (fun w => trivial) (v := ?_) (fun _ => rfl) ?_ ?_; rotate_left; (focus (intro us w9 hS9 hF; clear hF; subst hS9; go_simp; (try with_reducible rfl); done)); simp only [Act.put, List.setIfInBounds_toArray, List.set_cons_zero, List.set_cons_succ, Nat.reduceAdd]
  refine tail_pure (fun w => trivial) (v := ?_) (fun _ => rfl) ?_ ?_; rotate_left; (focus (intro us w9 hS9 hF; clear hF; subst hS9; go_simp; (try with_reducible rfl); done)); simp only [Act.put, List.setIfInBounds_toArray, List.set_cons_zero, List.set_cons_succ, Nat.reduceAdd]
  refine tail_done fun us w7 hS7 hF => ?_
  subst hS7
  clear hF
  refine wp_put_mid (g := g) (t := 94) (off := 0) (pre := ([] : List Value)) (cs := (LEV (S1.E 0) (p1.A 0) (p1.c 0) (p1.B 0) (p1.d 0)).toList) (post := ((LEV (S1.E 1) (p1.A 1) (p1.c 1) (p1.B 1) (p1.d 1)).toList ++ ([.slice (p1.yA 0) (S1.Y 0).length (p1.yc 0), .slice (p1.yA 1) (S1.Y 1).length (p1.yc 1), .slice (p1.vA 0) (S1.V 0).length (p1.vc 0), .slice (p1.vA 1) (S1.V 1).length (p1.vc 1), .slice (p1.tA 0) (S1.T 0) (p1.tc 0), .slice (p1.tA 1) (S1.T 1) (p1.tc 1)] : List Value))) (L := LEV e9 A3 c3 B3 d3) hrow rfl rfl (lev_info _ _ _ _ _) (lev_one _ _ _ _ _) ?_ ?_ ?_; rfl; rfl; intro w8 u7 r7
  have hM11d := hM11.drew
  have hM8 := hM11d.putE (s := 0) (by omega) u7 hP11 r7
  have hw8 : White col w w8 := hw11.trans (((Only.upd u7 hM11.cg).white (by omega)).undrew)
  have hMP8 := Part.only (show Part col 0 wf.drew _ from hMP) (Only.upd u7 hM11.cg) (by omega)
  clear hM11 hM11d hrow r8 u7 r7 hMP hP11 hw11
  obtain ⟨vs, hvs⟩ := hM8.got 0 (by omega)
  have hlg8 := hM8.lt
  obtain ⟨⟨y0, y1, v0, v1, t0, t1⟩, fz, e0, e1⟩ := hM8.cells
  go_upto_region 17 with (fail)
  have hM8d := hM8.drew
  have hcg8 := hM8.cg
  have hlg : g < w8.drew.heap.size := hlg8
  have hvq : OwnQ w8.drew 44 1 (p1.tA 0) (S1.T 0) (p1.tc 0) vs := hvs.part.now
  have hszd : w.heap.size ≤ w8.drew.heap.size := hw8.size
  have hw8d : White col w w8.drew := hw8.trans (White.below ((Below.refl _ _).drew))
  have hMP8 : Part col 0 w8.drew (fun w => IsB w M ms.length ms) := hMP8
  have hbA0 := Below.refl w8.drew.heap.size w8.drew
  have hal := hbA0.alloc (Nat.le_refl _) (.cells #[.slice M ms.length mc] 44)
  have hMA := hM8d.below hal
  clear hM8 y0 y1 v0 v1 t0 t1 fz e0 e1
  obtain ⟨⟨y0, y1, v0, v1, t0, t1⟩, fz, e0, e1⟩ := hM8d.cells
  have hrowA : ∀ w9, (w8.drew.alloc (.cells #[.slice M ms.length mc] 44)).grownBy w9 (blk (p1.tA 0)) → Row w9 g 94 _ := fun w9 h3 => (h3.block g hMA.lt (fun e => by have h9 := hvs.blk g e.symm; have h8 := hcg8; omega)).trans hMA.row.now
  refine wp_region_late (n := 126) [9, 10, 14] (QS w8.drew g 24 44 1 (p1.tA 0) (S1.T 0) (vs) (#[.slice M ms.length mc]) 9 10) (fun _ _ => True) (by kernel_rfl) (by kernel_rfl) (by rfl) QS.loc QS.zero ?_
  generalize w8.drew = wd at *
  refine late_pure (by simp) (fun _ => trivial) (v := ?_) (fun _ => rfl) ?_ ?_; rotate_left; (focus (intro c9 us w9 hm9 hS9 hF; clear hF hm9; go_simp; (try with_reducible rfl); done)); simp only [Act.put, List.setIfInBounds_toArray, List.set_cons_zero, List.set_cons_succ, Nat.reduceAdd]
  refine late_pure (by simp) (fun _ => trivial) (v := ?_) (fun _ => rfl) ?_ ?_; rotate_left; (focus (intro c9 us w9 hm9 hS9 hF; clear hF hm9; go_simp; (try with_reducible rfl); done)); simp only [Act.put, List.setIfInBounds_toArray, List.set_cons_zero, List.set_cons_succ, Nat.reduceAdd]
  refine late_pure (by simp) (fun _ => trivial) (v := ?_) (fun _ => rfl) ?_ ?_; rotate_left; (focus (intro c9 us w9 hm9 hS9 hF; clear hF hm9; go_simp; (try with_reducible rfl); done)); simp only [Act.put, List.setIfInBounds_toArray, List.set_cons_zero, List.set_cons_succ, Nat.reduceAdd]
  refine late_pure (by simp) (fun _ => trivial) (v := ?_) (fun _ => rfl) ?_ ?_; rotate_left; (focus (intro c9 us w9 hm9 hS9 hF; clear hF hm9; go_simp; (try with_reducible rfl); done)); simp only [Act.put, List.setIfInBounds_toArray, List.set_cons_zero, List.set_cons_succ, Nat.reduceAdd]
  refine late_pure (by simp) (fun _ => trivial) (v := ?_) (fun _ => rfl) ?_ ?_; rotate_left; (focus (intro c9 us w9 hm9 hS9 hF; clear hF hm9; go_simp; (try with_reducible rfl); done)); simp only [Act.put, List.setIfInBounds_toArray, List.set_cons_zero, List.set_cons_succ, Nat.reduceAdd]
  refine late_pure (by simp) (fun _ => trivial) (v := ?_) (fun _ => rfl) ?_ ?_; rotate_left; (focus (intro c9 us w9 hm9 hS9 hF; clear hF hm9; go_simp; (try with_reducible rfl); done)); simp only [Act.put, List.setIfInBounds_toArray, List.set_cons_zero, List.set_cons_succ, Nat.reduceAdd]
  refine late_pure (by simp) (fun _ => trivial) (v := ?_) (fun _ => rfl) ?_ ?_; rotate_left; (focus (intro c9 us w9 hm9 hS9 hF; clear hF hm9; go_simp; (try with_reducible rfl); done)); simp only [Act.put, List.setIfInBounds_toArray, List.set_cons_zero, List.set_cons_succ, Nat.reduceAdd]
  refine late_pure (by simp) (fun _ => trivial) (v := ?_) (fun _ => rfl) ?_ ?_; rotate_left; (focus (intro c9 us w9 hm9 hS9 hF; have hc9 : c9 < 2 := (by rcases Nat.lt_or_ge c9 2 with h9 | h9; exact h9; exact absurd hm9 (by rw [mayAt_no (d := 1) (by kernel_rfl) (by omega) (by decide)]; decide)); have bcell := ((hS9.early hc9).cell (p := ⟨g, 24, none⟩) hlg).trans t0; clear hF hm9; go_simp; (try with_reducible rfl); done)); simp only [Act.put, List.setIfInBounds_toArray, List.set_cons_zero, List.set_cons_succ, Nat.reduceAdd]
  refine late_pure (by simp) (fun _ => trivial) (v := ?_) (fun _ => rfl) ?_ ?_; rotate_left; (focus (intro c9 us w9 hm9 hS9 hF; clear hF hm9; go_simp; (try with_reducible rfl); done)); simp only [Act.put, List.setIfInBounds_toArray, List.set_cons_zero, List.set_cons_succ, Nat.reduceAdd]
  refine late_chain (by simp) ?_ ?_; (focus (intro us w9 hS9 hF K hK; clear hF; obtain rfl := hS9.1 rfl; go_simp; exact hK _ _ QS.one trivial)); simp only [Act.put, List.setIfInBounds_toArray, List.set_cons_zero, List.set_cons_succ, Nat.reduceAdd]
  refine late_chain (by simp) ?_ ?_; (focus (intro us w9 hS9 hF K hK; clear hF; obtain ⟨hu, rfl⟩ := hS9.2.1 rfl; simp only [hu] at hK ⊢; rw [if_pos (by rfl)]; exact step_append_q (P := Try.prog) Try.underlying67 info_44 rfl (by omega) (hvq.of_same (fun b hb => hal.block b (hvq.lt b hb))) (Row.born _ _ _) rfl (by simp [Value.oneCell']) (by omega) (by omega) rfl rfl (fun A' c'' w' b h2 h3 h4 h5 => hK _ _ (QS.two h2 h3 h4 h5) trivial))); simp only [Act.put, List.setIfInBounds_toArray, List.set_cons_zero, List.set_cons_succ, Nat.reduceAdd]
  refine late_pure (by simp) (fun _ => trivial) (v := ?_) (fun _ => rfl) ?_ ?_; rotate_left; (focus (intro c9 us w9 hm9 hS9 hF; clear hF hm9; go_simp; (try with_reducible rfl); done)); simp only [Act.put, List.setIfInBounds_toArray, List.set_cons_zero, List.set_cons_succ, Nat.reduceAdd]
  refine late_pure (by simp) (fun _ => trivial) (v := ?_) (fun _ => rfl) ?_ ?_; rotate_left; (focus (intro c9 us w9 hm9 hS9 hF; clear hF hm9; go_simp; (try with_reducible rfl); done)); simp only [Act.put, List.setIfInBounds_toArray, List.set_cons_zero, List.set_cons_succ, Nat.reduceAdd]
  refine late_pure (by simp) (fun _ => trivial) (v := ?_) (fun _ => rfl) ?_ ?_; rotate_left; (focus (intro c9 us w9 hm9 hS9 hF; clear hF hm9; go_simp; (try with_reducible rfl); done)); simp only [Act.put, List.setIfInBounds_toArray, List.set_cons_zero, List.set_cons_succ, Nat.reduceAdd]
  refine late_store rfl ?_ ?_; (focus (intro us w9 hS9 hF K hK; clear hF; obtain ⟨A', c', w2, b, hu, h2, h3, h4, h5, h6, -⟩ := hS9.2.2 (by omega); have h6 := h6 rfl; subst h6; simp only [hu] at hK ⊢; have hr9 := hrowA w9 h3; have k9 := hr9.cell 24; have f9 := hr9.frozen 24; simp only [WCell] at k9; have hS10 := hS9.three hu; go_simp; exact hK _ hS10 trivial)); simp only [Nat.reduceAdd]
  refine late_done fun us w12 hS12 hF => ?_
  obtain ⟨A', c', w2, b2, -, hq2, hg2, hbA, hbb, -, hw0⟩ := hS12.2.2 (by omega)
  have hw12 := hw0 (by omega)
  clear hF hS12 hw0
  have hG : Grow g (6 + 0) b2 col (wd.alloc (.cells #[.slice M ms.length mc] 44)) w2 w12 (blk (p1.tA 0)) := ⟨hMA.lt, hcg8, by omega, by omega, hg2, hvs.blk, hbb, hq2.lt b2 hbA, by rw [hw12]; exact Upd.setCell _ _ _ _⟩
  have hr12 := (hrowA w2 hg2).set 24 (.slice A' (S1.T 0 + 1) c')
  rw [← hw12] at hr12
  have hM12 := hMA.appT (s := 0) (by omega) hG hq2 hbA (by
    unfold WCell
    simp only [upd, if_true]
    exact hr12)
  have hw12' := hw8d.trans ((White.below hal).trans hG.white.1)
  have hcol := fun x (hx : x < w.heap.size) (h0 : col x = 0) => hG.white.2 x (Nat.lt_of_lt_of_le hx (Nat.le_trans hszd hal.size)) h0
  have hMP12 := (hG.part (hMP8.below hal) (by omega) (by omega)).now
  have hTc : wd.cell? ⟨g, 24, none⟩ = wd.cell? ⟨g, 24, none⟩ := rfl
  clear hw12 hG hr12 hrowA hMA hM8d hvq hvs hg2 hq2 hw8d hMP8 y0 y1 v0 v1 t0 t1 fz e0 e1 hTc
  obtain ⟨gvs, hgv, hgm⟩ := hM12.given 1 (by omega)
  have hgq := hgv.part.now
  have hlt1 : S.T 0 < (S.V 1).length := (List.getElem?_eq_some_iff.1 HV0.out).1
  have hTS : S1.T 0 = S.T 0 := by rw [HTS.out]
  have hlt : S1.T 0 < (S1.V 1).length := by rw [HVeq.out, hTS]; exact hlt1
  obtain ⟨Ag, cg, hgi, hgI⟩ := hgm.2 (S1.T 0) hlt
  have hel : (S1.V 1)[S1.T 0] = ms := by
    have h1 := HV0.out
    rw [← hTS, ← HVeq.out, List.getElem?_eq_getElem hlt] at h1
    injection h1
  rw [hel] at hgi hgI
  have hgI := hgI.now
  obtain ⟨bg, og, curg, hAg, hrg, hcg⟩ := hgq.cells (by show 0 < (S1.V 1).length; omega)
  have hcell := hcg _ _ hgi
  have hAg : p1.vA 1 = some ⟨bg, og, none⟩ := hAg
  clear hrg hcg hgi hgq hgv hgm hel
  obtain ⟨⟨y0, y1, v0, v1, t0, t1⟩, fz, e0, e1⟩ := hM12.cells
  have vv : w12.cell? ⟨g, 23, none⟩ = some (.slice (p1.vA 1) (S1.V 1).length (p1.vc 1)) := v1
  rw [hAg] at vv
  clear hAg y0 y1 v0 v1 t0 t1 e0 e1
  have hlti : (S1.T 0 : Int) < ((S1.V 1).length : Int) := by omega
  have hti : (0 : Int) ≤ (S1.T 0 : Int) := by omega
  have dlt : decide (S1.T 0 < (S1.V 1).length) = true := decide_eq_true hlt
  have hwr : IntKind.i64.wrap 1 = 1 := by rw [IntKind.wrap_i64]; rfl
  have hs1 := run_str (P := Try.prog) (w := w12.drew) (dst := 9) Try.underlying44 Try.underlying5 Try.underlying9 mc hMP12
  have hs2 := run_str (P := Try.prog) (w := w12.drew) (dst := 9) Try.underlying44 Try.underlying5 Try.underlying9 cg hgI
  clear hlt hlt1 hTS hgI hMP12
  go_upto_region 18 with (fail)
  have vv : w12.drew.cell? ⟨g, 23, none⟩ = some (.slice (some ⟨bg, og, none⟩) (S1.V 1).length (p1.vc 1)) := vv
  have hcell : w12.drew.cell? ⟨bg, og + S1.T 0, none⟩ = some (.slice Ag ms.length cg) := hcell
  refine wp_region_told (n := 126) (fun w' => w' = w12.drew) (fun _ _ => True) (by kernel_rfl) (by kernel_rfl) (by rfl) rfl ?_
  repeat (first | (refine walk_pure (v := ?_) (fun _ => trivial) (fun _ => rfl) ?_ ?_; rotate_left; (focus (intro us w9 hS9 hF; subst hS9; clear hF; go_simp; (try with_reducible rfl); done)); simp only [Act.put, List.setIfInBounds_toArray, List.set_cons_zero, List.set_cons_succ, Nat.reduceAdd]) | (refine walk_skip (fun _ => trivial) (fun _ => rfl) ?_; simp only [Act.put, List.setIfInBounds_toArray, List.set_cons_zero, List.set_cons_succ, Nat.reduceAdd]))
  refine walk_done fun us w9 hS9 hF => ?_
  subst hS9
  clear hF
  go_wp2
  go_ret
  have h' := HS1.out
  subst h'
  exact ⟨rfl, _, _, hM12.drew, hw12'.trans (White.below ((Below.refl _ _).drew)), hcol⟩

set_option maxRecDepth 100000 in
set_option maxHeartbeats 8000000 in
theorem de_nil1 (base g : Nat) (col : Nat → Nat) (w : World) (S : WrS) (p : WrP) (hM : WM base g col w S p) (hY : S.Y 1 = []) : Calls Try.prog 60 #[.pointer (some ⟨g, 0, none⟩), .int .i64 1] w (WStep base g col w S) := by
  have hlg := hM.lt
  obtain ⟨⟨y0, y1, v0, v1, t0, t1⟩, fz, e0, e1⟩ := hM.cells
  have hl : (S.Y 1).length = 0 := by rw [hY]; rfl
  rw [hl] at y1
  clear hl hY
  go_enter Try.func60, Try.ntmps60
  go_wp2
  go_ret
  exact WStep.same hM (Below.refl _ _)
set_option maxRecDepth 100000 in
set_option maxHeartbeats 8000000 in
theorem de_inc1 (base g : Nat) (col : Nat → Nat) (w : World) (S : WrS) (p : WrP) (hM : WM base g col w S p) (hgd : Gd (S.E 1)) {l : Ln} {ls : List Ln} (hY : S.Y 1 = l :: ls) (tk : Takes (S.E 1) l (S.V 0) (S.T 1)) (hC : dvC (S.E 1) l.k l.f l.n l.p = false) (hTb : S.T 1 ≤ 100000) (hVb : (S.V 0).length ≤ 100000) (hYb : (S.Y 1).length ≤ 100000) : Calls Try.prog 60 #[.pointer (some ⟨g, 0, none⟩), .int .i64 1] w (WStep base g col w { S with E := upd S.E 1 (dvG (S.E 1) l.k l.f l.n l.a l.p), Y := upd S.Y 1 ls }) := by
  have hok := tk.ok
  obtain ⟨k, el, fl, len, ack, pp⟩ := l
  have hpp : pp.length = 56 := hok.1
  have hack : 0 ≤ ack ∧ ack < 65536 := hok.2
  have HL := Lib.hid (show lnE k el fl len pp = 0 from tk.e)
  have HE := Lib.hid (show dvE (S.E 1) k el fl len ack pp = 0 from tk.dv)
  obtain ⟨e9, he9⟩ : ∃ e9, dvG (S.E 1) k fl len ack pp = e9 := ⟨_, rfl⟩
  have HG := Lib.hid he9
  show Calls Try.prog 60 #[.pointer (some ⟨g, 0, none⟩), .int .i64 1] w (WStep base g col w { S with E := upd S.E 1 (dvG (S.E 1) k fl len ack pp), Y := upd S.Y 1 ls })
  rw [he9]
  clear he9
  obtain ⟨cc, hcc⟩ : ∃ cc, dvC (S.E 1) k fl len pp = cc := ⟨_, rfl⟩
  have HC := Lib.hid hcc
  obtain rfl : cc = false := hcc.symm.trans hC
  clear hcc
  obtain ⟨ms, hms⟩ : ∃ ms : List UInt8, ms = [] := ⟨_, rfl⟩
  have HM := Lib.hid (show dvM (S.E 1) k fl len pp = ms from (tk.no hC).trans hms.symm)
  have HMS := Lib.hid hms
  clear hms
  clear hC tk
  have hlg := hM.lt
  have ht := hgd.ty
  obtain ⟨⟨y0, y1, v0, v1, t0, t1⟩, fz, e0, e1⟩ := hM.cells
  have hvs := hM.way 1 (by omega)
  have hvq := hvs.part.now
  have hY1 : (S.Y 1).length = ls.length + 1 := by rw [hY]; rfl
  obtain ⟨b, ob, cur, hA, hrb, hcell⟩ := hvq.cells (by omega)
  have hrng : w.rangeAt b ob (LV k el fl len ack pp).toList := fun j v hv => by
    refine hcell j v ?_
    rw [hY]
    show ((LV k el fl len ack pp).toList ++ lsC ls)[j]? = some v
    rw [List.getElem?_append_left (List.getElem?_eq_some_iff.1 hv).1]
    exact hv
  have y1' := y1
  rw [hA, hY1] at y1'
  have HA := Lib.hid hA
  have HY1 := Lib.hid hY1
  have HY := Lib.hid hY
  clear hA hY1 hY hcell y1
  have hi0 : (0 : Int) < (ls.length : Int) + 1 := by omega
  have hne : ((ls.length : Int) + 1 == 0) = false := by rw [beq_eq_false_iff_ne]; omega
  go_enter Try.func60, Try.ntmps60
  go_upto_region 4 with (first | ((with_reducible refine wp_load_g ?_ hrng Try.underlying40 rfl (line_info _ _ _ _ _ hpp) ?_ ?_); rfl; rfl) | (go_at_call 30; refine (enc_full _ _ _ _ _ _ hack.1 hack.2 hpp _ HL.out).mono ?_; rintro en w3 ⟨g5, rfl, hI5, hb3⟩))
  clear y0 y1' v0 v1 t0 t1 fz e0 e1 hrng hrb
  have hM3 := hM.below hb3
  go_upto_region 7 with (first | (go_at_call 32; refine (dec_full _ _ _ _ _ _ hack.1 hack.2 hpp _ _ _ HL.out hI5 (Nat.le_refl _)).mono ?_; rintro en w4 ⟨rfl, hb4⟩) | ((with_reducible refine wp_row_store (L := LV k el fl len ack pp) (Row.bornAt (g := w4.heap.size) rfl 40 _) ?_ (line_info _ _ _ _ _ hpp) (LV_one _ _ _ _ _ _) ?_ ?_ ?_); exact (LV_size _ _ _ _ _ hpp).symm; rfl; rfl; intro w5 u5 r7))
  have hal := (Below.refl w4.heap.size w4).alloc (Nat.le_refl _) (.cells ZL 40)
  have hal2 := Upd.below (hb4.trans (hal.mono hb4.size)) u5 hb4.size
  have hM5 := hM3.below hal2
  have hw5 : White col w w5 := White.below (hb3.trans (hal2.mono hb3.size))
  have hg7 : w4.heap.size ≠ g := by have := hM3.lt; have := hb4.size; omega
  clear hb3 hI5 hb4 hal hal2 u5 hM3
  generalize w4.heap.size = g7 at *
  have hvq := (hM5.way 1 (by omega)).part.now
  have hcap := hvq.cap
  rw [HY1.out] at hcap
  obtain ⟨⟨y0, y1, v0, v1, t0, t1⟩, fz, e0, e1⟩ := hM5.cells
  have y1' := y1
  rw [HA.out, HY1.out] at y1'
  clear y1
  rw [HA.out, HY1.out, HY.out] at hvq
  have hdrop : (lsC (({ k := k, e := el, f := fl, n := len, a := ack, p := pp } : Ln) :: ls)).drop 61 = lsC ls := by
    show ((LV k el fl len ack pp).toList ++ lsC ls).drop 61 = lsC ls
    rw [List.drop_append_of_le_length (by rw [LV_list _ _ _ _ _ hpp]; omega), List.drop_of_length_le (by rw [LV_list _ _ _ _ _ hpp]; omega)]
    rfl
  obtain ⟨cY, hcY⟩ : ∃ cY, p.yc 1 = cY := ⟨_, rfl⟩
  rw [hcY] at y1' hvq hcap
  clear hcY
  have hci : (1 : Int) ≤ (ls.length : Int) + 1 := by omega
  have hcj : (1 : Int) ≤ cY := by omega
  have hck : (ls.length : Int) + 1 ≤ cY := by omega
  obtain ⟨A2, hA2⟩ : ∃ A2 : Option Addr, (if cY - 1 = 0 then some ⟨b, ob, none⟩ else some ⟨b, ob + 61, none⟩) = A2 := ⟨_, rfl⟩
  have HA2 := Lib.hid hA2
  have hq2 : OwnQ w5 40 61 A2 ls.length (cY - 1) (lsC ls) := by
    rw [← hdrop, ← hA2]
    split
    · next hz =>
      obtain rfl : cY = 1 := by omega
      have hl0 : ls.length = 0 := by omega
      rw [hl0] at hvq ⊢
      exact hvq.tail0
    · exact hvq.tail (by omega)
  have hbA2 : blk A2 = blk (p.yA 1) := by
    rw [HA.out, ← hA2]
    split <;> rfl
  clear hA2 hdrop hvq
  go_upto_region 9 with (fail)
  have hrow : Row w5.drew g 94 (WCell S p).toArray := hM5.row.now
  refine wp_region_tailN (n := 126) 12 (fun w' => w' = w5.drew) (fun _ _ => True) (by kernel_rfl) (by kernel_rfl) (by decide) (by rfl) rfl ?_
  simp only [List.take_succ_cons, List.take_zero, List.drop_succ_cons, List.drop_zero]
  refine tail_pure (fun w => trivial) (v := ?_) (fun _ => rfl) ?_ ?_; rotate_left; (focus (intro us w9 hS9 hF; clear hF; subst hS9; go_simp; (try with_reducible rfl); done)); simp only [Act.put, List.setIfInBounds_toArray, List.set_cons_zero, List.set_cons_succ, Nat.reduceAdd]
  refine tail_pure (fun w => trivial) (v := ?_) (fun _ => rfl) ?_ ?_; rotate_left; (focus (intro us w9 hS9 hF; clear hF; subst hS9; go_simp; (try with_reducible rfl); done)); simp only [Act.put, List.setIfInBounds_toArray, List.set_cons_zero, List.set_cons_succ, Nat.reduceAdd]
  refine tail_pure (fun w => trivial) (v := ?_) (fun _ => rfl) ?_ ?_; rotate_left; (focus (intro us w9 hS9 hF; clear hF; subst hS9; go_simp; (try with_reducible rfl); done)); simp only [Act.put, List.setIfInBounds_toArray, List.set_cons_zero, List.set_cons_succ, Nat.reduceAdd]
  refine tail_pure (fun w => trivial) (v := ?_) (fun _ => rfl) ?_ ?_; rotate_left; (focus (intro us w9 hS9 hF; clear hF; subst hS9; go_simp; (try with_reducible rfl); done)); simp only [Act.put, List.setIfInBounds_toArray, List.set_cons_zero, List.set_cons_succ, Nat.reduceAdd]
  refine tail_pure (fun w => trivial) (v := ?_) (fun _ => rfl) ?_ ?_; rotate_left; (focus (intro us w9 hS9 hF; clear hF; subst hS9; go_simp; (try with_reducible rfl); done)); simp only [Act.put, List.setIfInBounds_toArray, List.set_cons_zero, List.set_cons_succ, Nat.reduceAdd]
  refine tail_pure (fun w => trivial) (v := ?_) (fun _ => rfl) ?_ ?_; rotate_left; (focus (intro us w9 hS9 hF; clear hF; subst hS9; go_simp; (try with_reducible rfl); done)); simp only [Act.put, List.setIfInBounds_toArray, List.set_cons_zero, List.set_cons_succ, Nat.reduceAdd]
  refine tail_pure (fun w => trivial) (v := ?_) (fun _ => rfl) ?_ ?_; rotate_left; (focus (intro us w9 hS9 hF; clear hF; subst hS9; go_simp; (try with_reducible rfl); done)); simp only [Act.put, List.setIfInBounds_toArray, List.set_cons_zero, List.set_cons_succ, Nat.reduceAdd]
  refine tail_pure (fun w => trivial) (v := ?_) (fun _ => rfl) ?_ ?_; rotate_left; (focus (intro us w9 hS9 hF; clear hF; subst hS9; go_simp; (try with_reducible rfl); done)); simp only [Act.put, List.setIfInBounds_toArray, List.set_cons_zero, List.set_cons_succ, Nat.reduceAdd]
  refine tail_pure (fun w => trivial) (v := .slice A2 ls.length (cY - 1)) (fun _ => rfl) ?_ ?_; (focus (intro us w9 hS9 hF; clear hF; subst hS9; rw [← HA2.out]; by_cases hz : cY - 1 = 0; (rw [if_pos hz]; go_simp; omega); (rw [if_neg hz]; go_simp; (try omega); done))); simp only [Act.put, List.setIfInBounds_toArray, List.set_cons_zero, List.set_cons_succ, Nat.reduceAdd]
  refine tail_pure (fun w => trivial) (v := ?_) (fun _ => rfl) ?_ ?_; rotate_left; (focus (intro us w9 hS9 hF; clear hF; subst hS9; go_simp; (try with_reducible rfl); done)); simp only [Act.put, List.setIfInBounds_toArray, List.set_cons_zero, List.set_cons_succ, Nat.reduceAdd]
  refine tail_pure (fun w => trivial) (v := ?_) (fun _ => rfl) ?_ ?_; rotate_left; (focus (intro us w9 hS9 hF; clear hF; subst hS9; go_simp; (try with_reducible rfl); done)); simp only [Act.put, List.setIfInBounds_toArray, List.set_cons_zero, List.set_cons_succ, Nat.reduceAdd]
  refine tail_pure (fun w => trivial) (v := ?_) (fun _ => rfl) ?_ ?_; rotate_left; (focus (intro us w9 hS9 hF; clear hF; subst hS9; go_simp; (try with_reducible rfl); done)); simp only [Act.put, List.setIfInBounds_toArray, List.set_cons_zero, List.set_cons_succ, Nat.reduceAdd]
  refine tail_done fun us w7 hS7 hF => ?_
  subst hS7
  clear hF
  go_upto_region 10 with (fail)
  have hr6 := hM5.row.now.set 21 (.slice A2 ls.length (cY - 1))
  have u6 : Upd w5 ((w5.setCell ⟨g, 21, none⟩ (.slice A2 ls.length (cY - 1))).drew) g := ⟨rfl, rfl, rfl, (Upd.setCell w5 g 21 _).size, (Upd.setCell w5 g 21 _).block⟩
  have hr6 : Row ((w5.setCell ⟨g, 21, none⟩ (.slice A2 ls.length (cY - 1))).drew) g 94 _ := hr6
  generalize (w5.setCell ⟨g, 21, none⟩ (.slice A2 ls.length (cY - 1))).drew = wa at *
  have hM6 := hM5.tailY (s := 1) (by omega) HY.out u6 hbA2 hq2 (by
    unfold WCell
    simp only [upd, if_true]
    exact hr6)
  have r7 := r7.upd u6 hg7
  have hw6 : White col w wa := hw5.trans ((Only.upd u6 hM5.cg).white (by omega))
  clear y0 y1' v0 v1 t0 t1 fz e0 e1 hq2 u6 hr6 hrow hM5 hw5 hci hcj hck hcap hbA2
  have hM6d := hM6.drew
  have hHd : Held wa.drew (S.E 1) (p.A 1) (p.c 1) (p.B 1) (p.d 1) := (hM6d.held 1 (by omega)).now
  have hlgd : g < wa.drew.heap.size := hM6d.lt
  have r7 : Row wa.drew g7 40 (LV k el fl len ack pp) := r7
  have hw6 : White col w wa.drew := hw6.trans (White.below ((Below.refl _ _).drew))
  obtain ⟨⟨y0, y1, v0, v1, t0, t1⟩, fz, e0, e1⟩ := hM6d.cells
  clear hM6
  refine wp_region_late (n := 126) [14] (DeS wa.drew e9) (DeG wa.drew) (by kernel_rfl) (by kernel_rfl) (by rfl) (DeS.loc (by kernel_rfl)) ⟨Below.refl _ _, fun h => by omega⟩ ?_
  generalize wa.drew = wd at *
  refine late_pure (by simp) (fun w => DeG.refl _ _) (v := ?_) (fun _ => rfl) ?_ ?_; rotate_left; (focus (intro c9 us w9 hm9 hS9 hF; clear hF hm9; go_simp; (try with_reducible rfl); done)); simp only [Act.put, List.setIfInBounds_toArray, List.set_cons_zero, List.set_cons_succ, Nat.reduceAdd]
  refine late_pure (by simp) (fun w => DeG.refl _ _) (v := ?_) (fun _ => rfl) ?_ ?_; rotate_left; (focus (intro c9 us w9 hm9 hS9 hF; clear hF hm9; go_simp; (try with_reducible rfl); done)); simp only [Act.put, List.setIfInBounds_toArray, List.set_cons_zero, List.set_cons_succ, Nat.reduceAdd]
  refine late_pure (by simp) (fun w => DeG.refl _ _) (v := ?_) (fun _ => rfl) ?_ ?_; rotate_left; (focus (intro c9 us w9 hm9 hS9 hF; clear hF hm9; go_simp; (try with_reducible rfl); done)); simp only [Act.put, List.setIfInBounds_toArray, List.set_cons_zero, List.set_cons_succ, Nat.reduceAdd]
  refine late_pure (by simp) (fun w => DeG.refl _ _) (v := ?_) (fun _ => rfl) ?_ ?_; rotate_left; (focus (intro c9 us w9 hm9 hS9 hF; clear hF hm9; go_simp; (try with_reducible rfl); done)); simp only [Act.put, List.setIfInBounds_toArray, List.set_cons_zero, List.set_cons_succ, Nat.reduceAdd]
  refine late_pure (by simp) (fun w => DeG.refl _ _) (v := ?_) (fun _ => rfl) ?_ ?_; rotate_left; (focus (intro c9 us w9 hm9 hS9 hF; clear hF hm9; go_simp; (try with_reducible rfl); done)); simp only [Act.put, List.setIfInBounds_toArray, List.set_cons_zero, List.set_cons_succ, Nat.reduceAdd]
  refine late_pure (by simp) (fun w => DeG.refl _ _) (v := .agg (LEV (S.E 1) (p.A 1) (p.c 1) (p.B 1) (p.d 1))) (fun _ => rfl) ?_ ?_; (focus (intro c9 us w9 hm9 hS9 hF; exact exec_load_g (fun j v hv => (hS9.1.cell (p := ⟨g, 10 + j, none⟩) hlgd).trans (e1 j v hv)) Try.underlying69 rfl (lev_info _ _ _ _ _) rfl)); simp only [Act.put, List.setIfInBounds_toArray, List.set_cons_zero, List.set_cons_succ, Nat.reduceAdd]
  refine late_pure (by simp) (fun w => DeG.refl _ _) (v := .agg (LV k el fl len ack pp)) (fun _ => rfl) ?_ ?_; (focus (intro c9 us w9 hm9 hS9 hF; exact exec_load_g (r7.below hS9.1 r7.lt).range Try.underlying40 rfl (line_info _ _ _ _ _ hpp) rfl)); simp only [Act.put, List.setIfInBounds_toArray, List.set_cons_zero, List.set_cons_succ, Nat.reduceAdd]
  refine late_free (by simp) (De7 wd e9 ms false) (De7.mono) ?_ ?_; (focus (intro c9 us w9 hm9 hS9 hF K hK; have hc9 : c9 < 1 := (by rcases Nat.lt_or_ge c9 1 with h9 | h9; exact h9; exact absurd hm9 (by rw [mayAt_no (d := 0) (by kernel_rfl) (by omega) (by decide)]; decide)); clear hF; go_simp; refine (deliver_is HE.out HG.out HM.out HC.out ht (hHd.below hS9.1) hpp hack).mono ?_; rintro en w' ⟨A, c, B, d, M, mc, rfl, h1, h2, hb⟩; exact hK _ w' ⟨below_on hS9.1 hb, fun h => by omega⟩ (DeG.below hb) ⟨A, c, B, d, M, mc, rfl, HeldT.lower h1 hS9.1.size, h2.lower hS9.1.size⟩)); simp only [Act.put, List.setIfInBounds_toArray, List.set_cons_zero, List.set_cons_succ, Nat.reduceAdd]
  refine late_free (by simp) (De7 wd e9 ms false) (De7.mono) ?_ ?_; (focus (intro c9 us w9 hm9 hS9 hF K hK; obtain ⟨A, c, B, d, M, mc, hu, h1, h2⟩ := hF (7, De7 wd e9 ms false) (by simp) (by kernel_rfl); clear hF; dsimp only at hu; simp only [hu] at hK ⊢; go_simp; exact hK _ w9 hS9 (DeG.refl _ _) ⟨A, c, B, d, M, mc, rfl, h1, h2⟩)); simp only [Act.put, List.setIfInBounds_toArray, List.set_cons_zero, List.set_cons_succ, Nat.reduceAdd]
  refine late_free (by simp) (De9 wd e9) (De9.mono) ?_ ?_; (focus (intro c9 us w9 hm9 hS9 hF K hK; obtain ⟨A, c, B, d, M, mc, hu, h1, h2⟩ := hF (8, De7 wd e9 ms false) (by simp) (by kernel_rfl); clear hF; dsimp only at hu; simp only [hu] at hK ⊢; go_simp; exact hK _ w9 hS9 (DeG.refl _ _) ⟨A, c, B, d, rfl, h1⟩)); simp only [Act.put, List.setIfInBounds_toArray, List.set_cons_zero, List.set_cons_succ, Nat.reduceAdd]
  refine late_free (by simp) (De10 wd ms) (De10.mono) ?_ ?_; (focus (intro c9 us w9 hm9 hS9 hF K hK; obtain ⟨A, c, B, d, M, mc, hu, h1, h2⟩ := hF (8, De7 wd e9 ms false) (by simp) (by kernel_rfl); clear hF; dsimp only at hu; simp only [hu] at hK ⊢; go_simp; exact hK _ w9 hS9 (DeG.refl _ _) ⟨M, mc, rfl, h2⟩)); simp only [Act.put, List.setIfInBounds_toArray, List.set_cons_zero, List.set_cons_succ, Nat.reduceAdd]
  refine late_pure (by simp) (fun w => DeG.refl _ _) (v := .bool false) (fun _ => rfl) ?_ ?_; (focus (intro c9 us w9 hm9 hS9 hF; obtain ⟨A, c, B, d, M, mc, hu, -⟩ := hF (8, De7 wd e9 ms false) (by simp) (by kernel_rfl); dsimp only at hu; simp only [hu]; go_simp)); simp only [Act.put, List.setIfInBounds_toArray, List.set_cons_zero, List.set_cons_succ, Nat.reduceAdd]
  refine late_pure (by simp) (fun w => DeG.refl _ _) (v := .int .i64 0) (fun _ => rfl) ?_ ?_; (focus (intro c9 us w9 hm9 hS9 hF; obtain ⟨A, c, B, d, M, mc, hu, -⟩ := hF (8, De7 wd e9 ms false) (by simp) (by kernel_rfl); dsimp only at hu; simp only [hu]; go_simp)); simp only [Act.put, List.setIfInBounds_toArray, List.set_cons_zero, List.set_cons_succ, Nat.reduceAdd]
  refine late_free (by simp) (PtrN wd.heap.size 69 10) (PtrN.monoG) ?_ ?_; (focus (intro c9 us w9 hm9 hS9 hF K hK; have hc9 : c9 < 1 := (by rcases Nat.lt_or_ge c9 1 with h9 | h9; exact h9; exact absurd hm9 (by rw [mayAt_no (d := 0) (by kernel_rfl) (by omega) (by decide)]; decide)); clear hF; go_simp; exact hK _ _ ⟨hS9.1.alloc hS9.1.size (.cells ZE 69), fun h => by omega⟩ ⟨Keeps.below ((Below.refl _ _).alloc (Nat.le_refl _) _), Shp.alloc _ _ _⟩ ⟨w9.heap.size, ZE, rfl, hS9.1.size, Row.born w9 69 ZE, rfl⟩)); simp only [Act.put, List.setIfInBounds_toArray, List.set_cons_zero, List.set_cons_succ, Nat.reduceAdd]
  refine late_store rfl ?_ ?_; (focus (intro us w9 hS9 hF K hK; obtain ⟨A, c, B, d, hu9, h1⟩ := hF (9, De9 wd e9) (by simp) (by kernel_rfl); obtain ⟨b3, cs, hu, hb3, hr, hn⟩ := hF (13, PtrN wd.heap.size 69 10) (by simp) (by kernel_rfl); dsimp only at hu9 hu; clear hF; simp only [hu9, hu] at hK ⊢; rw [if_pos (by rfl)]; exact step_put (L := LEV e9 A c B d) hr hn (lev_info _ _ _ _ _) (lev_one _ _ _ _ _) rfl rfl (fun w' u' r' => hK w' ⟨Upd.below hS9.1 u' hb3, fun _ => ⟨b3, A, c, B, d, hu, hb3, r', h1.keeps (Keeps.upd (ts := [69]) u' hr (by simp)) (by decide) (by decide)⟩⟩ ⟨Keeps.upd (ts := [69]) u' hr (by simp), Shp.upd u' hr r' hn⟩))); simp only [Nat.reduceAdd]
  refine late_free (by simp) (De10 wd ms) (De10.mono) ?_ ?_; (focus (intro c9 us w9 hm9 hS9 hF K hK; obtain ⟨M, mc, hu, h2⟩ := hF (10, De10 wd ms) (by simp) (by kernel_rfl); clear hF; dsimp only at hu; simp only [hu] at hK ⊢; go_simp; exact hK _ w9 hS9 (DeG.refl _ _) ⟨M, mc, rfl, h2⟩)); simp only [Act.put, List.setIfInBounds_toArray, List.set_cons_zero, List.set_cons_succ, Nat.reduceAdd]
  refine late_pure (by simp) (fun w => DeG.refl _ _) (v := ?_) (fun _ => rfl) ?_ ?_; rotate_left; (focus (intro c9 us w9 hm9 hS9 hF; clear hF hm9; go_simp; (try with_reducible rfl); done)); simp only [Act.put, List.setIfInBounds_toArray, List.set_cons_zero, List.set_cons_succ, Nat.reduceAdd]
  refine late_pure (by simp) (fun w => DeG.refl _ _) (v := ?_) (fun _ => rfl) ?_ ?_; rotate_left; (focus (intro c9 us w9 hm9 hS9 hF; clear hF hm9; go_simp; (try with_reducible rfl); done)); simp only [Act.put, List.setIfInBounds_toArray, List.set_cons_zero, List.set_cons_succ, Nat.reduceAdd]
  refine late_done fun us wf hS8 hF => ?_
  obtain ⟨M, mc, hu15, hoM⟩ := hF (15, De10 wd ms) (by simp)
  obtain ⟨g8, A3, c3, B3, d3, hu13, hg8, r8, hT8⟩ := hS8.2 (by omega)
  have hbf := hS8.1
  clear hF hS8
  dsimp only at hu15 hu13
  simp only [hu15, hu13]
  clear hu15 hu13
  have hM11 := hM6d.below hbf
  have hw11 := hw6.trans (White.below (col := col) hbf)
  have hP11 : Part col 0 wf (fun w => Held w e9 A3 c3 B3 d3) := Part.held hT8.heldI (fun x h1 h2 => hM6d.cn x h1)
  have hMP : Part col 0 wf (fun w => IsB w M ms.length ms) := Part.ownB hoM (fun x h1 => hM6d.cn x h1)
  have hcap2 := OwnB.capM hoM
  clear y0 y1 v0 v1 t0 t1 fz e0 e1 hHd hlgd r7 hw6 hM6d hT8 hoM hbf
  obtain ⟨S1, hS1⟩ : ∃ S1, ({ S with Y := upd S.Y 1 ls } : WrS) = S1 := ⟨_, rfl⟩
  rw [hS1] at hM11
  have hT1 : S1.T 1 ≤ 100000 := by rw [← hS1]; exact hTb
  have hVeq : S1.V 0 = S.V 0 := by rw [← hS1]
  have HVeq := Lib.hid hVeq
  have HTS := Lib.hid (show S1.T 1 = S.T 1 by rw [← hS1])
  have HS1 := Lib.hid hS1
  clear hS1 hVeq
  generalize ({ p with yA := upd p.yA 1 A2, yc := upd p.yc 1 (cY - 1) } : WrP) = p1 at *
  go_upto_region 13 with (fail)
  have hrow : Row wf.drew g 94 ((LEV (S1.E 0) (p1.A 0) (p1.c 0) (p1.B 0) (p1.d 0)).toList ++ (LEV (S1.E 1) (p1.A 1) (p1.c 1) (p1.B 1) (p1.d 1)).toList ++ ([.slice (p1.yA 0) (S1.Y 0).length (p1.yc 0), .slice (p1.yA 1) (S1.Y 1).length (p1.yc 1), .slice (p1.vA 0) (S1.V 0).length (p1.vc 0), .slice (p1.vA 1) (S1.V 1).length (p1.vc 1), .slice (p1.tA 0) (S1.T 0) (p1.tc 0), .slice (p1.tA 1) (S1.T 1) (p1.tc 1)] : List Value)).toArray := hM11.row.now
  have r8 : Row wf.drew g8 69 (LEV e9 A3 c3 B3 d3) := r8
  refine wp_region_tailN (n := 126) 6 (fun w' => w' = wf.drew) (fun _ _ => True) (by kernel_rfl) (by kernel_rfl) (by decide) (by rfl) rfl ?_
  simp only [List.take_succ_cons, List.take_zero, List.drop_succ_cons, List.drop_zero]
  refine tail_pure (fun w => trivial) (v := ?_) (fun _ => rfl) ?_ ?_; rotate_left; (focus (intro us w9 hS9 hF; clear hF; subst hS9; go_simp; (try with_reducible rfl); done)); simp only [Act.put, List.setIfInBounds_toArray, List.set_cons_zero, List.set_cons_succ, Nat.reduceAdd]
  refine tail_pure (fun w => trivial) (v := ?_) (fun _ => rfl) ?_ ?_; rotate_left; (focus (intro us w9 hS9 hF; clear hF; subst hS9; go_simp; (try with_reducible rfl); done)); simp only [Act.put, List.setIfInBounds_toArray, List.set_cons_zero, List.set_cons_succ, Nat.reduceAdd]
  refine tail_pure (fun w => trivial) (v := .agg (LEV e9 A3 c3 B3 d3)) (fun _ => rfl) ?_ ?_; (focus (intro us w9 hS9 hF; clear hF; subst hS9; exact exec_load_g r8.range Try.underlying69 rfl (lev_info _ _ _ _ _) rfl)); simp only [Act.put, List.setIfInBounds_toArray, List.set_cons_zero, List.set_cons_succ, Nat.reduceAdd]
  refine tail_pure (fun w => trivial) (v := ?_) (fun _ => rfl) ?_ ?_; rotate_left; (focus (intro us w9 hS9 hF; clear hF; subst hS9; go_simp; (try with_reducible rfl); done)); simp only [Act.put, List.setIfInBounds_toArray, List.set_cons_zero, List.set_cons_succ, Nat.reduceAdd]
  refine tail_pure (fun w => trivial) (v := ?_) (fun _ => rfl) ?_ ?_; rotate_left; (focus (intro us w9 hS9 hF; clear hF; subst hS9; go_simp; (try with_reducible rfl); done)); simp only [Act.put, List.setIfInBounds_toArray, List.set_cons_zero, List.set_cons_succ, Nat.reduceAdd]
  refine tail_pure (fun w => trivial) (v := ?_) (fun _ => rfl) ?_ ?_; rotate_left; (focus (intro us w9 hS9 hF; clear hF; subst hS9; go_simp; (try with_reducible rfl); done)); simp only [Act.put, List.setIfInBounds_toArray, List.set_cons_zero, List.set_cons_succ, Nat.reduceAdd]
  refine tail_done fun us w7 hS7 hF => ?_
  subst hS7
  clear hF
  refine wp_put_mid (g := g) (t := 94) (off := 10) (pre := (LEV (S1.E 0) (p1.A 0) (p1.c 0) (p1.B 0) (p1.d 0)).toList) (cs := (LEV (S1.E 1) (p1.A 1) (p1.c 1) (p1.B 1) (p1.d 1)).toList) (post := ([.slice (p1.yA 0) (S1.Y 0).length (p1.yc 0), .slice (p1.yA 1) (S1.Y 1).length (p1.yc 1), .slice (p1.vA 0) (S1.V 0).length (p1.vc 0), .slice (p1.vA 1) (S1.V 1).length (p1.vc 1), .slice (p1.tA 0) (S1.T 0) (p1.tc 0), .slice (p1.tA 1) (S1.T 1) (p1.tc 1)] : List Value)) (L := LEV e9 A3 c3 B3 d3) hrow rfl rfl (lev_info _ _ _ _ _) (lev_one _ _ _ _ _) ?_ ?_ ?_; rfl; rfl; intro w8 u7 r7
  have hM11d := hM11.drew
  have hM8 := hM11d.putE (s := 1) (by omega) u7 hP11 r7
  have hw8 : White col w w8 := hw11.trans (((Only.upd u7 hM11.cg).white (by omega)).undrew)
  have hMP8 := Part.only (show Part col 0 wf.drew _ from hMP) (Only.upd u7 hM11.cg) (by omega)
  clear hM11 hM11d hrow r8 u7 r7 hMP hP11 hw11
  have hml : ms.length = 0 := by rw [HMS.out]; rfl
  go_wp2
  go_ret
  have h' := HS1.out
  subst h'
  exact ⟨rfl, col, _, hM8, hw8, fun _ _ h => h⟩

set_option maxRecDepth 100000 in
set_option maxHeartbeats 8000000 in
theorem de_com1 (base g : Nat) (col : Nat → Nat) (w : World) (S : WrS) (p : WrP) (hM : WM base g col w S p) (hgd : Gd (S.E 1)) {l : Ln} {ls : List Ln} (hY : S.Y 1 = l :: ls) (tk : Takes (S.E 1) l (S.V 0) (S.T 1)) (hC : dvC (S.E 1) l.k l.f l.n l.p = true) (hTb : S.T 1 ≤ 100000) (hVb : (S.V 0).length ≤ 100000) (hYb : (S.Y 1).length ≤ 100000) : Calls Try.prog 60 #[.pointer (some ⟨g, 0, none⟩), .int .i64 1] w (WStep base g col w { S with E := upd S.E 1 (dvG (S.E 1) l.k l.f l.n l.a l.p), Y := upd S.Y 1 ls, T := upd S.T 1 (S.T 1 + 1) }) := by
  have hok := tk.ok
  obtain ⟨k, el, fl, len, ack, pp⟩ := l
  have hpp : pp.length = 56 := hok.1
  have hack : 0 ≤ ack ∧ ack < 65536 := hok.2
  have HL := Lib.hid (show lnE k el fl len pp = 0 from tk.e)
  have HE := Lib.hid (show dvE (S.E 1) k el fl len ack pp = 0 from tk.dv)
  obtain ⟨e9, he9⟩ : ∃ e9, dvG (S.E 1) k fl len ack pp = e9 := ⟨_, rfl⟩
  have HG := Lib.hid he9
  show Calls Try.prog 60 #[.pointer (some ⟨g, 0, none⟩), .int .i64 1] w (WStep base g col w { S with E := upd S.E 1 (dvG (S.E 1) k fl len ack pp), Y := upd S.Y 1 ls, T := upd S.T 1 (S.T 1 + 1) })
  rw [he9]
  clear he9
  obtain ⟨cc, hcc⟩ : ∃ cc, dvC (S.E 1) k fl len pp = cc := ⟨_, rfl⟩
  have HC := Lib.hid hcc
  obtain rfl : cc = true := hcc.symm.trans hC
  clear hcc
  have hV0 := tk.m hC
  obtain ⟨ms, hms⟩ : ∃ ms, dvM (S.E 1) k fl len pp = ms := ⟨_, rfl⟩
  have HM := Lib.hid hms
  have hV0 : (S.V 0)[S.T 1]? = some ms := by rw [← hms]; exact hV0
  have HV0 := Lib.hid hV0
  clear hms hV0
  clear hC tk
  have hlg := hM.lt
  have ht := hgd.ty
  obtain ⟨⟨y0, y1, v0, v1, t0, t1⟩, fz, e0, e1⟩ := hM.cells
  have hvs := hM.way 1 (by omega)
  have hvq := hvs.part.now
  have hY1 : (S.Y 1).length = ls.length + 1 := by rw [hY]; rfl
  obtain ⟨b, ob, cur, hA, hrb, hcell⟩ := hvq.cells (by omega)
  have hrng : w.rangeAt b ob (LV k el fl len ack pp).toList := fun j v hv => by
    refine hcell j v ?_
    rw [hY]
    show ((LV k el fl len ack pp).toList ++ lsC ls)[j]? = some v
    rw [List.getElem?_append_left (List.getElem?_eq_some_iff.1 hv).1]
    exact hv
  have y1' := y1
  rw [hA, hY1] at y1'
  have HA := Lib.hid hA
  have HY1 := Lib.hid hY1
  have HY := Lib.hid hY
  clear hA hY1 hY hcell y1
  have hi0 : (0 : Int) < (ls.length : Int) + 1 := by omega
  have hne : ((ls.length : Int) + 1 == 0) = false := by rw [beq_eq_false_iff_ne]; omega
  go_enter Try.func60, Try.ntmps60
  go_upto_region 4 with (first | ((with_reducible refine wp_load_g ?_ hrng Try.underlying40 rfl (line_info _ _ _ _ _ hpp) ?_ ?_); rfl; rfl) | (go_at_call 30; refine (enc_full _ _ _ _ _ _ hack.1 hack.2 hpp _ HL.out).mono ?_; rintro en w3 ⟨g5, rfl, hI5, hb3⟩))
  clear y0 y1' v0 v1 t0 t1 fz e0 e1 hrng hrb
  have hM3 := hM.below hb3
  go_upto_region 7 with (first | (go_at_call 32; refine (dec_full _ _ _ _ _ _ hack.1 hack.2 hpp _ _ _ HL.out hI5 (Nat.le_refl _)).mono ?_; rintro en w4 ⟨rfl, hb4⟩) | ((with_reducible refine wp_row_store (L := LV k el fl len ack pp) (Row.bornAt (g := w4.heap.size) rfl 40 _) ?_ (line_info _ _ _ _ _ hpp) (LV_one _ _ _ _ _ _) ?_ ?_ ?_); exact (LV_size _ _ _ _ _ hpp).symm; rfl; rfl; intro w5 u5 r7))
  have hal := (Below.refl w4.heap.size w4).alloc (Nat.le_refl _) (.cells ZL 40)
  have hal2 := Upd.below (hb4.trans (hal.mono hb4.size)) u5 hb4.size
  have hM5 := hM3.below hal2
  have hw5 : White col w w5 := White.below (hb3.trans (hal2.mono hb3.size))
  have hg7 : w4.heap.size ≠ g := by have := hM3.lt; have := hb4.size; omega
  clear hb3 hI5 hb4 hal hal2 u5 hM3
  generalize w4.heap.size = g7 at *
  have hvq := (hM5.way 1 (by omega)).part.now
  have hcap := hvq.cap
  rw [HY1.out] at hcap
  obtain ⟨⟨y0, y1, v0, v1, t0, t1⟩, fz, e0, e1⟩ := hM5.cells
  have y1' := y1
  rw [HA.out, HY1.out] at y1'
  clear y1
  rw [HA.out, HY1.out, HY.out] at hvq
  have hdrop : (lsC (({ k := k, e := el, f := fl, n := len, a := ack, p := pp } : Ln) :: ls)).drop 61 = lsC ls := by
    show ((LV k el fl len ack pp).toList ++ lsC ls).drop 61 = lsC ls
    rw [List.drop_append_of_le_length (by rw [LV_list _ _ _ _ _ hpp]; omega), List.drop_of_length_le (by rw [LV_list _ _ _ _ _ hpp]; omega)]
    rfl
  obtain ⟨cY, hcY⟩ : ∃ cY, p.yc 1 = cY := ⟨_, rfl⟩
  rw [hcY] at y1' hvq hcap
  clear hcY
  have hci : (1 : Int) ≤ (ls.length : Int) + 1 := by omega
  have hcj : (1 : Int) ≤ cY := by omega
  have hck : (ls.length : Int) + 1 ≤ cY := by omega
  obtain ⟨A2, hA2⟩ : ∃ A2 : Option Addr, (if cY - 1 = 0 then some ⟨b, ob, none⟩ else some ⟨b, ob + 61, none⟩) = A2 := ⟨_, rfl⟩
  have HA2 := Lib.hid hA2
  have hq2 : OwnQ w5 40 61 A2 ls.length (cY - 1) (lsC ls) := by
    rw [← hdrop, ← hA2]
    split
    · next hz =>
      obtain rfl : cY = 1 := by omega
      have hl0 : ls.length = 0 := by omega
      rw [hl0] at hvq ⊢
      exact hvq.tail0
    · exact hvq.tail (by omega)
  have hbA2 : blk A2 = blk (p.yA 1) := by
    rw [HA.out, ← hA2]
    split <;> rfl
  clear hA2 hdrop hvq
  go_upto_region 9 with (fail)
  have hrow : Row w5.drew g 94 (WCell S p).toArray := hM5.row.now
  refine wp_region_tailN (n := 126) 12 (fun w' => w' = w5.drew) (fun _ _ => True) (by kernel_rfl) (by kernel_rfl) (by decide) (by rfl) rfl ?_
  simp only [List.take_succ_cons, List.take_zero, List.drop_succ_cons, List.drop_zero]
  refine tail_pure (fun w => trivial) (v := ?_) (fun _ => rfl) ?_ ?_; rotate_left; (focus (intro us w9 hS9 hF; clear hF; subst hS9; go_simp; (try with_reducible rfl); done)); simp only [Act.put, List.setIfInBounds_toArray, List.set_cons_zero, List.set_cons_succ, Nat.reduceAdd]
  refine tail_pure (fun w => trivial) (v := ?_) (fun _ => rfl) ?_ ?_; rotate_left; (focus (intro us w9 hS9 hF; clear hF; subst hS9; go_simp; (try with_reducible rfl); done)); simp only [Act.put, List.setIfInBounds_toArray, List.set_cons_zero, List.set_cons_succ, Nat.reduceAdd]
  refine tail_pure (fun w => trivial) (v := ?_) (fun _ => rfl) ?_ ?_; rotate_left; (focus (intro us w9 hS9 hF; clear hF; subst hS9; go_simp; (try with_reducible rfl); done)); simp only [Act.put, List.setIfInBounds_toArray, List.set_cons_zero, List.set_cons_succ, Nat.reduceAdd]
  refine tail_pure (fun w => trivial) (v := ?_) (fun _ => rfl) ?_ ?_; rotate_left; (focus (intro us w9 hS9 hF; clear hF; subst hS9; go_simp; (try with_reducible rfl); done)); simp only [Act.put, List.setIfInBounds_toArray, List.set_cons_zero, List.set_cons_succ, Nat.reduceAdd]
  refine tail_pure (fun w => trivial) (v := ?_) (fun _ => rfl) ?_ ?_; rotate_left; (focus (intro us w9 hS9 hF; clear hF; subst hS9; go_simp; (try with_reducible rfl); done)); simp only [Act.put, List.setIfInBounds_toArray, List.set_cons_zero, List.set_cons_succ, Nat.reduceAdd]
  refine tail_pure (fun w => trivial) (v := ?_) (fun _ => rfl) ?_ ?_; rotate_left; (focus (intro us w9 hS9 hF; clear hF; subst hS9; go_simp; (try with_reducible rfl); done)); simp only [Act.put, List.setIfInBounds_toArray, List.set_cons_zero, List.set_cons_succ, Nat.reduceAdd]
  refine tail_pure (fun w => trivial) (v := ?_) (fun _ => rfl) ?_ ?_; rotate_left; (focus (intro us w9 hS9 hF; clear hF; subst hS9; go_simp; (try with_reducible rfl); done)); simp only [Act.put, List.setIfInBounds_toArray, List.set_cons_zero, List.set_cons_succ, Nat.reduceAdd]
  refine tail_pure (fun w => trivial) (v := ?_) (fun _ => rfl) ?_ ?_; rotate_left; (focus (intro us w9 hS9 hF; clear hF; subst hS9; go_simp; (try with_reducible rfl); done)); simp only [Act.put, List.setIfInBounds_toArray, List.set_cons_zero, List.set_cons_succ, Nat.reduceAdd]
  refine tail_pure (fun w => trivial) (v := .slice A2 ls.length (cY - 1)) (fun _ => rfl) ?_ ?_; (focus (intro us w9 hS9 hF; clear hF; subst hS9; rw [← HA2.out]; by_cases hz : cY - 1 = 0; (rw [if_pos hz]; go_simp; omega); (rw [if_neg hz]; go_simp; (try omega); done))); simp only [Act.put, List.setIfInBounds_toArray, List.set_cons_zero, List.set_cons_succ, Nat.reduceAdd]
  refine tail_pure (fun w => trivial) (v := ?_) (fun _ => rfl) ?_ ?_; rotate_left; (focus (intro us w9 hS9 hF; clear hF; subst hS9; go_simp; (try with_reducible rfl); done)); simp only [Act.put, List.setIfInBounds_toArray, List.set_cons_zero, List.set_cons_succ, Nat.reduceAdd]
  refine tail_pure (fun w => trivial) (v := ?_) (fun _ => rfl) ?_ ?_; rotate_left; (focus (intro us w9 hS9 hF; clear hF; subst hS9; go_simp; (try with_reducible rfl); done)); simp only [Act.put, List.setIfInBounds_toArray, List.set_cons_zero, List.set_cons_succ, Nat.reduceAdd]
  refine tail_pure (fun w => trivial) (v := ?_) (fun _ => rfl) ?_ ?_; rotate_left; (focus (intro us w9 hS9 hF; clear hF; subst hS9; go_simp; (try with_reducible rfl); done)); simp only [Act.put, List.setIfInBounds_toArray, List.set_cons_zero, List.set_cons_succ, Nat.reduceAdd]
  refine tail_done fun us w7 hS7 hF => ?_
  subst hS7
  clear hF
  go_upto_region 10 with (fail)
  have hr6 := hM5.row.now.set 21 (.slice A2 ls.length (cY - 1))
  have u6 : Upd w5 ((w5.setCell ⟨g, 21, none⟩ (.slice A2 ls.length (cY - 1))).drew) g := ⟨rfl, rfl, rfl, (Upd.setCell w5 g 21 _).size, (Upd.setCell w5 g 21 _).block⟩
  have hr6 : Row ((w5.setCell ⟨g, 21, none⟩ (.slice A2 ls.length (cY - 1))).drew) g 94 _ := hr6
  generalize (w5.setCell ⟨g, 21, none⟩ (.slice A2 ls.length (cY - 1))).drew = wa at *
  have hM6 := hM5.tailY (s := 1) (by omega) HY.out u6 hbA2 hq2 (by
    unfold WCell
    simp only [upd, if_true]
    exact hr6)
  have r7 := r7.upd u6 hg7
  have hw6 : White col w wa := hw5.trans ((Only.upd u6 hM5.cg).white (by omega))
  clear y0 y1' v0 v1 t0 t1 fz e0 e1 hq2 u6 hr6 hrow hM5 hw5 hci hcj hck hcap hbA2
  have hM6d := hM6.drew
  have hHd : Held wa.drew (S.E 1) (p.A 1) (p.c 1) (p.B 1) (p.d 1) := (hM6d.held 1 (by omega)).now
  have hlgd : g < wa.drew.heap.size := hM6d.lt
  have r7 : Row wa.drew g7 40 (LV k el fl len ack pp) := r7
  have hw6 : White col w wa.drew := hw6.trans (White.below ((Below.refl _ _).drew))
  obtain ⟨⟨y0, y1, v0, v1, t0, t1⟩, fz, e0, e1⟩ := hM6d.cells
  clear hM6
  refine wp_region_late (n := 126) [14] (DeS wa.drew e9) (DeG wa.drew) (by kernel_rfl) (by kernel_rfl) (by rfl) (DeS.loc (by kernel_rfl)) ⟨Below.refl _ _, fun h => by omega⟩ ?_
  generalize wa.drew = wd at *
  refine late_pure (by simp) (fun w => DeG.refl _ _) (v := ?_) (fun _ => rfl) ?_ ?_; rotate_left; (focus (intro c9 us w9 hm9 hS9 hF; clear hF hm9; go_simp; (try with_reducible rfl); done)); simp only [Act.put, List.setIfInBounds_toArray, List.set_cons_zero, List.set_cons_succ, Nat.reduceAdd]
  refine late_pure (by simp) (fun w => DeG.refl _ _) (v := ?_) (fun _ => rfl) ?_ ?_; rotate_left; (focus (intro c9 us w9 hm9 hS9 hF; clear hF hm9; go_simp; (try with_reducible rfl); done)); simp only [Act.put, List.setIfInBounds_toArray, List.set_cons_zero, List.set_cons_succ, Nat.reduceAdd]
  refine late_pure (by simp) (fun w => DeG.refl _ _) (v := ?_) (fun _ => rfl) ?_ ?_; rotate_left; (focus (intro c9 us w9 hm9 hS9 hF; clear hF hm9; go_simp; (try with_reducible rfl); done)); simp only [Act.put, List.setIfInBounds_toArray, List.set_cons_zero, List.set_cons_succ, Nat.reduceAdd]
  refine late_pure (by simp) (fun w => DeG.refl _ _) (v := ?_) (fun _ => rfl) ?_ ?_; rotate_left; (focus (intro c9 us w9 hm9 hS9 hF; clear hF hm9; go_simp; (try with_reducible rfl); done)); simp only [Act.put, List.setIfInBounds_toArray, List.set_cons_zero, List.set_cons_succ, Nat.reduceAdd]
  refine late_pure (by simp) (fun w => DeG.refl _ _) (v := ?_) (fun _ => rfl) ?_ ?_; rotate_left; (focus (intro c9 us w9 hm9 hS9 hF; clear hF hm9; go_simp; (try with_reducible rfl); done)); simp only [Act.put, List.setIfInBounds_toArray, List.set_cons_zero, List.set_cons_succ, Nat.reduceAdd]
  refine late_pure (by simp) (fun w => DeG.refl _ _) (v := .agg (LEV (S.E 1) (p.A 1) (p.c 1) (p.B 1) (p.d 1))) (fun _ => rfl) ?_ ?_; (focus (intro c9 us w9 hm9 hS9 hF; exact exec_load_g (fun j v hv => (hS9.1.cell (p := ⟨g, 10 + j, none⟩) hlgd).trans (e1 j v hv)) Try.underlying69 rfl (lev_info _ _ _ _ _) rfl)); simp only [Act.put, List.setIfInBounds_toArray, List.set_cons_zero, List.set_cons_succ, Nat.reduceAdd]
  refine late_pure (by simp) (fun w => DeG.refl _ _) (v := .agg (LV k el fl len ack pp)) (fun _ => rfl) ?_ ?_; (focus (intro c9 us w9 hm9 hS9 hF; exact exec_load_g (r7.below hS9.1 r7.lt).range Try.underlying40 rfl (line_info _ _ _ _ _ hpp) rfl)); simp only [Act.put, List.setIfInBounds_toArray, List.set_cons_zero, List.set_cons_succ, Nat.reduceAdd]
  refine late_free (by simp) (De7 wd e9 ms true) (De7.mono) ?_ ?_; (focus (intro c9 us w9 hm9 hS9 hF K hK; have hc9 : c9 < 1 := (by rcases Nat.lt_or_ge c9 1 with h9 | h9; exact h9; exact absurd hm9 (by rw [mayAt_no (d := 0) (by kernel_rfl) (by omega) (by decide)]; decide)); clear hF; go_simp; refine (deliver_is HE.out HG.out HM.out HC.out ht (hHd.below hS9.1) hpp hack).mono ?_; rintro en w' ⟨A, c, B, d, M, mc, rfl, h1, h2, hb⟩; exact hK _ w' ⟨below_on hS9.1 hb, fun h => by omega⟩ (DeG.below hb) ⟨A, c, B, d, M, mc, rfl, HeldT.lower h1 hS9.1.size, h2.lower hS9.1.size⟩)); simp only [Act.put, List.setIfInBounds_toArray, List.set_cons_zero, List.set_cons_succ, Nat.reduceAdd]
  refine late_free (by simp) (De7 wd e9 ms true) (De7.mono) ?_ ?_; (focus (intro c9 us w9 hm9 hS9 hF K hK; obtain ⟨A, c, B, d, M, mc, hu, h1, h2⟩ := hF (7, De7 wd e9 ms true) (by simp) (by kernel_rfl); clear hF; dsimp only at hu; simp only [hu] at hK ⊢; go_simp; exact hK _ w9 hS9 (DeG.refl _ _) ⟨A, c, B, d, M, mc, rfl, h1, h2⟩)); simp only [Act.put, List.setIfInBounds_toArray, List.set_cons_zero, List.set_cons_succ, Nat.reduceAdd]
  refine late_free (by simp) (De9 wd e9) (De9.mono) ?_ ?_; (focus (intro c9 us w9 hm9 hS9 hF K hK; obtain ⟨A, c, B, d, M, mc, hu, h1, h2⟩ := hF (8, De7 wd e9 ms true) (by simp) (by kernel_rfl); clear hF; dsimp only at hu; simp only [hu] at hK ⊢; go_simp; exact hK _ w9 hS9 (DeG.refl _ _) ⟨A, c, B, d, rfl, h1⟩)); simp only [Act.put, List.setIfInBounds_toArray, List.set_cons_zero, List.set_cons_succ, Nat.reduceAdd]
  refine late_free (by simp) (De10 wd ms) (De10.mono) ?_ ?_; (focus (intro c9 us w9 hm9 hS9 hF K hK; obtain ⟨A, c, B, d, M, mc, hu, h1, h2⟩ := hF (8, De7 wd e9 ms true) (by simp) (by kernel_rfl); clear hF; dsimp only at hu; simp only [hu] at hK ⊢; go_simp; exact hK _ w9 hS9 (DeG.refl _ _) ⟨M, mc, rfl, h2⟩)); simp only [Act.put, List.setIfInBounds_toArray, List.set_cons_zero, List.set_cons_succ, Nat.reduceAdd]
  refine late_pure (by simp) (fun w => DeG.refl _ _) (v := .bool true) (fun _ => rfl) ?_ ?_; (focus (intro c9 us w9 hm9 hS9 hF; obtain ⟨A, c, B, d, M, mc, hu, -⟩ := hF (8, De7 wd e9 ms true) (by simp) (by kernel_rfl); dsimp only at hu; simp only [hu]; go_simp)); simp only [Act.put, List.setIfInBounds_toArray, List.set_cons_zero, List.set_cons_succ, Nat.reduceAdd]
  refine late_pure (by simp) (fun w => DeG.refl _ _) (v := .int .i64 0) (fun _ => rfl) ?_ ?_; (focus (intro c9 us w9 hm9 hS9 hF; obtain ⟨A, c, B, d, M, mc, hu, -⟩ := hF (8, De7 wd e9 ms true) (by simp) (by kernel_rfl); dsimp only at hu; simp only [hu]; go_simp)); simp only [Act.put, List.setIfInBounds_toArray, List.set_cons_zero, List.set_cons_succ, Nat.reduceAdd]
  refine late_free (by simp) (PtrN wd.heap.size 69 10) (PtrN.monoG) ?_ ?_; (focus (intro c9 us w9 hm9 hS9 hF K hK; have hc9 : c9 < 1 := (by rcases Nat.lt_or_ge c9 1 with h9 | h9; exact h9; exact absurd hm9 (by rw [mayAt_no (d := 0) (by kernel_rfl) (by omega) (by decide)]; decide)); clear hF; go_simp; exact hK _ _ ⟨hS9.1.alloc hS9.1.size (.cells ZE 69), fun h => by omega⟩ ⟨Keeps.below ((Below.refl _ _).alloc (Nat.le_refl _) _), Shp.alloc _ _ _⟩ ⟨w9.heap.size, ZE, rfl, hS9.1.size, Row.born w9 69 ZE, rfl⟩)); simp only [Act.put, List.setIfInBounds_toArray, List.set_cons_zero, List.set_cons_succ, Nat.reduceAdd]
  refine late_store rfl ?_ ?_; (focus (intro us w9 hS9 hF K hK; obtain ⟨A, c, B, d, hu9, h1⟩ := hF (9, De9 wd e9) (by simp) (by kernel_rfl); obtain ⟨b3, cs, hu, hb3, hr, hn⟩ := hF (13, PtrN wd.heap.size 69 10) (by simp) (by kernel_rfl); dsimp only at hu9 hu; clear hF; simp only [hu9, hu] at hK ⊢; rw [if_pos (by rfl)]; exact step_put (L := LEV e9 A c B d) hr hn (lev_info _ _ _ _ _) (lev_one _ _ _ _ _) rfl rfl (fun w' u' r' => hK w' ⟨Upd.below hS9.1 u' hb3, fun _ => ⟨b3, A, c, B, d, hu, hb3, r', h1.keeps (Keeps.upd (ts := [69]) u' hr (by simp)) (by decide) (by decide)⟩⟩ ⟨Keeps.upd (ts := [69]) u' hr (by simp), Shp.upd u' hr r' hn⟩))); simp only [Nat.reduceAdd]
  refine late_free (by simp) (De10 wd ms) (De10.mono) ?_ ?_; (focus (intro c9 us w9 hm9 hS9 hF K hK; obtain ⟨M, mc, hu, h2⟩ := hF (10, De10 wd ms) (by simp) (by kernel_rfl); clear hF; dsimp only at hu; simp only [hu] at hK ⊢; go_simp; exact hK _ w9 hS9 (DeG.refl _ _) ⟨M, mc, rfl, h2⟩)); simp only [Act.put, List.setIfInBounds_toArray, List.set_cons_zero, List.set_cons_succ, Nat.reduceAdd]
  refine late_pure (by simp) (fun w => DeG.refl _ _) (v := ?_) (fun _ => rfl) ?_ ?_; rotate_left; (focus (intro c9 us w9 hm9 hS9 hF; clear hF hm9; go_simp; (try with_reducible rfl); done)); simp only [Act.put, List.setIfInBounds_toArray, List.set_cons_zero, List.set_cons_succ, Nat.reduceAdd]
  refine late_pure (by simp) (fun w => DeG.refl _ _) (v := ?_) (fun _ => rfl) ?_ ?_; rotate_left; (focus (intro c9 us w9 hm9 hS9 hF; clear hF hm9; go_simp; (try with_reducible rfl); done)); simp only [Act.put, List.setIfInBounds_toArray, List.set_cons_zero, List.set_cons_succ, Nat.reduceAdd]
  refine late_done fun us wf hS8 hF => ?_
  obtain ⟨M, mc, hu15, hoM⟩ := hF (15, De10 wd ms) (by simp)
  obtain ⟨g8, A3, c3, B3, d3, hu13, hg8, r8, hT8⟩ := hS8.2 (by omega)
  have hbf := hS8.1
  clear hF hS8
  dsimp only at hu15 hu13
  simp only [hu15, hu13]
  clear hu15 hu13
  have hM11 := hM6d.below hbf
  have hw11 := hw6.trans (White.below (col := col) hbf)
  have hP11 : Part col 0 wf (fun w => Held w e9 A3 c3 B3 d3) := Part.held hT8.heldI (fun x h1 h2 => hM6d.cn x h1)
  have hMP : Part col 0 wf (fun w => IsB w M ms.length ms) := Part.ownB hoM (fun x h1 => hM6d.cn x h1)
  have hcap2 := OwnB.capM hoM
  clear y0 y1 v0 v1 t0 t1 fz e0 e1 hHd hlgd r7 hw6 hM6d hT8 hoM hbf
  obtain ⟨S1, hS1⟩ : ∃ S1, ({ S with Y := upd S.Y 1 ls } : WrS) = S1 := ⟨_, rfl⟩
  rw [hS1] at hM11
  have hT1 : S1.T 1 ≤ 100000 := by rw [← hS1]; exact hTb
  have hVeq : S1.V 0 = S.V 0 := by rw [← hS1]
  have HVeq := Lib.hid hVeq
  have HTS := Lib.hid (show S1.T 1 = S.T 1 by rw [← hS1])
  have HS1 := Lib.hid hS1
  clear hS1 hVeq
  generalize ({ p with yA := upd p.yA 1 A2, yc := upd p.yc 1 (cY - 1) } : WrP) = p1 at *
  go_upto_region 13 with (fail)
  have hrow : Row wf.drew g 94 ((LEV (S1.E 0) (p1.A 0) (p1.c 0) (p1.B 0) (p1.d 0)).toList ++ (LEV (S1.E 1) (p1.A 1) (p1.c 1) (p1.B 1) (p1.d 1)).toList ++ ([.slice (p1.yA 0) (S1.Y 0).length (p1.yc 0), .slice (p1.yA 1) (S1.Y 1).length (p1.yc 1), .slice (p1.vA 0) (S1.V 0).length (p1.vc 0), .slice (p1.vA 1) (S1.V 1).length (p1.vc 1), .slice (p1.tA 0) (S1.T 0) (p1.tc 0), .slice (p1.tA 1) (S1.T 1) (p1.tc 1)] : List Value)).toArray := hM11.row.now
  have r8 : Row wf.drew g8 69 (LEV e9 A3 c3 B3 d3) := r8
  refine wp_region_tailN (n := 126) 6 (fun w' => w' = wf.drew) (fun _ _ => True) (by kernel_rfl) (by kernel_rfl) (by decide) (by rfl) rfl ?_
  simp only [List.take_succ_cons, List.take_zero, List.drop_succ_cons, List.drop_zero]
  refine tail_pure (fun w => trivial) (v := ?_) (fun _ => rfl) ?_ ?_; rotate_left; (focus (intro us w9 hS9 hF; clear hF; subst hS9; go_simp; (try with_reducible rfl); done)); simp only [Act.put, List.setIfInBounds_toArray, List.set_cons_zero, List.set_cons_succ, Nat.reduceAdd]
  refine tail_pure (fun w => trivial) (v := ?_) (fun _ => rfl) ?_ ?_; rotate_left; (focus (intro us w9 hS9 hF; clear hF; subst hS9; go_simp; (try with_reducible rfl); done)); simp only [Act.put, List.setIfInBounds_toArray, List.set_cons_zero, List.set_cons_succ, Nat.reduceAdd]
  refine tail_pure (fun w => trivial) (v := .agg (LEV e9 A3 c3 B3 d3)) (fun _ => rfl) ?_ ?_; (focus (intro us w9 hS9 hF; clear hF; subst hS9; exact exec_load_g r8.range Try.underlying69 rfl (lev_info _ _ _ _ _) rfl)); simp only [Act.put, List.setIfInBounds_toArray, List.set_cons_zero, List.set_cons_succ, Nat.reduceAdd]
  refine tail_pure (fun w => trivial) (v := ?_) (fun _ => rfl) ?_ ?_; rotate_left; (focus (intro us w9 hS9 hF; clear hF; subst hS9; go_simp; (try with_reducible rfl); done)); simp only [Act.put, List.setIfInBounds_toArray, List.set_cons_zero, List.set_cons_succ, Nat.reduceAdd]
  refine tail_pure (fun w => trivial) (v := ?_) (fun _ => rfl) ?_ ?_; rotate_left; (focus (intro us w9 hS9 hF; clear hF; subst hS9; go_simp; (try with_reducible rfl); done)); simp only [Act.put, List.setIfInBounds_toArray, List.set_cons_zero, List.set_cons_succ, Nat.reduceAdd]
  refine tail_pure (fun w => trivial) (v := ?_) (fun _ => rfl) ?_ ?_; rotate_left; (focus (intro us w9 hS9 hF; clear hF; subst hS9; go_simp; (try with_reducible rfl); done)); simp only [Act.put, List.setIfInBounds_toArray, List.set_cons_zero, List.set_cons_succ, Nat.reduceAdd]
  refine tail_done fun us w7 hS7 hF => ?_
  subst hS7
  clear hF
  refine wp_put_mid (g := g) (t := 94) (off := 10) (pre := (LEV (S1.E 0) (p1.A 0) (p1.c 0) (p1.B 0) (p1.d 0)).toList) (cs := (LEV (S1.E 1) (p1.A 1) (p1.c 1) (p1.B 1) (p1.d 1)).toList) (post := ([.slice (p1.yA 0) (S1.Y 0).length (p1.yc 0), .slice (p1.yA 1) (S1.Y 1).length (p1.yc 1), .slice (p1.vA 0) (S1.V 0).length (p1.vc 0), .slice (p1.vA 1) (S1.V 1).length (p1.vc 1), .slice (p1.tA 0) (S1.T 0) (p1.tc 0), .slice (p1.tA 1) (S1.T 1) (p1.tc 1)] : List Value)) (L := LEV e9 A3 c3 B3 d3) hrow rfl rfl (lev_info _ _ _ _ _) (lev_one _ _ _ _ _) ?_ ?_ ?_; rfl; rfl; intro w8 u7 r7
  have hM11d := hM11.drew
  have hM8 := hM11d.putE (s := 1) (by omega) u7 hP11 r7
  have hw8 : White col w w8 := hw11.trans (((Only.upd u7 hM11.cg).white (by omega)).undrew)
  have hMP8 := Part.only (show Part col 0 wf.drew _ from hMP) (Only.upd u7 hM11.cg) (by omega)
  clear hM11 hM11d hrow r8 u7 r7 hMP hP11 hw11
  obtain ⟨vs, hvs⟩ := hM8.got 1 (by omega)
  have hlg8 := hM8.lt
  obtain ⟨⟨y0, y1, v0, v1, t0, t1⟩, fz, e0, e1⟩ := hM8.cells
  go_upto_region 17 with (fail)
  have hM8d := hM8.drew
  have hcg8 := hM8.cg
  have hlg : g < w8.drew.heap.size := hlg8
  have hvq : OwnQ w8.drew 44 1 (p1.tA 1) (S1.T 1) (p1.tc 1) vs := hvs.part.now
  have hszd : w.heap.size ≤ w8.drew.heap.size := hw8.size
  have hw8d : White col w w8.drew := hw8.trans (White.below ((Below.refl _ _).drew))
  have hMP8 : Part col 0 w8.drew (fun w => IsB w M ms.length ms) := hMP8
  have hbA0 := Below.refl w8.drew.heap.size w8.drew
  have hal := hbA0.alloc (Nat.le_refl _) (.cells #[.slice M ms.length mc] 44)
  have hMA := hM8d.below hal
  clear hM8 y0 y1 v0 v1 t0 t1 fz e0 e1
  obtain ⟨⟨y0, y1, v0, v1, t0, t1⟩, fz, e0, e1⟩ := hM8d.cells
  have hrowA : ∀ w9, (w8.drew.alloc (.cells #[.slice M ms.length mc] 44)).grownBy w9 (blk (p1.tA 1)) → Row w9 g 94 _ := fun w9 h3 => (h3.block g hMA.lt (fun e => by have h9 := hvs.blk g e.symm; have h8 := hcg8; omega)).trans hMA.row.now
  refine wp_region_late (n := 126) [9, 10, 14] (QS w8.drew g 25 44 1 (p1.tA 1) (S1.T 1) (vs) (#[.slice M ms.length mc]) 9 10) (fun _ _ => True) (by kernel_rfl) (by kernel_rfl) (by rfl) QS.loc QS.zero ?_
  generalize w8.drew = wd at *
  refine late_pure (by simp) (fun _ => trivial) (v := ?_) (fun _ => rfl) ?_ ?_; rotate_left; (focus (intro c9 us w9 hm9 hS9 hF; clear hF hm9; go_simp; (try with_reducible rfl); done)); simp only [Act.put, List.setIfInBounds_toArray, List.set_cons_zero, List.set_cons_succ, Nat.reduceAdd]
  refine late_pure (by simp) (fun _ => trivial) (v := ?_) (fun _ => rfl) ?_ ?_; rotate_left; (focus (intro c9 us w9 hm9 hS9 hF; clear hF hm9; go_simp; (try with_reducible rfl); done)); simp only [Act.put, List.setIfInBounds_toArray, List.set_cons_zero, List.set_cons_succ, Nat.reduceAdd]
  refine late_pure (by simp) (fun _ => trivial) (v := ?_) (fun _ => rfl) ?_ ?_; rotate_left; (focus (intro c9 us w9 hm9 hS9 hF; clear hF hm9; go_simp; (try with_reducible rfl); done)); simp only [Act.put, List.setIfInBounds_toArray, List.set_cons_zero, List.set_cons_succ, Nat.reduceAdd]
  refine late_pure (by simp) (fun _ => trivial) (v := ?_) (fun _ => rfl) ?_ ?_; rotate_left; (focus (intro c9 us w9 hm9 hS9 hF; clear hF hm9; go_simp; (try with_reducible rfl); done)); simp only [Act.put, List.setIfInBounds_toArray, List.set_cons_zero, List.set_cons_succ, Nat.reduceAdd]
  refine late_pure (by simp) (fun _ => trivial) (v := ?_) (fun _ => rfl) ?_ ?_; rotate_left; (focus (intro c9 us w9 hm9 hS9 hF; clear hF hm9; go_simp; (try with_reducible rfl); done)); simp only [Act.put, List.setIfInBounds_toArray, List.set_cons_zero, List.set_cons_succ, Nat.reduceAdd]
  refine late_pure (by simp) (fun _ => trivial) (v := ?_) (fun _ => rfl) ?_ ?_; rotate_left; (focus (intro c9 us w9 hm9 hS9 hF; clear hF hm9; go_simp; (try with_reducible rfl); done)); simp only [Act.put, List.setIfInBounds_toArray, List.set_cons_zero, List.set_cons_succ, Nat.reduceAdd]
  refine late_pure (by simp) (fun _ => trivial) (v := ?_) (fun _ => rfl) ?_ ?_; rotate_left; (focus (intro c9 us w9 hm9 hS9 hF; clear hF hm9; go_simp; (try with_reducible rfl); done)); simp only [Act.put, List.setIfInBounds_toArray, List.set_cons_zero, List.set_cons_succ, Nat.reduceAdd]
  refine late_pure (by simp) (fun _ => trivial) (v := ?_) (fun _ => rfl) ?_ ?_; rotate_left; (focus (intro c9 us w9 hm9 hS9 hF; have hc9 : c9 < 2 := (by rcases Nat.lt_or_ge c9 2 with h9 | h9; exact h9; exact absurd hm9 (by rw [mayAt_no (d := 1) (by kernel_rfl) (by omega) (by decide)]; decide)); have bcell := ((hS9.early hc9).cell (p := ⟨g, 25, none⟩) hlg).trans t1; clear hF hm9; go_simp; (try with_reducible rfl); done)); simp only [Act.put, List.setIfInBounds_toArray, List.set_cons_zero, List.set_cons_succ, Nat.reduceAdd]
  refine late_pure (by simp) (fun _ => trivial) (v := ?_) (fun _ => rfl) ?_ ?_; rotate_left; (focus (intro c9 us w9 hm9 hS9 hF; clear hF hm9; go_simp; (try with_reducible rfl); done)); simp only [Act.put, List.setIfInBounds_toArray, List.set_cons_zero, List.set_cons_succ, Nat.reduceAdd]
  refine late_chain (by simp) ?_ ?_; (focus (intro us w9 hS9 hF K hK; clear hF; obtain rfl := hS9.1 rfl; go_simp; exact hK _ _ QS.one trivial)); simp only [Act.put, List.setIfInBounds_toArray, List.set_cons_zero, List.set_cons_succ, Nat.reduceAdd]
  refine late_chain (by simp) ?_ ?_; (focus (intro us w9 hS9 hF K hK; clear hF; obtain ⟨hu, rfl⟩ := hS9.2.1 rfl; simp only [hu] at hK ⊢; rw [if_pos (by rfl)]; exact step_append_q (P := Try.prog) Try.underlying67 info_44 rfl (by omega) (hvq.of_same (fun b hb => hal.block b (hvq.lt b hb))) (Row.born _ _ _) rfl (by simp [Value.oneCell']) (by omega) (by omega) rfl rfl (fun A' c'' w' b h2 h3 h4 h5 => hK _ _ (QS.two h2 h3 h4 h5) trivial))); simp only [Act.put, List.setIfInBounds_toArray, List.set_cons_zero, List.set_cons_succ, Nat.reduceAdd]
  refine late_pure (by simp) (fun _ => trivial) (v := ?_) (fun _ => rfl) ?_ ?_; rotate_left; (focus (intro c9 us w9 hm9 hS9 hF; clear hF hm9; go_simp; (try with_reducible rfl); done)); simp only [Act.put, List.setIfInBounds_toArray, List.set_cons_zero, List.set_cons_succ, Nat.reduceAdd]
  refine late_pure (by simp) (fun _ => trivial) (v := ?_) (fun _ => rfl) ?_ ?_; rotate_left; (focus (intro c9 us w9 hm9 hS9 hF; clear hF hm9; go_simp; (try with_reducible rfl); done)); simp only [Act.put, List.setIfInBounds_toArray, List.set_cons_zero, List.set_cons_succ, Nat.reduceAdd]
  refine late_pure (by simp) (fun _ => trivial) (v := ?_) (fun _ => rfl) ?_ ?_; rotate_left; (focus (intro c9 us w9 hm9 hS9 hF; clear hF hm9; go_simp; (try with_reducible rfl); done)); simp only [Act.put, List.setIfInBounds_toArray, List.set_cons_zero, List.set_cons_succ, Nat.reduceAdd]
  refine late_store rfl ?_ ?_; (focus (intro us w9 hS9 hF K hK; clear hF; obtain ⟨A', c', w2, b, hu, h2, h3, h4, h5, h6, -⟩ := hS9.2.2 (by omega); have h6 := h6 rfl; subst h6; simp only [hu] at hK ⊢; have hr9 := hrowA w9 h3; have k9 := hr9.cell 25; have f9 := hr9.frozen 25; simp only [WCell] at k9; have hS10 := hS9.three hu; go_simp; exact hK _ hS10 trivial)); simp only [Nat.reduceAdd]
  refine late_done fun us w12 hS12 hF => ?_
  obtain ⟨A', c', w2, b2, -, hq2, hg2, hbA, hbb, -, hw0⟩ := hS12.2.2 (by omega)
  have hw12 := hw0 (by omega)
  clear hF hS12 hw0
  have hG : Grow g (6 + 1) b2 col (wd.alloc (.cells #[.slice M ms.length mc] 44)) w2 w12 (blk (p1.tA 1)) := ⟨hMA.lt, hcg8, by omega, by omega, hg2, hvs.blk, hbb, hq2.lt b2 hbA, by rw [hw12]; exact Upd.setCell _ _ _ _⟩
  have hr12 := (hrowA w2 hg2).set 25 (.slice A' (S1.T 1 + 1) c')
  rw [← hw12] at hr12
  have hM12 := hMA.appT (s := 1) (by omega) hG hq2 hbA (by
    unfold WCell
    simp only [upd, if_true]
    exact hr12)
  have hw12' := hw8d.trans ((White.below hal).trans hG.white.1)
  have hcol := fun x (hx : x < w.heap.size) (h0 : col x = 0) => hG.white.2 x (Nat.lt_of_lt_of_le hx (Nat.le_trans hszd hal.size)) h0
  have hMP12 := (hG.part (hMP8.below hal) (by omega) (by omega)).now
  have hTc : wd.cell? ⟨g, 25, none⟩ = wd.cell? ⟨g, 25, none⟩ := rfl
  clear hw12 hG hr12 hrowA hMA hM8d hvq hvs hg2 hq2 hw8d hMP8 y0 y1 v0 v1 t0 t1 fz e0 e1 hTc
  obtain ⟨gvs, hgv, hgm⟩ := hM12.given 0 (by omega)
  have hgq := hgv.part.now
  have hlt1 : S.T 1 < (S.V 0).length := (List.getElem?_eq_some_iff.1 HV0.out).1
  have hTS : S1.T 1 = S.T 1 := by rw [HTS.out]
  have hlt : S1.T 1 < (S1.V 0).length := by rw [HVeq.out, hTS]; exact hlt1
  obtain ⟨Ag, cg, hgi, hgI⟩ := hgm.2 (S1.T 1) hlt
  have hel : (S1.V 0)[S1.T 1] = ms := by
    have h1 := HV0.out
    rw [← hTS, ← HVeq.out, List.getElem?_eq_getElem hlt] at h1
    injection h1
  rw [hel] at hgi hgI
  have hgI := hgI.now
  obtain ⟨bg, og, curg, hAg, hrg, hcg⟩ := hgq.cells (by show 0 < (S1.V 0).length; omega)
  have hcell := hcg _ _ hgi
  have hAg : p1.vA 0 = some ⟨bg, og, none⟩ := hAg
  clear hrg hcg hgi hgq hgv hgm hel
  obtain ⟨⟨y0, y1, v0, v1, t0, t1⟩, fz, e0, e1⟩ := hM12.cells
  have vv : w12.cell? ⟨g, 22, none⟩ = some (.slice (p1.vA 0) (S1.V 0).length (p1.vc 0)) := v0
  rw [hAg] at vv
  clear hAg y0 y1 v0 v1 t0 t1 e0 e1
  have hlti : (S1.T 1 : Int) < ((S1.V 0).length : Int) := by omega
  have hti : (0 : Int) ≤ (S1.T 1 : Int) := by omega
  have dlt : decide (S1.T 1 < (S1.V 0).length) = true := decide_eq_true hlt
  have hwr : IntKind.i64.wrap 0 = 0 := by rw [IntKind.wrap_i64]; rfl
  have hs1 := run_str (P := Try.prog) (w := w12.drew) (dst := 9) Try.underlying44 Try.underlying5 Try.underlying9 mc hMP12
  have hs2 := run_str (P := Try.prog) (w := w12.drew) (dst := 9) Try.underlying44 Try.underlying5 Try.underlying9 cg hgI
  clear hlt hlt1 hTS hgI hMP12
  go_upto_region 18 with (fail)
  have vv : w12.drew.cell? ⟨g, 22, none⟩ = some (.slice (some ⟨bg, og, none⟩) (S1.V 0).length (p1.vc 0)) := vv
  have hcell : w12.drew.cell? ⟨bg, og + S1.T 1, none⟩ = some (.slice Ag ms.length cg) := hcell
  refine wp_region_told (n := 126) (fun w' => w' = w12.drew) (fun _ _ => True) (by kernel_rfl) (by kernel_rfl) (by rfl) rfl ?_
  repeat (first | (refine walk_pure (v := ?_) (fun _ => trivial) (fun _ => rfl) ?_ ?_; rotate_left; (focus (intro us w9 hS9 hF; subst hS9; clear hF; go_simp; (try with_reducible rfl); done)); simp only [Act.put, List.setIfInBounds_toArray, List.set_cons_zero, List.set_cons_succ, Nat.reduceAdd]) | (refine walk_skip (fun _ => trivial) (fun _ => rfl) ?_; simp only [Act.put, List.setIfInBounds_toArray, List.set_cons_zero, List.set_cons_succ, Nat.reduceAdd]))
  refine walk_done fun us w9 hS9 hF => ?_
  subst hS9
  clear hF
  go_wp2
  go_ret
  have h' := HS1.out
  subst h'
  exact ⟨rfl, _, _, hM12.drew, hw12'.trans (White.below ((Below.refl _ _).drew)), hcol⟩

end Go.Proofs.Ythjkhambmgepdaa
