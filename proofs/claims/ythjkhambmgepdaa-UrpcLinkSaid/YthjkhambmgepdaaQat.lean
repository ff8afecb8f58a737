/- Texts Ma, without what this claim does not use. -/
import Derived.IntWalk
import Derived.Laws.Rows
import Derived.Laws.Cover3
import Derived.Test.YthjkhambmgepdaaQas
namespace Go.Proofs.Ythjkhambmgepdaa
section
open Go.RowKit
set_option linter.unusedVariables false
structure LE where
  (n s a rn rc : Int) (q : List (List UInt8)) (off want : Int) (pt : List UInt8) (told : Int)
def cutB (k n : Int) : Bool := decide (52 ≤ k) && decide (k < n) && ((k - 52) % 56 == 0)
def qOk (q : List (List UInt8)) : Bool := q.all fun m => decide (m.length ≤ 1048576)
def offOk (off : Int) (q : List (List UInt8)) : Bool := off == -1 || (decide (0 < q.length) && cutB off (q.headD []).length)
def soundB (e : LE) : Bool := vs e.n e.s e.a && decide (e.q.length ≤ 64) && qOk e.q && offOk e.off e.q
def partOk (want : Int) (pt : List UInt8) : Bool := if want = -1 then pt.length == 0 else decide (want ≤ 1048576) && cutB pt.length want
def compB (e : LE) : Bool := vr e.rn e.rc && decide (e.told ≤ e.rc) && partOk e.want e.pt
def vE (e : LE) : Bool := soundB e && compB e && (e.n == e.rn)
structure LE.ty (e : LE) : Prop where
  s0 : 0 ≤ e.s
  s1 : e.s < 18446744073709551616
  a0 : 0 ≤ e.a
  a1 : e.a < 18446744073709551616
  r0 : 0 ≤ e.rc
  r1 : e.rc < 18446744073709551616
  t0 : 0 ≤ e.told
  t1 : e.told < 18446744073709551616
  o0 : -9223372036854775808 ≤ e.off
  o1 : e.off < 9223372036854775808
  w0 : -9223372036854775808 ≤ e.want
  w1 : e.want < 9223372036854775808
  ql : e.q.length ≤ 1000000
  qm : ∀ m ∈ e.q, m.length ≤ 1000000000
  pl : e.pt.length ≤ 1000000000
def LEV (e : LE) (A : Option Addr) (c : Nat) (B : Option Addr) (d : Nat) : Array Value :=
  #[.int .i64 e.n, .int .u64 e.s, .int .u64 e.a, .int .i64 e.rn, .int .u64 e.rc, .slice A e.q.length c, .int .i64 e.off, .int .i64 e.want, .slice B e.pt.length d, .int .u64 e.told]
def LBV (e : LE) (A : Option Addr) (c : Nat) (B : Option Addr) (d : Nat) : Array Value :=
  #[.int .i64 e.n, .int .u64 e.s, .int .u64 e.a, .slice A e.q.length c, .int .i64 e.off, .int .i64 e.rn, .int .u64 e.rc, .int .i64 e.want, .slice B e.pt.length d, .int .u64 e.told]
structure Held (w : World) (e : LE) (A : Option Addr) (c : Nat) (B : Option Addr) (d : Nat) : Prop where
  q : IsM w A e.q.length e.q
  qc : e.q.length ≤ c
  p : IsB w B e.pt.length e.pt
  pc : e.pt.length ≤ d
theorem IsM.below {w w' : World} {a : Option Addr} {len : Nat} {ls : List (List UInt8)} (h : IsM w a len ls) (hb : Below w.heap.size w w') : IsM w' a len ls := by
  refine ⟨h.1, fun hn => ?_⟩
  obtain ⟨b, o, e, hc⟩ := h.at_ hb hn
  exact ⟨b, o, e, hc⟩
theorem Held.below {w w' : World} {e : LE} {A B : Option Addr} {c d : Nat} (h : Held w e A c B d) (hb : Below w.heap.size w w') : Held w' e A c B d := ⟨h.q.below hb, h.qc, h.p.below hb, h.pc⟩
theorem ak_self {n s a : Int} (h0 : 0 ≤ a) : akE n s a (IntKind.u16.wrap a) = if vs n s a = true then 0 else 74 := by
  have hm : mv (IntKind.u16.wrap a) a = 0 := by unfold mv; rw [IntKind.wrap_u16]; omega
  unfold akE
  rw [hm]
  split
  · next h =>
    have := (vs_yes h).a0
    rw [if_pos (by omega)]
  · rfl
theorem qOk_at {q : List (List UInt8)} {i : Nat} (h : i < q.length) : qOk (q.drop i) = (decide (q[i].length ≤ 1048576) && qOk (q.drop (i + 1))) := by
  unfold qOk
  rw [List.drop_eq_getElem_cons h, List.all_cons]
set_option maxRecDepth 100000 in
set_option maxHeartbeats 4000000 in
theorem is_cut (k n : Int) (k1 : k < 9223372036854775808) (W : World) : Calls Try.prog 143 #[.int .i64 k, .int .i64 n] W fun e W' => e = .returned (.bool (cutB k n)) ∧ W = W' := by
  by_cases h1 : 52 ≤ k
  · have k2 : k - 52 < 9223372036854775808 := by omega
    have e1 : (k - 52).tmod 56 = (k - 52) % 56 := Int.tmod_eq_emod_of_nonneg (by omega)
    have e2 : wrap64 (k - 52) = k - 52 := IntWalk.wrap64_in _ (by omega)
    by_cases h2 : k < n
    · cases h3 : ((k - 52) % 56 == 0)
      all_goals
        have HC := Lib.hid (show cutB k n = ((k - 52) % 56 == 0) by simp [cutB, h1, h2])
        go_enter Try.func143, Try.ntmps143
        go_wp2
        go_ret
        exact ⟨ret_bool (by rw [HC.out, h3]), rfl⟩
    · have h2' : n ≤ k := by omega
      have h2d : decide (k < n) = false := decide_eq_false h2
      have HC := Lib.hid (show cutB k n = false by unfold cutB; rw [decide_eq_false h2]; simp)
      cases h3 : ((k - 52) % 56 == 0)
      all_goals
        clear h2
        go_enter Try.func143, Try.ntmps143
        go_wp2
        go_ret
        exact ⟨ret_bool (by rw [HC.out]), rfl⟩
  · have h1' : k < 52 := by omega
    have HC := Lib.hid (show cutB k n = false by unfold cutB; rw [decide_eq_false h1]; simp)
    clear h1
    go_enter Try.func143, Try.ntmps143
    go_wp2
    go_ret
    exact ⟨ret_bool (by rw [HC.out]), rfl⟩
theorem headD_len : ∀ {q : List (List UInt8)} (h : 0 < q.length), (q.headD []).length = q[0].length
  | _ :: _, _ => rfl
theorem u16_rng (x : Int) : 0 ≤ IntKind.u16.wrap x ∧ IntKind.u16.wrap x < 65536 := by rw [IntKind.wrap_u16]; omega
theorem both_cells {w : World} {g : Nat} {e : LE} {A B : Option Addr} {c d : Nat} (h : Row w g 155 (LBV e A c B d)) :
    (w.cell? ⟨g, 0, none⟩ = some (.int .i64 e.n) ∧ w.cell? ⟨g, 1, none⟩ = some (.int .u64 e.s) ∧ w.cell? ⟨g, 2, none⟩ = some (.int .u64 e.a) ∧ w.cell? ⟨g, 3, none⟩ = some (.slice A e.q.length c) ∧ w.cell? ⟨g, 4, none⟩ = some (.int .i64 e.off)) ∧
    (w.cell? ⟨g, 5, none⟩ = some (.int .i64 e.rn) ∧ w.cell? ⟨g, 6, none⟩ = some (.int .u64 e.rc) ∧ w.cell? ⟨g, 7, none⟩ = some (.int .i64 e.want) ∧ w.cell? ⟨g, 8, none⟩ = some (.slice B e.pt.length d) ∧ w.cell? ⟨g, 9, none⟩ = some (.int .u64 e.told)) ∧ ∀ i, w.frozen? ⟨g, i, none⟩ = false :=
  ⟨⟨h.cell 0, h.cell 1, h.cell 2, h.cell 3, h.cell 4⟩, ⟨h.cell 5, h.cell 6, h.cell 7, h.cell 8, h.cell 9⟩, h.frozen⟩
def SoundP (e : LE) (W : World) (en : Ending) (W' : World) : Prop := en = .returned (.bool (soundB e)) ∧ Below W.heap.size W W'
theorem sound_no {e : LE} {W W' : World} (h : soundB e = false) (hb : Below W.heap.size W W') : SoundP e W (.returned (.bool false)) W' := ⟨by rw [h], hb⟩
set_option maxRecDepth 100000 in
set_option maxHeartbeats 4000000 in
theorem sound_any (g : Nat) (e : LE) (A B : Option Addr) (c d : Nat) (W : World) (ht : e.ty) (hr : Row W g 155 (LBV e A c B d)) (hH : Held W e A c B d) : Calls Try.prog 136 #[.pointer (some ⟨g, 0, none⟩)] W (SoundP e W) := by
  have hlt := hr.lt
  obtain ⟨⟨c0, c1, c2, c3, c4⟩, -, fz⟩ := both_cells hr
  obtain ⟨x1, x2, x3, hx1, hx2, hx3⟩ : ∃ x1 x2 x3, x1 = akN e.n e.s e.a (IntKind.u16.wrap e.a) ∧ x2 = akS e.n e.s e.a (IntKind.u16.wrap e.a) ∧ x3 = akA e.n e.s e.a (IntKind.u16.wrap e.a) := ⟨_, _, _, rfl, rfl, rfl⟩
  obtain ⟨E, hE⟩ : ∃ E, E = akE e.n e.s e.a (IntKind.u16.wrap e.a) := ⟨_, rfl⟩
  have hk := u16_rng e.a
  have hcon : Hid (∀ w, Calls Try.prog 21 #[.agg #[.int .i64 e.n, .int .u64 e.s, .int .u64 e.a], .int .u16 (IntKind.u16.wrap e.a)] w fun e' w' => e' = .returned (.tuple #[.agg #[.int .i64 x1, .int .u64 x2, .int .u64 x3], .int .i64 E]) ∧ Below w.heap.size w w') := Lib.hid (fun w => by
    have h := acknowledge e.n e.s e.a (IntKind.u16.wrap e.a) ht.s0 ht.s1 ht.a0 hk.1 hk.2 w
    unfold AkPost at h
    rwa [← hx1, ← hx2, ← hx3, ← hE] at h)
  rw [ak_self ht.a0] at hE
  have HE := Lib.hid hE
  clear hx1 hx2 hx3 hE
  go_enter Try.func136, Try.ntmps136
  go_upto_region 1 with (fail)
  refine wp_region_late (n := 71) [15] (CalS W 15 (NoC) 1 14 27 #[.int .i64 x1, .int .u64 x2, .int .u64 x3] 1000 14 27 #[.int .i64 x1, .int .u64 x2, .int .u64 x3]) (Shp W.heap.size) (by kernel_rfl) (by kernel_rfl) (by rfl) (CalS.loc (by decide) (fun c hc => mayAt_no (d := 0) (by kernel_rfl) (by omega) (by decide)) (fun c hc => mayAt_no (d := 0) (by kernel_rfl) (by omega) (by decide))) (CalS.start (by decide) (by decide)) ?_
  iterate 3 (refine late_pure (by simp) (Shp.refl _) (v := ?_) (fun _ => rfl) ?_ ?_; rotate_left; (focus (intro c9 us w9 hm9 hS9 hF; clear hF hm9; go_simp; (try with_reducible rfl); done)); simp only [Act.put, zA, zB, zC, Nat.reduceAdd])
  refine late_pure (by simp) (Shp.refl _) (v := .agg #[.int .i64 e.n, .int .u64 e.s, .int .u64 e.a]) (fun _ => rfl) ?_ ?_; (focus (intro c9 us w9 hm9 hS9 hF; have b0 := (hS9.1.cell (p := ⟨g, 0, none⟩) hlt).trans c0; have b1 := (hS9.1.cell (p := ⟨g, 1, none⟩) hlt).trans c1; have b2 := (hS9.1.cell (p := ⟨g, 2, none⟩) hlt).trans c2; clear hF hm9; go_simp; (try with_reducible rfl); done)); simp only [Act.put, zA, zB, zC, Nat.reduceAdd]
  iterate 4 (refine late_pure (by simp) (Shp.refl _) (v := ?_) (fun _ => rfl) ?_ ?_; rotate_left; (focus (intro c9 us w9 hm9 hS9 hF; clear hF hm9; go_simp; (try with_reducible rfl); done)); simp only [Act.put, zA, zB, zC, Nat.reduceAdd])
  refine late_pure (by simp) (Shp.refl _) (v := .int .u64 e.a) (fun _ => rfl) ?_ ?_; (focus (intro c9 us w9 hm9 hS9 hF; have b0 := (hS9.1.cell (p := ⟨g, 0, none⟩) hlt).trans c0; have b1 := (hS9.1.cell (p := ⟨g, 1, none⟩) hlt).trans c1; have b2 := (hS9.1.cell (p := ⟨g, 2, none⟩) hlt).trans c2; clear hF hm9; go_simp; (try with_reducible rfl); done)); simp only [Act.put, zA, zB, zC, Nat.reduceAdd]
  refine late_pure (by simp) (Shp.refl _) (v := .int .u16 (IntKind.u16.wrap e.a)) (fun _ => rfl) ?_ ?_; (focus (intro c9 us w9 hm9 hS9 hF; clear hF hm9; go_simp; (try with_reducible rfl); done)); simp only [Act.put, zA, zB, zC, Nat.reduceAdd]
  refine late_fix (by simp) (v := .tuple #[.agg #[.int .i64 x1, .int .u64 x2, .int .u64 x3], .int .i64 E]) ?_ ?_; (focus (intro c9 us w9 hm9 hS9 hF K hK; clear hF; go_simp; refine (hcon.out w9).mono ?_; rintro e w' ⟨rfl, hb⟩; exact hK w' (hS9.below hb NoC.mono) (Shp.below hb))); simp only [Act.put, zA, zB, zC, Nat.reduceAdd]
  iterate 3 (refine late_pure (by simp) (Shp.refl _) (v := ?_) (fun _ => rfl) ?_ ?_; rotate_left; (focus (intro c9 us w9 hm9 hS9 hF; clear hF hm9; go_simp; (try with_reducible rfl); done)); simp only [Act.put, zA, zB, zC, Nat.reduceAdd])
  refine late_free (by simp) (PtrN W.heap.size 27 3) PtrN.mono ?_ ?_; (focus (intro c9 us w9 hm9 hS9 hF K hK; go_simp; exact hK _ _ (hS9.alloc NoC.mono (.cells ZS 27)) (Shp.alloc _ _ _) ⟨w9.heap.size, ZS, rfl, hS9.1.size, Row.born w9 27 ZS, rfl⟩)); simp only [Act.put, zA, zB, zC, Nat.reduceAdd]
  refine late_store rfl ?_ ?_; (focus (intro us w9 hS9 hF K hK; obtain ⟨b3, cs, hu, hb3, hr, hn⟩ := hF (14, PtrN W.heap.size 27 3) (by simp) (by kernel_rfl); simp only [hu] at hK ⊢; rw [if_pos (by rfl)]; exact step_put (L := #[.int .i64 x1, .int .u64 x2, .int .u64 x3]) hr hn info27 (sender_one _ _ _) rfl rfl (fun w' u' r' => hK w' (hS9.st1 u' r' hu hb3 (by omega) (by omega) (fun h => trivial)) (Shp.upd u' hr r' hn)))); simp only [Nat.reduceAdd]
  refine late_pure (by simp) (Shp.refl _) (v := ?_) (fun _ => rfl) ?_ ?_; rotate_left; (focus (intro c9 us w9 hm9 hS9 hF; clear hF hm9; go_simp; (try with_reducible rfl); done)); simp only [Act.put, zA, zB, zC, Nat.reduceAdd]
  refine late_done fun us w1 hS8 hF => ?_
  obtain ⟨g3, hu1, hg3, r3⟩ := hS8.2.2.1 (by omega)
  have hBa := hS8.1
  clear hF hS8
  simp only [hu1]
  clear hu1 r3 hcon hk
  obtain ⟨⟨c0, c1, c2, c3, c4⟩, -, fz⟩ := both_cells (hr.below hBa hlt)
  have hq1 := hH.q.below hBa
  have hE := HE.out
  clear HE
  cases hv : vs e.n e.s e.a
  · rw [hv] at hE
    have hE2 : E = 74 := hE
    clear hE
    subst hE2
    have HS := Lib.hid (show soundB e = false by simp [soundB, hv])
    clear hv
    go_wp2
    go_ret
    exact sound_no HS.out hBa
  rw [hv] at hE
  have hE2 : E = 0 := hE
  clear hE
  subst hE2
  by_cases hl : 64 < e.q.length
  · have HS := Lib.hid (show soundB e = false by unfold soundB; rw [decide_eq_false (by omega : ¬ e.q.length ≤ 64)]; simp)
    have hd : decide (64 < e.q.length) = true := by simpa using hl
    clear hv
    go_wp2
    go_ret
    exact sound_no HS.out hBa
  have hd : decide (64 < e.q.length) = false := by simpa using hl
  have HS := Lib.hid (show soundB e = (qOk (e.q.drop 0) && offOk e.off e.q) by unfold soundB; rw [hv, decide_eq_true (by omega : e.q.length ≤ 64)]; simp)
  clear hv
  go_upto_region 5 with (fail)
  go_loop [36] (fun i => ∃ j : Nat, j ≤ e.q.length ∧ i = .int .i64 j ∧ Hid (soundB e = (qOk (e.q.drop j) && offOk e.off e.q))) (fun i => e.q.length - (intOf i).toNat)
  case atStart => exact ⟨0, by omega, rfl, HS⟩
  case round =>
    clear HS
    obtain ⟨j, hj, rfl, HS⟩ := hrel
    rcases Nat.lt_or_ge j e.q.length with hjl | hjl
    · have hd1 : decide (j < e.q.length) = true := by simpa using hjl
      have hji : (j : Int) < e.q.length := by omega
      obtain ⟨b, o, hA, hrow⟩ := hq1.2 (by omega)
      subst hA
      obtain ⟨Ar, Cr, x, -, -, -⟩ := hrow j hjl
      have hat := qOk_at hjl
      clear hrow
      generalize e.q[j].length = L at *
      by_cases hL : 1048576 < L
      · have hd2 : decide (1048576 < L) = true := by simpa using hL
        have HF := Lib.hid (show soundB e = false by rw [HS.out, hat, decide_eq_false (by omega : ¬ L ≤ 1048576)]; simp)
        clear hat
        go_wp2
        go_ret
        exact sound_no HF.out hBa
      · have hd2 : decide (1048576 < L) = false := by simpa using hL
        have HN := Lib.hid (show soundB e = (qOk (e.q.drop (j + 1)) && offOk e.off e.q) by rw [HS.out, hat, decide_eq_true (by omega : L ≤ 1048576)]; simp)
        clear hat HS
        go_wp2
        go_round
        case rel => exact ⟨j + 1, by omega, by go_num, HN⟩
        case measure => simp [intOf]; omega
    · have hd1 : decide (e.q.length < e.q.length) = false := by simp
      have hd3 : decide (j < e.q.length) = false := by simpa using hjl
      have HN := Lib.hid (show soundB e = offOk e.off e.q by rw [HS.out, List.drop_eq_nil_of_le hjl]; simp [qOk])
      clear HS
      go_upto_region 10 with (fail)
      have c3 : w1.drew.cell? ⟨g, 3, none⟩ = some (.slice A e.q.length c) := c3
      have c4 : w1.drew.cell? ⟨g, 4, none⟩ = some (.int .i64 e.off) := c4
      have hq1 : IsM w1.drew A e.q.length e.q := hq1
      have hBa : Below W.heap.size W w1.drew := hBa.drew
      have e0 := ht.o0
      have e1 := ht.o1
      by_cases hoff : e.off = -1
      · have ho : (e.off == -1) = true := by simpa using hoff
        have HO := Lib.hid (show soundB e = true by rw [HN.out]; unfold offOk; rw [ho]; rfl)
        clear hoff
        refine wp_region_told (n := 71) (fun w' => w' = w1.drew) (fun _ _ => True) (by kernel_rfl) (by kernel_rfl) (by rfl) rfl ?_
        repeat (first | (refine walk_pure (v := ?_) (fun _ => trivial) (fun _ => rfl) ?_ ?_; rotate_left; (focus (intro us w9 hS9 hF; subst hS9; go_simp; (try with_reducible rfl); done)); simp only [Act.put, zA, zB, zC, Nat.reduceAdd]) | (refine walk_skip (fun _ => trivial) (fun _ => rfl) ?_; simp only [Act.put, zA, zB, zC, Nat.reduceAdd]))
        refine walk_done fun us w9 hS9 hF => ?_; subst hS9; clear hF; go_wp2; go_ret
        exact ⟨ret_bool HO.out.symm, hBa⟩
      · have ho : (e.off == -1) = false := by simpa using hoff
        clear hoff
        by_cases h0 : e.q.length = 0
        · have h1 : decide (0 < e.q.length) = false := decide_eq_false (by omega)
          have HO := Lib.hid (show soundB e = false by rw [HN.out]; unfold offOk; rw [ho, h1]; rfl)
          clear h0
          refine wp_region_told (n := 71) (fun w' => w' = w1.drew) (fun _ _ => True) (by kernel_rfl) (by kernel_rfl) (by rfl) rfl ?_
          repeat (first | (refine walk_pure (v := ?_) (fun _ => trivial) (fun _ => rfl) ?_ ?_; rotate_left; (focus (intro us w9 hS9 hF; subst hS9; go_simp; (try with_reducible rfl); done)); simp only [Act.put, zA, zB, zC, Nat.reduceAdd]) | (refine walk_skip (fun _ => trivial) (fun _ => rfl) ?_; simp only [Act.put, zA, zB, zC, Nat.reduceAdd]))
          refine walk_done fun us w9 hS9 hF => ?_; subst hS9; clear hF; go_wp2; go_ret
          exact ⟨ret_bool HO.out.symm, hBa⟩
        · have h1 : decide (0 < e.q.length) = true := decide_eq_true (by omega)
          have h2 : 0 < e.q.length := by omega
          obtain ⟨b, o, hA, hrow⟩ := hq1.2 h2
          subst hA
          obtain ⟨Ar, Cr, x, -, -, -⟩ := hrow 0 h2
          have hhd := headD_len h2
          have HO := Lib.hid (show soundB e = cutB e.off e.q[0].length by rw [HN.out]; unfold offOk; rw [ho, h1, hhd]; simp)
          have x : w1.drew.cell? ⟨b, o, none⟩ = some (.slice Ar e.q[0].length Cr) := x
          clear hrow hhd
          generalize e.q[0].length = L at *
          refine wp_region_told (n := 71) (fun w' => w' = w1.drew) (fun _ _ => True) (by kernel_rfl) (by kernel_rfl) (by rfl) rfl ?_
          repeat (first | (refine walk_pure (v := ?_) (fun _ => trivial) (fun _ => rfl) ?_ ?_; rotate_left; (focus (intro us w9 hS9 hF; subst hS9; go_simp; (try with_reducible rfl); done)); simp only [Act.put, zA, zB, zC, Nat.reduceAdd]) | (refine walk_skip (fun _ => trivial) (fun _ => rfl) ?_; simp only [Act.put, zA, zB, zC, Nat.reduceAdd]))
          refine walk_fix (v := .bool (cutB e.off L)) ?_ ?_; (focus (intro us w9 hS9 hF K hK; subst hS9; go_simp; refine (is_cut _ _ e1 _).mono ?_; rintro e' w' ⟨rfl, rfl⟩; exact hK _ rfl trivial)); simp only [Act.put, zA, zB, zC, Nat.reduceAdd]
          repeat (first | (refine walk_pure (v := ?_) (fun _ => trivial) (fun _ => rfl) ?_ ?_; rotate_left; (focus (intro us w9 hS9 hF; subst hS9; go_simp; (try with_reducible rfl); done)); simp only [Act.put, zA, zB, zC, Nat.reduceAdd]) | (refine walk_skip (fun _ => trivial) (fun _ => rfl) ?_; simp only [Act.put, zA, zB, zC, Nat.reduceAdd]))
          refine walk_done fun us w9 hS9 hF => ?_; subst hS9; clear hF; go_wp2; go_ret
          exact ⟨ret_bool HO.out.symm, hBa⟩
def CompP (e : LE) (W : World) (en : Ending) (W' : World) : Prop := en = .returned (.bool (compB e)) ∧ Below W.heap.size W W'
theorem comp_mk {e : LE} {b : Bool} {W W' : World} (h : compB e = b) (hb : Below W.heap.size W W') : CompP e W (.returned (.bool b)) W' := ⟨by rw [h], hb⟩
set_option maxRecDepth 100000 in
set_option maxHeartbeats 4000000 in
theorem comp_vl (g : Nat) (e : LE) (A B : Option Addr) (c d : Nat) (W : World) (ht : e.ty) (hr : Row W g 155 (LBV e A c B d)) (hv : vl e.rn = false) : Calls Try.prog 137 #[.pointer (some ⟨g, 5, none⟩)] W (CompP e W) := by
  have HC := Lib.hid (show compB e = false by simp [compB, vr, hv])
  have e1 : nsE e.rn = 6 := by simp [nsE, hv]
  have hlt := hr.lt
  go_enter Try.func137, Try.ntmps137
  obtain ⟨-, ⟨c5, c6, c7, c8, c9⟩, fz⟩ := both_cells hr
  go_upto_region 2 with (go_at_call 28; refine (receiver_any _ _).mono ?_; rintro e1 w1 ⟨rfl, hb⟩)
  clear c5 c6 c7 c8 c9 fz
  have r3 := Row.born w1 35 #[.int .i64 (nsN e.rn), .int .u64 0]
  have hBa := hb.trans (((Below.refl w1.heap.size w1).alloc (Nat.le_refl _) (.cells #[.int .i64 (nsN e.rn), .int .u64 0] 35)).mono hb.size)
  generalize w1.alloc (.cells #[.int .i64 (nsN e.rn), .int .u64 0] 35) = w2 at *
  have r3 : Row w2.drew w1.heap.size 35 #[.int .i64 (nsN e.rn), .int .u64 0] := r3
  have hr2 := hr.below hBa hlt
  have hr2 : Row w2.drew g 155 (LBV e A c B d) := hr2
  have hBa : Below W.heap.size W w2.drew := hBa.drew
  obtain ⟨-, ⟨c5, c6, c7, c8, c9⟩, fz⟩ := both_cells hr2
  obtain ⟨⟨d0, d1⟩, fd⟩ := two_cells r3
  refine wp_region_told (n := 74) (fun w' => w' = w2.drew) (fun _ _ => True) (by kernel_rfl) (by kernel_rfl) (by rfl) rfl ?_
  repeat (first | (refine walk_pure (v := ?_) (fun _ => trivial) (fun _ => rfl) ?_ ?_; rotate_left; (focus (intro us w9 hS9 hF; subst hS9; go_simp; (try with_reducible rfl); done)); simp only [Act.put, zA, zB, zC, Nat.reduceAdd]) | (refine walk_skip (fun _ => trivial) (fun _ => rfl) ?_; simp only [Act.put, zA, zB, zC, Nat.reduceAdd]))
  refine walk_done fun us w9 hS9 hF => ?_; subst hS9; clear hF
  go_wp2
  go_ret
  exact comp_mk HC.out hBa
set_option maxRecDepth 100000 in
set_option maxHeartbeats 4000000 in
theorem comp_rc (g : Nat) (e : LE) (A B : Option Addr) (c d : Nat) (W : World) (ht : e.ty) (hr : Row W g 155 (LBV e A c B d)) (hv : vl e.rn = true) (h : 4611686018427387904 < e.rc) : Calls Try.prog 137 #[.pointer (some ⟨g, 5, none⟩)] W (CompP e W) := by
  have HC := Lib.hid (show compB e = false by unfold compB vr; rw [decide_eq_false (by omega : ¬ e.rc ≤ 4611686018427387904)]; simp)
  have e1 : nsE e.rn = 0 := by simp [nsE, hv]
  have d1 : decide (4611686018427387904 < e.rc) = true := by simpa using h
  clear hv
  have hlt := hr.lt
  go_enter Try.func137, Try.ntmps137
  obtain ⟨-, ⟨c5, c6, c7, c8, c9⟩, fz⟩ := both_cells hr
  go_upto_region 2 with (go_at_call 28; refine (receiver_any _ _).mono ?_; rintro e1 w1 ⟨rfl, hb⟩)
  clear c5 c6 c7 c8 c9 fz
  have r3 := Row.born w1 35 #[.int .i64 (nsN e.rn), .int .u64 0]
  have hBa := hb.trans (((Below.refl w1.heap.size w1).alloc (Nat.le_refl _) (.cells #[.int .i64 (nsN e.rn), .int .u64 0] 35)).mono hb.size)
  generalize w1.alloc (.cells #[.int .i64 (nsN e.rn), .int .u64 0] 35) = w2 at *
  have r3 : Row w2.drew w1.heap.size 35 #[.int .i64 (nsN e.rn), .int .u64 0] := r3
  have hr2 := hr.below hBa hlt
  have hr2 : Row w2.drew g 155 (LBV e A c B d) := hr2
  have hBa : Below W.heap.size W w2.drew := hBa.drew
  obtain ⟨-, ⟨c5, c6, c7, c8, c9⟩, fz⟩ := both_cells hr2
  obtain ⟨⟨d0, d1⟩, fd⟩ := two_cells r3
  refine wp_region_told (n := 74) (fun w' => w' = w2.drew) (fun _ _ => True) (by kernel_rfl) (by kernel_rfl) (by rfl) rfl ?_
  repeat (first | (refine walk_pure (v := ?_) (fun _ => trivial) (fun _ => rfl) ?_ ?_; rotate_left; (focus (intro us w9 hS9 hF; subst hS9; go_simp; (try with_reducible rfl); done)); simp only [Act.put, zA, zB, zC, Nat.reduceAdd]) | (refine walk_skip (fun _ => trivial) (fun _ => rfl) ?_; simp only [Act.put, zA, zB, zC, Nat.reduceAdd]))
  refine walk_done fun us w9 hS9 hF => ?_; subst hS9; clear hF
  go_wp2
  go_ret
  exact comp_mk HC.out hBa
set_option maxRecDepth 100000 in
set_option maxHeartbeats 4000000 in
theorem comp_told (g : Nat) (e : LE) (A B : Option Addr) (c d : Nat) (W : World) (ht : e.ty) (hr : Row W g 155 (LBV e A c B d)) (hv : vl e.rn = true) (h : e.rc ≤ 4611686018427387904) (h2 : e.rc < e.told) : Calls Try.prog 137 #[.pointer (some ⟨g, 5, none⟩)] W (CompP e W) := by
  have HC := Lib.hid (show compB e = false by unfold compB; rw [decide_eq_false (by omega : ¬ e.told ≤ e.rc)]; simp)
  have e1 : nsE e.rn = 0 := by simp [nsE, hv]
  have d1 : decide (4611686018427387904 < e.rc) = false := by simpa using h
  have d2 : decide (e.rc < e.told) = true := by simpa using h2
  clear hv
  have hlt := hr.lt
  go_enter Try.func137, Try.ntmps137
  obtain ⟨-, ⟨c5, c6, c7, c8, c9⟩, fz⟩ := both_cells hr
  go_upto_region 2 with (go_at_call 28; refine (receiver_any _ _).mono ?_; rintro e1 w1 ⟨rfl, hb⟩)
  clear c5 c6 c7 c8 c9 fz
  have r3 := Row.born w1 35 #[.int .i64 (nsN e.rn), .int .u64 0]
  have hBa := hb.trans (((Below.refl w1.heap.size w1).alloc (Nat.le_refl _) (.cells #[.int .i64 (nsN e.rn), .int .u64 0] 35)).mono hb.size)
  generalize w1.alloc (.cells #[.int .i64 (nsN e.rn), .int .u64 0] 35) = w2 at *
  have r3 : Row w2.drew w1.heap.size 35 #[.int .i64 (nsN e.rn), .int .u64 0] := r3
  have hr2 := hr.below hBa hlt
  have hr2 : Row w2.drew g 155 (LBV e A c B d) := hr2
  have hBa : Below W.heap.size W w2.drew := hBa.drew
  obtain ⟨-, ⟨c5, c6, c7, c8, c9⟩, fz⟩ := both_cells hr2
  obtain ⟨⟨d0, d1⟩, fd⟩ := two_cells r3
  refine wp_region_told (n := 74) (fun w' => w' = w2.drew) (fun _ _ => True) (by kernel_rfl) (by kernel_rfl) (by rfl) rfl ?_
  repeat (first | (refine walk_pure (v := ?_) (fun _ => trivial) (fun _ => rfl) ?_ ?_; rotate_left; (focus (intro us w9 hS9 hF; subst hS9; go_simp; (try with_reducible rfl); done)); simp only [Act.put, zA, zB, zC, Nat.reduceAdd]) | (refine walk_skip (fun _ => trivial) (fun _ => rfl) ?_; simp only [Act.put, zA, zB, zC, Nat.reduceAdd]))
  refine walk_done fun us w9 hS9 hF => ?_; subst hS9; clear hF
  go_wp2
  go_ret
  exact comp_mk HC.out hBa
set_option maxRecDepth 100000 in
set_option maxHeartbeats 4000000 in
theorem comp_ok (g : Nat) (e : LE) (A B : Option Addr) (c d : Nat) (W : World) (ht : e.ty) (hr : Row W g 155 (LBV e A c B d)) (hv : vl e.rn = true) (h : e.rc ≤ 4611686018427387904) (h2 : e.told ≤ e.rc) : Calls Try.prog 137 #[.pointer (some ⟨g, 5, none⟩)] W (CompP e W) := by
  have e1 : nsE e.rn = 0 := by simp [nsE, hv]
  have e2 : nsN e.rn = e.rn := by simp [nsN, hv]
  have d1 : decide (4611686018427387904 < e.rc) = false := by simpa using h
  have d2 : decide (e.rc < e.told) = false := by simpa using h2
  have HC := Lib.hid (show compB e = partOk e.want e.pt by unfold compB vr; rw [hv, decide_eq_true h, decide_eq_true h2]; simp)
  have E2 := Lib.hid e2
  clear hv e2
  have hlt := hr.lt
  go_enter Try.func137, Try.ntmps137
  obtain ⟨-, ⟨c5, c6, c7, c8, c9⟩, fz⟩ := both_cells hr
  go_upto_region 2 with (go_at_call 28; refine (receiver_any _ _).mono ?_; rintro e1 w1 ⟨rfl, hb⟩)
  clear c5 c6 c7 c8 c9 fz
  have r3 := Row.born w1 35 #[.int .i64 (nsN e.rn), .int .u64 0]
  have hBa := hb.trans (((Below.refl w1.heap.size w1).alloc (Nat.le_refl _) (.cells #[.int .i64 (nsN e.rn), .int .u64 0] 35)).mono hb.size)
  generalize w1.alloc (.cells #[.int .i64 (nsN e.rn), .int .u64 0] 35) = w2 at *
  have r3 : Row w2.drew w1.heap.size 35 #[.int .i64 (nsN e.rn), .int .u64 0] := r3
  have hr2 := hr.below hBa hlt
  have hr2 : Row w2.drew g 155 (LBV e A c B d) := hr2
  have hBa : Below W.heap.size W w2.drew := hBa.drew
  obtain ⟨-, ⟨c5, c6, c7, c8, c9⟩, fz⟩ := both_cells hr2
  rw [E2.out] at r3
  obtain ⟨⟨d0, d1⟩, fd⟩ := two_cells r3
  refine wp_region_told (n := 74) (fun w' => w' = w2.drew) (fun _ _ => True) (by kernel_rfl) (by kernel_rfl) (by rfl) rfl ?_
  repeat (first | (refine walk_pure (v := ?_) (fun _ => trivial) (fun _ => rfl) ?_ ?_; rotate_left; (focus (intro us w9 hS9 hF; subst hS9; go_simp; (try with_reducible rfl); done)); simp only [Act.put, zA, zB, zC, Nat.reduceAdd]) | (refine walk_skip (fun _ => trivial) (fun _ => rfl) ?_; simp only [Act.put, zA, zB, zC, Nat.reduceAdd]))
  refine walk_done fun us w9 hS9 hF => ?_; subst hS9; clear hF
  by_cases hw : e.want = -1
  · have hw1 : (e.want == -1) = true := by simpa using hw
    have HP := Lib.hid (show compB e = (e.pt.length == 0) by rw [HC.out]; unfold partOk; rw [if_pos hw])
    clear hw
    cases hl : e.pt.length == 0
    · have hl1 : ((e.pt.length : Int) == 0) = false := by rw [beq_eq_false_iff_ne] at hl ⊢; omega
      have HQ := Lib.hid (HP.out.trans hl)
      clear hl
      go_wp2
      go_ret
      exact comp_mk HQ.out hBa
    · have hl1 : ((e.pt.length : Int) == 0) = true := by rw [beq_iff_eq] at hl ⊢; omega
      have HQ := Lib.hid (HP.out.trans hl)
      clear hl
      go_wp2
      go_ret
      exact comp_mk HQ.out hBa
  · have hw1 : (e.want == -1) = false := by simpa using hw
    have HP := Lib.hid (show compB e = (decide (e.want ≤ 1048576) && cutB e.pt.length e.want) by rw [HC.out]; unfold partOk; rw [if_neg hw])
    clear hw
    go_upto_region 6 with (fail)
    have c7 : w2.drew.drew.cell? ⟨g, 7, none⟩ = some (.int .i64 e.want) := c7
    have c8 : w2.drew.drew.cell? ⟨g, 8, none⟩ = some (.slice B e.pt.length d) := c8
    have hBa : Below W.heap.size W w2.drew.drew := hBa.drew
    have hpl : (e.pt.length : Int) < 9223372036854775808 := by have := ht.pl; omega
    by_cases hm : e.want ≤ 1048576
    · have hm1 : decide (e.want ≤ 1048576) = true := decide_eq_true hm
      have HQ := Lib.hid (show compB e = cutB e.pt.length e.want by rw [HP.out, hm1]; rfl)
      refine wp_region_told (n := 74) (fun w' => w' = w2.drew.drew) (fun _ _ => True) (by kernel_rfl) (by kernel_rfl) (by rfl) rfl ?_
      repeat (first | (refine walk_pure (v := ?_) (fun _ => trivial) (fun _ => rfl) ?_ ?_; rotate_left; (focus (intro us w9 hS9 hF; subst hS9; go_simp; (try with_reducible rfl); done)); simp only [Act.put, zA, zB, zC, Nat.reduceAdd]) | (refine walk_skip (fun _ => trivial) (fun _ => rfl) ?_; simp only [Act.put, zA, zB, zC, Nat.reduceAdd]))
      refine walk_fix (v := .bool (cutB e.pt.length e.want)) ?_ ?_; (focus (intro us w9 hS9 hF K hK; subst hS9; go_simp; refine (is_cut _ _ hpl _).mono ?_; rintro e' w' ⟨rfl, rfl⟩; exact hK _ rfl trivial)); simp only [Act.put, zA, zB, zC, Nat.reduceAdd]
      repeat (first | (refine walk_pure (v := ?_) (fun _ => trivial) (fun _ => rfl) ?_ ?_; rotate_left; (focus (intro us w9 hS9 hF; subst hS9; go_simp; (try with_reducible rfl); done)); simp only [Act.put, zA, zB, zC, Nat.reduceAdd]) | (refine walk_skip (fun _ => trivial) (fun _ => rfl) ?_; simp only [Act.put, zA, zB, zC, Nat.reduceAdd]))
      refine walk_done fun us w9 hS9 hF => ?_; subst hS9; clear hF
      go_wp2
      go_ret
      exact comp_mk HQ.out hBa
    · have hm1 : decide (e.want ≤ 1048576) = false := decide_eq_false hm
      have HQ := Lib.hid (show compB e = false by rw [HP.out, hm1]; rfl)
      refine wp_region_told (n := 74) (fun w' => w' = w2.drew.drew) (fun _ _ => True) (by kernel_rfl) (by kernel_rfl) (by rfl) rfl ?_
      repeat (first | (refine walk_pure (v := ?_) (fun _ => trivial) (fun _ => rfl) ?_ ?_; rotate_left; (focus (intro us w9 hS9 hF; subst hS9; go_simp; (try with_reducible rfl); done)); simp only [Act.put, zA, zB, zC, Nat.reduceAdd]) | (refine walk_skip (fun _ => trivial) (fun _ => rfl) ?_; simp only [Act.put, zA, zB, zC, Nat.reduceAdd]))
      refine walk_done fun us w9 hS9 hF => ?_; subst hS9; clear hF
      go_wp2
      go_ret
      exact comp_mk HQ.out hBa
theorem comp_any (g : Nat) (e : LE) (A B : Option Addr) (c d : Nat) (W : World) (ht : e.ty) (hr : Row W g 155 (LBV e A c B d)) : Calls Try.prog 137 #[.pointer (some ⟨g, 5, none⟩)] W (CompP e W) := by
  cases hv : vl e.rn
  · exact comp_vl g e A B c d W ht hr hv
  · by_cases h : e.rc ≤ 4611686018427387904
    · by_cases h2 : e.told ≤ e.rc
      · exact comp_ok g e A B c d W ht hr hv h h2
      · exact comp_told g e A B c d W ht hr hv h (by omega)
    · exact comp_rc g e A B c d W ht hr hv (by omega)
theorem end_cells {w : World} {g : Nat} {e : LE} {A B : Option Addr} {c d : Nat} (h : Row w g 69 (LEV e A c B d)) :
    (w.cell? ⟨g, 0, none⟩ = some (.int .i64 e.n) ∧ w.cell? ⟨g, 1, none⟩ = some (.int .u64 e.s) ∧ w.cell? ⟨g, 2, none⟩ = some (.int .u64 e.a) ∧ w.cell? ⟨g, 3, none⟩ = some (.int .i64 e.rn) ∧ w.cell? ⟨g, 4, none⟩ = some (.int .u64 e.rc)) ∧
    (w.cell? ⟨g, 5, none⟩ = some (.slice A e.q.length c) ∧ w.cell? ⟨g, 6, none⟩ = some (.int .i64 e.off) ∧ w.cell? ⟨g, 7, none⟩ = some (.int .i64 e.want) ∧ w.cell? ⟨g, 8, none⟩ = some (.slice B e.pt.length d) ∧ w.cell? ⟨g, 9, none⟩ = some (.int .u64 e.told)) ∧ ∀ i, w.frozen? ⟨g, i, none⟩ = false :=
  ⟨⟨h.cell 0, h.cell 1, h.cell 2, h.cell 3, h.cell 4⟩, ⟨h.cell 5, h.cell 6, h.cell 7, h.cell 8, h.cell 9⟩, h.frozen⟩
def ValP (e : LE) (W : World) (en : Ending) (W' : World) : Prop := en = .returned (.bool (vE e)) ∧ Below W.heap.size W W'
theorem val_mk {e : LE} {b : Bool} {W W' : World} (h : vE e = b) (hb : Below W.heap.size W W') : ValP e W (.returned (.bool b)) W' := ⟨by rw [h], hb⟩
theorem sound_is {g : Nat} {e : LE} {A B : Option Addr} {c d : Nat} {W : World} {b : Bool} (hs : soundB e = b) (ht : e.ty) (hr : Row W g 155 (LBV e A c B d)) (hH : Held W e A c B d) : Calls Try.prog 136 #[.pointer (some ⟨g, 0, none⟩)] W (fun en W' => en = .returned (.bool b) ∧ Below W.heap.size W W') :=
  (sound_any g e A B c d W ht hr hH).mono fun en W' h => by rw [← hs]; exact h
theorem comp_is {g : Nat} {e : LE} {A B : Option Addr} {c d : Nat} {W : World} {b : Bool} (hs : compB e = b) (ht : e.ty) (hr : Row W g 155 (LBV e A c B d)) : Calls Try.prog 137 #[.pointer (some ⟨g, 5, none⟩)] W (fun en W' => en = .returned (.bool b) ∧ Below W.heap.size W W') :=
  (comp_any g e A B c d W ht hr).mono fun en W' h => by rw [← hs]; exact h
set_option maxRecDepth 100000 in
set_option maxHeartbeats 4000000 in
theorem valid_s (e : LE) (A B : Option Addr) (c d : Nat) (W : World) (ht : e.ty) (hH : Held W e A c B d) (hs : soundB e = false) : Calls Try.prog 101 #[.agg (LEV e A c B d)] W (ValP e W) := by
  have HS := Lib.hid hs
  have HV := Lib.hid (show vE e = false by simp [vE, hs])
  clear hs
  have hB1 := (Below.refl W.heap.size W).alloc (Nat.le_refl _) (.cells (LEV e A c B d) 69)
  have r1 := Row.born W 69 (LEV e A c B d)
  have hs1 : (W.alloc (.cells (LEV e A c B d) 69)).heap.size = W.heap.size + 1 := by simp
  go_enter Try.func101, Try.ntmps101
  go_upto_region 1 with (fail)
  generalize W.alloc (.cells (LEV e A c B d) 69) = w1 at *
  obtain ⟨⟨c0, c1, c2, c3, c4⟩, ⟨c5, c6, c7, c8, c9⟩, -⟩ := end_cells r1
  go_upto_region 2 with (fail)
  have hBw := hB1.alloc hB1.size (.cells (LBV e A c B d) 155)
  have hr : Row (w1.alloc (.cells (LBV e A c B d) 155)) w1.heap.size 155 (LBV e A c B d) := Row.born w1 155 (LBV e A c B d)
  change Code.wp _ _ _ _ (w1.alloc (.cells (LBV e A c B d) 155))
  clear c0 c1 c2 c3 c4 c5 c6 c7 c8 c9 r1
  generalize w1.alloc (.cells (LBV e A c B d) 155) = w2 at *
  rw [hs1] at hr
  clear hs1
  have hH2 := hH.below hBw
  obtain ⟨⟨c0, -, -, -, -⟩, ⟨c5, -, -, -, -⟩, fz⟩ := both_cells hr
  have hlt := hr.lt
  refine wp_region_told (n := 47) (fun w' => Below w2.heap.size w2 w') (fun _ _ => True) (by kernel_rfl) (by kernel_rfl) (by rfl) (Below.refl _ _).drew ?_
  repeat (first | (refine walk_pure (v := ?_) (fun _ => trivial) (fun _ => rfl) ?_ ?_; rotate_left; (focus (intro us w9 hS9 hF; have b0 := (hS9.cell (p := ⟨W.heap.size + 1, 0, none⟩) hlt).trans c0; have b5 := (hS9.cell (p := ⟨W.heap.size + 1, 5, none⟩) hlt).trans c5; clear hF; go_simp; (try with_reducible rfl); done)); simp only [Act.put, zA, zB, zC, Nat.reduceAdd]) | (refine walk_skip (fun _ => trivial) (fun _ => rfl) ?_; simp only [Act.put, zA, zB, zC, Nat.reduceAdd]))
  refine walk_fix (v := .bool false) ?_ ?_; (focus (intro us w9 hS9 hF K hK; clear hF; go_simp; refine (sound_is HS.out ht (hr.below hS9 hlt) (hH2.below hS9)).mono ?_; rintro e' w' ⟨rfl, hb⟩; exact hK _ (below_on hS9 hb) trivial)); simp only [Act.put, zA, zB, zC, Nat.reduceAdd]
  repeat (first | (refine walk_pure (v := ?_) (fun _ => trivial) (fun _ => rfl) ?_ ?_; rotate_left; (focus (intro us w9 hS9 hF; have b0 := (hS9.cell (p := ⟨W.heap.size + 1, 0, none⟩) hlt).trans c0; have b5 := (hS9.cell (p := ⟨W.heap.size + 1, 5, none⟩) hlt).trans c5; clear hF; go_simp; (try with_reducible rfl); done)); simp only [Act.put, zA, zB, zC, Nat.reduceAdd]) | (refine walk_skip (fun _ => trivial) (fun _ => rfl) ?_; simp only [Act.put, zA, zB, zC, Nat.reduceAdd]))
  refine walk_done fun us w9 hS9 hF => ?_
  clear hF
  go_wp2
  go_ret
  exact val_mk HV.out (hBw.trans (hS9.mono hBw.size))
set_option maxRecDepth 100000 in
set_option maxHeartbeats 4000000 in
theorem valid_c (e : LE) (A B : Option Addr) (c d : Nat) (W : World) (ht : e.ty) (hH : Held W e A c B d) (hs : soundB e = true) (hc : compB e = false) : Calls Try.prog 101 #[.agg (LEV e A c B d)] W (ValP e W) := by
  have HS := Lib.hid hs
  have HC := Lib.hid hc
  have HV := Lib.hid (show vE e = false by simp [vE, hc])
  clear hs hc
  have hB1 := (Below.refl W.heap.size W).alloc (Nat.le_refl _) (.cells (LEV e A c B d) 69)
  have r1 := Row.born W 69 (LEV e A c B d)
  have hs1 : (W.alloc (.cells (LEV e A c B d) 69)).heap.size = W.heap.size + 1 := by simp
  go_enter Try.func101, Try.ntmps101
  go_upto_region 1 with (fail)
  generalize W.alloc (.cells (LEV e A c B d) 69) = w1 at *
  obtain ⟨⟨c0, c1, c2, c3, c4⟩, ⟨c5, c6, c7, c8, c9⟩, -⟩ := end_cells r1
  go_upto_region 2 with (fail)
  have hBw := hB1.alloc hB1.size (.cells (LBV e A c B d) 155)
  have hr : Row (w1.alloc (.cells (LBV e A c B d) 155)) w1.heap.size 155 (LBV e A c B d) := Row.born w1 155 (LBV e A c B d)
  change Code.wp _ _ _ _ (w1.alloc (.cells (LBV e A c B d) 155))
  clear c0 c1 c2 c3 c4 c5 c6 c7 c8 c9 r1
  generalize w1.alloc (.cells (LBV e A c B d) 155) = w2 at *
  rw [hs1] at hr
  clear hs1
  have hH2 := hH.below hBw
  obtain ⟨⟨c0, -, -, -, -⟩, ⟨c5, -, -, -, -⟩, fz⟩ := both_cells hr
  have hlt := hr.lt
  refine wp_region_told (n := 47) (fun w' => Below w2.heap.size w2 w') (fun _ _ => True) (by kernel_rfl) (by kernel_rfl) (by rfl) (Below.refl _ _).drew ?_
  repeat (first | (refine walk_pure (v := ?_) (fun _ => trivial) (fun _ => rfl) ?_ ?_; rotate_left; (focus (intro us w9 hS9 hF; have b0 := (hS9.cell (p := ⟨W.heap.size + 1, 0, none⟩) hlt).trans c0; have b5 := (hS9.cell (p := ⟨W.heap.size + 1, 5, none⟩) hlt).trans c5; clear hF; go_simp; (try with_reducible rfl); done)); simp only [Act.put, zA, zB, zC, Nat.reduceAdd]) | (refine walk_skip (fun _ => trivial) (fun _ => rfl) ?_; simp only [Act.put, zA, zB, zC, Nat.reduceAdd]))
  refine walk_fix (v := .bool true) ?_ ?_; (focus (intro us w9 hS9 hF K hK; clear hF; go_simp; refine (sound_is HS.out ht (hr.below hS9 hlt) (hH2.below hS9)).mono ?_; rintro e' w' ⟨rfl, hb⟩; exact hK _ (below_on hS9 hb) trivial)); simp only [Act.put, zA, zB, zC, Nat.reduceAdd]
  repeat (first | (refine walk_pure (v := ?_) (fun _ => trivial) (fun _ => rfl) ?_ ?_; rotate_left; (focus (intro us w9 hS9 hF; have b0 := (hS9.cell (p := ⟨W.heap.size + 1, 0, none⟩) hlt).trans c0; have b5 := (hS9.cell (p := ⟨W.heap.size + 1, 5, none⟩) hlt).trans c5; clear hF; go_simp; (try with_reducible rfl); done)); simp only [Act.put, zA, zB, zC, Nat.reduceAdd]) | (refine walk_skip (fun _ => trivial) (fun _ => rfl) ?_; simp only [Act.put, zA, zB, zC, Nat.reduceAdd]))
  refine walk_fix (v := .bool false) ?_ ?_; (focus (intro us w9 hS9 hF K hK; clear hF; go_simp; refine (comp_is HC.out ht (hr.below hS9 hlt)).mono ?_; rintro e' w' ⟨rfl, hb⟩; exact hK _ (below_on hS9 hb) trivial)); simp only [Act.put, zA, zB, zC, Nat.reduceAdd]
  repeat (first | (refine walk_pure (v := ?_) (fun _ => trivial) (fun _ => rfl) ?_ ?_; rotate_left; (focus (intro us w9 hS9 hF; have b0 := (hS9.cell (p := ⟨W.heap.size + 1, 0, none⟩) hlt).trans c0; have b5 := (hS9.cell (p := ⟨W.heap.size + 1, 5, none⟩) hlt).trans c5; clear hF; go_simp; (try with_reducible rfl); done)); simp only [Act.put, zA, zB, zC, Nat.reduceAdd]) | (refine walk_skip (fun _ => trivial) (fun _ => rfl) ?_; simp only [Act.put, zA, zB, zC, Nat.reduceAdd]))
  refine walk_done fun us w9 hS9 hF => ?_
  clear hF
  go_wp2
  go_ret
  exact val_mk HV.out (hBw.trans (hS9.mono hBw.size))
set_option maxRecDepth 100000 in
set_option maxHeartbeats 4000000 in
theorem valid_t (e : LE) (A B : Option Addr) (c d : Nat) (W : World) (ht : e.ty) (hH : Held W e A c B d) (hs : soundB e = true) (hc : compB e = true) : Calls Try.prog 101 #[.agg (LEV e A c B d)] W (ValP e W) := by
  have HS := Lib.hid hs
  have HC := Lib.hid hc
  have HV := Lib.hid (show vE e = (e.n == e.rn) by simp [vE, hs, hc])
  clear hs hc
  have hB1 := (Below.refl W.heap.size W).alloc (Nat.le_refl _) (.cells (LEV e A c B d) 69)
  have r1 := Row.born W 69 (LEV e A c B d)
  have hs1 : (W.alloc (.cells (LEV e A c B d) 69)).heap.size = W.heap.size + 1 := by simp
  go_enter Try.func101, Try.ntmps101
  go_upto_region 1 with (fail)
  generalize W.alloc (.cells (LEV e A c B d) 69) = w1 at *
  obtain ⟨⟨c0, c1, c2, c3, c4⟩, ⟨c5, c6, c7, c8, c9⟩, -⟩ := end_cells r1
  go_upto_region 2 with (fail)
  have hBw := hB1.alloc hB1.size (.cells (LBV e A c B d) 155)
  have hr : Row (w1.alloc (.cells (LBV e A c B d) 155)) w1.heap.size 155 (LBV e A c B d) := Row.born w1 155 (LBV e A c B d)
  change Code.wp _ _ _ _ (w1.alloc (.cells (LBV e A c B d) 155))
  clear c0 c1 c2 c3 c4 c5 c6 c7 c8 c9 r1
  generalize w1.alloc (.cells (LBV e A c B d) 155) = w2 at *
  rw [hs1] at hr
  clear hs1
  have hH2 := hH.below hBw
  obtain ⟨⟨c0, -, -, -, -⟩, ⟨c5, -, -, -, -⟩, fz⟩ := both_cells hr
  have hlt := hr.lt
  refine wp_region_told (n := 47) (fun w' => Below w2.heap.size w2 w') (fun _ _ => True) (by kernel_rfl) (by kernel_rfl) (by rfl) (Below.refl _ _).drew ?_
  repeat (first | (refine walk_pure (v := ?_) (fun _ => trivial) (fun _ => rfl) ?_ ?_; rotate_left; (focus (intro us w9 hS9 hF; have b0 := (hS9.cell (p := ⟨W.heap.size + 1, 0, none⟩) hlt).trans c0; have b5 := (hS9.cell (p := ⟨W.heap.size + 1, 5, none⟩) hlt).trans c5; clear hF; go_simp; (try with_reducible rfl); done)); simp only [Act.put, zA, zB, zC, Nat.reduceAdd]) | (refine walk_skip (fun _ => trivial) (fun _ => rfl) ?_; simp only [Act.put, zA, zB, zC, Nat.reduceAdd]))
  refine walk_fix (v := .bool true) ?_ ?_; (focus (intro us w9 hS9 hF K hK; clear hF; go_simp; refine (sound_is HS.out ht (hr.below hS9 hlt) (hH2.below hS9)).mono ?_; rintro e' w' ⟨rfl, hb⟩; exact hK _ (below_on hS9 hb) trivial)); simp only [Act.put, zA, zB, zC, Nat.reduceAdd]
  repeat (first | (refine walk_pure (v := ?_) (fun _ => trivial) (fun _ => rfl) ?_ ?_; rotate_left; (focus (intro us w9 hS9 hF; have b0 := (hS9.cell (p := ⟨W.heap.size + 1, 0, none⟩) hlt).trans c0; have b5 := (hS9.cell (p := ⟨W.heap.size + 1, 5, none⟩) hlt).trans c5; clear hF; go_simp; (try with_reducible rfl); done)); simp only [Act.put, zA, zB, zC, Nat.reduceAdd]) | (refine walk_skip (fun _ => trivial) (fun _ => rfl) ?_; simp only [Act.put, zA, zB, zC, Nat.reduceAdd]))
  refine walk_fix (v := .bool true) ?_ ?_; (focus (intro us w9 hS9 hF K hK; clear hF; go_simp; refine (comp_is HC.out ht (hr.below hS9 hlt)).mono ?_; rintro e' w' ⟨rfl, hb⟩; exact hK _ (below_on hS9 hb) trivial)); simp only [Act.put, zA, zB, zC, Nat.reduceAdd]
  repeat (first | (refine walk_pure (v := ?_) (fun _ => trivial) (fun _ => rfl) ?_ ?_; rotate_left; (focus (intro us w9 hS9 hF; have b0 := (hS9.cell (p := ⟨W.heap.size + 1, 0, none⟩) hlt).trans c0; have b5 := (hS9.cell (p := ⟨W.heap.size + 1, 5, none⟩) hlt).trans c5; clear hF; go_simp; (try with_reducible rfl); done)); simp only [Act.put, zA, zB, zC, Nat.reduceAdd]) | (refine walk_skip (fun _ => trivial) (fun _ => rfl) ?_; simp only [Act.put, zA, zB, zC, Nat.reduceAdd]))
  refine walk_done fun us w9 hS9 hF => ?_
  clear hF
  go_wp2
  go_ret
  exact val_mk HV.out (hBw.trans (hS9.mono hBw.size))
theorem valid_any (e : LE) (A B : Option Addr) (c d : Nat) (W : World) (ht : e.ty) (hH : Held W e A c B d) : Calls Try.prog 101 #[.agg (LEV e A c B d)] W (ValP e W) := by
  cases hs : soundB e
  · exact valid_s e A B c d W ht hH hs
  · cases hc : compB e
    · exact valid_c e A B c d W ht hH hs hc
    · exact valid_t e A B c d W ht hH hs hc
theorem info69 : (Try.prog.info? 69).map (·.size) = some 10 := by kernel_rfl
theorem lev_one (e : LE) (A : Option Addr) (c : Nat) (B : Option Addr) (d : Nat) : (LEV e A c B d).all (·.oneCell') = true := by simp [LEV, Value.oneCell']
theorem lev_info (e : LE) (A : Option Addr) (c : Nat) (B : Option Addr) (d : Nat) : (Try.prog.info? 69).map (·.size) = some (LEV e A c B d).size := info69
def idleE (e : LE) : Bool := vE e && decide (e.q.length = 0) && (e.want == -1)
theorem valid_is {e : LE} {A B : Option Addr} {c d : Nat} {W : World} {b : Bool} (hv : vE e = b) (ht : e.ty) (hH : Held W e A c B d) : Calls Try.prog 101 #[.agg (LEV e A c B d)] W (fun en W' => en = .returned (.bool b) ∧ Below W.heap.size W W') :=
  (valid_any e A B c d W ht hH).mono fun en W' h => by rw [← hv]; exact h
set_option maxRecDepth 100000 in
set_option maxHeartbeats 4000000 in
theorem pend_yes (e : LE) (A B : Option Addr) (c d : Nat) (W : World) (ht : e.ty) (hH : Held W e A c B d) (hv : vE e = true) : Calls Try.prog 43 #[.agg (LEV e A c B d)] W (fun en W' => en = .returned (.int .i64 e.q.length) ∧ Below W.heap.size W W') := by
  have HV := Lib.hid hv
  clear hv
  have hB1 := (Below.refl W.heap.size W).alloc (Nat.le_refl _) (.cells (LEV e A c B d) 69)
  have r1 := Row.born W 69 (LEV e A c B d)
  have hl1 := r1.lt
  go_enter Try.func43, Try.ntmps43
  go_upto_region 1 with (fail)
  generalize W.alloc (.cells (LEV e A c B d) 69) = w1 at *
  have hH1 := hH.below hB1
  go_upto_region 3 with (first | ((with_reducible refine wp_load_g ?_ r1.range Try.underlying69 rfl (lev_info _ _ _ _ _) ?_ ?_); rfl; rfl) | (go_at_call 101; (with_reducible refine (valid_is HV.out ht hH1).mono ?_); rintro en w2 ⟨rfl, hb⟩))
  have r1 := r1.below hb hl1
  have hB2 := hB1.trans (hb.mono hB1.size)
  obtain ⟨-, ⟨c5, c6, c7, c8, c9⟩, -⟩ := end_cells r1
  go_wp2
  go_ret
  exact ⟨rfl, hB2⟩
def newL (n : Int) : LE := ⟨n, 0, 0, n, 0, [], -1, -1, [], 0⟩
def zeL : LE := ⟨0, 0, 0, 0, 0, [], 0, 0, [], 0⟩
def ZE : Array Value := LEV zeL none 0 none 0
theorem ze_one : ZE.all (·.oneCell') = true := lev_one _ _ _ _ _
theorem ze_info : (Try.prog.info? 69).map (·.size) = some ZE.size := info69
def nwE (n : Int) : LE := if vl n = true then newL n else zeL
def NwP (n : Int) (W : World) (en : Ending) (W' : World) : Prop := en = .returned (.tuple #[.agg (LEV (nwE n) none 0 none 0), .int .i64 (nsE n)]) ∧ Below W.heap.size W W'
set_option maxRecDepth 100000 in
set_option maxHeartbeats 4000000 in
theorem new_no (n : Int) (W : World) (hv : vl n = false) : Calls Try.prog 41 #[.int .i64 n] W (NwP n W) := by
  have e1 : nsE n = 6 := by simp [nsE, hv]
  have HN := Lib.hid (show nwE n = zeL by simp [nwE, hv])
  have E1 := Lib.hid e1
  clear hv
  have hB1 := (Below.refl W.heap.size W).alloc (Nat.le_refl _) (.cells ZE 69)
  have r1 := Row.born W 69 ZE
  go_enter Try.func41, Try.ntmps41
  go_upto_region 1 with (fail)
  change Code.wp _ _ _ _ (W.alloc (.cells ZE 69))
  generalize W.alloc (.cells ZE 69) = w1 at *
  go_upto_region 3 with (go_at_call 27; refine (new_sender _ _).mono ?_; rintro en w2 ⟨rfl, hb⟩)
  have hBa := hb.trans (((Below.refl w2.heap.size w2).alloc (Nat.le_refl _) (.cells #[.int .i64 (nsN n), .int .u64 0, .int .u64 0] 27)).mono hb.size)
  generalize w2.alloc (.cells #[.int .i64 (nsN n), .int .u64 0, .int .u64 0] 27) = w3 at *
  have r1 := r1.below hBa r1.lt
  have hB3 := hB1.trans (hBa.mono hB1.size)
  clear hb hBa hB1
  go_wp2_with ((with_reducible refine wp_row_store (L := ZE) r1 rfl ze_info ze_one ?_ ?_ ?_); rfl; rfl; intro w4 u4 r4)
  refine bodyPost_ret (results_ct rfl rfl r4 Try.underlying69 rfl ze_info) rfl ?_
  refine ⟨?_, Upd.below hB3 u4 (Nat.le_refl _)⟩
  rw [HN.out, E1.out]
  rfl
set_option maxRecDepth 100000 in
set_option maxHeartbeats 4000000 in
theorem new_yes (n : Int) (W : World) (hv : vl n = true) : Calls Try.prog 41 #[.int .i64 n] W (NwP n W) := by
  have e1 : nsE n = 0 := by simp [nsE, hv]
  have e2 : nsN n = n := by simp [nsN, hv]
  have HN := Lib.hid (show nwE n = newL n by simp [nwE, hv])
  have E1 := Lib.hid e1
  clear hv
  have hB1 := (Below.refl W.heap.size W).alloc (Nat.le_refl _) (.cells ZE 69)
  have r1 := Row.born W 69 ZE
  go_enter Try.func41, Try.ntmps41
  go_upto_region 1 with (fail)
  change Code.wp _ _ _ _ (W.alloc (.cells ZE 69))
  generalize W.alloc (.cells ZE 69) = w1 at *
  go_upto_region 2 with (go_at_call 27; refine (new_sender _ _).mono ?_; rintro en w2 ⟨rfl, hb⟩)
  have r27 := Row.born w2 27 #[.int .i64 n, .int .u64 0, .int .u64 0]
  have hBa := hb.trans (((Below.refl w2.heap.size w2).alloc (Nat.le_refl _) (.cells #[.int .i64 n, .int .u64 0, .int .u64 0] 27)).mono hb.size)
  generalize w2.alloc (.cells #[.int .i64 n, .int .u64 0, .int .u64 0] 27) = w3 at *
  have r1 := r1.below hBa r1.lt
  have hB3 := hB1.trans (hBa.mono hB1.size)
  clear hb hBa hB1
  go_upto_region 5 with (go_at_call 28; refine (receiver_any _ _).mono ?_; rintro en w5 ⟨rfl, hb⟩)
  have r35 := Row.born w5 35 #[.int .i64 n, .int .u64 0]
  have hBa := hb.trans (((Below.refl w5.heap.size w5).alloc (Nat.le_refl _) (.cells #[.int .i64 n, .int .u64 0] 35)).mono hb.size)
  generalize w5.alloc (.cells #[.int .i64 n, .int .u64 0] 35) = w6 at *
  have r1 := r1.below hBa r1.lt
  have r27 := r27.below hBa r27.lt
  have hB6 := hB3.trans (hBa.mono hB3.size)
  clear hb hBa hB3
  obtain ⟨⟨c0, c1, c2⟩, f1⟩ := three_cells r27
  obtain ⟨⟨c3, c4⟩, f2⟩ := two_cells r35
  go_wp2_with ((with_reducible refine wp_row_store (L := LEV (newL n) none 0 none 0) r1 rfl (lev_info _ _ _ _ _) (lev_one _ _ _ _ _) ?_ ?_ ?_); rfl; rfl; intro w7 u7 r7)
  refine bodyPost_ret (results_ct rfl rfl r7 Try.underlying69 rfl (lev_info _ _ _ _ _)) rfl ?_
  refine ⟨?_, Upd.below hB6 u7 (Nat.le_refl _)⟩
  rw [HN.out, E1.out]
  rfl
theorem new_any (n : Int) (W : World) : Calls Try.prog 41 #[.int .i64 n] W (NwP n W) := by
  cases hv : vl n
  · exact new_no n W hv
  · exact new_yes n W hv
theorem OwnB.empty {w : World} {base g : Nat} {e : TypeId} (h : Row w g e #[]) (hb : base ≤ g) : OwnB w base e (some ⟨g, 0, none⟩) 0 0 [] :=
  ⟨rfl, .inr ⟨g, 0, #[], rfl, hb, h, by omega, by decide, rfl, rfl⟩⟩
theorem eql_nil (w : World) (A : Option Addr) (n c : Nat) : (binOp .eql 44 (.slice A n c) (.slice none 0 0)).run Try.prog w = .ok (.bool A.isNone) w := by
  simp only [binOp]
  simp [run_equal_slice_nil w 44 5 A n c Try.underlying44]
def ClP (n : Nat) (bs : List UInt8) (W : World) (en : Ending) (W' : World) : Prop := ∃ A' c', en = .returned (.slice A' n c') ∧ OwnB W' W.heap.size 5 A' n c' bs ∧ Below W.heap.size W W'
set_option maxRecDepth 100000 in
set_option maxHeartbeats 4000000 in
theorem clone_some (ad : Addr) (n c : Nat) (bs : List UInt8) (W : World) (hA : IsB W (some ad) n bs) (hn : n ≤ 1000000000) : Calls Try.prog 103 #[.slice (some ad) n c] W (ClP n bs W) := by
  have hB1 := (Below.refl W.heap.size W).alloc (Nat.le_refl _) (.cells #[] 5)
  have r1 := Row.born W 5 #[]
  have hA1 := hA.below hB1
  have ho := OwnB.empty r1 (Nat.le_refl _)
  have hs : W.heap.size ≤ (W.alloc (.cells #[] 5)).heap.size := hB1.size
  have hnil := fun w => eql_nil w (some ad) n c
  go_enter Try.func103, Try.ntmps103
  go_wp2_with (at_builtin; (refine wp_append_b (P := Try.prog) rfl _ _ 44 rfl Try.underlying44 info_b ho hA1 (by omega) hs rfl rfl ?_); intro A1 n1 c1 w2 hn1 ho1 hb1 hg1 hat1; have hq1 := hn1.out; rw [Nat.zero_add] at hq1; subst hq1; simp only [List.nil_append] at ho1)
  go_ret
  exact ⟨A1, c1, rfl, ho1, hB1.trans hb1⟩
set_option maxRecDepth 100000 in
set_option maxHeartbeats 4000000 in
theorem clone_none (n c : Nat) (bs : List UInt8) (W : World) (hA : IsB W none n bs) : Calls Try.prog 103 #[.slice none n c] W (ClP n bs W) := by
  obtain rfl : n = 0 := by
    rcases Nat.eq_zero_or_pos n with h | h
    · exact h
    · obtain ⟨b, o, e, -⟩ := hA.2 h
      cases e
  obtain rfl : bs = [] := List.eq_nil_of_length_eq_zero hA.1.symm
  have hnil := fun w => eql_nil w none 0 c
  go_enter Try.func103, Try.ntmps103
  go_wp2
  go_ret
  exact ⟨none, 0, rfl, OwnB.nil _ _ _, Below.refl _ _⟩
theorem clone_any (A : Option Addr) (n c : Nat) (bs : List UInt8) (W : World) (hA : IsB W A n bs) (hn : n ≤ 1000000000) : Calls Try.prog 103 #[.slice A n c] W (ClP n bs W) := by
  cases A with
  | none => exact clone_none n c bs W hA
  | some ad => exact clone_some ad n c bs W hA hn
set_option maxRecDepth 100000 in
set_option maxHeartbeats 4000000 in
theorem end_any (g : Nat) (e : LE) (A B : Option Addr) (c d : Nat) (W : World) (hr : Row W g 155 (LBV e A c B d)) : Calls Try.prog 104 #[.pointer (some ⟨g, 0, none⟩)] W (fun en W' => en = .returned (.agg (LEV e A c B d)) ∧ Below W.heap.size W W') := by
  have hlt := hr.lt
  have hB1 := (Below.refl W.heap.size W).alloc (Nat.le_refl _) (.cells ZE 69)
  have r1 := Row.born W 69 ZE
  go_enter Try.func104, Try.ntmps104
  go_upto_region 1 with (fail)
  change Code.wp _ _ _ _ (W.alloc (.cells ZE 69))
  generalize W.alloc (.cells ZE 69) = w1 at *
  have hr1 := hr.below hB1 hlt
  have hr1 : Row w1.drew g 155 (LBV e A c B d) := hr1
  have r1 : Row w1.drew W.heap.size 69 ZE := r1
  have hB1 : Below W.heap.size W w1.drew := hB1.drew
  obtain ⟨⟨c0, c1, c2, c3, c4⟩, ⟨c5, c6, c7, c8, c9⟩, -⟩ := both_cells hr1
  refine wp_region_tailN (n := 39) 36 (fun w' => w' = w1.drew) (fun _ _ => True) (by kernel_rfl) (by kernel_rfl) (by decide) (by rfl) rfl ?_
  simp only [List.take_succ_cons, List.take_zero, List.drop_succ_cons, List.drop_zero]
  repeat (refine tail_pure (v := ?_) (fun _ => trivial) (fun _ => rfl) ?_ ?_; rotate_left; (focus (intro us w9 hS9 hF; clear hF; subst hS9; go_simp; (try with_reducible rfl); done)); simp only [Act.put, zA, zB, zC, Nat.reduceAdd])
  refine tail_done fun us w3 hS3 hF => ?_
  subst hS3
  clear hF c0 c1 c2 c3 c4 c5 c6 c7 c8 c9
  refine wp_row_store (L := LEV e A c B d) r1 rfl (lev_info _ _ _ _ _) (lev_one _ _ _ _ _) rfl rfl ?_
  intro w4 u4 r4
  go_wp2
  refine bodyPost_ret (results_cell_row rfl _ _ _ _ _ _ _ rfl r4 Try.underlying69 rfl (lev_info _ _ _ _ _)) rfl ?_
  exact ⟨rfl, Upd.below hB1 u4 (Nat.le_refl _)⟩
end
end Go.Proofs.Ythjkhambmgepdaa
