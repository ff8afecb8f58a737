/- The law RingExact: both sides answer alike. -/
import Derived.Test.YthjkhambmgepdaaCal
import Derived.Test.YthjkhambmgepdaaDq
import Derived.Test.YthjkhambmgepdaaPl
import Derived.Test.YthjkhambmgepdaaLrl
namespace Go.Proofs.Ythjkhambmgepdaa
open Go.RowKit
set_option linter.unusedVariables false
def SdC (F : Nat) (n s a : Int) (m : Nat) (f : Bool) (k : Int) (bs : List UInt8) (x1 x2 x3 I : Int) (L : Array Value) (E : Int) : Prop := ∀ (W : World) (A : Option Addr) (c : Nat), IsB W A m bs →
  Calls Try.prog F #[.agg #[.int .i64 n, .int .u64 s, .int .u64 a], .slice A m c, .bool f, .int .u16 k] W (fun e W' => e = .returned (.tuple #[.agg #[.int .i64 x1, .int .u64 x2, .int .u64 x3], .int .i64 I, .agg L, .int .i64 E]) ∧ Below W.heap.size W W')
def AkC (F : Nat) (n s a k z1 z2 z3 E : Int) : Prop := ∀ W : World, Calls Try.prog F #[.agg #[.int .i64 n, .int .u64 s, .int .u64 a], .int .u16 k] W (fun e W' => e = .returned (.tuple #[.agg #[.int .i64 z1, .int .u64 z2, .int .u64 z3], .int .i64 E]) ∧ Below W.heap.size W W')
def PlC (F : Nat) (n x : Int) (q : Nat) (ls : List Ln) (y1 y2 : Int) (L : Array Value) (E : Int) : Prop := ∀ (W : World) (A : Option Addr) (c : Nat), IsLs W A q ls →
  Calls Try.prog F #[.agg #[.int .i64 n, .int .u64 x], .slice A q c] W (fun e W' => e = .returned (.tuple #[.agg #[.int .i64 y1, .int .u64 y2], .agg L, .int .i64 E]) ∧ Below W.heap.size W W')
def DcC (F : Nat) (r : Nat) (bs : List UInt8) (L : Array Value) (E : Int) : Prop := ∀ (W : World) (A : Option Addr) (c : Nat), IsB W A r bs → r ≤ c →
  Calls Try.prog F #[.slice A r c] W (fun e W' => e = .returned (.tuple #[.agg L, .int .i64 E]) ∧ Below W.heap.size W W')
theorem two_born (w : World) (t1 t2 : TypeId) (cs1 cs2 : Array Value) : Row ((w.alloc (.cells cs1 t1)).alloc (.cells cs2 t2)) w.heap.size t1 cs1 ∧ Row ((w.alloc (.cells cs1 t1)).alloc (.cells cs2 t2)) (w.heap.size + 1) t2 cs2 :=
  ⟨(Row.born w t1 cs1).alloc _, Row.bornAt (by simp) t2 cs2⟩
/-- A copy of lines. -/
def CpL (m : Nat) (ls : List Ln) (u : Value) (w : World) : Prop := ∃ A c, u = .slice A m c ∧ IsLs w A m ls
theorem CpL.mono {m : Nat} {ls : List Ln} (u : Value) (w w' : World) (hb : Below w.heap.size w w') (h : CpL m ls u w) : CpL m ls u w' := by
  obtain ⟨A, c, e, hA⟩ := h
  exact ⟨A, c, e, hA.below hb⟩
theorem step_copy_ls {P : Program} {K : Act → World → Prop} {Q : Exit → Act → World → Prop} {a : Act} {w : World} {dst : Option Tmp} {typ : TypeId} {pos : String} {after : Array Edge} {gd : Option (Nat × Bool)} {s x : Operand} {t e : TypeId} {zv : Value} {bytes n c : Nat} {B : Option Addr} {ls : List Ln} (ht : P.underlying t = some (.slice e)) (hinfo : (P.info? e).map (fun i => (i.zero, i.size, i.bytes)) = some (some zv, 61, bytes)) (hzs : zv.cells.size = 61) (hby : bytes ≤ 1000)
    (hB : IsLs w B n ls) (hn : n ≤ 1000) (hs : a.eval s = .slice none 0 0) (hx : a.eval x = .slice B n c)
    (h : ∀ A' c' w', IsLs w' A' n ls → Below w.heap.size w w' → K (a.put dst (.slice A' n c')) w') :
    Oper.wp P { dst := dst, op := .call { callee := .builtin .append, args := #[s, x], argTypes := #[t, t] }, type := typ, pos := pos, after := after, guard := gd } a w K Q := by
  obtain ⟨A', c'', w', hr, h2, h3⟩ := run_copy_ls (P := P) (typ := typ) (c := c) ht hinfo hzs hby hB hn
  unfold Oper.wp execOp
  simp only [resolve, invoke, builtin, Sem.run_bind, Sem.run_pure, Result.andThen_ok, List.map_toArray, List.map_cons, List.map_nil, hs, hx, hr]
  exact h _ _ _ h2 h3
theorem guard27 : Try.prog.eqGuardType Try.prog.depth 27 = false := by kernel_rfl
theorem guard35 : Try.prog.eqGuardType Try.prog.depth 35 = false := by kernel_rfl
theorem eq_send (w : World) (n s a : Int) : (Op.equalIn 10000 27 (.agg #[.int .i64 n, .int .u64 s, .int .u64 a]) (.agg #[.int .i64 n, .int .u64 s, .int .u64 a])).run Try.prog w = .ok true w := by
  go_simp
theorem eq_recv (w : World) (n s : Int) : (Op.equalIn 10000 35 (.agg #[.int .i64 n, .int .u64 s]) (.agg #[.int .i64 n, .int .u64 s])).run Try.prog w = .ok true w := by
  go_simp
set_option maxRecDepth 100000 in
set_option maxHeartbeats 8000000 in
theorem exact_a (n s1 s2 s3 rn rc k : Int) (f : Bool) (mp cp q cq r cb : Nat) (Ap Am Ab : Option Addr) (bs bb : List UInt8) (ls : List Ln) (W : World) (h : 100 < mp) : Calls Try.prog 7 #[.int .i64 n, .agg #[.int .i64 s1, .int .u64 s2, .int .u64 s3], .agg #[.int .i64 rn, .int .u64 rc], .slice Ap mp cp, .bool f, .int .u16 k, .slice Am q cq, .slice Ab r cb] W (True1 W) := by
  have d : decide (100 < mp) = true := by simpa using h
  have hB := ((Below.refl W.heap.size W).alloc (Nat.le_refl _) (.cells #[.int .i64 s1, .int .u64 s2, .int .u64 s3] 27)).alloc (by simp) (.cells #[.int .i64 rn, .int .u64 rc] 35)
  go_enter Try.func7, Try.ntmps7
  go_wp2_with (go_at_call 23; refine (awake19 _).mono ?_; rintro e w1 ⟨rfl, hb⟩)
  go_ret
  exact ⟨rfl, hB.trans (hb.mono hB.size)⟩
set_option maxRecDepth 100000 in
set_option maxHeartbeats 8000000 in
theorem exact_b (n s1 s2 s3 rn rc k : Int) (f : Bool) (mp cp q cq r cb : Nat) (Ap Am Ab : Option Addr) (bs bb : List UInt8) (ls : List Ln) (W : World) (h0 : mp ≤ 100) (h : 70 < q) : Calls Try.prog 7 #[.int .i64 n, .agg #[.int .i64 s1, .int .u64 s2, .int .u64 s3], .agg #[.int .i64 rn, .int .u64 rc], .slice Ap mp cp, .bool f, .int .u16 k, .slice Am q cq, .slice Ab r cb] W (True1 W) := by
  have d0 : decide (100 < mp) = false := by simpa using h0
  have d : decide (70 < q) = true := by simpa using h
  have hB := ((Below.refl W.heap.size W).alloc (Nat.le_refl _) (.cells #[.int .i64 s1, .int .u64 s2, .int .u64 s3] 27)).alloc (by simp) (.cells #[.int .i64 rn, .int .u64 rc] 35)
  go_enter Try.func7, Try.ntmps7
  go_wp2_with (go_at_call 23; refine (awake19 _).mono ?_; rintro e w1 ⟨rfl, hb⟩)
  go_ret
  exact ⟨rfl, hB.trans (hb.mono hB.size)⟩
set_option maxRecDepth 100000 in
set_option maxHeartbeats 8000000 in
theorem exact_c (n s1 s2 s3 rn rc k : Int) (f : Bool) (mp cp q cq r cb : Nat) (Ap Am Ab : Option Addr) (bs bb : List UInt8) (ls : List Ln) (W : World) (h0 : mp ≤ 100) (h1 : q ≤ 70) (h : 100 < r) : Calls Try.prog 7 #[.int .i64 n, .agg #[.int .i64 s1, .int .u64 s2, .int .u64 s3], .agg #[.int .i64 rn, .int .u64 rc], .slice Ap mp cp, .bool f, .int .u16 k, .slice Am q cq, .slice Ab r cb] W (True1 W) := by
  have d0 : decide (100 < mp) = false := by simpa using h0
  have d1 : decide (70 < q) = false := by simpa using h1
  have d : decide (100 < r) = true := by simpa using h
  have hB := ((Below.refl W.heap.size W).alloc (Nat.le_refl _) (.cells #[.int .i64 s1, .int .u64 s2, .int .u64 s3] 27)).alloc (by simp) (.cells #[.int .i64 rn, .int .u64 rc] 35)
  go_enter Try.func7, Try.ntmps7
  go_wp2_with (go_at_call 23; refine (awake19 _).mono ?_; rintro e w1 ⟨rfl, hb⟩)
  go_ret
  exact ⟨rfl, hB.trans (hb.mono hB.size)⟩
set_option maxRecDepth 100000 in
set_option maxHeartbeats 16000000 in
theorem exact_main (n s1 s2 s3 rn rc k : Int) (f : Bool) (mp cp q cq r cb : Nat) (Ap Am Ab : Option Addr) (bs bb : List UInt8) (ls : List Ln) (W : World) (x1 x2 x3 I1 E1 z1 z2 z3 E2 y1 y2 E3 E4 : Int) (k1 j1 a1 k2 j2 a2 k3 j3 a3 : Int) (e1 f1 e2 f2 e3 f3 : Bool) (p1 p2 p3 : List UInt8) (hp1 : p1.length = 56) (hp2 : p2.length = 56) (hp3 : p3.length = 56) (hS1 : SdC 25 s1 s2 s3 mp f k bs x1 x2 x3 I1 (LV k1 e1 f1 j1 a1 p1) E1) (hS2 : SdC 34 s1 s2 s3 mp f k bs x1 x2 x3 I1 (LV k1 e1 f1 j1 a1 p1) E1) (hA1 : AkC 21 s1 s2 s3 k z1 z2 z3 E2) (hA2 : AkC 35 s1 s2 s3 k z1 z2 z3 E2)
    (hP1 : PlC 26 rn rc q ls y1 y2 (LV k2 e2 f2 j2 a2 p2) E3) (hP2 : PlC 36 rn rc q ls y1 y2 (LV k2 e2 f2 j2 a2 p2) E3) (hD1 : DcC 32 r bb (LV k3 e3 f3 j3 a3 p3) E4) (hD2 : DcC 40 r bb (LV k3 e3 f3 j3 a3 p3) E4)
    (h0 : mp ≤ 100) (h1 : q ≤ 70) (h2 : r ≤ 100) (hs0 : 0 ≤ s2) (hs1 : s2 < 18446744073709551616) (ha0 : 0 ≤ s3) (hrc : r ≤ cb) (hip : IsB W Ap mp bs) (him : IsLs W Am q ls) (hib : IsB W Ab r bb) :
    Calls Try.prog 7 #[.int .i64 n, .agg #[.int .i64 s1, .int .u64 s2, .int .u64 s3], .agg #[.int .i64 rn, .int .u64 rc], .slice Ap mp cp, .bool f, .int .u16 k, .slice Am q cq, .slice Ab r cb] W (True1 W) := by
  have d0 : decide (100 < mp) = false := by simpa using h0
  have d1 : decide (70 < q) = false := by simpa using h1
  have d2 : decide (100 < r) = false := by simpa using h2
  go_enter Try.func7, Try.ntmps7
  go_upto_region 4 with (go_at_call 27; refine (new_sender _ _).mono ?_; rintro e w1 ⟨rfl, hb⟩)
  obtain ⟨r9, r10, hz, hB⟩ := two_new hb
  have r17 := Row.born w1 27 #[.int .i64 (nsN n), .int .u64 0, .int .u64 0]
  have hBa := (Below.refl w1.heap.size w1).alloc (Nat.le_refl _) (.cells #[.int .i64 (nsN n), .int .u64 0, .int .u64 0] 27)
  have r9 := r9.below hBa r9.lt
  have r10 := r10.below hBa r10.lt
  have hB := hB.trans (hBa.mono hB.size)
  clear hb hBa
  generalize w1.alloc (.cells #[.int .i64 (nsN n), .int .u64 0, .int .u64 0] 27) = w2 at *
  go_upto_region 5 with (go_at_call 28; refine (receiver_any _ _).mono ?_; rintro e w3 ⟨rfl, hb⟩)
  have r19 := Row.born w3 35 #[.int .i64 (nsN n), .int .u64 0]
  have hBa := hb.trans (((Below.refl w3.heap.size w3).alloc (Nat.le_refl _) (.cells #[.int .i64 (nsN n), .int .u64 0] 35)).mono hb.size)
  have r9 := r9.below hBa r9.lt
  have r10 := r10.below hBa r10.lt
  have r17 := r17.below hBa r17.lt
  have hB := hB.trans (hBa.mono hB.size)
  clear hb hBa
  generalize w3.alloc (.cells #[.int .i64 (nsN n), .int .u64 0] 35) = w4 at *
  have hlt := r10.lt
  go_cut [18, 20, 117] (fun _ _ u wx => u = .bool false ∧ Row wx W.heap.size 27 #[.int .i64 s1, .int .u64 s2, .int .u64 s3] ∧ Row wx (W.heap.size + 1) 35 #[.int .i64 rn, .int .u64 rc] ∧ Below W.heap.size W wx)
  case first =>
    cases hv : vl n
    · have e1 : nsE n = 6 := by simp [nsE, hv]
      have e2 : nsN n = 0 := by simp [nsN, hv]
      rw [e2] at r17 r19
      obtain ⟨⟨c0, c1, c2⟩, f1⟩ := three_cells r17
      obtain ⟨⟨c3, c4⟩, f2⟩ := two_cells r19
      go_wp2_with (go_at_call 33; refine (lines_ref _ _).mono ?_; rintro e w' ⟨rfl, h9⟩; rw [← h9]; clear h9)
      go_meet
      exact ⟨rfl, r9, r10, hB⟩
    · have e1 : nsE n = 0 := by simp [nsE, hv]
      have e2 : nsN n = n := by simp [nsN, hv]
      rw [e2] at r17 r19
      obtain ⟨⟨c0, c1, c2⟩, f1⟩ := three_cells r17
      obtain ⟨⟨c3, c4⟩, f2⟩ := two_cells r19
      go_wp2_with (go_at_call 33; refine (lines_ref _ _).mono ?_; rintro e w' ⟨rfl, h9⟩; rw [← h9]; clear h9)
      go_meet
      exact ⟨rfl, r9, r10, hB⟩
  case rest =>
  obtain ⟨rfl, r9, r10, hB⟩ := hcut
  have hlt := r10.lt
  clear r17 r19
  go_upto_region 7 with (fail)
  obtain ⟨⟨c0, c1, c2⟩, fz⟩ := three_cells r9
  have hl9 := r9.lt
  have hipc := hip.below hB
  have hmp : mp ≤ 140737488355328 := by omega
  refine wp_region_late (n := 245) [2, 5, 13, 15] (CalS wc 2 (CpB mp bs) 3 11 27 #[.int .i64 x1, .int .u64 x2, .int .u64 x3] 4 12 40 (LV k1 e1 f1 j1 a1 p1)) (Shp wc.heap.size) (by kernel_rfl) (by kernel_rfl) (by rfl) (CalS.loc (by decide) (fun c hc => mayAt_no (d := 2) (by kernel_rfl) (by omega) (by decide)) (fun c hc => mayAt_no (d := 3) (by kernel_rfl) (by omega) (by decide))) (CalS.start (by decide) (by decide)) ?_
  refine late_pure (by simp) (Shp.refl _) (v := .agg #[.int .i64 s1, .int .u64 s2, .int .u64 s3]) (fun _ => rfl) ?_ ?_; (focus (intro c9 us w9 hm9 hS9 hF; have b0 := (hS9.1.cell (p := ⟨W.heap.size, 0, none⟩) hl9).trans c0; have b1 := (hS9.1.cell (p := ⟨W.heap.size, 1, none⟩) hl9).trans c1; have b2 := (hS9.1.cell (p := ⟨W.heap.size, 2, none⟩) hl9).trans c2; clear hF hm9; go_simp; (try with_reducible rfl); done)); simp only [Act.put, List.setIfInBounds_toArray, List.set_cons_zero, List.set_cons_succ, Nat.reduceAdd]
  refine late_pure (by simp) (Shp.refl _) (v := ?_) (fun _ => rfl) ?_ ?_; rotate_left; (focus (intro c9 us w9 hm9 hS9 hF; clear hF hm9; go_simp; (try with_reducible rfl); done)); simp only [Act.put, List.setIfInBounds_toArray, List.set_cons_zero, List.set_cons_succ, Nat.reduceAdd]
  refine late_chain (by simp) ?_ ?_; (focus (intro us w9 hS9 hF K hK; clear hF; rw [if_pos (by rfl)]; exact step_copy_b (P := Try.prog) (c' := cp) Try.underlying44 info_b (hipc.below hS9.1) hmp rfl rfl (fun A' c'' w' h1 h2 => hK _ w' (hS9.link h2 (by omega) (by omega) (fun _ => ⟨A', c'', by simp, h1.capM, h1.isB⟩)) (Shp.below h2)))); simp only [Act.put, List.setIfInBounds_toArray, List.set_cons_zero, List.set_cons_succ, Nat.reduceAdd]
  refine late_pure (by simp) (Shp.refl _) (v := ?_) (fun _ => rfl) ?_ ?_; rotate_left; (focus (intro c9 us w9 hm9 hS9 hF; clear hF hm9; go_simp; (try with_reducible rfl); done)); simp only [Act.put, List.setIfInBounds_toArray, List.set_cons_zero, List.set_cons_succ, Nat.reduceAdd]
  refine late_pure (by simp) (Shp.refl _) (v := ?_) (fun _ => rfl) ?_ ?_; rotate_left; (focus (intro c9 us w9 hm9 hS9 hF; clear hF hm9; go_simp; (try with_reducible rfl); done)); simp only [Act.put, List.setIfInBounds_toArray, List.set_cons_zero, List.set_cons_succ, Nat.reduceAdd]
  refine late_chain_fix (.tuple #[.agg #[.int .i64 x1, .int .u64 x2, .int .u64 x3], .int .i64 I1, .agg (LV k1 e1 f1 j1 a1 p1), .int .i64 E1]) (by simp) ?_ ?_; (focus (intro us w9 hS9 hF K hK; clear hF; obtain ⟨A2, c2', hu, hc2, hI2⟩ := hS9.2.1 rfl; simp only [hu] at hK ⊢; go_simp; refine (hS1 _ _ _ hI2).mono ?_; rintro e w' ⟨rfl, hb⟩; exact hK w' (hS9.link hb (by omega) (by omega) (fun h => by omega)) (Shp.below hb))); simp only [Act.put, List.setIfInBounds_toArray, List.set_cons_zero, List.set_cons_succ, Nat.reduceAdd]
  refine late_pure (by simp) (Shp.refl _) (v := .tuple #[.agg #[.int .i64 x1, .int .u64 x2, .int .u64 x3], .int .i64 I1, .agg (LV k1 e1 f1 j1 a1 p1), .int .i64 E1]) (fun _ => rfl) ?_ ?_; (focus (intro c9 us w9 hm9 hS9 hF; have e5 := hF (5, fun u _ => u = .tuple #[.agg #[.int .i64 x1, .int .u64 x2, .int .u64 x3], .int .i64 I1, .agg (LV k1 e1 f1 j1 a1 p1), .int .i64 E1]) (by simp) (by kernel_rfl); dsimp only at e5; clear hF hm9; go_simp; (try with_reducible rfl); done)); simp only [Act.put, List.setIfInBounds_toArray, List.set_cons_zero, List.set_cons_succ, Nat.reduceAdd]
  refine late_pure (by simp) (Shp.refl _) (v := ?_) (fun _ => rfl) ?_ ?_; rotate_left; (focus (intro c9 us w9 hm9 hS9 hF; clear hF hm9; go_simp; (try with_reducible rfl); done)); simp only [Act.put, List.setIfInBounds_toArray, List.set_cons_zero, List.set_cons_succ, Nat.reduceAdd]
  refine late_pure (by simp) (Shp.refl _) (v := ?_) (fun _ => rfl) ?_ ?_; rotate_left; (focus (intro c9 us w9 hm9 hS9 hF; clear hF hm9; go_simp; (try with_reducible rfl); done)); simp only [Act.put, List.setIfInBounds_toArray, List.set_cons_zero, List.set_cons_succ, Nat.reduceAdd]
  refine late_pure (by simp) (Shp.refl _) (v := ?_) (fun _ => rfl) ?_ ?_; rotate_left; (focus (intro c9 us w9 hm9 hS9 hF; clear hF hm9; go_simp; (try with_reducible rfl); done)); simp only [Act.put, List.setIfInBounds_toArray, List.set_cons_zero, List.set_cons_succ, Nat.reduceAdd]
  refine late_pure (by simp) (Shp.refl _) (v := ?_) (fun _ => rfl) ?_ ?_; rotate_left; (focus (intro c9 us w9 hm9 hS9 hF; clear hF hm9; go_simp; (try with_reducible rfl); done)); simp only [Act.put, List.setIfInBounds_toArray, List.set_cons_zero, List.set_cons_succ, Nat.reduceAdd]
  refine late_free (by simp) (PtrN wc.heap.size 27 3) PtrN.mono ?_ ?_; (focus (intro c9 us w9 hm9 hS9 hF K hK; go_simp; exact hK _ _ (hS9.alloc CpB.mono _) (Shp.alloc _ _ _) ⟨w9.heap.size, _, rfl, hS9.1.size, Row.born w9 27 _, rfl⟩)); simp only [Act.put, List.setIfInBounds_toArray, List.set_cons_zero, List.set_cons_succ, Nat.reduceAdd]
  refine late_free (by simp) (PtrN wc.heap.size 40 61) PtrN.mono ?_ ?_; (focus (intro c9 us w9 hm9 hS9 hF K hK; go_simp; exact hK _ _ (hS9.alloc CpB.mono _) (Shp.alloc _ _ _) ⟨w9.heap.size, _, rfl, hS9.1.size, Row.born w9 40 _, rfl⟩)); simp only [Act.put, List.setIfInBounds_toArray, List.set_cons_zero, List.set_cons_succ, Nat.reduceAdd]
  refine late_store rfl ?_ ?_; (focus (intro us w9 hS9 hF K hK; obtain ⟨b3, cs, hu, hb3, hr, hn⟩ := hF (11, PtrN wc.heap.size 27 3) (by simp) (by kernel_rfl); simp only [hu] at hK ⊢; rw [if_pos (by rfl)]; exact step_put (L := #[.int .i64 x1, .int .u64 x2, .int .u64 x3]) hr hn info27 (sender_one _ _ _) rfl rfl (fun w' u' r' => hK w' (hS9.st1 u' r' hu hb3 (by omega) (by omega) (fun h => by omega)) (Shp.upd u' hr r' hn)))); simp only [Nat.reduceAdd]
  refine late_pure (by simp) (Shp.refl _) (v := ?_) (fun _ => rfl) ?_ ?_; rotate_left; (focus (intro c9 us w9 hm9 hS9 hF; clear hF hm9; go_simp; (try with_reducible rfl); done)); simp only [Act.put, List.setIfInBounds_toArray, List.set_cons_zero, List.set_cons_succ, Nat.reduceAdd]
  refine late_store rfl ?_ ?_; (focus (intro us w9 hS9 hF K hK; obtain ⟨b3, cs, hu, hb3, hr, hn⟩ := hF (12, PtrN wc.heap.size 40 61) (by simp) (by kernel_rfl); simp only [hu] at hK ⊢; rw [if_pos (by rfl)]; exact step_put (L := (LV k1 e1 f1 j1 a1 p1)) hr (by rw [hn]; exact (LV_size _ _ _ _ _ hp1).symm) (line_info _ _ _ _ _ hp1) (LV_one _ _ _ _ _ _) rfl rfl (fun w' u' r' => hK w' (hS9.st2 u' hr r' hu hb3 (by omega) (by omega) (by omega) (by decide)) (Shp.upd u' hr r' (by rw [hn]; exact (LV_size _ _ _ _ _ hp1).symm))))); simp only [Nat.reduceAdd]
  refine late_pure (by simp) (Shp.refl _) (v := ?_) (fun _ => rfl) ?_ ?_; rotate_left; (focus (intro c9 us w9 hm9 hS9 hF; clear hF hm9; go_simp; (try with_reducible rfl); done)); simp only [Act.put, List.setIfInBounds_toArray, List.set_cons_zero, List.set_cons_succ, Nat.reduceAdd]
  refine late_done fun us w8 hS8 hF => ?_
  obtain ⟨g21, hu1, hg21, r21⟩ := hS8.2.2.1 (by omega)
  obtain ⟨g23, hu2, hg23, r23⟩ := hS8.2.2.2 (by omega)
  have hBa := hS8.1
  clear hF hS8
  simp only [hu1, hu2]
  clear c0 c1 c2 fz
  have r9 := r9.below hBa r9.lt
  have r10 := r10.below hBa r10.lt
  have hB := hB.trans (hBa.mono hB.size)
  clear hBa hu1 hu2 hipc
  obtain ⟨⟨c0, c1, c2⟩, fz⟩ := three_cells r9
  have hip8 := hip.below hB
  go_upto_region 9 with (first | (go_at_call 34; refine (hS2 _ _ _ hip8).mono ?_; rintro e w9 ⟨rfl, hb9⟩) | ((with_reducible refine wp_row_store (L := (LV k1 e1 f1 j1 a1 p1)) (Row.bornAt (g := w9.heap.size + 1) (by simp) 40 _) ?_ (line_info _ _ _ _ _ hp1) (LV_one _ _ _ _ _ _) ?_ ?_ ?_); exact (LV_size _ _ _ _ _ hp1).symm; rfl; rfl; intro wb ub r27))
  have r25 := ((Row.born w9 27 #[.int .i64 x1, .int .u64 x2, .int .u64 x3]).alloc _).upd ub (by omega)
  have hBa := Upd.below (hb9.trans ((((Below.refl w9.heap.size w9).alloc (Nat.le_refl _) _).alloc (by simp) _).mono hb9.size)) ub (by have := hb9.size; omega)
  clear c0 c1 c2 fz ub hb9
  have r9 := r9.below hBa r9.lt
  have r10 := r10.below hBa r10.lt
  have r21 := r21.below hBa r21.lt
  have r23 := r23.below hBa r23.lt
  have hB := hB.trans (hBa.mono hB.size)
  clear hBa hip8
  obtain ⟨⟨c0, c1, c2⟩, fz⟩ := three_cells r9
  generalize w9.heap.size = g25 at *
  go_upto_region 10 with (go_at_call 21; refine (hA1 _).mono ?_; rintro e w11 ⟨rfl, hb9⟩)
  have r29 := Row.born w11 27 #[.int .i64 z1, .int .u64 z2, .int .u64 z3]
  have hBa := hb9.trans (((Below.refl w11.heap.size w11).alloc (Nat.le_refl _) (.cells #[.int .i64 z1, .int .u64 z2, .int .u64 z3] 27)).mono hb9.size)
  clear c0 c1 c2 fz hb9
  have r9 := r9.below hBa r9.lt
  have r10 := r10.below hBa r10.lt
  have r21 := r21.below hBa r21.lt
  have r23 := r23.below hBa r23.lt
  have r25 := r25.below hBa r25.lt
  have r27 := r27.below hBa r27.lt
  have hB := hB.trans (hBa.mono hB.size)
  clear hBa
  generalize w11.alloc (.cells #[.int .i64 z1, .int .u64 z2, .int .u64 z3] 27) = w12 at *
  generalize w11.heap.size = g29 at *
  obtain ⟨⟨c0, c1, c2⟩, fz⟩ := three_cells r9
  go_upto_region 11 with (go_at_call 35; refine (hA2 _).mono ?_; rintro e w13 ⟨rfl, hb9⟩)
  have r31 := Row.born w13 27 #[.int .i64 z1, .int .u64 z2, .int .u64 z3]
  have hBa := hb9.trans (((Below.refl w13.heap.size w13).alloc (Nat.le_refl _) (.cells #[.int .i64 z1, .int .u64 z2, .int .u64 z3] 27)).mono hb9.size)
  clear c0 c1 c2 fz hb9
  have r9 := r9.below hBa r9.lt
  have r10 := r10.below hBa r10.lt
  have r21 := r21.below hBa r21.lt
  have r23 := r23.below hBa r23.lt
  have r25 := r25.below hBa r25.lt
  have r27 := r27.below hBa r27.lt
  have r29 := r29.below hBa r29.lt
  have hB := hB.trans (hBa.mono hB.size)
  clear hBa
  generalize w13.alloc (.cells #[.int .i64 z1, .int .u64 z2, .int .u64 z3] 27) = w14 at *
  generalize w13.heap.size = g31 at *
  obtain ⟨⟨c0, c1⟩, fz⟩ := two_cells r10
  have hl9 := r10.lt
  have himc := him.below hB
  have hq : q ≤ 1000 := by omega
  refine wp_region_late (n := 245) [2, 3, 10, 11] (CalS w14 2 (CpL q ls) 3 8 35 #[.int .i64 y1, .int .u64 y2] 4 9 40 (LV k2 e2 f2 j2 a2 p2)) (Shp w14.heap.size) (by kernel_rfl) (by kernel_rfl) (by rfl) (CalS.loc (by decide) (fun c hc => mayAt_no (d := 2) (by kernel_rfl) (by omega) (by decide)) (fun c hc => mayAt_no (d := 3) (by kernel_rfl) (by omega) (by decide))) (CalS.start (by decide) (by decide)) ?_
  refine late_pure (by simp) (Shp.refl _) (v := .agg #[.int .i64 rn, .int .u64 rc]) (fun _ => rfl) ?_ ?_; (focus (intro c9 us w9 hm9 hS9 hF; have b0 := (hS9.1.cell (p := ⟨W.heap.size + 1, 0, none⟩) hl9).trans c0; have b1 := (hS9.1.cell (p := ⟨W.heap.size + 1, 1, none⟩) hl9).trans c1; clear hF hm9; go_simp; (try with_reducible rfl); done)); simp only [Act.put, List.setIfInBounds_toArray, List.set_cons_zero, List.set_cons_succ, Nat.reduceAdd]
  refine late_pure (by simp) (Shp.refl _) (v := ?_) (fun _ => rfl) ?_ ?_; rotate_left; (focus (intro c9 us w9 hm9 hS9 hF; clear hF hm9; go_simp; (try with_reducible rfl); done)); simp only [Act.put, List.setIfInBounds_toArray, List.set_cons_zero, List.set_cons_succ, Nat.reduceAdd]
  refine late_chain (by simp) ?_ ?_; (focus (intro us w9 hS9 hF K hK; clear hF; rw [if_pos (by rfl)]; exact step_copy_ls (P := Try.prog) (c := cq) Try.underlying36 info_ln zl_61 (by decide) (himc.below hS9.1) hq rfl rfl (fun A' c'' w' h1 h2 => hK _ w' (hS9.link h2 (by omega) (by omega) (fun _ => ⟨A', c'', by simp, h1⟩)) (Shp.below h2)))); simp only [Act.put, List.setIfInBounds_toArray, List.set_cons_zero, List.set_cons_succ, Nat.reduceAdd]
  refine late_chain_fix (.tuple #[.agg #[.int .i64 y1, .int .u64 y2], .agg (LV k2 e2 f2 j2 a2 p2), .int .i64 E3]) (by simp) ?_ ?_; (focus (intro us w9 hS9 hF K hK; clear hF; obtain ⟨A2, c2', hu, hI2⟩ := hS9.2.1 rfl; simp only [hu] at hK ⊢; go_simp; refine (hP1 _ _ _ hI2).mono ?_; rintro e w' ⟨rfl, hb⟩; exact hK w' (hS9.link hb (by omega) (by omega) (fun h => by omega)) (Shp.below hb))); simp only [Act.put, List.setIfInBounds_toArray, List.set_cons_zero, List.set_cons_succ, Nat.reduceAdd]
  refine late_pure (by simp) (Shp.refl _) (v := .tuple #[.agg #[.int .i64 y1, .int .u64 y2], .agg (LV k2 e2 f2 j2 a2 p2), .int .i64 E3]) (fun _ => rfl) ?_ ?_; (focus (intro c9 us w9 hm9 hS9 hF; have e5 := hF (3, fun u _ => u = .tuple #[.agg #[.int .i64 y1, .int .u64 y2], .agg (LV k2 e2 f2 j2 a2 p2), .int .i64 E3]) (by simp) (by kernel_rfl); dsimp only at e5; clear hF hm9; go_simp; (try with_reducible rfl); done)); simp only [Act.put, List.setIfInBounds_toArray, List.set_cons_zero, List.set_cons_succ, Nat.reduceAdd]
  refine late_pure (by simp) (Shp.refl _) (v := ?_) (fun _ => rfl) ?_ ?_; rotate_left; (focus (intro c9 us w9 hm9 hS9 hF; clear hF hm9; go_simp; (try with_reducible rfl); done)); simp only [Act.put, List.setIfInBounds_toArray, List.set_cons_zero, List.set_cons_succ, Nat.reduceAdd]
  refine late_pure (by simp) (Shp.refl _) (v := ?_) (fun _ => rfl) ?_ ?_; rotate_left; (focus (intro c9 us w9 hm9 hS9 hF; clear hF hm9; go_simp; (try with_reducible rfl); done)); simp only [Act.put, List.setIfInBounds_toArray, List.set_cons_zero, List.set_cons_succ, Nat.reduceAdd]
  refine late_pure (by simp) (Shp.refl _) (v := ?_) (fun _ => rfl) ?_ ?_; rotate_left; (focus (intro c9 us w9 hm9 hS9 hF; clear hF hm9; go_simp; (try with_reducible rfl); done)); simp only [Act.put, List.setIfInBounds_toArray, List.set_cons_zero, List.set_cons_succ, Nat.reduceAdd]
  refine late_free (by simp) (PtrN w14.heap.size 35 2) PtrN.mono ?_ ?_; (focus (intro c9 us w9 hm9 hS9 hF K hK; go_simp; exact hK _ _ (hS9.alloc CpL.mono _) (Shp.alloc _ _ _) ⟨w9.heap.size, _, rfl, hS9.1.size, Row.born w9 35 _, rfl⟩)); simp only [Act.put, List.setIfInBounds_toArray, List.set_cons_zero, List.set_cons_succ, Nat.reduceAdd]
  refine late_free (by simp) (PtrN w14.heap.size 40 61) PtrN.mono ?_ ?_; (focus (intro c9 us w9 hm9 hS9 hF K hK; go_simp; exact hK _ _ (hS9.alloc CpL.mono _) (Shp.alloc _ _ _) ⟨w9.heap.size, _, rfl, hS9.1.size, Row.born w9 40 _, rfl⟩)); simp only [Act.put, List.setIfInBounds_toArray, List.set_cons_zero, List.set_cons_succ, Nat.reduceAdd]
  refine late_store rfl ?_ ?_; (focus (intro us w9 hS9 hF K hK; obtain ⟨b3, cs, hu, hb3, hr, hn⟩ := hF (8, PtrN w14.heap.size 35 2) (by simp) (by kernel_rfl); simp only [hu] at hK ⊢; rw [if_pos (by rfl)]; exact step_put (L := #[.int .i64 y1, .int .u64 y2]) hr hn info35 (recv_one _ _) rfl rfl (fun w' u' r' => hK w' (hS9.st1 u' r' hu hb3 (by omega) (by omega) (fun h => by omega)) (Shp.upd u' hr r' hn)))); simp only [Nat.reduceAdd]
  refine late_store rfl ?_ ?_; (focus (intro us w9 hS9 hF K hK; obtain ⟨b3, cs, hu, hb3, hr, hn⟩ := hF (9, PtrN w14.heap.size 40 61) (by simp) (by kernel_rfl); simp only [hu] at hK ⊢; rw [if_pos (by rfl)]; exact step_put (L := (LV k2 e2 f2 j2 a2 p2)) hr (by rw [hn]; exact (LV_size _ _ _ _ _ hp2).symm) (line_info _ _ _ _ _ hp2) (LV_one _ _ _ _ _ _) rfl rfl (fun w' u' r' => hK w' (hS9.st2 u' hr r' hu hb3 (by omega) (by omega) (by omega) (by decide)) (Shp.upd u' hr r' (by rw [hn]; exact (LV_size _ _ _ _ _ hp2).symm))))); simp only [Nat.reduceAdd]
  refine late_pure (by simp) (Shp.refl _) (v := ?_) (fun _ => rfl) ?_ ?_; rotate_left; (focus (intro c9 us w9 hm9 hS9 hF; clear hF hm9; go_simp; (try with_reducible rfl); done)); simp only [Act.put, List.setIfInBounds_toArray, List.set_cons_zero, List.set_cons_succ, Nat.reduceAdd]
  refine late_done fun us w15 hS8 hF => ?_
  obtain ⟨g33, hu1, hg33, r33⟩ := hS8.2.2.1 (by omega)
  obtain ⟨g34, hu2, hg34, r34⟩ := hS8.2.2.2 (by omega)
  have hBa := hS8.1
  clear hF hS8
  simp only [hu1, hu2]
  clear c0 c1 fz
  have r9 := r9.below hBa r9.lt
  have r10 := r10.below hBa r10.lt
  have r21 := r21.below hBa r21.lt
  have r23 := r23.below hBa r23.lt
  have r25 := r25.below hBa r25.lt
  have r27 := r27.below hBa r27.lt
  have r29 := r29.below hBa r29.lt
  have r31 := r31.below hBa r31.lt
  have hB := hB.trans (hBa.mono hB.size)
  clear hBa hu1 hu2 himc
  obtain ⟨⟨c0, c1⟩, fz⟩ := two_cells r10
  have him8 := him.below hB
  go_upto_region 13 with (first | (go_at_call 36; refine (hP2 _ _ _ him8).mono ?_; rintro e w9 ⟨rfl, hb9⟩) | ((with_reducible refine wp_row_store (L := (LV k2 e2 f2 j2 a2 p2)) (Row.bornAt (g := w9.heap.size + 1) (by simp) 40 _) ?_ (line_info _ _ _ _ _ hp2) (LV_one _ _ _ _ _ _) ?_ ?_ ?_); exact (LV_size _ _ _ _ _ hp2).symm; rfl; rfl; intro wb ub r37))
  have r36 := ((Row.born w9 35 #[.int .i64 y1, .int .u64 y2]).alloc _).upd ub (by omega)
  have hBa := Upd.below (hb9.trans ((((Below.refl w9.heap.size w9).alloc (Nat.le_refl _) _).alloc (by simp) _).mono hb9.size)) ub (by have := hb9.size; omega)
  clear c0 c1 fz ub hb9
  have r9 := r9.below hBa r9.lt
  have r10 := r10.below hBa r10.lt
  have r21 := r21.below hBa r21.lt
  have r23 := r23.below hBa r23.lt
  have r25 := r25.below hBa r25.lt
  have r27 := r27.below hBa r27.lt
  have r29 := r29.below hBa r29.lt
  have r31 := r31.below hBa r31.lt
  have r33 := r33.below hBa r33.lt
  have r34 := r34.below hBa r34.lt
  have hB := hB.trans (hBa.mono hB.size)
  clear hBa him8
  generalize w9.heap.size = g36 at *
  have HX : ∀ w : World, (Op.equalIn 10000 40 (.agg (LV k1 e1 f1 j1 a1 p1)) (.agg (LV k1 e1 f1 j1 a1 p1))).run Try.prog w = .ok true w := fun w => by rw [eq_line w k1 k1 e1 e1 f1 f1 j1 j1 a1 a1 p1 p1 hp1 hp1]; simp
  have HP : ∀ w : World, (Op.equalIn 10000 40 (.agg (LV k2 e2 f2 j2 a2 p2)) (.agg (LV k2 e2 f2 j2 a2 p2))).run Try.prog w = .ok true w := fun w => by rw [eq_line w k2 k2 e2 e2 f2 f2 j2 j2 a2 a2 p2 p2 hp2 hp2]; simp
  have HD : ∀ w : World, (Op.equalIn 10000 40 (.agg (LV k3 e3 f3 j3 a3 p3)) (.agg (LV k3 e3 f3 j3 a3 p3))).run Try.prog w = .ok true w := fun w => by rw [eq_line w k3 k3 e3 e3 f3 f3 j3 j3 a3 a3 p3 p3 hp3 hp3]; simp
  refine wp_region_told (n := 245) (fun w' => Below wb.heap.size wb w') (fun _ _ => True) (by kernel_rfl) (by kernel_rfl) (by rfl) (Below.refl _ _).drew ?_
  refine walk_pure (v := .agg #[.int .i64 x1, .int .u64 x2, .int .u64 x3]) (fun _ => trivial) (fun _ => rfl) ?_ ?_; (focus (intro us w9 hS9 hF; exact exec_load_g (r21.below hS9 r21.lt).range Try.underlying27 rfl info27 rfl)); simp only [Act.put, List.setIfInBounds_toArray, List.set_cons_zero, List.set_cons_succ, Nat.reduceAdd]
  refine walk_pure (v := .agg #[.int .i64 x1, .int .u64 x2, .int .u64 x3]) (fun _ => trivial) (fun _ => rfl) ?_ ?_; (focus (intro us w9 hS9 hF; exact exec_load_g (r25.below hS9 r25.lt).range Try.underlying27 rfl info27 rfl)); simp only [Act.put, List.setIfInBounds_toArray, List.set_cons_zero, List.set_cons_succ, Nat.reduceAdd]
  refine walk_pure (v := .bool false) (fun _ => trivial) (fun _ => rfl) ?_ ?_; (focus (intro us w9 hS9 hF; exact exec_neq_agg (b := true) guard27 rfl rfl (eq_send _ _ _ _))); simp only [Act.put, List.setIfInBounds_toArray, List.set_cons_zero, List.set_cons_succ, Nat.reduceAdd]
  refine walk_pure (v := .bool false) (fun _ => trivial) (fun _ => rfl) ?_ ?_; (focus (intro us w9 hS9 hF; clear hF; go_simp; (try with_reducible rfl); done)); simp only [Act.put, List.setIfInBounds_toArray, List.set_cons_zero, List.set_cons_succ, Nat.reduceAdd]
  refine walk_pure (v := .int .i64 I1) (fun _ => trivial) (fun _ => rfl) ?_ ?_; (focus (intro us w9 hS9 hF; clear hF; go_simp; (try with_reducible rfl); done)); simp only [Act.put, List.setIfInBounds_toArray, List.set_cons_zero, List.set_cons_succ, Nat.reduceAdd]
  refine walk_pure (v := .int .i64 I1) (fun _ => trivial) (fun _ => rfl) ?_ ?_; (focus (intro us w9 hS9 hF; clear hF; go_simp; (try with_reducible rfl); done)); simp only [Act.put, List.setIfInBounds_toArray, List.set_cons_zero, List.set_cons_succ, Nat.reduceAdd]
  refine walk_pure (v := .bool false) (fun _ => trivial) (fun _ => rfl) ?_ ?_; (focus (intro us w9 hS9 hF; clear hF; go_simp; (try with_reducible rfl); done)); simp only [Act.put, List.setIfInBounds_toArray, List.set_cons_zero, List.set_cons_succ, Nat.reduceAdd]
  refine walk_pure (v := .bool false) (fun _ => trivial) (fun _ => rfl) ?_ ?_; (focus (intro us w9 hS9 hF; clear hF; go_simp; (try with_reducible rfl); done)); simp only [Act.put, List.setIfInBounds_toArray, List.set_cons_zero, List.set_cons_succ, Nat.reduceAdd]
  refine walk_pure (v := .bool false) (fun _ => trivial) (fun _ => rfl) ?_ ?_; (focus (intro us w9 hS9 hF; clear hF; go_simp; (try with_reducible rfl); done)); simp only [Act.put, List.setIfInBounds_toArray, List.set_cons_zero, List.set_cons_succ, Nat.reduceAdd]
  refine walk_pure (v := .agg (LV k1 e1 f1 j1 a1 p1)) (fun _ => trivial) (fun _ => rfl) ?_ ?_; (focus (intro us w9 hS9 hF; exact exec_load_g (r23.below hS9 r23.lt).range Try.underlying40 rfl (line_info _ _ _ _ _ hp1) rfl)); simp only [Act.put, List.setIfInBounds_toArray, List.set_cons_zero, List.set_cons_succ, Nat.reduceAdd]
  refine walk_pure (v := .agg (LV k1 e1 f1 j1 a1 p1)) (fun _ => trivial) (fun _ => rfl) ?_ ?_; (focus (intro us w9 hS9 hF; exact exec_load_g (r27.below hS9 r27.lt).range Try.underlying40 rfl (line_info _ _ _ _ _ hp1) rfl)); simp only [Act.put, List.setIfInBounds_toArray, List.set_cons_zero, List.set_cons_succ, Nat.reduceAdd]
  refine walk_pure (v := .bool false) (fun _ => trivial) (fun _ => rfl) ?_ ?_; (focus (intro us w9 hS9 hF; exact exec_neq_agg (b := true) guard40 rfl rfl (HX w9))); simp only [Act.put, List.setIfInBounds_toArray, List.set_cons_zero, List.set_cons_succ, Nat.reduceAdd]
  refine walk_pure (v := .bool false) (fun _ => trivial) (fun _ => rfl) ?_ ?_; (focus (intro us w9 hS9 hF; clear hF; go_simp; (try with_reducible rfl); done)); simp only [Act.put, List.setIfInBounds_toArray, List.set_cons_zero, List.set_cons_succ, Nat.reduceAdd]
  refine walk_pure (v := .bool false) (fun _ => trivial) (fun _ => rfl) ?_ ?_; (focus (intro us w9 hS9 hF; clear hF; go_simp; (try with_reducible rfl); done)); simp only [Act.put, List.setIfInBounds_toArray, List.set_cons_zero, List.set_cons_succ, Nat.reduceAdd]
  refine walk_pure (v := .int .i64 E1) (fun _ => trivial) (fun _ => rfl) ?_ ?_; (focus (intro us w9 hS9 hF; clear hF; go_simp; (try with_reducible rfl); done)); simp only [Act.put, List.setIfInBounds_toArray, List.set_cons_zero, List.set_cons_succ, Nat.reduceAdd]
  refine walk_pure (v := .int .i64 E1) (fun _ => trivial) (fun _ => rfl) ?_ ?_; (focus (intro us w9 hS9 hF; clear hF; go_simp; (try with_reducible rfl); done)); simp only [Act.put, List.setIfInBounds_toArray, List.set_cons_zero, List.set_cons_succ, Nat.reduceAdd]
  refine walk_pure (v := .bool false) (fun _ => trivial) (fun _ => rfl) ?_ ?_; (focus (intro us w9 hS9 hF; clear hF; go_simp; (try with_reducible rfl); done)); simp only [Act.put, List.setIfInBounds_toArray, List.set_cons_zero, List.set_cons_succ, Nat.reduceAdd]
  refine walk_pure (v := .bool false) (fun _ => trivial) (fun _ => rfl) ?_ ?_; (focus (intro us w9 hS9 hF; clear hF; go_simp; (try with_reducible rfl); done)); simp only [Act.put, List.setIfInBounds_toArray, List.set_cons_zero, List.set_cons_succ, Nat.reduceAdd]
  refine walk_pure (v := .bool false) (fun _ => trivial) (fun _ => rfl) ?_ ?_; (focus (intro us w9 hS9 hF; clear hF; go_simp; (try with_reducible rfl); done)); simp only [Act.put, List.setIfInBounds_toArray, List.set_cons_zero, List.set_cons_succ, Nat.reduceAdd]
  refine walk_pure (v := .agg #[.int .i64 z1, .int .u64 z2, .int .u64 z3]) (fun _ => trivial) (fun _ => rfl) ?_ ?_; (focus (intro us w9 hS9 hF; exact exec_load_g (r29.below hS9 r29.lt).range Try.underlying27 rfl info27 rfl)); simp only [Act.put, List.setIfInBounds_toArray, List.set_cons_zero, List.set_cons_succ, Nat.reduceAdd]
  refine walk_pure (v := .agg #[.int .i64 z1, .int .u64 z2, .int .u64 z3]) (fun _ => trivial) (fun _ => rfl) ?_ ?_; (focus (intro us w9 hS9 hF; exact exec_load_g (r31.below hS9 r31.lt).range Try.underlying27 rfl info27 rfl)); simp only [Act.put, List.setIfInBounds_toArray, List.set_cons_zero, List.set_cons_succ, Nat.reduceAdd]
  refine walk_pure (v := .bool false) (fun _ => trivial) (fun _ => rfl) ?_ ?_; (focus (intro us w9 hS9 hF; exact exec_neq_agg (b := true) guard27 rfl rfl (eq_send _ _ _ _))); simp only [Act.put, List.setIfInBounds_toArray, List.set_cons_zero, List.set_cons_succ, Nat.reduceAdd]
  refine walk_pure (v := .bool false) (fun _ => trivial) (fun _ => rfl) ?_ ?_; (focus (intro us w9 hS9 hF; clear hF; go_simp; (try with_reducible rfl); done)); simp only [Act.put, List.setIfInBounds_toArray, List.set_cons_zero, List.set_cons_succ, Nat.reduceAdd]
  refine walk_pure (v := .bool false) (fun _ => trivial) (fun _ => rfl) ?_ ?_; (focus (intro us w9 hS9 hF; clear hF; go_simp; (try with_reducible rfl); done)); simp only [Act.put, List.setIfInBounds_toArray, List.set_cons_zero, List.set_cons_succ, Nat.reduceAdd]
  refine walk_pure (v := .int .i64 E2) (fun _ => trivial) (fun _ => rfl) ?_ ?_; (focus (intro us w9 hS9 hF; clear hF; go_simp; (try with_reducible rfl); done)); simp only [Act.put, List.setIfInBounds_toArray, List.set_cons_zero, List.set_cons_succ, Nat.reduceAdd]
  refine walk_pure (v := .int .i64 E2) (fun _ => trivial) (fun _ => rfl) ?_ ?_; (focus (intro us w9 hS9 hF; clear hF; go_simp; (try with_reducible rfl); done)); simp only [Act.put, List.setIfInBounds_toArray, List.set_cons_zero, List.set_cons_succ, Nat.reduceAdd]
  refine walk_pure (v := .bool false) (fun _ => trivial) (fun _ => rfl) ?_ ?_; (focus (intro us w9 hS9 hF; clear hF; go_simp; (try with_reducible rfl); done)); simp only [Act.put, List.setIfInBounds_toArray, List.set_cons_zero, List.set_cons_succ, Nat.reduceAdd]
  refine walk_pure (v := .bool false) (fun _ => trivial) (fun _ => rfl) ?_ ?_; (focus (intro us w9 hS9 hF; clear hF; go_simp; (try with_reducible rfl); done)); simp only [Act.put, List.setIfInBounds_toArray, List.set_cons_zero, List.set_cons_succ, Nat.reduceAdd]
  refine walk_pure (v := .bool false) (fun _ => trivial) (fun _ => rfl) ?_ ?_; (focus (intro us w9 hS9 hF; clear hF; go_simp; (try with_reducible rfl); done)); simp only [Act.put, List.setIfInBounds_toArray, List.set_cons_zero, List.set_cons_succ, Nat.reduceAdd]
  refine walk_pure (v := .agg #[.int .i64 y1, .int .u64 y2]) (fun _ => trivial) (fun _ => rfl) ?_ ?_; (focus (intro us w9 hS9 hF; exact exec_load_g (r33.below hS9 r33.lt).range Try.underlying35 rfl info35 rfl)); simp only [Act.put, List.setIfInBounds_toArray, List.set_cons_zero, List.set_cons_succ, Nat.reduceAdd]
  refine walk_pure (v := .agg #[.int .i64 y1, .int .u64 y2]) (fun _ => trivial) (fun _ => rfl) ?_ ?_; (focus (intro us w9 hS9 hF; exact exec_load_g (r36.below hS9 r36.lt).range Try.underlying35 rfl info35 rfl)); simp only [Act.put, List.setIfInBounds_toArray, List.set_cons_zero, List.set_cons_succ, Nat.reduceAdd]
  refine walk_pure (v := .bool false) (fun _ => trivial) (fun _ => rfl) ?_ ?_; (focus (intro us w9 hS9 hF; exact exec_neq_agg (b := true) guard35 rfl rfl (eq_recv _ _ _))); simp only [Act.put, List.setIfInBounds_toArray, List.set_cons_zero, List.set_cons_succ, Nat.reduceAdd]
  refine walk_pure (v := .bool false) (fun _ => trivial) (fun _ => rfl) ?_ ?_; (focus (intro us w9 hS9 hF; clear hF; go_simp; (try with_reducible rfl); done)); simp only [Act.put, List.setIfInBounds_toArray, List.set_cons_zero, List.set_cons_succ, Nat.reduceAdd]
  refine walk_pure (v := .bool false) (fun _ => trivial) (fun _ => rfl) ?_ ?_; (focus (intro us w9 hS9 hF; clear hF; go_simp; (try with_reducible rfl); done)); simp only [Act.put, List.setIfInBounds_toArray, List.set_cons_zero, List.set_cons_succ, Nat.reduceAdd]
  refine walk_pure (v := .agg (LV k2 e2 f2 j2 a2 p2)) (fun _ => trivial) (fun _ => rfl) ?_ ?_; (focus (intro us w9 hS9 hF; exact exec_load_g (r34.below hS9 r34.lt).range Try.underlying40 rfl (line_info _ _ _ _ _ hp2) rfl)); simp only [Act.put, List.setIfInBounds_toArray, List.set_cons_zero, List.set_cons_succ, Nat.reduceAdd]
  refine walk_pure (v := .agg (LV k2 e2 f2 j2 a2 p2)) (fun _ => trivial) (fun _ => rfl) ?_ ?_; (focus (intro us w9 hS9 hF; exact exec_load_g (r37.below hS9 r37.lt).range Try.underlying40 rfl (line_info _ _ _ _ _ hp2) rfl)); simp only [Act.put, List.setIfInBounds_toArray, List.set_cons_zero, List.set_cons_succ, Nat.reduceAdd]
  refine walk_pure (v := .bool false) (fun _ => trivial) (fun _ => rfl) ?_ ?_; (focus (intro us w9 hS9 hF; exact exec_neq_agg (b := true) guard40 rfl rfl (HP w9))); simp only [Act.put, List.setIfInBounds_toArray, List.set_cons_zero, List.set_cons_succ, Nat.reduceAdd]
  refine walk_pure (v := .bool false) (fun _ => trivial) (fun _ => rfl) ?_ ?_; (focus (intro us w9 hS9 hF; clear hF; go_simp; (try with_reducible rfl); done)); simp only [Act.put, List.setIfInBounds_toArray, List.set_cons_zero, List.set_cons_succ, Nat.reduceAdd]
  refine walk_pure (v := .bool false) (fun _ => trivial) (fun _ => rfl) ?_ ?_; (focus (intro us w9 hS9 hF; clear hF; go_simp; (try with_reducible rfl); done)); simp only [Act.put, List.setIfInBounds_toArray, List.set_cons_zero, List.set_cons_succ, Nat.reduceAdd]
  refine walk_pure (v := .int .i64 E3) (fun _ => trivial) (fun _ => rfl) ?_ ?_; (focus (intro us w9 hS9 hF; clear hF; go_simp; (try with_reducible rfl); done)); simp only [Act.put, List.setIfInBounds_toArray, List.set_cons_zero, List.set_cons_succ, Nat.reduceAdd]
  refine walk_pure (v := .int .i64 E3) (fun _ => trivial) (fun _ => rfl) ?_ ?_; (focus (intro us w9 hS9 hF; clear hF; go_simp; (try with_reducible rfl); done)); simp only [Act.put, List.setIfInBounds_toArray, List.set_cons_zero, List.set_cons_succ, Nat.reduceAdd]
  refine walk_pure (v := .bool false) (fun _ => trivial) (fun _ => rfl) ?_ ?_; (focus (intro us w9 hS9 hF; clear hF; go_simp; (try with_reducible rfl); done)); simp only [Act.put, List.setIfInBounds_toArray, List.set_cons_zero, List.set_cons_succ, Nat.reduceAdd]
  refine walk_pure (v := .bool false) (fun _ => trivial) (fun _ => rfl) ?_ ?_; (focus (intro us w9 hS9 hF; clear hF; go_simp; (try with_reducible rfl); done)); simp only [Act.put, List.setIfInBounds_toArray, List.set_cons_zero, List.set_cons_succ, Nat.reduceAdd]
  refine walk_pure (v := .bool false) (fun _ => trivial) (fun _ => rfl) ?_ ?_; (focus (intro us w9 hS9 hF; clear hF; go_simp; (try with_reducible rfl); done)); simp only [Act.put, List.setIfInBounds_toArray, List.set_cons_zero, List.set_cons_succ, Nat.reduceAdd]
  refine walk_pure (v := .agg #[.int .i64 s1, .int .u64 s2, .int .u64 s3]) (fun _ => trivial) (fun _ => rfl) ?_ ?_; (focus (intro us w9 hS9 hF; exact exec_load_g (r9.below hS9 r9.lt).range Try.underlying27 rfl info27 rfl)); simp only [Act.put, List.setIfInBounds_toArray, List.set_cons_zero, List.set_cons_succ, Nat.reduceAdd]
  refine walk_fix (v := .int .i64 (fr s1 s2 s3)) ?_ ?_; (focus (intro us w9 hS9 hF K hK; clear hF; go_simp; refine (free _ _ _ hs0 hs1 ha0 _).mono ?_; rintro e w' ⟨rfl, hb⟩; exact hK _ (below_on hS9 hb) trivial)); simp only [Act.put, List.setIfInBounds_toArray, List.set_cons_zero, List.set_cons_succ, Nat.reduceAdd]
  refine walk_pure (v := .agg #[.int .i64 s1, .int .u64 s2, .int .u64 s3]) (fun _ => trivial) (fun _ => rfl) ?_ ?_; (focus (intro us w9 hS9 hF; exact exec_load_g (r9.below hS9 r9.lt).range Try.underlying27 rfl info27 rfl)); simp only [Act.put, List.setIfInBounds_toArray, List.set_cons_zero, List.set_cons_succ, Nat.reduceAdd]
  refine walk_fix (v := .int .i64 (fr s1 s2 s3)) ?_ ?_; (focus (intro us w9 hS9 hF K hK; clear hF; go_simp; refine (free_ref _ _ _ hs0 hs1 ha0 _).mono ?_; rintro e w' ⟨rfl, hb⟩; exact hK _ (below_on hS9 hb) trivial)); simp only [Act.put, List.setIfInBounds_toArray, List.set_cons_zero, List.set_cons_succ, Nat.reduceAdd]
  refine walk_pure (v := .bool false) (fun _ => trivial) (fun _ => rfl) ?_ ?_; (focus (intro us w9 hS9 hF; clear hF; go_simp; (try with_reducible rfl); done)); simp only [Act.put, List.setIfInBounds_toArray, List.set_cons_zero, List.set_cons_succ, Nat.reduceAdd]
  refine walk_pure (v := .bool false) (fun _ => trivial) (fun _ => rfl) ?_ ?_; (focus (intro us w9 hS9 hF; clear hF; go_simp; (try with_reducible rfl); done)); simp only [Act.put, List.setIfInBounds_toArray, List.set_cons_zero, List.set_cons_succ, Nat.reduceAdd]
  refine walk_pure (v := .bool false) (fun _ => trivial) (fun _ => rfl) ?_ ?_; (focus (intro us w9 hS9 hF; clear hF; go_simp; (try with_reducible rfl); done)); simp only [Act.put, List.setIfInBounds_toArray, List.set_cons_zero, List.set_cons_succ, Nat.reduceAdd]
  refine walk_pure (v := .agg #[.int .i64 rn, .int .u64 rc]) (fun _ => trivial) (fun _ => rfl) ?_ ?_; (focus (intro us w9 hS9 hF; exact exec_load_g (r10.below hS9 r10.lt).range Try.underlying35 rfl info35 rfl)); simp only [Act.put, List.setIfInBounds_toArray, List.set_cons_zero, List.set_cons_succ, Nat.reduceAdd]
  refine walk_fix (v := .int .u16 (acN rn rc)) ?_ ?_; (focus (intro us w9 hS9 hF K hK; clear hF; go_simp; refine (ack_any _ _ _).mono ?_; rintro e w' ⟨rfl, hb⟩; exact hK _ (below_on hS9 hb) trivial)); simp only [Act.put, List.setIfInBounds_toArray, List.set_cons_zero, List.set_cons_succ, Nat.reduceAdd]
  refine walk_pure (v := .agg #[.int .i64 rn, .int .u64 rc]) (fun _ => trivial) (fun _ => rfl) ?_ ?_; (focus (intro us w9 hS9 hF; exact exec_load_g (r10.below hS9 r10.lt).range Try.underlying35 rfl info35 rfl)); simp only [Act.put, List.setIfInBounds_toArray, List.set_cons_zero, List.set_cons_succ, Nat.reduceAdd]
  refine walk_fix (v := .int .u16 (acN rn rc)) ?_ ?_; (focus (intro us w9 hS9 hF K hK; clear hF; go_simp; refine (ack_ref _ _ _).mono ?_; rintro e w' ⟨rfl, hb⟩; exact hK _ (below_on hS9 hb) trivial)); simp only [Act.put, List.setIfInBounds_toArray, List.set_cons_zero, List.set_cons_succ, Nat.reduceAdd]
  refine walk_pure (v := .bool false) (fun _ => trivial) (fun _ => rfl) ?_ ?_; (focus (intro us w9 hS9 hF; clear hF; go_simp; (try with_reducible rfl); done)); simp only [Act.put, List.setIfInBounds_toArray, List.set_cons_zero, List.set_cons_succ, Nat.reduceAdd]
  refine walk_pure (v := .bool false) (fun _ => trivial) (fun _ => rfl) ?_ ?_; (focus (intro us w9 hS9 hF; clear hF; go_simp; (try with_reducible rfl); done)); simp only [Act.put, List.setIfInBounds_toArray, List.set_cons_zero, List.set_cons_succ, Nat.reduceAdd]
  refine walk_done fun us w9 hS9 hF => ?_
  have hB := hB.trans (hS9.mono hB.size)
  clear hF hS9 r21 r23 r25 r27 r29 r31 r33 r34 r36 r37 HX HP
  have hib9 := hib.below hB
  go_upto_region 16 with (first | (at_builtin; (refine wp_append_b (P := Try.prog) rfl _ _ 44 rfl Try.underlying44 info_b (OwnB.nil w9 w9.heap.size 5) hib9 (by omega) (Nat.le_refl _) rfl rfl ?_); intro A1 n1 c1 wa hn1 ho1 hba hg1 hat1; have hq1 := hn1.out; rw [Nat.zero_add] at hq1; subst hq1; simp only [List.nil_append] at ho1) | (go_at_call 32; refine (hD1 _ _ _ ho1.isB ho1.capM).mono ?_; rintro e wd ⟨rfl, hbd⟩) | ((with_reducible refine wp_row_store (L := (LV k3 e3 f3 j3 a3 p3)) (Row.bornAt (g := wd.heap.size) rfl 40 _) ?_ (line_info _ _ _ _ _ hp3) (LV_one _ _ _ _ _ _) ?_ ?_ ?_); exact (LV_size _ _ _ _ _ hp3).symm; rfl; rfl; intro we ue r39))
  have hBa := Upd.below (hba.trans ((hbd.trans (((Below.refl wd.heap.size wd).alloc (Nat.le_refl _) _).mono hbd.size)).mono hba.size)) ue (by have := hba.size; have := hbd.size; omega)
  have hB := hB.trans (hBa.mono hB.size)
  have hib8 := hib.below hB
  clear hib9 hn1 ho1 hba hg1 hat1 hbd hBa ue
  generalize wd.heap.size = g39 at *
  go_upto_region 17 with (first | (go_at_call 40; refine (hD2 _ _ _ hib8 hrc).mono ?_; rintro e wf ⟨rfl, hbf⟩) | ((with_reducible refine wp_row_store (L := (LV k3 e3 f3 j3 a3 p3)) (Row.bornAt (g := wf.heap.size) rfl 40 _) ?_ (line_info _ _ _ _ _ hp3) (LV_one _ _ _ _ _ _) ?_ ?_ ?_); exact (LV_size _ _ _ _ _ hp3).symm; rfl; rfl; intro wg ug r41))
  have hBa := Upd.below (hbf.trans (((Below.refl wf.heap.size wf).alloc (Nat.le_refl _) _).mono hbf.size)) ug hbf.size
  have r39 := r39.below hBa r39.lt
  have hB := hB.trans (hBa.mono hB.size)
  clear hbf hBa ug
  generalize wf.heap.size = g41 at *
  go_wp2_with (first | ((with_reducible refine wp_load_g ?_ r39.range Try.underlying40 rfl (line_info _ _ _ _ _ hp3) ?_ ?_); rfl; rfl) | ((with_reducible refine wp_load_g ?_ r41.range Try.underlying40 rfl (line_info _ _ _ _ _ hp3) ?_ ?_); rfl; rfl) | ((with_reducible refine wp_eql_g ?_ guard40 (HD _) ?_ ?_ ?_); rfl; rfl; rfl) | (go_at_call 23; refine (awake19 _).mono ?_; rintro e wh ⟨rfl, hbh⟩))
  go_ret
  exact ⟨rfl, hB.trans (hbh.mono hB.size)⟩
end Go.Proofs.Ythjkhambmgepdaa
