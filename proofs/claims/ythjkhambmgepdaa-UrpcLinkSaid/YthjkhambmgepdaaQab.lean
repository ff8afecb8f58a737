/- Texts Ua Ops Ub In Told, without what this claim does not use. -/
import Derived.Laws.StructEq
import Derived.Deep.RegionHeld3
import Derived.Test.YthjkhambmgepdaaQaa
namespace Go.Proofs.Ythjkhambmgepdaa
section
open Go.RowKit
set_option linter.unusedVariables false
theorem Grp.ex (v : Nat) : ∃ s, Grp v s := by
  induction v using Nat.strongRecOn with
  | ind v ih =>
    rcases Nat.lt_or_ge v 128 with h | h
    · exact ⟨1, by omega, by omega, .inl rfl⟩
    · obtain ⟨s, h1, h2, h3⟩ := ih (v / 128) (by omega)
      refine ⟨s + 1, by omega, ?_, .inr ?_⟩
      · rw [Nat.pow_succ]; omega
      · rw [Nat.add_sub_cancel]
        rcases h3 with h3 | h3
        · rw [h3]; omega
        · have : s = s - 1 + 1 := by omega
          rw [this, Nat.pow_succ]
          omega
noncomputable def sz (v : Nat) : Nat := Classical.choose (Grp.ex v)
theorem sz_grp (v : Nat) : Grp v (sz v) := Classical.choose_spec (Grp.ex v)
noncomputable def uB (v : Nat) : List UInt8 := uvB v (sz v)
theorem uB_len (v : Nat) : (uB v).length = sz v := uvB_len v (sz v)
theorem uB_of {v j : Nat} (h : Grp v j) : uvB v j = uB v := by unfold uB; rw [h.uniq (sz_grp v)]
theorem uB_small (v : Nat) (h : v < 18446744073709551616) : (uB v).length ≤ 10 := by rw [uB_len]; exact (sz_grp v).le h
theorem uB_at {v : Nat} (hv : v < 18446744073709551616) (h r : List UInt8) : uvR (h ++ (uB v ++ r)) (h.length : Nat) = (v, h.length + (uB v).length, 0) := by
  rw [uB_len]
  exact uvR_enc (sz_grp v) hv h r
theorem bR_enc {p : List UInt8} {limit : Int} (hl : (p.length : Int) ≤ limit) (h6 : p.length < 18446744073709551616) (h : List UInt8) : bR (h ++ (uB p.length ++ p)) (h.length : Nat) limit = (p, (h ++ (uB p.length ++ p)).length, 0) := by
  unfold bR
  rw [uB_at h6]
  rw [if_neg (by simp; omega), if_neg (by simp), if_neg (by simp; omega), if_neg (by simp; omega)]
  have e : (h ++ (uB p.length ++ p)).drop (h.length + (uB p.length).length) = p := by
    rw [← List.append_assoc, ← List.length_append, List.drop_left]
  simp only [e, List.take_length]
  simp [Nat.add_assoc]
structure RM where
  (k n s e : Int) (b : List UInt8)
def RM.req (m : RM) : Bool := decide (m.k = 1) && (decide (0 ≤ m.s) && (decide (m.s ≤ 65535) && decide (m.e = 0)))
def RM.rep (m : RM) : Bool := decide (m.k = 2) && (decide (m.s = 0) && (decide (0 ≤ m.e) && (decide (m.e ≤ 255) && (decide (m.e = 0) || decide (m.b.length = 0)))))
def RM.ok (m : RM) : Bool := decide (1 ≤ m.n) && (decide (m.n ≤ 1099511627776) && (decide (m.b.length ≤ 65536) && (m.req || m.rep)))
def RM.d (m : RM) : Int := if m.k = 1 then m.s else m.e
noncomputable def RM.by (m : RM) : List UInt8 := uB m.k.toNat ++ (uB m.n.toNat ++ (uB m.d.toNat ++ (uB m.b.length ++ m.b)))
structure RM.Ok (m : RM) : Prop where
  n0 : 1 ≤ m.n
  n1 : m.n ≤ 1099511627776
  b : m.b.length ≤ 65536
  c : (m.k = 1 ∧ 0 ≤ m.s ∧ m.s ≤ 65535 ∧ m.e = 0) ∨ (m.k = 2 ∧ m.s = 0 ∧ 0 ≤ m.e ∧ m.e ≤ 255 ∧ (m.e = 0 ∨ m.b.length = 0))
theorem RM.ok_iff {m : RM} : m.ok = true ↔ m.Ok := by
  unfold RM.ok RM.req RM.rep
  simp only [Bool.and_eq_true, Bool.or_eq_true, decide_eq_true_eq]
  constructor
  · rintro ⟨h1, h2, h3, h4⟩
    exact ⟨h1, h2, h3, h4⟩
  · rintro ⟨h1, h2, h3, h4⟩
    exact ⟨h1, h2, h3, h4⟩
def dK (bs : List UInt8) : Nat × Nat × Nat := uvR bs 0
def dN (bs : List UInt8) : Nat × Nat × Nat := uvR bs ((dK bs).2.1 : Nat)
def dT (bs : List UInt8) : Nat × Nat × Nat := uvR bs ((dN bs).2.1 : Nat)
def dB (bs : List UInt8) : List UInt8 × Nat × Nat := bR bs ((dT bs).2.1 : Nat) 65536
def dO (r : Nat × Nat × Nat) : Bool := decide (r.2.2 = 0) && decide (r.1 ≤ 1099511627776)
def dM (bs : List UInt8) : RM := ⟨(dK bs).1, (dN bs).1, if (dK bs).1 = 2 then 0 else (dT bs).1, if (dK bs).1 = 2 then (dT bs).1 else 0, (dB bs).1⟩
def dOk (bs : List UInt8) : Bool := dO (dK bs) && (dO (dN bs) && (dO (dT bs) && (decide ((dB bs).2.2 = 0) && (decide ((dB bs).2.1 = bs.length) && (dM bs).ok))))
theorem RM.Ok.k {m : RM} (h : m.Ok) : m.k = 1 ∨ m.k = 2 := by rcases h.c with h | h <;> omega
theorem RM.Ok.d {m : RM} (h : m.Ok) : 0 ≤ m.d ∧ m.d ≤ 65535 := by
  unfold RM.d
  rcases h.c with ⟨h1, h2⟩ | ⟨h1, h2⟩
  · rw [if_pos h1]; omega
  · rw [if_neg (by omega)]; omega
theorem rm_dec {m : RM} (h : m.ok = true) : dOk m.by = true ∧ dM m.by = m := by
  have hm := RM.ok_iff.1 h
  have hk := hm.k
  have hd := hm.d
  have hb := hm.b
  have hn0 := hm.n0
  have hn1 := hm.n1
  have eK : dK m.by = (m.k.toNat, (uB m.k.toNat).length, 0) := by
    have := uB_at (v := m.k.toNat) (by omega) [] (uB m.n.toNat ++ (uB m.d.toNat ++ (uB m.b.length ++ m.b)))
    simp only [List.nil_append, List.length_nil, Nat.zero_add] at this
    exact this
  have eN : dN m.by = (m.n.toNat, (uB m.k.toNat ++ uB m.n.toNat).length, 0) := by
    have := uB_at (v := m.n.toNat) (by omega) (uB m.k.toNat) (uB m.d.toNat ++ (uB m.b.length ++ m.b))
    unfold dN
    rw [eK, List.length_append]
    exact this
  have eT : dT m.by = (m.d.toNat, (uB m.k.toNat ++ uB m.n.toNat ++ uB m.d.toNat).length, 0) := by
    have := uB_at (v := m.d.toNat) (by omega) (uB m.k.toNat ++ uB m.n.toNat) (uB m.b.length ++ m.b)
    unfold dT
    rw [eN, show (uB m.k.toNat ++ uB m.n.toNat ++ uB m.d.toNat).length = (uB m.k.toNat ++ uB m.n.toNat).length + (uB m.d.toNat).length from List.length_append]
    rw [List.append_assoc] at this
    exact this
  have eB : dB m.by = (m.b, m.by.length, 0) := by
    have := bR_enc (p := m.b) (limit := 65536) (by omega) (by omega) (uB m.k.toNat ++ uB m.n.toNat ++ uB m.d.toNat)
    unfold dB
    rw [eT]
    rw [List.append_assoc, List.append_assoc] at this
    exact this
  have eM : dM m.by = m := by
    unfold dM
    rw [eK, eN, eT, eB]
    unfold RM.d at hd ⊢
    obtain ⟨k, n, s, e, b⟩ := m
    simp only at hk hd hn0 hn1 hm ⊢
    have hc := hm.c
    simp only at hc
    rcases hk with rfl | rfl
    · simp only [if_true]
      simp only [if_true] at hd
      have : ((1 : Int).toNat : Nat) ≠ 2 := by decide
      rw [if_neg this, if_neg this]
      simp
      omega
    · simp only [show ¬ (2 : Int) = 1 by omega, if_false] at hd ⊢
      simp
      omega
  refine ⟨?_, eM⟩
  unfold dOk
  rw [eM, eB, eT, eN, eK, h]
  simp [dO]
  omega
end
section
open Go.RowKit
set_option linter.unusedVariables false
section
variable {P : Program} {w : World} {dst : Option Tmp} {typ : TypeId} {pos : String} {after : Array Edge} {gd : Option (Nat × Bool)} {ev : Operand → Value}
theorem exec_load_g {ty : TypeId} {x : Operand} {b o : Nat} {cs : Array Value} {d : TypeDesc} (hc : w.rangeAt b o cs.toList) (hu : P.underlying ty = some d) (hd : d.isRow = true) (hi : (P.info? ty).map (·.size) = some cs.size) (hx : ev x = .pointer (some ⟨b, o, none⟩)) :
    (execOp ev { dst := dst, op := .load ty x, type := typ, pos := pos, after := after, guard := gd }).run P w = .ok (.value (.agg cs)) w := by
  unfold execOp
  simp only [hx, Instr.loadAt, Instr.sureAddr, Sem.run_bind, Sem.run_pure, Result.andThen_ok, run_loadVar_mid w b o ty cs.toList d hc hu hd (by simpa using hi)]
theorem exec_neq_agg {t t2 : TypeId} {x y : Operand} {X Y : Array Value} {b : Bool} (hm : P.eqGuardType P.depth t = false) (hx : ev x = .agg X) (hy : ev y = .agg Y) (hE : (Op.equalIn 10000 t (.agg X) (.agg Y)).run P w = .ok b w) :
    (execOp ev { dst := dst, op := .binOp .neq t x y t2, type := typ, pos := pos, after := after, guard := gd }).run P w = .ok (.value (.bool (!b))) w := by
  unfold execOp
  simp [hx, hy, run_eqGuard_agg w .neq t x y X Y hm, run_neq_struct, hE]
variable {ops : Array Oper} {rest : List Oper} {Q : Exit → Act → World → Prop} {a : Act}
theorem wp_told_g {o : Oper} {v : Value} (hg : Region.wanted o (yielded ops a.tmps) = true) (hy : (execOp a.eval o).run P w = .ok (.value v) w) (h : wpList P ops Q rest (a.put o.dst v) w) : wpList P ops Q (o :: rest) a w := by
  refine wpList_step fun K hK => ?_
  rw [if_pos hg]
  unfold Oper.wp
  rw [hy]
  exact hK _ _ h
theorem wp_load_g {ty : TypeId} {x : Operand} {b o : Nat} {cs : Array Value} {d : TypeDesc} (hg : Region.wanted { dst := dst, op := .load ty x, type := typ, pos := pos, after := after, guard := gd } (yielded ops a.tmps) = true) (hc : w.rangeAt b o cs.toList) (hu : P.underlying ty = some d) (hd : d.isRow = true) (hi : (P.info? ty).map (·.size) = some cs.size) (hx : a.eval x = .pointer (some ⟨b, o, none⟩))
    (h : wpList P ops Q rest (a.put dst (.agg cs)) w) : wpList P ops Q ({ dst := dst, op := .load ty x, type := typ, pos := pos, after := after, guard := gd } :: rest) a w := wp_told_g hg (exec_load_g hc hu hd hi hx) h
theorem wp_neq_g {t t2 : TypeId} {x y : Operand} {X Y : Array Value} {b : Bool} (hg : Region.wanted { dst := dst, op := .binOp .neq t x y t2, type := typ, pos := pos, after := after, guard := gd } (yielded ops a.tmps) = true) (hm : P.eqGuardType P.depth t = false) (hE : (Op.equalIn 10000 t (.agg X) (.agg Y)).run P w = .ok b w) (hx : a.eval x = .agg X) (hy : a.eval y = .agg Y)
    (h : wpList P ops Q rest (a.put dst (.bool (!b))) w) : wpList P ops Q ({ dst := dst, op := .binOp .neq t x y t2, type := typ, pos := pos, after := after, guard := gd } :: rest) a w := wp_told_g hg (exec_neq_agg hm hx hy hE) h
end
theorem results_ct {P : Program} {fn : Func} {p u : Tmp} {ty1 : TypeId} {d1 : TypeDesc} (h : fn.results = #[.cell p ty1, .tmp u]) {tmps : Array Value} {w : World} {g1 : Nat} {t1 : TypeId} {cs1 : Array Value}
    (h1 : tmps.getD p undef = .pointer (some ⟨g1, 0, none⟩)) (r1 : Row w g1 t1 cs1) (u1 : P.underlying ty1 = some d1) (k1 : d1.isRow = true) (i1 : (P.info? ty1).map (·.size) = some cs1.size) :
    (results fn tmps).run P w = .ok (.tuple #[.agg cs1, tmps.getD u undef]) w := by
  have l1 := run_loadVar_mid (P := P) w g1 0 ty1 cs1.toList d1 r1.range u1 k1 (by simpa using i1)
  simp only [Array.toArray_toList] at l1
  simp only [Array.getD_eq_getD_getElem?] at h1
  simp [results, h, h1, asAddr, l1]
end
section
open Go.RowKit
set_option linter.unusedVariables false
theorem info97 : (Try.prog.info? 97).map (·.size) = some 5 := by kernel_rfl
def RMV (m : RM) (A : Option Addr) (c : Nat) : Array Value := #[.int .i64 m.k, .int .i64 m.n, .int .i64 m.s, .int .i64 m.e, .slice A m.b.length c]
theorem rmv_one (m : RM) (A : Option Addr) (c : Nat) : (RMV m A c).all (·.oneCell') = true := by simp [RMV, Value.oneCell']
theorem rmv_info (m : RM) (A : Option Addr) (c : Nat) : (Try.prog.info? 97).map (·.size) = some (RMV m A c).size := info97
def clV (m : RM) (A : Option Addr) (c : Nat) : Value := if m.ok = true then (if m.k = 1 then .iface 186 (.agg #[.int .i64 m.n, .int .i64 m.s, .slice A m.b.length c]) else .iface 188 (.agg #[.int .i64 m.n, .int .i64 m.e, .slice A m.b.length c])) else .nilIface
def ClsP (m : RM) (A : Option Addr) (c : Nat) (W : World) (en : Ending) (W' : World) : Prop := en = .returned (clV m A c) ∧ Below W.heap.size W W'
theorem dt {p : Prop} [Decidable p] (h : p) : decide p = true := decide_eq_true h
theorem df {p : Prop} [Decidable p] (h : ¬ p) : decide p = false := decide_eq_false h
theorem et {a b : Int} (h : a = b) : (a == b) = true := by rw [beq_iff_eq]; exact h
theorem ef {a b : Int} (h : a ≠ b) : (a == b) = false := by rw [beq_eq_false_iff_ne]; exact h
theorem cls_mk {m : RM} {A : Option Addr} {c : Nat} {v : Value} {W W' : World} (h : clV m A c = v) (hb : Below W.heap.size W W') : ClsP m A c W (.returned v) W' := ⟨by rw [h], hb⟩
theorem nt {a b : Int} (h : a ≠ b) : (a != b) = true := by simpa using h
theorem nf {a b : Int} (h : a = b) : (a != b) = false := by simp [h]
theorem clV_bad {m : RM} {A : Option Addr} {c : Nat} (h : m.ok = false) : clV m A c = .nilIface := by unfold clV; rw [h]; rfl
theorem ok_false {m : RM} (h : ¬ m.Ok) : m.ok = false := by
  cases hv : m.ok
  · rfl
  · exact absurd (RM.ok_iff.1 hv) h
set_option maxRecDepth 100000 in
set_option maxHeartbeats 4000000 in
theorem cls_b0 (k n s e : Int) (b : List UInt8) (A : Option Addr) (c : Nat) (W : World) (h : n < 1) (hv : (RM.mk k n s e b).ok = false) : Calls Try.prog 112 #[.agg (RMV ⟨k, n, s, e, b⟩ A c)] W (ClsP ⟨k, n, s, e, b⟩ A c W) := by
  have HV := Lib.hid hv
  clear hv
  have da : decide (n < 1) = true := dt (by omega)
  clear h
  have hB1 := (Below.refl W.heap.size W).alloc (Nat.le_refl _) (.cells (RMV ⟨k, n, s, e, b⟩ A c) 97)
  have r1 := Row.born W 97 (RMV ⟨k, n, s, e, b⟩ A c)
  go_enter Try.func112, Try.ntmps112
  go_upto_region 1 with (fail)
  generalize W.alloc (.cells (RMV ⟨k, n, s, e, b⟩ A c) 97) = w1 at *
  have c0 : w1.cell? ⟨W.heap.size, 0, none⟩ = some (.int .i64 k) := r1.cell 0
  have c1 : w1.cell? ⟨W.heap.size, 1, none⟩ = some (.int .i64 n) := r1.cell 1
  have c2 : w1.cell? ⟨W.heap.size, 2, none⟩ = some (.int .i64 s) := r1.cell 2
  have c3 : w1.cell? ⟨W.heap.size, 3, none⟩ = some (.int .i64 e) := r1.cell 3
  have c4 : w1.cell? ⟨W.heap.size, 4, none⟩ = some (.slice A b.length c) := r1.cell 4
  clear r1
  go_wp2
  go_ret
  exact cls_mk (clV_bad HV.out) hB1
set_option maxRecDepth 100000 in
set_option maxHeartbeats 4000000 in
theorem cls_b1 (k n s e : Int) (b : List UInt8) (A : Option Addr) (c : Nat) (W : World) (h : 1 ≤ n ∧ 1099511627776 < n) (hv : (RM.mk k n s e b).ok = false) : Calls Try.prog 112 #[.agg (RMV ⟨k, n, s, e, b⟩ A c)] W (ClsP ⟨k, n, s, e, b⟩ A c W) := by
  have HV := Lib.hid hv
  clear hv
  have da : decide (n < 1) = false := df (by omega)
  have db : decide (1099511627776 < n) = true := dt (by omega)
  clear h
  have hB1 := (Below.refl W.heap.size W).alloc (Nat.le_refl _) (.cells (RMV ⟨k, n, s, e, b⟩ A c) 97)
  have r1 := Row.born W 97 (RMV ⟨k, n, s, e, b⟩ A c)
  go_enter Try.func112, Try.ntmps112
  go_upto_region 1 with (fail)
  generalize W.alloc (.cells (RMV ⟨k, n, s, e, b⟩ A c) 97) = w1 at *
  have c0 : w1.cell? ⟨W.heap.size, 0, none⟩ = some (.int .i64 k) := r1.cell 0
  have c1 : w1.cell? ⟨W.heap.size, 1, none⟩ = some (.int .i64 n) := r1.cell 1
  have c2 : w1.cell? ⟨W.heap.size, 2, none⟩ = some (.int .i64 s) := r1.cell 2
  have c3 : w1.cell? ⟨W.heap.size, 3, none⟩ = some (.int .i64 e) := r1.cell 3
  have c4 : w1.cell? ⟨W.heap.size, 4, none⟩ = some (.slice A b.length c) := r1.cell 4
  clear r1
  go_wp2
  go_ret
  exact cls_mk (clV_bad HV.out) hB1
set_option maxRecDepth 100000 in
set_option maxHeartbeats 4000000 in
theorem cls_b2 (k n s e : Int) (b : List UInt8) (A : Option Addr) (c : Nat) (W : World) (h : 1 ≤ n ∧ n ≤ 1099511627776 ∧ 65536 < b.length) (hv : (RM.mk k n s e b).ok = false) : Calls Try.prog 112 #[.agg (RMV ⟨k, n, s, e, b⟩ A c)] W (ClsP ⟨k, n, s, e, b⟩ A c W) := by
  have HV := Lib.hid hv
  clear hv
  have da : decide (n < 1) = false := df (by omega)
  have db : decide (1099511627776 < n) = false := df (by omega)
  have dc : decide (65536 < (b.length : Int)) = true := dt (by omega); have dcn : decide (65536 < b.length) = true := dt (by omega)
  clear h
  have hB1 := (Below.refl W.heap.size W).alloc (Nat.le_refl _) (.cells (RMV ⟨k, n, s, e, b⟩ A c) 97)
  have r1 := Row.born W 97 (RMV ⟨k, n, s, e, b⟩ A c)
  go_enter Try.func112, Try.ntmps112
  go_upto_region 1 with (fail)
  generalize W.alloc (.cells (RMV ⟨k, n, s, e, b⟩ A c) 97) = w1 at *
  have c0 : w1.cell? ⟨W.heap.size, 0, none⟩ = some (.int .i64 k) := r1.cell 0
  have c1 : w1.cell? ⟨W.heap.size, 1, none⟩ = some (.int .i64 n) := r1.cell 1
  have c2 : w1.cell? ⟨W.heap.size, 2, none⟩ = some (.int .i64 s) := r1.cell 2
  have c3 : w1.cell? ⟨W.heap.size, 3, none⟩ = some (.int .i64 e) := r1.cell 3
  have c4 : w1.cell? ⟨W.heap.size, 4, none⟩ = some (.slice A b.length c) := r1.cell 4
  clear r1
  go_wp2
  go_ret
  exact cls_mk (clV_bad HV.out) hB1
set_option maxRecDepth 100000 in
set_option maxHeartbeats 4000000 in
theorem cls_b3 (k n s e : Int) (b : List UInt8) (A : Option Addr) (c : Nat) (W : World) (h : 1 ≤ n ∧ n ≤ 1099511627776 ∧ b.length ≤ 65536 ∧ k = 1 ∧ s < 0) (hv : (RM.mk k n s e b).ok = false) : Calls Try.prog 112 #[.agg (RMV ⟨k, n, s, e, b⟩ A c)] W (ClsP ⟨k, n, s, e, b⟩ A c W) := by
  have HV := Lib.hid hv
  clear hv
  have da : decide (n < 1) = false := df (by omega)
  have db : decide (1099511627776 < n) = false := df (by omega)
  have dc : decide (65536 < (b.length : Int)) = false := df (by omega); have dcn : decide (65536 < b.length) = false := df (by omega)
  have dd : (k == 1) = true := et (by omega)
  have de : decide (0 ≤ s) = false := df (by omega)
  have dh : (k == 2) = false := ef (by omega)
  clear h
  have hB1 := (Below.refl W.heap.size W).alloc (Nat.le_refl _) (.cells (RMV ⟨k, n, s, e, b⟩ A c) 97)
  have r1 := Row.born W 97 (RMV ⟨k, n, s, e, b⟩ A c)
  go_enter Try.func112, Try.ntmps112
  go_upto_region 1 with (fail)
  generalize W.alloc (.cells (RMV ⟨k, n, s, e, b⟩ A c) 97) = w1 at *
  have c0 : w1.cell? ⟨W.heap.size, 0, none⟩ = some (.int .i64 k) := r1.cell 0
  have c1 : w1.cell? ⟨W.heap.size, 1, none⟩ = some (.int .i64 n) := r1.cell 1
  have c2 : w1.cell? ⟨W.heap.size, 2, none⟩ = some (.int .i64 s) := r1.cell 2
  have c3 : w1.cell? ⟨W.heap.size, 3, none⟩ = some (.int .i64 e) := r1.cell 3
  have c4 : w1.cell? ⟨W.heap.size, 4, none⟩ = some (.slice A b.length c) := r1.cell 4
  clear r1
  go_wp2
  go_ret
  exact cls_mk (clV_bad HV.out) hB1
set_option maxRecDepth 100000 in
set_option maxHeartbeats 4000000 in
theorem cls_b4 (k n s e : Int) (b : List UInt8) (A : Option Addr) (c : Nat) (W : World) (h : 1 ≤ n ∧ n ≤ 1099511627776 ∧ b.length ≤ 65536 ∧ k = 1 ∧ 0 ≤ s ∧ 65535 < s) (hv : (RM.mk k n s e b).ok = false) : Calls Try.prog 112 #[.agg (RMV ⟨k, n, s, e, b⟩ A c)] W (ClsP ⟨k, n, s, e, b⟩ A c W) := by
  have HV := Lib.hid hv
  clear hv
  have da : decide (n < 1) = false := df (by omega)
  have db : decide (1099511627776 < n) = false := df (by omega)
  have dc : decide (65536 < (b.length : Int)) = false := df (by omega); have dcn : decide (65536 < b.length) = false := df (by omega)
  have dd : (k == 1) = true := et (by omega)
  have de : decide (0 ≤ s) = true := dt (by omega)
  have dp : decide (s ≤ 65535) = false := df (by omega)
  have dh : (k == 2) = false := ef (by omega)
  clear h
  have hB1 := (Below.refl W.heap.size W).alloc (Nat.le_refl _) (.cells (RMV ⟨k, n, s, e, b⟩ A c) 97)
  have r1 := Row.born W 97 (RMV ⟨k, n, s, e, b⟩ A c)
  go_enter Try.func112, Try.ntmps112
  go_upto_region 1 with (fail)
  generalize W.alloc (.cells (RMV ⟨k, n, s, e, b⟩ A c) 97) = w1 at *
  have c0 : w1.cell? ⟨W.heap.size, 0, none⟩ = some (.int .i64 k) := r1.cell 0
  have c1 : w1.cell? ⟨W.heap.size, 1, none⟩ = some (.int .i64 n) := r1.cell 1
  have c2 : w1.cell? ⟨W.heap.size, 2, none⟩ = some (.int .i64 s) := r1.cell 2
  have c3 : w1.cell? ⟨W.heap.size, 3, none⟩ = some (.int .i64 e) := r1.cell 3
  have c4 : w1.cell? ⟨W.heap.size, 4, none⟩ = some (.slice A b.length c) := r1.cell 4
  clear r1
  go_wp2
  go_ret
  exact cls_mk (clV_bad HV.out) hB1
set_option maxRecDepth 100000 in
set_option maxHeartbeats 4000000 in
theorem cls_b5 (k n s e : Int) (b : List UInt8) (A : Option Addr) (c : Nat) (W : World) (h : 1 ≤ n ∧ n ≤ 1099511627776 ∧ b.length ≤ 65536 ∧ k = 1 ∧ 0 ≤ s ∧ s ≤ 65535 ∧ e ≠ 0) (hv : (RM.mk k n s e b).ok = false) : Calls Try.prog 112 #[.agg (RMV ⟨k, n, s, e, b⟩ A c)] W (ClsP ⟨k, n, s, e, b⟩ A c W) := by
  have HV := Lib.hid hv
  clear hv
  have da : decide (n < 1) = false := df (by omega)
  have db : decide (1099511627776 < n) = false := df (by omega)
  have dc : decide (65536 < (b.length : Int)) = false := df (by omega); have dcn : decide (65536 < b.length) = false := df (by omega)
  have dd : (k == 1) = true := et (by omega)
  have de : decide (0 ≤ s) = true := dt (by omega)
  have dp : decide (s ≤ 65535) = true := dt (by omega)
  have dg : (e == 0) = false := ef (by omega)
  have dh : (k == 2) = false := ef (by omega)
  clear h
  have hB1 := (Below.refl W.heap.size W).alloc (Nat.le_refl _) (.cells (RMV ⟨k, n, s, e, b⟩ A c) 97)
  have r1 := Row.born W 97 (RMV ⟨k, n, s, e, b⟩ A c)
  go_enter Try.func112, Try.ntmps112
  go_upto_region 1 with (fail)
  generalize W.alloc (.cells (RMV ⟨k, n, s, e, b⟩ A c) 97) = w1 at *
  have c0 : w1.cell? ⟨W.heap.size, 0, none⟩ = some (.int .i64 k) := r1.cell 0
  have c1 : w1.cell? ⟨W.heap.size, 1, none⟩ = some (.int .i64 n) := r1.cell 1
  have c2 : w1.cell? ⟨W.heap.size, 2, none⟩ = some (.int .i64 s) := r1.cell 2
  have c3 : w1.cell? ⟨W.heap.size, 3, none⟩ = some (.int .i64 e) := r1.cell 3
  have c4 : w1.cell? ⟨W.heap.size, 4, none⟩ = some (.slice A b.length c) := r1.cell 4
  clear r1
  go_wp2
  go_ret
  exact cls_mk (clV_bad HV.out) hB1
set_option maxRecDepth 100000 in
set_option maxHeartbeats 4000000 in
theorem cls_b6 (k n s e : Int) (b : List UInt8) (A : Option Addr) (c : Nat) (W : World) (h : 1 ≤ n ∧ n ≤ 1099511627776 ∧ b.length ≤ 65536 ∧ k ≠ 1 ∧ k ≠ 2) (hv : (RM.mk k n s e b).ok = false) : Calls Try.prog 112 #[.agg (RMV ⟨k, n, s, e, b⟩ A c)] W (ClsP ⟨k, n, s, e, b⟩ A c W) := by
  have HV := Lib.hid hv
  clear hv
  have da : decide (n < 1) = false := df (by omega)
  have db : decide (1099511627776 < n) = false := df (by omega)
  have dc : decide (65536 < (b.length : Int)) = false := df (by omega); have dcn : decide (65536 < b.length) = false := df (by omega)
  have dd : (k == 1) = false := ef (by omega)
  have dh : (k == 2) = false := ef (by omega)
  clear h
  have hB1 := (Below.refl W.heap.size W).alloc (Nat.le_refl _) (.cells (RMV ⟨k, n, s, e, b⟩ A c) 97)
  have r1 := Row.born W 97 (RMV ⟨k, n, s, e, b⟩ A c)
  go_enter Try.func112, Try.ntmps112
  go_upto_region 1 with (fail)
  generalize W.alloc (.cells (RMV ⟨k, n, s, e, b⟩ A c) 97) = w1 at *
  have c0 : w1.cell? ⟨W.heap.size, 0, none⟩ = some (.int .i64 k) := r1.cell 0
  have c1 : w1.cell? ⟨W.heap.size, 1, none⟩ = some (.int .i64 n) := r1.cell 1
  have c2 : w1.cell? ⟨W.heap.size, 2, none⟩ = some (.int .i64 s) := r1.cell 2
  have c3 : w1.cell? ⟨W.heap.size, 3, none⟩ = some (.int .i64 e) := r1.cell 3
  have c4 : w1.cell? ⟨W.heap.size, 4, none⟩ = some (.slice A b.length c) := r1.cell 4
  clear r1
  go_wp2
  go_ret
  exact cls_mk (clV_bad HV.out) hB1
set_option maxRecDepth 100000 in
set_option maxHeartbeats 4000000 in
theorem cls_b7 (k n s e : Int) (b : List UInt8) (A : Option Addr) (c : Nat) (W : World) (h : 1 ≤ n ∧ n ≤ 1099511627776 ∧ b.length ≤ 65536 ∧ k = 2 ∧ s ≠ 0) (hv : (RM.mk k n s e b).ok = false) : Calls Try.prog 112 #[.agg (RMV ⟨k, n, s, e, b⟩ A c)] W (ClsP ⟨k, n, s, e, b⟩ A c W) := by
  have HV := Lib.hid hv
  clear hv
  have da : decide (n < 1) = false := df (by omega)
  have db : decide (1099511627776 < n) = false := df (by omega)
  have dc : decide (65536 < (b.length : Int)) = false := df (by omega); have dcn : decide (65536 < b.length) = false := df (by omega)
  have dd : (k == 1) = false := ef (by omega)
  have dh : (k == 2) = true := et (by omega)
  have di : (s == 0) = false := ef (by omega)
  clear h
  have hB1 := (Below.refl W.heap.size W).alloc (Nat.le_refl _) (.cells (RMV ⟨k, n, s, e, b⟩ A c) 97)
  have r1 := Row.born W 97 (RMV ⟨k, n, s, e, b⟩ A c)
  go_enter Try.func112, Try.ntmps112
  go_upto_region 1 with (fail)
  generalize W.alloc (.cells (RMV ⟨k, n, s, e, b⟩ A c) 97) = w1 at *
  have c0 : w1.cell? ⟨W.heap.size, 0, none⟩ = some (.int .i64 k) := r1.cell 0
  have c1 : w1.cell? ⟨W.heap.size, 1, none⟩ = some (.int .i64 n) := r1.cell 1
  have c2 : w1.cell? ⟨W.heap.size, 2, none⟩ = some (.int .i64 s) := r1.cell 2
  have c3 : w1.cell? ⟨W.heap.size, 3, none⟩ = some (.int .i64 e) := r1.cell 3
  have c4 : w1.cell? ⟨W.heap.size, 4, none⟩ = some (.slice A b.length c) := r1.cell 4
  clear r1
  go_wp2
  go_ret
  exact cls_mk (clV_bad HV.out) hB1
set_option maxRecDepth 100000 in
set_option maxHeartbeats 4000000 in
theorem cls_b8 (k n s e : Int) (b : List UInt8) (A : Option Addr) (c : Nat) (W : World) (h : 1 ≤ n ∧ n ≤ 1099511627776 ∧ b.length ≤ 65536 ∧ k = 2 ∧ s = 0 ∧ e < 0) (hv : (RM.mk k n s e b).ok = false) : Calls Try.prog 112 #[.agg (RMV ⟨k, n, s, e, b⟩ A c)] W (ClsP ⟨k, n, s, e, b⟩ A c W) := by
  have HV := Lib.hid hv
  clear hv
  have da : decide (n < 1) = false := df (by omega)
  have db : decide (1099511627776 < n) = false := df (by omega)
  have dc : decide (65536 < (b.length : Int)) = false := df (by omega); have dcn : decide (65536 < b.length) = false := df (by omega)
  have dd : (k == 1) = false := ef (by omega)
  have dh : (k == 2) = true := et (by omega)
  have di : (s == 0) = true := et (by omega)
  have dj : decide (0 ≤ e) = false := df (by omega)
  clear h
  have hB1 := (Below.refl W.heap.size W).alloc (Nat.le_refl _) (.cells (RMV ⟨k, n, s, e, b⟩ A c) 97)
  have r1 := Row.born W 97 (RMV ⟨k, n, s, e, b⟩ A c)
  go_enter Try.func112, Try.ntmps112
  go_upto_region 1 with (fail)
  generalize W.alloc (.cells (RMV ⟨k, n, s, e, b⟩ A c) 97) = w1 at *
  have c0 : w1.cell? ⟨W.heap.size, 0, none⟩ = some (.int .i64 k) := r1.cell 0
  have c1 : w1.cell? ⟨W.heap.size, 1, none⟩ = some (.int .i64 n) := r1.cell 1
  have c2 : w1.cell? ⟨W.heap.size, 2, none⟩ = some (.int .i64 s) := r1.cell 2
  have c3 : w1.cell? ⟨W.heap.size, 3, none⟩ = some (.int .i64 e) := r1.cell 3
  have c4 : w1.cell? ⟨W.heap.size, 4, none⟩ = some (.slice A b.length c) := r1.cell 4
  clear r1
  go_wp2
  go_ret
  exact cls_mk (clV_bad HV.out) hB1
set_option maxRecDepth 100000 in
set_option maxHeartbeats 4000000 in
theorem cls_b9 (k n s e : Int) (b : List UInt8) (A : Option Addr) (c : Nat) (W : World) (h : 1 ≤ n ∧ n ≤ 1099511627776 ∧ b.length ≤ 65536 ∧ k = 2 ∧ s = 0 ∧ 0 ≤ e ∧ 255 < e) (hv : (RM.mk k n s e b).ok = false) : Calls Try.prog 112 #[.agg (RMV ⟨k, n, s, e, b⟩ A c)] W (ClsP ⟨k, n, s, e, b⟩ A c W) := by
  have HV := Lib.hid hv
  clear hv
  have da : decide (n < 1) = false := df (by omega)
  have db : decide (1099511627776 < n) = false := df (by omega)
  have dc : decide (65536 < (b.length : Int)) = false := df (by omega); have dcn : decide (65536 < b.length) = false := df (by omega)
  have dd : (k == 1) = false := ef (by omega)
  have dh : (k == 2) = true := et (by omega)
  have di : (s == 0) = true := et (by omega)
  have dj : decide (0 ≤ e) = true := dt (by omega)
  have dl : decide (e ≤ 255) = false := df (by omega)
  clear h
  have hB1 := (Below.refl W.heap.size W).alloc (Nat.le_refl _) (.cells (RMV ⟨k, n, s, e, b⟩ A c) 97)
  have r1 := Row.born W 97 (RMV ⟨k, n, s, e, b⟩ A c)
  go_enter Try.func112, Try.ntmps112
  go_upto_region 1 with (fail)
  generalize W.alloc (.cells (RMV ⟨k, n, s, e, b⟩ A c) 97) = w1 at *
  have c0 : w1.cell? ⟨W.heap.size, 0, none⟩ = some (.int .i64 k) := r1.cell 0
  have c1 : w1.cell? ⟨W.heap.size, 1, none⟩ = some (.int .i64 n) := r1.cell 1
  have c2 : w1.cell? ⟨W.heap.size, 2, none⟩ = some (.int .i64 s) := r1.cell 2
  have c3 : w1.cell? ⟨W.heap.size, 3, none⟩ = some (.int .i64 e) := r1.cell 3
  have c4 : w1.cell? ⟨W.heap.size, 4, none⟩ = some (.slice A b.length c) := r1.cell 4
  clear r1
  go_wp2
  go_ret
  exact cls_mk (clV_bad HV.out) hB1
set_option maxRecDepth 100000 in
set_option maxHeartbeats 4000000 in
theorem cls_b10 (k n s e : Int) (b : List UInt8) (A : Option Addr) (c : Nat) (W : World) (h : 1 ≤ n ∧ n ≤ 1099511627776 ∧ b.length ≤ 65536 ∧ k = 2 ∧ s = 0 ∧ 0 ≤ e ∧ e ≤ 255 ∧ e ≠ 0 ∧ b.length ≠ 0) (hv : (RM.mk k n s e b).ok = false) : Calls Try.prog 112 #[.agg (RMV ⟨k, n, s, e, b⟩ A c)] W (ClsP ⟨k, n, s, e, b⟩ A c W) := by
  have HV := Lib.hid hv
  clear hv
  have da : decide (n < 1) = false := df (by omega)
  have db : decide (1099511627776 < n) = false := df (by omega)
  have dc : decide (65536 < (b.length : Int)) = false := df (by omega); have dcn : decide (65536 < b.length) = false := df (by omega)
  have dd : (k == 1) = false := ef (by omega)
  have dh : (k == 2) = true := et (by omega)
  have di : (s == 0) = true := et (by omega)
  have dj : decide (0 ≤ e) = true := dt (by omega)
  have dl : decide (e ≤ 255) = true := dt (by omega)
  have dm : (e == 0) = false := ef (by omega)
  have dq : ((b.length : Int) == 0) = false := ef (by omega); have dqn : (b.length == 0) = false := by simpa using (show b.length ≠ 0 by omega)
  clear h
  have hB1 := (Below.refl W.heap.size W).alloc (Nat.le_refl _) (.cells (RMV ⟨k, n, s, e, b⟩ A c) 97)
  have r1 := Row.born W 97 (RMV ⟨k, n, s, e, b⟩ A c)
  go_enter Try.func112, Try.ntmps112
  go_upto_region 1 with (fail)
  generalize W.alloc (.cells (RMV ⟨k, n, s, e, b⟩ A c) 97) = w1 at *
  have c0 : w1.cell? ⟨W.heap.size, 0, none⟩ = some (.int .i64 k) := r1.cell 0
  have c1 : w1.cell? ⟨W.heap.size, 1, none⟩ = some (.int .i64 n) := r1.cell 1
  have c2 : w1.cell? ⟨W.heap.size, 2, none⟩ = some (.int .i64 s) := r1.cell 2
  have c3 : w1.cell? ⟨W.heap.size, 3, none⟩ = some (.int .i64 e) := r1.cell 3
  have c4 : w1.cell? ⟨W.heap.size, 4, none⟩ = some (.slice A b.length c) := r1.cell 4
  clear r1
  go_wp2
  go_ret
  exact cls_mk (clV_bad HV.out) hB1
set_option maxRecDepth 100000 in
set_option maxHeartbeats 4000000 in
theorem cls_request (k n s e : Int) (b : List UInt8) (A : Option Addr) (c : Nat) (W : World) (h : k = 1 ∧ 1 ≤ n ∧ n ≤ 1099511627776 ∧ b.length ≤ 65536 ∧ 0 ≤ s ∧ s ≤ 65535 ∧ e = 0) (hv : (RM.mk k n s e b).ok = true) : Calls Try.prog 112 #[.agg (RMV ⟨k, n, s, e, b⟩ A c)] W (ClsP ⟨k, n, s, e, b⟩ A c W) := by
  have HC := Lib.hid (show clV ⟨k, n, s, e, b⟩ A c = .iface 186 (.agg #[.int .i64 n, .int .i64 s, .slice A b.length c]) by
    unfold clV
    rw [if_pos hv, if_pos h.1])
  clear hv
  have da : decide (n < 1) = false := df (by omega)
  have db : decide (1099511627776 < n) = false := df (by omega)
  have dc : decide (65536 < (b.length : Int)) = false := df (by omega); have dcn : decide (65536 < b.length) = false := df (by omega)
  have dd : (k == 1) = true := et (by omega)
  have de : decide (0 ≤ s) = true := dt (by omega)
  have dp : decide (s ≤ 65535) = true := dt (by omega)
  have dg : (e == 0) = true := et (by omega)
  clear h
  have hB1 := (Below.refl W.heap.size W).alloc (Nat.le_refl _) (.cells (RMV ⟨k, n, s, e, b⟩ A c) 97)
  have r1 := Row.born W 97 (RMV ⟨k, n, s, e, b⟩ A c)
  go_enter Try.func112, Try.ntmps112
  go_upto_region 1 with (fail)
  generalize W.alloc (.cells (RMV ⟨k, n, s, e, b⟩ A c) 97) = w1 at *
  have c0 : w1.cell? ⟨W.heap.size, 0, none⟩ = some (.int .i64 k) := r1.cell 0
  have c1 : w1.cell? ⟨W.heap.size, 1, none⟩ = some (.int .i64 n) := r1.cell 1
  have c2 : w1.cell? ⟨W.heap.size, 2, none⟩ = some (.int .i64 s) := r1.cell 2
  have c3 : w1.cell? ⟨W.heap.size, 3, none⟩ = some (.int .i64 e) := r1.cell 3
  have c4 : w1.cell? ⟨W.heap.size, 4, none⟩ = some (.slice A b.length c) := r1.cell 4
  clear r1
  go_wp2
  go_ret
  exact cls_mk HC.out hB1
set_option maxRecDepth 100000 in
set_option maxHeartbeats 4000000 in
theorem cls_reply0 (k n s e : Int) (b : List UInt8) (A : Option Addr) (c : Nat) (W : World) (h : k = 2 ∧ 1 ≤ n ∧ n ≤ 1099511627776 ∧ b.length ≤ 65536 ∧ s = 0 ∧ e = 0) (hv : (RM.mk k n s e b).ok = true) : Calls Try.prog 112 #[.agg (RMV ⟨k, n, s, e, b⟩ A c)] W (ClsP ⟨k, n, s, e, b⟩ A c W) := by
  have HC := Lib.hid (show clV ⟨k, n, s, e, b⟩ A c = .iface 188 (.agg #[.int .i64 n, .int .i64 e, .slice A b.length c]) by
    unfold clV
    rw [if_pos hv, if_neg (by show ¬ k = 1; omega)])
  clear hv
  have da : decide (n < 1) = false := df (by omega)
  have db : decide (1099511627776 < n) = false := df (by omega)
  have dc : decide (65536 < (b.length : Int)) = false := df (by omega); have dcn : decide (65536 < b.length) = false := df (by omega)
  have dd : (k == 1) = false := ef (by omega)
  have dh : (k == 2) = true := et (by omega)
  have di : (s == 0) = true := et (by omega)
  have dj : decide (0 ≤ e) = true := dt (by omega)
  have dl : decide (e ≤ 255) = true := dt (by omega)
  have dm : (e == 0) = true := et (by omega)
  clear h
  have hB1 := (Below.refl W.heap.size W).alloc (Nat.le_refl _) (.cells (RMV ⟨k, n, s, e, b⟩ A c) 97)
  have r1 := Row.born W 97 (RMV ⟨k, n, s, e, b⟩ A c)
  go_enter Try.func112, Try.ntmps112
  go_upto_region 1 with (fail)
  generalize W.alloc (.cells (RMV ⟨k, n, s, e, b⟩ A c) 97) = w1 at *
  have c0 : w1.cell? ⟨W.heap.size, 0, none⟩ = some (.int .i64 k) := r1.cell 0
  have c1 : w1.cell? ⟨W.heap.size, 1, none⟩ = some (.int .i64 n) := r1.cell 1
  have c2 : w1.cell? ⟨W.heap.size, 2, none⟩ = some (.int .i64 s) := r1.cell 2
  have c3 : w1.cell? ⟨W.heap.size, 3, none⟩ = some (.int .i64 e) := r1.cell 3
  have c4 : w1.cell? ⟨W.heap.size, 4, none⟩ = some (.slice A b.length c) := r1.cell 4
  clear r1
  go_wp2
  go_ret
  exact cls_mk HC.out hB1
set_option maxRecDepth 100000 in
set_option maxHeartbeats 4000000 in
theorem cls_reply1 (k n s e : Int) (b : List UInt8) (A : Option Addr) (c : Nat) (W : World) (h : k = 2 ∧ 1 ≤ n ∧ n ≤ 1099511627776 ∧ b.length ≤ 65536 ∧ s = 0 ∧ 0 ≤ e ∧ e ≤ 255 ∧ e ≠ 0 ∧ b.length = 0) (hv : (RM.mk k n s e b).ok = true) : Calls Try.prog 112 #[.agg (RMV ⟨k, n, s, e, b⟩ A c)] W (ClsP ⟨k, n, s, e, b⟩ A c W) := by
  have HC := Lib.hid (show clV ⟨k, n, s, e, b⟩ A c = .iface 188 (.agg #[.int .i64 n, .int .i64 e, .slice A b.length c]) by
    unfold clV
    rw [if_pos hv, if_neg (by show ¬ k = 1; omega)])
  clear hv
  have da : decide (n < 1) = false := df (by omega)
  have db : decide (1099511627776 < n) = false := df (by omega)
  have dc : decide (65536 < (b.length : Int)) = false := df (by omega); have dcn : decide (65536 < b.length) = false := df (by omega)
  have dd : (k == 1) = false := ef (by omega)
  have dh : (k == 2) = true := et (by omega)
  have di : (s == 0) = true := et (by omega)
  have dj : decide (0 ≤ e) = true := dt (by omega)
  have dl : decide (e ≤ 255) = true := dt (by omega)
  have dm : (e == 0) = false := ef (by omega)
  have dq : ((b.length : Int) == 0) = true := et (by omega); have dqn : (b.length == 0) = true := by simpa using (show b.length = 0 by omega)
  clear h
  have hB1 := (Below.refl W.heap.size W).alloc (Nat.le_refl _) (.cells (RMV ⟨k, n, s, e, b⟩ A c) 97)
  have r1 := Row.born W 97 (RMV ⟨k, n, s, e, b⟩ A c)
  go_enter Try.func112, Try.ntmps112
  go_upto_region 1 with (fail)
  generalize W.alloc (.cells (RMV ⟨k, n, s, e, b⟩ A c) 97) = w1 at *
  have c0 : w1.cell? ⟨W.heap.size, 0, none⟩ = some (.int .i64 k) := r1.cell 0
  have c1 : w1.cell? ⟨W.heap.size, 1, none⟩ = some (.int .i64 n) := r1.cell 1
  have c2 : w1.cell? ⟨W.heap.size, 2, none⟩ = some (.int .i64 s) := r1.cell 2
  have c3 : w1.cell? ⟨W.heap.size, 3, none⟩ = some (.int .i64 e) := r1.cell 3
  have c4 : w1.cell? ⟨W.heap.size, 4, none⟩ = some (.slice A b.length c) := r1.cell 4
  clear r1
  go_wp2
  go_ret
  exact cls_mk HC.out hB1
theorem classify (m : RM) (A : Option Addr) (c : Nat) (W : World) : Calls Try.prog 112 #[.agg (RMV m A c)] W (ClsP m A c W) := by
  obtain ⟨k, n, s, e, b⟩ := m
  by_cases hv : (RM.mk k n s e b).Ok
  · have ho := RM.ok_iff.2 hv
    obtain ⟨h1, h2, h3, h4⟩ := hv
    simp only at h1 h2 h3 h4
    rcases h4 with ⟨h4, h5, h6, h7⟩ | ⟨h4, h5, h6, h7, h8⟩
    · exact cls_request k n s e b A c W ⟨h4, h1, h2, h3, h5, h6, h7⟩ ho
    · by_cases h9 : e = 0
      · exact cls_reply0 k n s e b A c W ⟨h4, h1, h2, h3, h5, h9⟩ ho
      · exact cls_reply1 k n s e b A c W ⟨h4, h1, h2, h3, h5, h6, h7, h9, h8.resolve_left h9⟩ ho
  · have ho := ok_false hv
    have hx : (n < 1) ∨ (1 ≤ n ∧ 1099511627776 < n) ∨ (1 ≤ n ∧ n ≤ 1099511627776 ∧ 65536 < b.length) ∨ (1 ≤ n ∧ n ≤ 1099511627776 ∧ b.length ≤ 65536 ∧ k = 1 ∧ s < 0) ∨ (1 ≤ n ∧ n ≤ 1099511627776 ∧ b.length ≤ 65536 ∧ k = 1 ∧ 0 ≤ s ∧ 65535 < s) ∨ (1 ≤ n ∧ n ≤ 1099511627776 ∧ b.length ≤ 65536 ∧ k = 1 ∧ 0 ≤ s ∧ s ≤ 65535 ∧ e ≠ 0) ∨ (1 ≤ n ∧ n ≤ 1099511627776 ∧ b.length ≤ 65536 ∧ k ≠ 1 ∧ k ≠ 2) ∨ (1 ≤ n ∧ n ≤ 1099511627776 ∧ b.length ≤ 65536 ∧ k = 2 ∧ s ≠ 0) ∨ (1 ≤ n ∧ n ≤ 1099511627776 ∧ b.length ≤ 65536 ∧ k = 2 ∧ s = 0 ∧ e < 0) ∨ (1 ≤ n ∧ n ≤ 1099511627776 ∧ b.length ≤ 65536 ∧ k = 2 ∧ s = 0 ∧ 0 ≤ e ∧ 255 < e) ∨ (1 ≤ n ∧ n ≤ 1099511627776 ∧ b.length ≤ 65536 ∧ k = 2 ∧ s = 0 ∧ 0 ≤ e ∧ e ≤ 255 ∧ e ≠ 0 ∧ b.length ≠ 0) := by
      rcases Int.lt_or_le n 1 with a1 | a1
      · exact .inl a1
      rcases Int.lt_or_le 1099511627776 n with a2 | a2
      · exact .inr (.inl ⟨a1, a2⟩)
      rcases Nat.lt_or_ge 65536 b.length with a3 | a3
      · exact .inr (.inr (.inl ⟨a1, a2, a3⟩))
      by_cases a4 : (k = 1 ∧ 0 ≤ s ∧ s ≤ 65535 ∧ e = 0) ∨ (k = 2 ∧ s = 0 ∧ 0 ≤ e ∧ e ≤ 255 ∧ (e = 0 ∨ b.length = 0))
      · exact absurd ⟨a1, a2, a3, a4⟩ hv
      · omega
    clear hv
    rcases hx with h | h | h | h | h | h | h | h | h | h | h
    · exact cls_b0 k n s e b A c W h ho
    · exact cls_b1 k n s e b A c W h ho
    · exact cls_b2 k n s e b A c W h ho
    · exact cls_b3 k n s e b A c W h ho
    · exact cls_b4 k n s e b A c W h ho
    · exact cls_b5 k n s e b A c W h ho
    · exact cls_b6 k n s e b A c W h ho
    · exact cls_b7 k n s e b A c W h ho
    · exact cls_b8 k n s e b A c W h ho
    · exact cls_b9 k n s e b A c W h ho
    · exact cls_b10 k n s e b A c W h ho
set_option maxRecDepth 100000 in
set_option maxHeartbeats 4000000 in
theorem fields_186 (n d : Int) (A : Option Addr) (l c : Nat) (W : World) : Calls Try.prog 159 #[.agg #[.int .i64 n, .int .i64 d, .slice A l c]] W (fun en W' => en = .returned (.tuple #[.int .i64 n, .int .i64 d]) ∧ Below W.heap.size W W') := by
  have hB1 := (Below.refl W.heap.size W).alloc (Nat.le_refl _) (.cells #[.int .i64 n, .int .i64 d, .slice A l c] 186)
  have r1 := Row.born W 186 #[.int .i64 n, .int .i64 d, .slice A l c]
  go_enter Try.func159, Try.ntmps159
  go_upto_region 1 with (fail)
  generalize W.alloc (.cells #[.int .i64 n, .int .i64 d, .slice A l c] 186) = w1 at *
  have c0 : w1.cell? ⟨W.heap.size, 0, none⟩ = some (.int .i64 n) := r1.cell 0
  have c1 : w1.cell? ⟨W.heap.size, 1, none⟩ = some (.int .i64 d) := r1.cell 1
  clear r1
  go_region
  go_wp2
  refine bodyPost_ret (v := .tuple #[.int .i64 n, .int .i64 d]) (by simp [results, Try.results159, go_sem]) rfl ?_
  exact ⟨rfl, hB1.drew⟩
set_option maxRecDepth 100000 in
set_option maxHeartbeats 4000000 in
theorem fields_188 (n d : Int) (A : Option Addr) (l c : Nat) (W : World) : Calls Try.prog 160 #[.agg #[.int .i64 n, .int .i64 d, .slice A l c]] W (fun en W' => en = .returned (.tuple #[.int .i64 n, .int .i64 d]) ∧ Below W.heap.size W W') := by
  have hB1 := (Below.refl W.heap.size W).alloc (Nat.le_refl _) (.cells #[.int .i64 n, .int .i64 d, .slice A l c] 188)
  have r1 := Row.born W 188 #[.int .i64 n, .int .i64 d, .slice A l c]
  go_enter Try.func160, Try.ntmps160
  go_upto_region 1 with (fail)
  generalize W.alloc (.cells #[.int .i64 n, .int .i64 d, .slice A l c] 188) = w1 at *
  have c0 : w1.cell? ⟨W.heap.size, 0, none⟩ = some (.int .i64 n) := r1.cell 0
  have c1 : w1.cell? ⟨W.heap.size, 1, none⟩ = some (.int .i64 d) := r1.cell 1
  clear r1
  go_region
  go_wp2
  refine bodyPost_ret (v := .tuple #[.int .i64 n, .int .i64 d]) (by simp [results, Try.results160, go_sem]) rfl ?_
  exact ⟨rfl, hB1.drew⟩
end
section
open Go.RowKit
set_option linter.unusedVariables false
def IsN (w : World) (A : Option Addr) (n : Nat) (bs : List Int) : Prop :=
  n = bs.length ∧ (0 < n → ∃ b o, A = some ⟨b, o, none⟩ ∧ ∀ i (h : i < bs.length), w.cell? ⟨b, o + i, none⟩ = some (.int .i64 bs[i]))
theorem IsN.nil (w : World) (A : Option Addr) : IsN w A 0 [] := ⟨rfl, fun h => absurd h (by omega)⟩
theorem IsN.below {w w' : World} {A : Option Addr} {n : Nat} {bs : List Int} (h : IsN w A n bs) (hb : Below w.heap.size w w') : IsN w' A n bs := by
  refine ⟨h.1, fun hn => ?_⟩
  obtain ⟨b, o, e, hc⟩ := h.2 hn
  exact ⟨b, o, e, fun i hi => (hb.cell (p := ⟨b, o + i, none⟩) (block_lt_of_cell (hc i hi))).trans (hc i hi)⟩
theorem IsN.at_ {w : World} {A : Option Addr} {n : Nat} {bs : List Int} (h : IsN w A n bs) (hn : 0 < n) :
    ∃ b o, A = some ⟨b, o, none⟩ ∧ b < w.heap.size ∧ ∀ i (h : i < bs.length), w.cell? ⟨b, o + i, none⟩ = some (.int .i64 bs[i]) := by
  obtain ⟨b, o, e, hc⟩ := h.2 hn
  exact ⟨b, o, e, block_lt_of_cell (hc 0 (by have := h.1; omega)), hc⟩
def iv (x : Int) : Value := .int .i64 x
theorem IsN.src {w : World} {A : Option Addr} {n : Nat} {bs : List Int} (h : IsN w A n bs) (hn : 0 < n) : ∃ ad, A = some ad ∧ ∀ j v, (bs.map iv)[j]? = some v → w.cell? (ad.add j) = some v := by
  obtain ⟨b, o, e, hc⟩ := h.2 hn
  refine ⟨⟨b, o, none⟩, e, fun j v hv => ?_⟩
  obtain ⟨hj, hv'⟩ := List.getElem?_eq_some_iff.1 hv
  simp only [List.length_map] at hj
  rw [Addr.add_mid, hc j hj, ← hv']
  simp [iv]
theorem iv_one (l : List Int) : ∀ v ∈ l.map iv, v.oneCell' = true := by
  intro v hv
  obtain ⟨x, _, rfl⟩ := List.mem_map.1 hv
  rfl
theorem IsN.of_row {w : World} {g : Nat} {t : TypeId} {bs : List Int} (h : Row w g t (bs.map iv).toArray) : IsN w (some ⟨g, 0, none⟩) bs.length bs := by
  refine ⟨rfl, fun _ => ⟨g, 0, rfl, fun i hi => ?_⟩⟩
  rw [Nat.zero_add, h.cell i]
  simp [hi, iv]
def OwnN (w : World) (base : Nat) (e : TypeId) (A : Option Addr) (n c : Nat) (bs : List Int) : Prop := w.ownsRow base e 1 (.slice A n c) n (bs.map iv)
theorem OwnN.nil (w : World) (base : Nat) (e : TypeId) : OwnN w base e none 0 0 [] := World.ownsRow_nil w base e 1
theorem OwnN.len {w : World} {base : Nat} {e : TypeId} {A : Option Addr} {n c : Nat} {bs : List Int} (h : OwnN w base e A n c bs) : n = bs.length := by
  have := h.1
  simp at this
  exact this.symm
theorem OwnN.form {w : World} {base : Nat} {e : TypeId} {A : Option Addr} {n c : Nat} {bs : List Int} (h : OwnN w base e A n c bs) (hn : 0 < n) :
    ∃ g, A = some ⟨g, 0, none⟩ ∧ base ≤ g ∧ g < w.heap.size ∧ n ≤ c := by
  rcases h.2 with ⟨h', h0⟩ | ⟨g, cap, cur, h', hb, hg, hnc, hcm, hcs, htake⟩
  · omega
  · injection h' with h1 h2 h3
    subst h1
    exact ⟨g, rfl, hb, (Array.getElem?_eq_some_iff.1 hg).1, by omega⟩
theorem OwnN.isB {w : World} {base : Nat} {e : TypeId} {A : Option Addr} {n c : Nat} {bs : List Int} (h : OwnN w base e A n c bs) : IsN w A n bs := by
  refine ⟨h.len, fun hn => ?_⟩
  obtain ⟨g, rfl, _, _, hc⟩ := h.form hn
  refine ⟨g, 0, rfl, fun i hi => ?_⟩
  have := World.ownsRow.cellAt (h : w.ownsRow base e 1 (.slice (some ⟨g, 0, none⟩) n c) n (bs.map iv)) i (by have := h.len; omega)
  rw [Nat.zero_add, this]
  simp [hi, iv]
theorem OwnN.ge {w : World} {base : Nat} {e : TypeId} {A : Option Addr} {n c : Nat} {bs : List Int} (h : OwnN w base e A n c bs) : ∀ k, (Value.slice A n c).ownBlock = some k → base ≤ k := fun k hk => (World.ownsRow.lt h k hk).1
theorem OwnN.alloc {w : World} {base : Nat} {e : TypeId} {A : Option Addr} {n c : Nat} {bs : List Int} (h : OwnN w base e A n c bs) (o : Obj) : OwnN (w.alloc o) base e A n c bs := World.ownsRow.alloc h o
theorem OwnN.below {w w' : World} {base : Nat} {e : TypeId} {A : Option Addr} {n c : Nat} {bs : List Int} (h : OwnN w base e A n c bs) (hb : Below w.heap.size w w') : OwnN w' base e A n c bs :=
  World.ownsRow.kept h (row := none) ⟨hb.os, hb.tape, hb.output, hb.size, fun k hk _ => hb.block k hk⟩ (by cases hv : (Value.slice A n c).ownBlock <;> simp)
theorem IsN.pre {w : World} {A : Option Addr} {n : Nat} {bs : List Int} (h : IsN w A n bs) (k : Nat) (hk : k ≤ n) : IsN w A k (bs.take k) := by
  refine ⟨by have := h.1; simp; omega, fun h0 => ?_⟩
  obtain ⟨b, o, e, hc⟩ := h.2 (by omega)
  exact ⟨b, o, e, fun i hi => by
    have hi' : i < bs.length := by simp at hi; omega
    rw [hc i hi']; simp⟩
section
variable {P : Program} {ops : Array Oper} {rest : List Oper} {Q : Exit → Act → World → Prop} {a : Act} {w : World} {dst : Option Tmp} {typ : TypeId} {pos : String} {after : Array Edge}
theorem wp_append_n {o : Oper} (hgd : o.guard = none) (s x : Operand) (t : TypeId) (ho : o.op = .call { callee := .builtin .append, args := #[s, x], argTypes := #[t, t] }) {e : TypeId} {base n c m c' : Nat} {A B : Option Addr} {bs cs : List Int} (ht : P.underlying t = some (.slice e))
    (hinfo : (P.info? e).map (fun i => (i.zero, i.size, i.bytes)) = some (some (.int .i64 0), 1, 8)) (hown : OwnN w base e A n c bs) (hB : IsN w B m cs) (hlen : (n + m) * 8 ≤ 140737488355328) (hbase : base ≤ w.heap.size)
    (hs : a.eval s = .slice A n c) (hx : a.eval x = .slice B m c')
    (h : ∀ A' n' c'' w', Hid (n' = n + m) → OwnN w' base e A' n' c'' (bs ++ cs) → Below base w w' → w.grownBy w' (Value.slice A n c).ownBlock → ((Value.slice A' n' c'').ownBlock = (Value.slice A n c).ownBlock ∨ (Value.slice A' n' c'').ownBlock = some w.heap.size) → wpList P ops Q rest (a.put o.dst (.slice A' n' c'')) w') :
    wpList P ops Q (o :: rest) a w := by
  obtain ⟨i, hi, hz⟩ := Option.map_eq_some_iff.1 hinfo
  simp only [Prod.mk.injEq] at hz
  obtain ⟨hz0, hz1, hz2⟩ := hz
  have key : ∃ A' c'' w', (Builtin.append_ #[t, t] o.type #[.slice A n c, .slice B m c']).run P w = .ok (.slice A' (n + m) c'') w' ∧ OwnN w' base e A' (n + m) c'' (bs ++ cs) ∧ w.grownBy w' (Value.slice A n c).ownBlock ∧ ((Value.slice A' (n + m) c'').ownBlock = (Value.slice A n c).ownBlock ∨ (Value.slice A' (n + m) c'').ownBlock = some w.heap.size) := by
    rcases Nat.eq_zero_or_pos m with h0 | h0
    · subst h0
      obtain rfl : cs = [] := List.eq_nil_of_length_eq_zero hB.1.symm
      refine ⟨A, c, w, ?_, by simpa using hown, World.grownBy.refl w _, .inl rfl⟩
      rcases hown.2 with ⟨h', hn⟩ | ⟨g, cap, cur, h', _, _, hnc, _⟩
      · injection h' with h1 h2 h3
        subst h1; subst h2; subst h3
        cases B <;> simp [Builtin.append_, run_underlying ht, sizeOf, typeInfo, hi, Builtin.lenOf, Builtin.firstCells, loadCells, loadCellsFrom]
      · injection h' with h1 h2 h3
        subst h1; subst h3
        cases B <;> simp [Builtin.append_, run_underlying ht, sizeOf, typeInfo, hi, Builtin.lenOf, Builtin.firstCells, hnc, storeCells, loadCells, loadCellsFrom]
    · obtain ⟨ad, rfl, hsrc⟩ := hB.src h0
      obtain ⟨v', w', hr, h2, h3, h4, h5⟩ := run_append_own_at (P := P) w base t o.type e i _ 1 8 ht hi hz0 hz1 hz2 rfl (by omega) (.slice A n c) n (bs.map iv) hown ad m c' (cs.map iv)
        (by simp [← hB.1]) hsrc (iv_one cs) (by simp only [maxLen]; omega) (by omega) hbase
      rcases h2.2 with ⟨rfl, hn0⟩ | ⟨g, cap, cur, rfl, rest'⟩
      · omega
      · exact ⟨_, _, _, hr, by unfold OwnN; rw [List.map_append]; exact h2, h3, h5⟩
  obtain ⟨A', c'', w', hr, h2, h3, h5⟩ := key
  refine wpList_plain hgd fun K hK => ?_
  unfold Oper.wp execOp
  simp only [ho, resolve, invoke, builtin, Sem.run_bind, Sem.run_pure, Result.andThen_ok, List.map_toArray, List.map_cons, List.map_nil, hs, hx, hr]
  exact hK _ _ (h _ _ _ _ (Lib.hid rfl) h2 ((Below.refl _ _).grown h3 hbase hown.ge) h3 h5)
end
end
section
set_option linter.unusedVariables false
inductive Spec where
  | fix (v : Value)
  | free (V : Value → World → Prop)
def Spec.val : Spec → Value → Value
  | .fix v, _ => v
  | .free _, u => u
def Spec.holds : Spec → Value → World → Prop
  | .fix v, u, _ => u = v
  | .free V, u, w => V u w
def Spec.fact : Spec → Value → World → Prop
  | .fix _, _, _ => True
  | .free V, u, w => V u w
section
variable {P : Program} {ops : Array Oper} {S : World → Prop} {G : World → World → Prop} {Q : Exit → Act → World → Prop}
def dstOf (ops : Array Oper) (k : Nat) : Option Tmp := (ops[k]?).bind (·.dst)
def waits (o : Oper) (j : Nat) : Bool := o.after.any fun e => Region.binds .any e && e.on == j
def putsM (ops : Array Oper) (sp : Nat → Spec) (us : Nat → Value) (f : Nat → Bool) (a : Act) : Nat → Act
  | 0 => a
  | k + 1 => if f k then (putsM ops sp us f a k).put (dstOf ops k) ((sp k).val (us k)) else putsM ops sp us f a k
theorem putsM_congr {sp sp' : Nat → Spec} {us us' : Nat → Value} {f f' : Nat → Bool} {a : Act} : ∀ n, (∀ k, k < n → f k = f' k ∧ (f k = true → (sp k).val (us k) = (sp' k).val (us' k))) →
    putsM ops sp us f a n = putsM ops sp' us' f' a n
  | 0, _ => rfl
  | n + 1, h => by
    have ih := putsM_congr (a := a) n (fun k hk => h k (by omega))
    obtain ⟨h1, h2⟩ := h n (by omega)
    simp only [putsM, ih, ← h1]
    by_cases hf : f n = true
    · simp only [hf, if_true, h2 hf]
    · rw [if_neg hf, if_neg hf]
theorem put_size (a : Act) (d : Option Tmp) (v : Value) : (a.put d v).tmps.size = a.tmps.size := by cases d <;> simp [Act.put]
theorem putsM_size {sp : Nat → Spec} {us : Nat → Value} {f : Nat → Bool} {a : Act} : ∀ n, (putsM ops sp us f a n).tmps.size = a.tmps.size
  | 0 => rfl
  | n + 1 => by
    unfold putsM
    split
    · rw [put_size]; exact putsM_size n
    · exact putsM_size n
theorem putsM_put {sp : Nat → Spec} {us us' : Nat → Value} {f f' : Nat → Bool} {a : Act} {j : Nat} (hd : ∀ i k, i ≠ k → ∀ d, dstOf ops i = some d → dstOf ops k ≠ some d)
    (hf : f j = false) (hf' : ∀ k, f' k = (f k || k == j)) (hu : ∀ k, k ≠ j → us' k = us k) : ∀ n, j < n →
    putsM ops sp us' f' a n = (putsM ops sp us f a n).put (dstOf ops j) ((sp j).val (us' j))
  | 0, h => by omega
  | n + 1, h => by
    by_cases hj : j = n
    · subst hj
      have e : putsM ops sp us' f' a j = putsM ops sp us f a j := putsM_congr j fun k hk => by
        have hk' : k ≠ j := by omega
        refine ⟨by rw [hf' k]; simp [hk'], fun _ => by rw [hu k hk']⟩
      have h1 : f' j = true := by rw [hf']; simp
      simp only [putsM, h1, hf, if_true, e]
      rfl
    · have ih := putsM_put hd hf hf' hu n (by omega) (sp := sp) (a := a)
      have h1 : f' n = f n := by rw [hf']; have : n ≠ j := by omega
                                 simp [this]
      simp only [putsM, h1, ih]
      by_cases hn : f n = true
      · simp only [hn, if_true]
        rw [hu n (by omega)]
        exact Act.put_comm _ _ _ (hd j n hj)
      · rw [if_neg hn, if_neg hn]
def sameFor (ops : Array Oper) (o : Oper) (b c : Act) : Prop := b.tmps.size = c.tmps.size ∧ ∀ d ∈ o.looksAt ops, b.tmps[d]? = c.tmps[d]?
theorem sameFor.exec {o : Oper} {b c : Act} (h : sameFor ops o b c) (hs : ∀ cs x, o.op ≠ .select cs x) : execOp b.eval o = execOp c.eval o := by
  refine execOp_congr o hs fun x hx => ?_
  cases x with
  | tmp t =>
    have := h.2 t (List.mem_append_left _ (List.mem_filterMap.2 ⟨.tmp t, by simpa using hx, rfl⟩))
    simp only [Act.eval, Array.getD_eq_getD_getElem?, this]
  | _ => rfl
theorem sameFor.wanted {o : Oper} {b c : Act} (h : sameFor ops o b c) : Region.wanted o (yielded ops b.tmps) = Region.wanted o (yielded ops c.tmps) := by
  unfold Region.wanted
  cases hg : o.guard with
  | none => rfl
  | some gw =>
    obtain ⟨g, want⟩ := gw
    have hy : yielded ops b.tmps g = yielded ops c.tmps g := by
      unfold yielded
      cases ht : (ops[g]?).bind (·.dst) with
      | none => rfl
      | some t =>
        have := h.2 t (List.mem_append_right _ (by simp [hg, ht]))
        simp only [Option.bind_some, this]
    simp only [hy]
theorem putsM_sameFor {sp : Nat → Spec} {us : Nat → Value} {f g : Nat → Bool} {a : Act} {o : Oper} : ∀ n, (∀ k, k < n → f k ≠ g k → ∀ d, dstOf ops k = some d → d ∉ o.looksAt ops) →
    sameFor ops o (putsM ops sp us f a n) (putsM ops sp us g a n)
  | 0, _ => ⟨rfl, fun _ _ => rfl⟩
  | n + 1, h => by
    have ih := putsM_sameFor (sp := sp) (us := us) (a := a) n (fun k hk => h k (by omega))
    refine ⟨by rw [putsM_size, putsM_size], fun d hd => ?_⟩
    have e := ih.2 d hd
    have hsz := ih.1
    have hn := h n (by omega)
    unfold putsM
    cases hdst : dstOf ops n with
    | none => simp only [Act.put]; split <;> split <;> exact e
    | some t =>
      rw [hdst] at hn
      have hp : ∀ (b : Act) v, t ≠ d → (b.put (some t) v).tmps[d]? = b.tmps[d]? := fun b v ht => by simp [Act.put, Array.getElem?_setIfInBounds_ne ht]
      by_cases hfg : f n = g n
      · rw [hfg]
        split
        · by_cases ht : t = d
          · subst ht
            simp only [Act.put, Array.getElem?_setIfInBounds_self, hsz]
          · rw [hp _ _ ht, hp _ _ ht]; exact e
        · exact e
      · have ht : t ≠ d := fun e => hn hfg t rfl (e ▸ hd)
        split <;> split <;> (try rw [hp _ _ ht]) <;> (try rw [hp _ _ ht]) <;> exact e
def Step (P : Program) (ops : Array Oper) (S : World → Prop) (G : World → World → Prop) (o : Oper) (b : Act) (w : World) (V : Value → World → Prop) : Prop :=
  ∀ K : Act → World → Prop, (∀ u w', S w' → G w w' → V u w' → K (b.put o.dst u) w') →
    if Region.wanted o (yielded ops b.tmps) = true then Oper.wp P o b w K (fun _ _ _ => False) else K (b.put o.dst undef) w
theorem Step.wpOp {i : Nat} {o : Oper} {b c : Act} {w : World} {V : Value → World → Prop} {d : Tmp} (hi : ops[i]? = some o) (h : Step P ops S G o b w V) (hd : o.dst = some d) (hb : d < b.tmps.size)
    (hs : ∀ cs x, o.op ≠ .select cs x) (hsame : sameFor ops o c b) {K : Act → World → Prop} (hK : ∀ u w', S w' → G w w' → V u w' → K (c.put o.dst u) w') : wpOp P ops Q i K c w := by
  have h1 := h (fun a' w' => a'.defers = b.defers ∧ S w' ∧ G w w' ∧ V (a'.tmps.getD d undef) w') (fun u w' a1 a2 a3 => ⟨by rw [hd]; rfl, a1, a2, by rw [hd]; simpa [Act.put, hb] using a3⟩)
  have get : ∀ u, ((b.put o.dst u).tmps.getD d undef) = u := fun u => by rw [hd]; simp [Act.put, hb]
  unfold Go.wpOp
  simp only [hi]
  rw [hsame.wanted]
  split
  · rename_i hw
    rw [if_pos hw] at h1
    refine .inl ?_
    unfold Oper.wp at *
    rw [hsame.exec hs]
    generalize (execOp b.eval o).run P w = r at *
    cases r with
    | ok n w' =>
      cases n <;> simp only [Oper.upon, get] at h1 ⊢
      case value u => exact hK _ _ h1.2.1 h1.2.2.1 h1.2.2.2
      case skip => exact hK _ _ h1.2.1 h1.2.2.1 h1.2.2.2
      case defer df =>
        have := congrArg List.length h1.1
        rw [hd] at this
        simp [Act.put] at this
      case enter f args =>
        refine Calls.mono h1 fun e w'' he => ?_
        cases e with
        | returned u => exact hK _ _ he.2.1 he.2.2.1 he.2.2.2
        | panicked c => exact he.elim
        | outgrown => obtain ⟨_, _, hf⟩ := he; exact hf.elim
      case row row args => exact Rows.mono h1 fun u w'' he => hK _ _ he.2.1 he.2.2.1 he.2.2.2
    | halt x w' => cases x <;> simp only [Oper.upon] at h1
  · rename_i hw
    rw [if_neg hw, get] at h1
    exact hK _ _ h1.2.1 h1.2.2.1 h1.2.2.2
def Walk (P : Program) (ops : Array Oper) (S : World → Prop) (G : World → World → Prop) (Q : Exit → Act → World → Prop) : List Oper → Nat → List (Nat × (Value → World → Prop)) → ((Nat → Value) → Act) → Prop
  | [], _, F, A => ∀ us w, S w → (∀ p ∈ F, p.2 (us p.1) w) → Q .normal (A us) w
  | o :: rest, i, F, A =>
    (∃ v, (∀ us w, S w → (∀ p ∈ F, waits o p.1 = true → p.2 (us p.1) w) → Step P ops S G o (A us) w (fun u _ => u = v)) ∧ Walk P ops S G Q rest (i + 1) F (fun us => (A us).put o.dst v)) ∨
    (∃ V : Value → World → Prop, (∀ u w w', G w w' → V u w → V u w') ∧ (∀ us w, S w → (∀ p ∈ F, waits o p.1 = true → p.2 (us p.1) w) → Step P ops S G o (A us) w V) ∧
      Walk P ops S G Q rest (i + 1) ((i, V) :: F) (fun us => (A us).put o.dst (us i)))
def fits (ops : Array Oper) (n : Nat) : Bool :=
  Region.noSelect ops &&
  (List.range ops.size).all fun i => match ops[i]? with
    | none => true
    | some o => (match o.dst with | none => false | some d => decide (d < n)) &&
      o.after.all (fun e => !Region.binds .any e || decide (e.on < i)) &&
      (List.range ops.size).all fun k => match dstOf ops k with
        | none => true
        | some d => (k == i || o.dst != some d) && (!(o.looksAt ops).contains d || waits o k)
theorem fits_spec {n : Nat} (h : fits ops n = true) {i : Nat} {o : Oper} (hi : ops[i]? = some o) :
    (∃ d, o.dst = some d ∧ d < n) ∧ (∀ e ∈ o.after, Region.binds .any e = true → e.on < i) ∧
    ∀ k d, k < ops.size → dstOf ops k = some d → (k ≠ i → o.dst ≠ some d) ∧ (d ∈ o.looksAt ops → waits o k = true) := by
  unfold fits at h
  rw [Bool.and_eq_true] at h
  have hlt : i < ops.size := (Array.getElem?_eq_some_iff.1 hi).1
  have h2 := List.all_eq_true.1 h.2 i (List.mem_range.2 hlt)
  simp only [hi, Bool.and_eq_true] at h2
  obtain ⟨⟨h3, h4⟩, h5⟩ := h2
  refine ⟨?_, fun e he hb => ?_, fun k d hk hd => ?_⟩
  · cases hd : o.dst with
    | none => simp [hd] at h3
    | some d => simp only [hd] at h3; exact ⟨d, rfl, of_decide_eq_true h3⟩
  · have := Array.all_eq_true_iff_forall_mem.1 h4 e he
    simpa [hb] using this
  · have := List.all_eq_true.1 h5 k (List.mem_range.2 hk)
    simp only [hd, Bool.and_eq_true, Bool.or_eq_true] at this
    refine ⟨fun hne => ?_, fun hl => ?_⟩
    · have h6 := this.1
      simp [hne] at h6
      exact h6
    · have h6 := this.2
      simpa [hl] using h6
theorem told_of_walk {a : Act} (hd : ∀ i k, i ≠ k → ∀ d, dstOf ops i = some d → dstOf ops k ≠ some d) : ∀ (rest : List Oper) (i : Nat) (F : List (Nat × (Value → World → Prop))) (A : (Nat → Value) → Act) (sp0 : Nat → Spec),
    rest = ops.toList.drop i → i ≤ ops.size → (∀ p ∈ F, p.1 < i ∧ sp0 p.1 = .free p.2) → (∀ us, A us = putsM ops sp0 us (fun k => decide (k < i)) a ops.size) →
    (∀ j, j < i → ∀ u w w', G w w' → (sp0 j).fact u w → (sp0 j).fact u w') →
    Walk P ops S G Q rest i F A →
    ∃ sp : Nat → Spec, (∀ j, j < i → sp j = sp0 j) ∧ (∀ j, j < ops.size → ∀ u w w', G w w' → (sp j).fact u w → (sp j).fact u w') ∧
      (∀ k o, i ≤ k → ops[k]? = some o → ∀ us w, S w → (∀ j, j < k → waits o j = true → (sp j).fact (us j) w) → Step P ops S G o (putsM ops sp us (fun m => decide (m < k)) a ops.size) w (sp k).holds) ∧
      (∀ us w, S w → (∀ j, j < ops.size → (sp j).fact (us j) w) → Q .normal (putsM ops sp us (fun _ => true) a ops.size) w)
  | [], i, F, A, sp0, hr, hi, hF, hA, hm, h => by
    have hsz : i = ops.size := by
      have := congrArg List.length hr
      simp at this
      omega
    subst hsz
    refine ⟨sp0, fun _ _ => rfl, hm, fun k o hk ho => ?_, fun us w hS hf => ?_⟩
    · have := (Array.getElem?_eq_some_iff.1 ho).1
      omega
    · have := h us w hS (fun p hp => by
        have h1 := hF p hp
        have h2 := hf p.1 h1.1
        rw [h1.2] at h2
        exact h2)
      rw [hA us] at this
      have e : putsM ops sp0 us (fun k => decide (k < ops.size)) a ops.size = putsM ops sp0 us (fun _ => true) a ops.size := putsM_congr _ fun k hk => ⟨by simp [hk], fun _ => rfl⟩
      rwa [e] at this
  | o :: rest, i, F, A, sp0, hr, hi, hF, hA, hm, h => by
    have hlt : i < ops.size := by
      have := congrArg List.length hr
      simp at this
      omega
    have ho : ops[i]? = some o := by
      have := congrArg List.head? hr
      simp at this
      rw [this]
    have hrest : rest = ops.toList.drop (i + 1) := by
      have := congrArg List.tail hr
      simpa using this
    -- whichever spec s is told of number i
    have go : ∀ (s : Spec) (F' : List (Nat × (Value → World → Prop))) (A' : (Nat → Value) → Act), (∀ u w w', G w w' → s.fact u w → s.fact u w') →
        (∀ us w, S w → (∀ p ∈ F, waits o p.1 = true → p.2 (us p.1) w) → Step P ops S G o (A us) w s.holds) → (∀ us, A' us = (A us).put o.dst (s.val (us i))) →
        (∀ p ∈ F', p ∈ F ∨ (p.1 = i ∧ s = .free p.2)) → Walk P ops S G Q rest (i + 1) F' A' →
        ∃ sp : Nat → Spec, (∀ j, j < i → sp j = sp0 j) ∧ (∀ j, j < ops.size → ∀ u w w', G w w' → (sp j).fact u w → (sp j).fact u w') ∧
          (∀ k o, i ≤ k → ops[k]? = some o → ∀ us w, S w → (∀ j, j < k → waits o j = true → (sp j).fact (us j) w) → Step P ops S G o (putsM ops sp us (fun m => decide (m < k)) a ops.size) w (sp k).holds) ∧
          (∀ us w, S w → (∀ j, j < ops.size → (sp j).fact (us j) w) → Q .normal (putsM ops sp us (fun _ => true) a ops.size) w) := by
      intro s F' A' hms hst hA' hF' hw
      have e1 : ∀ (us : Nat → Value) k, k < i → (if k = i then s else sp0 k) = sp0 k := fun us k hk => by rw [if_neg (by omega)]
      obtain ⟨sp, q1, q2, q3, q4⟩ := told_of_walk hd rest (i + 1) F' A' (fun j => if j = i then s else sp0 j) hrest hlt
        (fun p hp => by
          rcases hF' p hp with h1 | ⟨h1, h2⟩
          · have := hF p h1
            refine ⟨by omega, ?_⟩
            have hne : p.1 ≠ i := by omega
            simp only [hne, if_false]
            exact this.2
          · refine ⟨by omega, ?_⟩
            simp only [h1, if_true]
            exact h2)
        (fun us => by
          rw [hA' us, hA us]
          have e2 : putsM ops sp0 us (fun k => decide (k < i)) a ops.size = putsM ops (fun j => if j = i then s else sp0 j) us (fun k => decide (k < i)) a ops.size :=
            putsM_congr _ fun k hk => ⟨rfl, fun hki => by rw [e1 us k (of_decide_eq_true hki)]⟩
          have e3 : dstOf ops i = o.dst := by simp [dstOf, ho]
          have e5 := putsM_put (ops := ops) (sp := fun j => if j = i then s else sp0 j) (us := us) (us' := us) (f := fun k => decide (k < i)) (f' := fun k => decide (k < i + 1)) (a := a) (j := i) hd (by simp) (fun k => by
            rcases Nat.lt_trichotomy k i with h1 | h1 | h1
            · simp [h1, Nat.lt_succ_of_lt h1]
            · simp [h1]
            · simp [show ¬ k < i by omega, show ¬ k < i + 1 by omega, show ¬ k = i by omega]) (fun _ _ => rfl) ops.size hlt
          rw [e3] at e5
          simp only [if_true] at e5
          rw [e2]
          exact e5.symm)
        (fun j hj u w w' hg hf => by
          by_cases h1 : j = i
          · subst h1
            simp only [if_true] at hf ⊢
            exact hms u w w' hg hf
          · simp only [h1, if_false] at hf ⊢
            exact hm j (by omega) u w w' hg hf)
        hw
      refine ⟨sp, fun j hj => by rw [q1 j (by omega), if_neg (by omega)], q2, fun k o' hk ho' us w hS hf => ?_, q4⟩
      rcases Nat.lt_or_ge i k with hik | hik
      · exact q3 k o' hik ho' us w hS hf
      · obtain rfl : k = i := by omega
        obtain rfl : o' = o := by rw [ho] at ho'; exact (Option.some.inj ho').symm
        have h1 := hst us w hS (fun p hp hw => by
          have h2 := hF p hp
          have h3 := hf p.1 h2.1 hw
          rw [q1 p.1 (by omega), if_neg (by omega), h2.2] at h3
          exact h3)
        rw [hA us] at h1
        have e2 : putsM ops sp0 us (fun m => decide (m < k)) a ops.size = putsM ops sp us (fun m => decide (m < k)) a ops.size :=
          putsM_congr _ fun m hm => ⟨rfl, fun hki => by
            have := of_decide_eq_true hki
            rw [q1 m (by omega), if_neg (by omega)]⟩
        rw [e2] at h1
        have e4 : sp k = s := by rw [q1 k (by omega), if_pos rfl]
        rw [e4]
        exact h1
    rcases h with ⟨v, h1, h2⟩ | ⟨V, hV, h1, h2⟩
    · exact go (.fix v) F _ (fun _ _ _ _ _ => trivial) h1 (fun _ => rfl) (fun p hp => .inl hp) h2
    · exact go (.free V) ((i, V) :: F) _ hV h1 (fun _ => rfl) (fun p hp => by
        rcases List.mem_cons.1 hp with rfl | hp
        · exact .inr ⟨rfl, rfl⟩
        · exact .inl hp) h2
theorem told {a : Act} (hd : ∀ i k, i ≠ k → ∀ d, dstOf ops i = some d → dstOf ops k ≠ some d) (h : Walk P ops S G Q ops.toList 0 [] (fun _ => a)) : ∃ sp : Nat → Spec,
    (∀ j, j < ops.size → ∀ u w w', G w w' → (sp j).fact u w → (sp j).fact u w') ∧
      (∀ k o, ops[k]? = some o → ∀ us w, S w → (∀ j, j < k → waits o j = true → (sp j).fact (us j) w) → Step P ops S G o (putsM ops sp us (fun m => decide (m < k)) a ops.size) w (sp k).holds) ∧
      (∀ us w, S w → (∀ j, j < ops.size → (sp j).fact (us j) w) → Q .normal (putsM ops sp us (fun _ => true) a ops.size) w) := by
  have none : ∀ us n, putsM ops (fun _ => .fix undef) us (fun k => decide (k < 0)) a n = a := fun us n => by
    induction n with
    | zero => rfl
    | succ n ih => unfold putsM; simpa using ih
  obtain ⟨sp, _, q2, q3, q4⟩ := told_of_walk hd ops.toList 0 [] (fun _ => a) (fun _ => .fix undef) (by simp) (by omega) (by simp) (fun us => (none us _).symm) (by omega) h
  exact ⟨sp, q2, fun k o => q3 k o (by omega), q4⟩
def unlisted (listed : Array Bool) (n : Nat) : Nat := ((List.range n).filter fun k => !listed.getD k true).length
theorem unlisted_set {listed : Array Bool} {j : Nat} (hj : listed.getD j true = false) : ∀ n, unlisted (listed.setIfInBounds j true) n ≤ unlisted listed n ∧ (j < n → unlisted (listed.setIfInBounds j true) n < unlisted listed n)
  | 0 => ⟨Nat.le_refl _, by omega⟩
  | n + 1 => by
    obtain ⟨h1, h2⟩ := unlisted_set hj n
    have hlt : j < listed.size := by
      rcases Nat.lt_or_ge j listed.size with h | h
      · exact h
      · simp [h] at hj
    have same : n ≠ j → (listed.setIfInBounds j true).getD n true = listed.getD n true := fun h => by
      simp only [Array.getD_eq_getD_getElem?, Array.getElem?_setIfInBounds_ne (Ne.symm h)]
    unfold unlisted at *
    rw [List.range_succ, List.filter_append, List.filter_append, List.length_append, List.length_append]
    by_cases h : n = j
    · subst h
      have h3 : (listed.setIfInBounds n true).getD n true = true := by simp [Array.getD_eq_getD_getElem?, hlt]
      simp only [List.filter_cons, List.filter_nil, h3, hj, Bool.not_true, Bool.not_false, Bool.false_eq_true, if_false, if_true, List.length_nil, List.length_cons]
      omega
    · simp only [List.filter_cons, List.filter_nil, same h]
      constructor
      · omega
      · intro h4
        have := h2 (by omega)
        omega
theorem wpAny_told {a : Act} {n : Nat} (hfit : fits ops n = true) (hn : a.tmps.size = n) {sp : Nat → Spec} (hm : ∀ j, j < ops.size → ∀ u w w', G w w' → (sp j).fact u w → (sp j).fact u w')
    (hst : ∀ k o, ops[k]? = some o → ∀ us w, S w → (∀ j, j < k → waits o j = true → (sp j).fact (us j) w) → Step P ops S G o (putsM ops sp us (fun m => decide (m < k)) a ops.size) w (sp k).holds)
    (hfin : ∀ us w, S w → (∀ j, j < ops.size → (sp j).fact (us j) w) → Q .normal (putsM ops sp us (fun _ => true) a ops.size) w)
    (hd : ∀ i k, i ≠ k → ∀ d, dstOf ops i = some d → dstOf ops k ≠ some d) :
    ∀ (fuel : Nat) (listed : Array Bool) (us : Nat → Value) (w : World), listed.size = ops.size → unlisted listed ops.size ≤ fuel → S w → (∀ j, j < ops.size → listed.getD j false = true → (sp j).fact (us j) w) →
      wpAny P .any ops Q fuel listed (putsM ops sp us (fun k => listed.getD k false) a ops.size) w := by
  -- nothing may come up: all are listed
  have all : ∀ (listed : Array Bool), listed.size = ops.size → Region.ready .any ops listed = [] → ∀ k, k < ops.size → listed.getD k false = true := by
    intro listed hsz hr k
    induction k using Nat.strongRecOn with
    | ind k ih =>
      intro hk
      obtain ⟨o, ho⟩ : ∃ o, ops[k]? = some o := ⟨ops[k], by simp [hk]⟩
      obtain ⟨_, hb, _⟩ := fits_spec hfit ho
      by_cases hc : listed.getD k false = true
      · exact hc
      · have : k ∈ Region.ready .any ops listed := mem_ready.2 ⟨by
          have h1 : k < listed.size := by omega
          simp [h1] at hc ⊢
          exact hc, o, ho, fun e he hbi => ih e.on (hb e he hbi) (by have := hb e he hbi; omega)⟩
        rw [hr] at this
        cases this
  have done : ∀ (listed : Array Bool) us w, listed.size = ops.size → S w → (∀ j, j < ops.size → listed.getD j false = true → (sp j).fact (us j) w) → Region.ready .any ops listed = [] →
      Q .normal (putsM ops sp us (fun k => listed.getD k false) a ops.size) w := by
    intro listed us w hsz hS hf hr
    have h1 := all listed hsz hr
    have e : putsM ops sp us (fun k => listed.getD k false) a ops.size = putsM ops sp us (fun _ => true) a ops.size := putsM_congr _ fun k hk => ⟨h1 k hk, fun _ => rfl⟩
    rw [e]
    exact hfin us w hS fun j hj => hf j hj (h1 j hj)
  intro fuel
  induction fuel with
  | zero =>
    intro listed us w hsz hu hS hf
    have hr : Region.ready .any ops listed = [] := by
      cases h : Region.ready .any ops listed with
      | nil => rfl
      | cons j js =>
        have hj : j ∈ Region.ready .any ops listed := by rw [h]; simp
        obtain ⟨h0, o, ho, _⟩ := mem_ready.1 hj
        have := (unlisted_set h0 ops.size).2 (Array.getElem?_eq_some_iff.1 ho).1
        omega
    exact ⟨hr, done listed us w hsz hS hf hr⟩
  | succ fuel ih =>
    intro listed us w hsz hu hS hf
    refine ⟨fun hr => done listed us w hsz hS hf hr, fun j hj => ?_⟩
    obtain ⟨h0, o, ho, hall⟩ := mem_ready.1 hj
    have hjn : j < ops.size := (Array.getElem?_eq_some_iff.1 ho).1
    obtain ⟨⟨d, hdst, hdn⟩, hb, hlk⟩ := fits_spec hfit ho
    have h0' : listed.getD j false = false := by
      have h1 : j < listed.size := by omega
      simp [h1] at h0 ⊢
      exact h0
    have wl : ∀ k, waits o k = true → k < j ∧ listed.getD k false = true := fun k hk => by
      unfold waits at hk
      rw [Array.any_eq_true] at hk
      obtain ⟨i, hi, h1⟩ := hk
      simp only [Bool.and_eq_true, beq_iff_eq] at h1
      have hmem : o.after[i] ∈ o.after := Array.getElem_mem hi
      rw [← h1.2]
      exact ⟨hb _ hmem h1.1, hall _ hmem h1.1⟩
    refine (hst j o ho us w hS fun k hk hw => hf k (by omega) (wl k hw).2).wpOp ho hdst (by rw [putsM_size, hn]; exact hdn) (Region.noSelect_spec (by unfold fits at hfit; rw [Bool.and_eq_true] at hfit; exact hfit.1) j o · · ho) ?_ ?_
    · refine putsM_sameFor _ fun k hk hne d' hd' hl => hne ?_
      have := wl k ((hlk k d' hk hd').2 hl)
      rw [this.2]
      simp [this.1]
    · intro u w' hS' hG hV
      have hv : (sp j).val u = u := by
        cases h : sp j with
        | fix v => rw [h] at hV; exact hV.symm
        | free V => rfl
      have hfa : (sp j).fact u w' := by
        cases h : sp j with
        | fix v => trivial
        | free V => rw [h] at hV; exact hV
      have e := putsM_put (ops := ops) (sp := sp) (us := us) (us' := fun k => if k = j then u else us k) (f := fun k => listed.getD k false) (f' := fun k => (listed.setIfInBounds j true).getD k false) (a := a) (j := j) hd h0'
        (fun k => by
          by_cases h : k = j
          · subst h
            have h1 : k < listed.size := by omega
            simp [Array.getD_eq_getD_getElem?, h1]
          · have h2 : ¬ j = k := fun e => h e.symm
            simp [Array.getD_eq_getD_getElem?, Array.getElem?_setIfInBounds_ne h2, h])
        (fun k hk => by simp [hk]) ops.size hjn
      simp only [if_true, hv] at e
      have e3 : dstOf ops j = o.dst := by simp [dstOf, ho]
      rw [e3] at e
      rw [← e]
      refine ih (listed.setIfInBounds j true) _ w' (by simpa using hsz) (by have := (unlisted_set h0 ops.size).2 hjn; omega) hS' fun k hk hl => ?_
      by_cases h : k = j
      · subst h; simp only [if_true]; exact hfa
      · simp only [h, if_false]
        refine hm k hk _ w w' hG (hf k hk ?_)
        have h2 : ¬ j = k := fun e => h e.symm
        simpa [Array.getD_eq_getD_getElem?, Array.getElem?_setIfInBounds_ne h2] using hl
theorem wp_region_told {l : List Oper} {id n : Nat} {a : Act} {w : World} (S : World → Prop) (G : World → World → Prop) (hm : P.follows .mixedOrders = true) (hfit : fits l.toArray n = true) (hn : a.tmps.size = n) (hS : S w.drew)
    (h : Walk P l.toArray S G Q l 0 [] (fun _ => a)) : (Code.region id l.toArray true).wp P Q a w := by
  have hd : ∀ i k, i ≠ k → ∀ d, dstOf l.toArray i = some d → dstOf l.toArray k ≠ some d := by
    intro i k hik d hi hk
    unfold dstOf at hi
    cases ho : l.toArray[i]? with
    | none => simp [ho] at hi
    | some o =>
      rw [ho] at hi
      have hk' : k < l.toArray.size := by
        rcases Nat.lt_or_ge k l.toArray.size with h | h
        · exact h
        · unfold dstOf at hk; rw [Array.getElem?_eq_none h] at hk; cases hk
      exact ((fits_spec hfit ho).2.2 k d hk' hk).1 (Ne.symm hik) (by simpa using hi)
  obtain ⟨sp, q2, q3, q4⟩ := told (ops := l.toArray) hd h
  refine wp_region_any hm ?_
  have e : ∀ us n', putsM l.toArray sp us (fun k => (Array.replicate l.toArray.size false).getD k false) a n' = a := fun us n' => by
    induction n' with
    | zero => rfl
    | succ n' ih =>
      unfold putsM
      have h1 : (Array.replicate l.toArray.size false).getD n' false = false := by
        rw [Array.getD_eq_getD_getElem?, Array.getElem?_replicate]
        split <;> rfl
      rw [if_neg (by rw [h1]; simp)]
      exact ih
  have h2 := wpAny_told (Q := Q) hfit hn q2 q3 q4 hd l.toArray.size (Array.replicate l.toArray.size false) (fun _ => undef) w.drew (by simp) (by
    unfold unlisted
    refine Nat.le_trans (List.length_filter_le _ _) ?_
    simp) hS (fun j _ hl => by
      exfalso
      rw [Array.getD_eq_getD_getElem?, Array.getElem?_replicate] at hl
      split at hl <;> simp at hl)
  rw [e] at h2
  exact h2
variable {l : List Oper} {o : Oper} {rest : List Oper} {i : Nat} {F : List (Nat × (Value → World → Prop))} {A : (Nat → Value) → Act}
theorem walk_pure (hG : ∀ w, G w w) {v : Value} (hw : ∀ us, Region.wanted o (yielded ops (A us).tmps) = true) (hy : ∀ us w, S w → (∀ p ∈ F, waits o p.1 = true → p.2 (us p.1) w) → (execOp (A us).eval o).run P w = .ok (.value v) w)
    (h : Walk P ops S G Q rest (i + 1) F (fun us => (A us).put o.dst v)) : Walk P ops S G Q (o :: rest) i F A :=
  .inl ⟨v, fun us w hS hF K hK => by
    rw [if_pos (hw us)]
    unfold Oper.wp
    rw [hy us w hS hF]
    exact hK _ _ hS (hG w) rfl, h⟩
theorem walk_skip (hG : ∀ w, G w w) (hw : ∀ us, Region.wanted o (yielded ops (A us).tmps) = false) (h : Walk P ops S G Q rest (i + 1) F (fun us => (A us).put o.dst undef)) : Walk P ops S G Q (o :: rest) i F A :=
  .inl ⟨undef, fun us w hS hF K hK => by
    rw [if_neg (by rw [hw us]; simp)]
    exact hK _ _ hS (hG w) rfl, h⟩
theorem walk_fix {v : Value} (hs : ∀ us w, S w → (∀ p ∈ F, waits o p.1 = true → p.2 (us p.1) w) → ∀ K : Act → World → Prop, (∀ w', S w' → G w w' → K ((A us).put o.dst v) w') →
      if Region.wanted o (yielded ops (A us).tmps) = true then Oper.wp P o (A us) w K (fun _ _ _ => False) else K ((A us).put o.dst undef) w)
    (h : Walk P ops S G Q rest (i + 1) F (fun us => (A us).put o.dst v)) : Walk P ops S G Q (o :: rest) i F A :=
  .inl ⟨v, fun us w hS hF K hK => hs us w hS hF K fun w' h1 h2 => hK v w' h1 h2 rfl, h⟩
theorem walk_done (h : ∀ us w, S w → (∀ p ∈ F, p.2 (us p.1) w) → Q .normal (A us) w) : Walk P ops S G Q [] i F A := h
end
end
end Go.Proofs.Ythjkhambmgepdaa
