/- Texts IsRow Mat Line R2 Draw R3 Sd Poll Rf1 R4 Enl, without what this claim does not use. -/
import Derived.DataReads
import Derived.Deep.DeepCutAuto
import Derived.OrdersHeld
import Derived.Laws.MakeOwn
import Derived.Deep.OwnRows
import Derived.Test.YthjkhambmgepdaaQak
namespace Go.Proofs.Ythjkhambmgepdaa
section
set_option linter.unusedVariables false
def IsRow (k : IntKind) (w : World) (a : Option Addr) (len cap : Nat) (zs : List Int) : Prop :=
  (a = none ∧ len = 0 ∧ cap = 0 ∧ zs = []) ∨
  ∃ x, a = some x ∧ len ≤ cap ∧ cap ≤ maxLen ∧ zs.length = cap ∧ (∀ i, i < zs.length → w.cell? (x.add i) = some (.int k (zs.getD i 0))) ∧ ∀ n ∈ zs, (Lit.int k n).wf = true
theorem wf_u8 {n : Int} (h : (Lit.int .u8 n).wf = true) : 0 ≤ n ∧ n < 256 := by
  simp [Lit.wf, IntKind.min, IntKind.max, IntKind.bits, IntKind.signed] at h
  omega
theorem IsRow.isB {w : World} {a : Option Addr} {len cap : Nat} {zs : List Int} (h : IsRow .u8 w a len cap zs) : ∃ bs, IsB w a len bs ∧ len ≤ 9223372036854775807 := by
  rcases h with ⟨rfl, rfl, rfl, rfl⟩ | ⟨x, rfl, hl, hm, hz, hc, hw⟩
  · exact ⟨[], IsB.nil _ _, by omega⟩
  · refine ⟨(zs.take len).map (fun z => UInt8.ofNat z.toNat), ⟨by simp; omega, fun hn => ?_⟩, by simp only [maxLen] at hm; omega⟩
    have h0 := hc 0 (by omega)
    obtain ⟨b, o, sp⟩ := x
    have hsp : sp = none := by simpa [Addr.add] using World.cell?_spot h0
    subst hsp
    refine ⟨b, o, rfl, fun i hi => ?_⟩
    have hi' : i < zs.length := by simp at hi; omega
    have := hc i hi'
    rw [Addr.add_mid] at this
    rw [this]
    have hg : zs.getD i 0 = zs[i] := by simp [hi']
    have hwi := wf_u8 (hw zs[i] (List.getElem_mem hi'))
    rw [hg]
    congr 2
    simp only [List.getElem_map, List.getElem_take, UInt8.toNat_ofNat']
    omega
theorem IsRow.cap {k : IntKind} {w : World} {a : Option Addr} {len cap : Nat} {zs : List Int} (h : IsRow k w a len cap zs) : len ≤ cap := by
  rcases h with ⟨rfl, rfl, rfl, rfl⟩ | ⟨x, rfl, hl, _⟩
  · exact Nat.le_refl _
  · exact hl
end
section
open Go.RowKit
set_option linter.unusedVariables false
def IsM (w : World) (a : Option Addr) (len : Nat) (ls : List (List UInt8)) : Prop :=
  len = ls.length ∧ (0 < len → ∃ b o, a = some ⟨b, o, none⟩ ∧ ∀ r (h : r < ls.length), ∃ A C, w.cell? ⟨b, o + r, none⟩ = some (.slice A (ls[r]).length C) ∧ (ls[r]).length ≤ C ∧ (ls[r]).length ≤ 9223372036854775807 ∧ IsB w A (ls[r]).length ls[r])
theorem IsM.at_ {w w' : World} {a : Option Addr} {len : Nat} {ls : List (List UInt8)} (h : IsM w a len ls) (hb : Below w.heap.size w w') (h0 : 0 < len) : ∃ b o, a = some ⟨b, o, none⟩ ∧
    ∀ r (h : r < ls.length), ∃ A C, w'.cell? ⟨b, o + r, none⟩ = some (.slice A (ls[r]).length C) ∧ (ls[r]).length ≤ C ∧ (ls[r]).length ≤ 9223372036854775807 ∧ IsB w' A (ls[r]).length ls[r] := by
  obtain ⟨b, o, e, hc⟩ := h.2 h0
  refine ⟨b, o, e, fun r hr => ?_⟩
  obtain ⟨A, C, h1, h2, h3, h4⟩ := hc r hr
  exact ⟨A, C, (hb.cell (p := ⟨b, o + r, none⟩) (block_lt_of_cell h1)).trans h1, h2, h3, h4.below hb⟩
end
section
open Go.RowKit
set_option linter.unusedVariables false
def LV (k : Int) (e f : Bool) (n a : Int) (p : List UInt8) : Array Value := (.int .i64 k :: .bool e :: .bool f :: .int .i64 n :: .int .u16 a :: p.map bv).toArray
def z56 : List UInt8 := List.replicate 56 0
theorem z56_len : z56.length = 56 := by simp [z56]
theorem LV_size (k : Int) (e f : Bool) (n a : Int) {p : List UInt8} (h : p.length = 56) : (LV k e f n a p).size = 61 := by simp [LV, h]
theorem LV_one (k : Int) (e f : Bool) (n a : Int) (p : List UInt8) : (LV k e f n a p).all (·.oneCell') = true := by
  refine Array.all_eq_true_iff_forall_mem.2 fun v hv => ?_
  simp only [LV, List.mem_toArray, List.mem_cons] at hv
  rcases hv with rfl | rfl | rfl | rfl | rfl | hv
  · rfl
  · rfl
  · rfl
  · rfl
  · rfl
  · exact bv_one p v hv
theorem info40 : (Try.prog.info? 40).map (·.size) = some 61 := by kernel_rfl
theorem line_info (k : Int) (e f : Bool) (n a : Int) {p : List UInt8} (h : p.length = 56) : (Try.prog.info? 40).map (·.size) = some (LV k e f n a p).size := by rw [LV_size _ _ _ _ _ h]; exact info40
theorem line_cells {w : World} {g : Nat} {t : TypeId} {k : Int} {e f : Bool} {n a : Int} {p : List UInt8} (h : Row w g t (LV k e f n a p)) :
    w.cell? ⟨g, 0, none⟩ = some (.int .i64 k) ∧ w.cell? ⟨g, 1, none⟩ = some (.bool e) ∧ w.cell? ⟨g, 2, none⟩ = some (.bool f) ∧ w.cell? ⟨g, 3, none⟩ = some (.int .i64 n) ∧ w.cell? ⟨g, 4, none⟩ = some (.int .u16 a) :=
  ⟨h.cell 0, h.cell 1, h.cell 2, h.cell 3, h.cell 4⟩
theorem three_new {W w1 : World} {cs ds es : Array Value} {T U V : TypeId} (hb : Below (((W.alloc (.cells cs T)).alloc (.cells ds U)).alloc (.cells es V)).heap.size (((W.alloc (.cells cs T)).alloc (.cells ds U)).alloc (.cells es V)) w1) :
    Row w1 W.heap.size T cs ∧ Row w1 (W.heap.size + 1) U ds ∧ Row w1 (W.heap.size + 2) V es ∧ W.heap.size + 2 < w1.heap.size ∧ Below W.heap.size W w1 := by
  have e : (W.alloc (.cells cs T)).heap.size = W.heap.size + 1 := by simp
  have e2 : ((W.alloc (.cells cs T)).alloc (.cells ds U)).heap.size = W.heap.size + 2 := by simp
  have hs := hb.size
  have h1 : Row (W.alloc (.cells cs T)) W.heap.size T cs := Row.born W T cs
  have h2 : Row ((W.alloc (.cells cs T)).alloc (.cells ds U)) (W.heap.size + 1) U ds := by
    have := Row.born (W.alloc (.cells cs T)) U ds
    rwa [e] at this
  have h3 : Row (((W.alloc (.cells cs T)).alloc (.cells ds U)).alloc (.cells es V)) (W.heap.size + 2) V es := by
    have := Row.born ((W.alloc (.cells cs T)).alloc (.cells ds U)) V es
    rwa [e2] at this
  refine ⟨((h1.alloc _).alloc _).below hb (by simp; omega), (h2.alloc _).below hb (by simp), h3.below hb (by simp), by simp at hs; omega, ?_⟩
  exact ((((Below.refl _ _).alloc (Nat.le_refl _) _).alloc (by simp) _).alloc (by simp; omega) _).trans (hb.mono (by simp; omega))
theorem results_ctct {P : Program} {fn : Func} {p t q u : Tmp} {ty1 ty2 : TypeId} {d1 d2 : TypeDesc} (h : fn.results = #[.cell p ty1, .tmp t, .cell q ty2, .tmp u]) {tmps : Array Value} {w : World} {g1 g2 : Nat} {t1 t2 : TypeId} {cs1 cs2 : Array Value}
    (h1 : tmps.getD p undef = .pointer (some ⟨g1, 0, none⟩)) (h2 : tmps.getD q undef = .pointer (some ⟨g2, 0, none⟩)) (r1 : Row w g1 t1 cs1) (r2 : Row w g2 t2 cs2)
    (u1 : P.underlying ty1 = some d1) (u2 : P.underlying ty2 = some d2) (k1 : d1.isRow = true) (k2 : d2.isRow = true) (i1 : (P.info? ty1).map (·.size) = some cs1.size) (i2 : (P.info? ty2).map (·.size) = some cs2.size) :
    (results fn tmps).run P w = .ok (.tuple #[.agg cs1, tmps.getD t undef, .agg cs2, tmps.getD u undef]) w := by
  have l1 := run_loadVar_mid (P := P) w g1 0 ty1 cs1.toList d1 r1.range u1 k1 (by simpa using i1)
  have l2 := run_loadVar_mid (P := P) w g2 0 ty2 cs2.toList d2 r2.range u2 k2 (by simpa using i2)
  simp only [Array.toArray_toList] at l1 l2
  simp only [Array.getD_eq_getD_getElem?] at h1 h2
  simp [results, h, h1, h2, asAddr, l1, l2]
end
section
open Go.RowKit
set_option linter.unusedVariables false
def ZS : Array Value := #[.int .i64 0, .int .u64 0, .int .u64 0]
theorem info27 : (Try.prog.info? 27).map (·.size) = some 3 := by kernel_rfl
theorem zs_one : ZS.all (·.oneCell') = true := by simp [ZS, Value.oneCell']
theorem zs_info : (Try.prog.info? 27).map (·.size) = some ZS.size := info27
def ZL : Array Value := LV 0 false false 0 0 z56
theorem zl_one : ZL.all (·.oneCell') = true := LV_one _ _ _ _ _ _
theorem zl_info : (Try.prog.info? 40).map (·.size) = some ZL.size := line_info _ _ _ _ _ z56_len
def SendErr (E : Int) (W : World) (e : Ending) (W' : World) : Prop :=
  e = .returned (.tuple #[.agg ZS, .int .i64 0, .agg ZL, .int .i64 E]) ∧ Below W.heap.size W W'
set_option maxRecDepth 100000 in
set_option maxHeartbeats 4000000 in
theorem send_state (n s a k : Int) (A : Option Addr) (m c : Nat) (f : Bool) (hs : 0 ≤ s) (hs1 : s < 18446744073709551616) (ha : 0 ≤ a) (hv : vs n s a = false) (W : World) :
    Calls Try.prog 25 #[.agg #[.int .i64 n, .int .u64 s, .int .u64 a], .slice A m c, .bool f, .int .u16 k] W (SendErr 74 W) := by
  go_enter Try.func25, Try.ntmps25
  go_wp2_with fail
  refine (valid_sender _ _ _ hs hs1 ha _).mono ?_
  rintro e w1 ⟨rfl, hb⟩
  obtain ⟨r1, r2, r3, hz, hB⟩ := three_new hb
  have r3 : Row w1 (W.heap.size + 2) 40 ZL := r3
  have r2 : Row w1 (W.heap.size + 1) 27 ZS := r2
  clear hb
  go_wp2_with (first
    | ((with_reducible refine wp_row_store (L := ZS) r2 rfl zs_info zs_one ?_ ?_ ?_); rfl; rfl; intro w2 u2 r2')
    | ((with_reducible refine wp_row_store (L := ZL) (r3.upd u2 (by omega)) rfl zl_info zl_one ?_ ?_ ?_); rfl; rfl; intro w3 u3 r3'))
  refine bodyPost_ret (results_ctct rfl rfl rfl (r2'.upd u3 (by omega)) r3' Try.underlying27 Try.underlying40 rfl rfl zs_info zl_info) rfl ?_
  exact ⟨rfl, Upd.below (Upd.below hB u2 (by omega)) u3 (by omega)⟩
set_option maxRecDepth 100000 in
set_option maxHeartbeats 4000000 in
theorem send_long (n s a k : Int) (A : Option Addr) (m c : Nat) (f : Bool) (hs : 0 ≤ s) (hs1 : s < 18446744073709551616) (ha : 0 ≤ a) (hv : vs n s a = true) (hm : 56 < m) (W : World) :
    Calls Try.prog 25 #[.agg #[.int .i64 n, .int .u64 s, .int .u64 a], .slice A m c, .bool f, .int .u16 k] W (SendErr 67 W) := by
  go_enter Try.func25, Try.ntmps25
  go_wp2_with fail
  refine (valid_sender _ _ _ hs hs1 ha _).mono ?_
  rintro e w1 ⟨rfl, hb⟩
  obtain ⟨r1, r2, r3, hz, hB⟩ := three_new hb
  have r3 : Row w1 (W.heap.size + 2) 40 ZL := r3
  have r2 : Row w1 (W.heap.size + 1) 27 ZS := r2
  clear hb
  go_wp2_with (first
    | ((with_reducible refine wp_row_store (L := ZS) r2 rfl zs_info zs_one ?_ ?_ ?_); rfl; rfl; intro w2 u2 r2')
    | ((with_reducible refine wp_row_store (L := ZL) (r3.upd u2 (by omega)) rfl zl_info zl_one ?_ ?_ ?_); rfl; rfl; intro w3 u3 r3'))
  refine bodyPost_ret (results_ctct rfl rfl rfl (r2'.upd u3 (by omega)) r3' Try.underlying27 Try.underlying40 rfl rfl zs_info zl_info) rfl ?_
  exact ⟨rfl, Upd.below (Upd.below hB u2 (by omega)) u3 (by omega)⟩
set_option maxRecDepth 100000 in
set_option maxHeartbeats 4000000 in
theorem send_full (n s a k : Int) (A : Option Addr) (m c : Nat) (f : Bool) (hs : 0 ≤ s) (hs1 : s < 18446744073709551616) (ha : 0 ≤ a) (hv : vs n s a = true) (hm : m ≤ 56) (hf : fr n s a = 0) (W : World) :
    Calls Try.prog 25 #[.agg #[.int .i64 n, .int .u64 s, .int .u64 a], .slice A m c, .bool f, .int .u16 k] W (SendErr 65 W) := by
  go_enter Try.func25, Try.ntmps25
  go_wp2_with fail
  refine (valid_sender _ _ _ hs hs1 ha _).mono ?_
  rintro e w1 ⟨rfl, hb⟩
  obtain ⟨r1, r2, r3, hz, hB⟩ := three_new hb
  have r3 : Row w1 (W.heap.size + 2) 40 ZL := r3
  have r2 : Row w1 (W.heap.size + 1) 27 ZS := r2
  clear hb
  obtain ⟨⟨c0, c1, c2⟩, f1⟩ := three_cells r1
  go_wp2_with fail
  refine (free _ _ _ hs hs1 ha _).mono ?_
  rintro e w1' ⟨rfl, hb⟩
  have r1 := r1.below hb r1.lt
  have r2 := r2.below hb r2.lt
  have r3 := r3.below hb r3.lt
  have hB := hB.trans (hb.mono hB.size)
  clear hb c0 c1 c2 f1 hz
  obtain ⟨⟨c0, c1, c2⟩, f1⟩ := three_cells r1
  go_wp2_with (first
    | ((with_reducible refine wp_row_store (L := ZS) r2 rfl zs_info zs_one ?_ ?_ ?_); rfl; rfl; intro w2 u2 r2')
    | ((with_reducible refine wp_row_store (L := ZL) (r3.upd u2 (by omega)) rfl zl_info zl_one ?_ ?_ ?_); rfl; rfl; intro w3 u3 r3'))
  refine bodyPost_ret (results_ctct rfl rfl rfl (r2'.upd u3 (by omega)) r3' Try.underlying27 Try.underlying40 rfl rfl zs_info zl_info) rfl ?_
  exact ⟨rfl, Upd.below (Upd.below hB u2 (by omega)) u3 (by omega)⟩
set_option maxRecDepth 100000 in
set_option maxHeartbeats 4000000 in
theorem send_limit (n a k : Int) (A : Option Addr) (m c : Nat) (f : Bool) (ha : 0 ≤ a) (hv : vs n 4611686018427387904 a = true) (hm : m ≤ 56) (hf : (fr n 4611686018427387904 a == 0) = false) (W : World) :
    Calls Try.prog 25 #[.agg #[.int .i64 n, .int .u64 4611686018427387904, .int .u64 a], .slice A m c, .bool f, .int .u16 k] W (SendErr 15 W) := by
  have hs : (0 : Int) ≤ 4611686018427387904 := by omega
  have hs1 : (4611686018427387904 : Int) < 18446744073709551616 := by omega
  go_enter Try.func25, Try.ntmps25
  go_wp2_with fail
  refine (valid_sender _ _ _ hs hs1 ha _).mono ?_
  rintro e w1 ⟨rfl, hb⟩
  obtain ⟨r1, r2, r3, hz, hB⟩ := three_new hb
  have r3 : Row w1 (W.heap.size + 2) 40 ZL := r3
  have r2 : Row w1 (W.heap.size + 1) 27 ZS := r2
  clear hb
  obtain ⟨⟨c0, c1, c2⟩, f1⟩ := three_cells r1
  go_wp2_with fail
  refine (free _ _ _ hs hs1 ha _).mono ?_
  rintro e w1' ⟨rfl, hb⟩
  have r1 := r1.below hb r1.lt
  have r2 := r2.below hb r2.lt
  have r3 := r3.below hb r3.lt
  have hB := hB.trans (hb.mono hB.size)
  clear hb c0 c1 c2 f1 hz
  obtain ⟨⟨c0, c1, c2⟩, f1⟩ := three_cells r1
  go_wp2_with (first
    | ((with_reducible refine wp_row_store (L := ZS) r2 rfl zs_info zs_one ?_ ?_ ?_); rfl; rfl; intro w2 u2 r2')
    | ((with_reducible refine wp_row_store (L := ZL) (r3.upd u2 (by omega)) rfl zl_info zl_one ?_ ?_ ?_); rfl; rfl; intro w3 u3 r3'))
  refine bodyPost_ret (results_ctct rfl rfl rfl (r2'.upd u3 (by omega)) r3' Try.underlying27 Try.underlying40 rfl rfl zs_info zl_info) rfl ?_
  exact ⟨rfl, Upd.below (Upd.below hB u2 (by omega)) u3 (by omega)⟩
end
section
set_option linter.unusedVariables false
open Go.RowKit
section
variable {P : Program} {md : Region.Mode} {ops : Array Oper} {Q : Exit → Act → World → Prop} {S : World → Prop} {fuel : Nat} {listed : Array Bool} {a : Act} {w : World} {dst : Option Tmp} {typ : TypeId} {pos : String} {after : Array Edge}
theorem take_load (i : Nat) {ty : TypeId} {x : Operand} {g : Nat} {t : TypeId} {cs : Array Value} {d : TypeDesc}
    (hi : ops[i]? = some { dst := dst, op := .load ty x, type := typ, pos := pos, after := after, guard := none })
    (hs : Region.noSelect ops = true) (hf : Region.free md ops listed i = true) (hr : (Region.ready md ops listed).contains i = true)
    (hQ : ∀ c a w v, Q (.panic c) (a.put dst v) w → Q (.panic c) a w) (hS : S w) (hrow : ∀ w, S w → Row w g t cs)
    (hu : P.underlying ty = some d) (hd : d.isRow = true) (hn : (P.info? ty).map (·.size) = some cs.size) (hx : a.eval x = .pointer (some ⟨g, 0, none⟩))
    (h : wpAnyH P md ops Q S fuel (listed.setIfInBounds i true) (a.put dst (.agg cs)) w) : wpAnyH P md ops Q S (fuel + 1) listed a w := by
  refine wpAnyH_take (v := .agg cs) hi hs hf hr (fun c a w => hQ c a w _) ?_ hS h
  have := yieldsIf_load_mid (P := P) (ops := ops) (S := S) (op := { dst := dst, op := .load ty x, type := typ, pos := pos, after := after, guard := none }) (a := a) (by simp [Region.wanted]) ty x rfl g 0 hx cs.toList d (fun w hw => (hrow w hw).range) hu hd (by simpa using hn)
  simpa using this
theorem take_move (i : Nat) {x : Operand} (hi : ops[i]? = some { dst := dst, op := .move x, type := typ, pos := pos, after := after, guard := none })
    (hs : Region.noSelect ops = true) (hf : Region.free md ops listed i = true) (hr : (Region.ready md ops listed).contains i = true)
    (hQ : ∀ c a w v, Q (.panic c) (a.put dst v) w → Q (.panic c) a w) (hS : S w)
    (h : wpAnyH P md ops Q S fuel (listed.setIfInBounds i true) (a.put dst (a.eval x)) w) : wpAnyH P md ops Q S (fuel + 1) listed a w :=
  wpAnyH_take (v := a.eval x) hi hs hf hr (fun c a w => hQ c a w _) (.inl ⟨by simp [Region.wanted], fun w _ => by simp [execOp]⟩) hS h
theorem one_op (i : Nat) {o : Oper} (hi : ops[i]? = some o) (hg : o.guard = none) (hr : Region.ready md ops listed = [i])
    (h : o.wp P a w (fun a' w' => S w' ∧ wpAnyH P md ops Q S fuel (listed.setIfInBounds i true) a' w') Q) : wpAnyH P md ops Q S (fuel + 1) listed a w := by
  refine wpAnyH_all hr (by simp) fun j hj => ?_
  obtain rfl : j = i := by simpa using hj
  unfold wpOp
  rw [hi]
  simp only [Region.wanted, hg, if_true]
  exact .inl h
theorem one_assign (i : Nat) {x : Operand} (hi : ops[i]? = some { dst := dst, op := .assign x, type := typ, pos := pos, after := after, guard := none }) (hr : Region.ready md ops listed = [i]) (hS : S w)
    (h : wpAnyH P md ops Q S fuel (listed.setIfInBounds i true) (a.put dst (a.eval x)) w) : wpAnyH P md ops Q S (fuel + 1) listed a w := by
  refine one_op i hi rfl hr ?_
  have e : (execOp a.eval { dst := dst, op := .assign x, type := typ, pos := pos, after := after, guard := none }).run P w = .ok (.value (a.eval x)) w := by simp [execOp]
  unfold Oper.wp
  rw [e]
  exact ⟨hS, h⟩
theorem one_store (i : Nat) {ty : TypeId} {x y : Operand} {g : Nat} {t : TypeId} {cs L : Array Value} (hi : ops[i]? = some { dst := none, op := .store ty x y, type := typ, pos := pos, after := after, guard := none })
    (hr : Region.ready md ops listed = [i]) (hrow : Row w g t cs) (hs : cs.size = L.size) (hn : (P.info? ty).map (·.size) = some L.size) (h1 : L.all (·.oneCell') = true)
    (hx : a.eval x = .pointer (some ⟨g, 0, none⟩)) (hy : a.eval y = .agg L)
    (h : ∀ w', Upd w w' g → Row w' g t L → S w' ∧ wpAnyH P md ops Q S fuel (listed.setIfInBounds i true) a w') : wpAnyH P md ops Q S (fuel + 1) listed a w := by
  refine one_op i hi rfl hr ?_
  refine wp_store_mid (op := { dst := none, op := .store ty x y, type := typ, pos := pos, after := after, guard := none }) ty x y rfl g 0 L hx hy (hrow.there _ (by omega)) hn h1 ?_
  have hr : Row w g t ([] ++ cs.toList ++ []).toArray := by simpa using hrow
  have h2 := Row.setCells (g := g) (t := t) L.toList w [] [] cs.toList hr (by simpa using hs)
  exact h _ (Upd.setCells g _ w 0) (by simpa using h2)
end
end
section
open Go.RowKit
set_option linter.unusedVariables false
theorem info5 : (Try.prog.info? 5).map (·.size) = some 1 := by kernel_rfl
theorem zl_size : ZL.size = 61 := LV_size _ _ _ _ _ z56_len
def lcells (k : Int) (e f : Bool) (n a : Int) (p : List UInt8) : List Value := .int .i64 k :: .bool e :: .bool f :: .int .i64 n :: .int .u16 a :: p.map bv
def SendOk (n s a k : Int) (f : Bool) (m : Nat) (bs : List UInt8) (W : World) (e : Ending) (W' : World) : Prop :=
  e = .returned (.tuple #[.agg #[.int .i64 n, .int .u64 (s + 1), .int .u64 a], .int .i64 (s % n), .agg (LV 1 (ep n s) f m k (bs ++ z56.drop m)), .int .i64 0]) ∧ Below W.heap.size W W'
def SendS (B : Nat) (cs L : Array Value) (w : World) : Prop := Row w B 27 cs ∧ Row w (B + 2) 40 L
theorem SendS.upd {B : Nat} {cs L : Array Value} {w w' : World} (h : SendS B cs L w) (u : Upd w w' (B + 1)) : SendS B cs L w' := ⟨h.1.upd u (by omega), h.2.upd u (by omega)⟩
theorem sender_one (n s a : Int) : (#[.int .i64 n, .int .u64 s, .int .u64 a] : Array Value).all (·.oneCell') = true := by simp [Value.oneCell']
theorem lcells_copy {k' : Int} {e f : Bool} {n a : Int} {bs : List UInt8} {m : Nat} (h : m = bs.length) (hm : m ≤ 56) :
    ((lcells k' e f n a z56).take 5 ++ (bs.map bv ++ (lcells k' e f n a z56).drop (5 + (bs.map bv).length))).toArray = LV k' e f n a (bs ++ z56.drop m) := by
  subst h
  simp [lcells, LV, Nat.add_comm 5, List.map_drop]
set_option maxRecDepth 100000 in
set_option maxHeartbeats 4000000 in
theorem send_ok (n s a k : Int) (A : Option Addr) (m c : Nat) (f : Bool) (bs : List UInt8) (hs : 0 ≤ s) (ha : 0 ≤ a) (hv : vs n s a = true) (hm : m ≤ 56) (hf : (fr n s a == 0) = false) (hlim : s < 4611686018427387904) (W : World) (hb0 : IsB W A m bs) :
    Calls Try.prog 25 #[.agg #[.int .i64 n, .int .u64 s, .int .u64 a], .slice A m c, .bool f, .int .u16 k] W (SendOk n s a k f m bs W) := by
  have hs1 : s < 18446744073709551616 := by omega
  have hl : (s == 4611686018427387904) = false := by simp; omega
  obtain ⟨hvl, n0, n1, h1, h2, h3⟩ := vs_yes hv
  have q0 : 0 ≤ s % n := Int.emod_nonneg _ (by omega)
  have q1 : s % n < n := Int.emod_lt_of_pos _ (by omega)
  go_enter Try.func25, Try.ntmps25
  go_wp2_with fail
  refine (valid_sender _ _ _ hs hs1 ha _).mono ?_
  rintro e w1 ⟨rfl, hb⟩
  obtain ⟨r1, r2, r3, hz, hB⟩ := three_new hb
  have r3 : Row w1 (W.heap.size + 2) 40 ZL := r3
  have r2 : Row w1 (W.heap.size + 1) 27 ZS := r2
  clear hb
  obtain ⟨⟨c0, c1, c2⟩, f1⟩ := three_cells r1
  go_wp2_with fail
  refine (free _ _ _ hs hs1 ha _).mono ?_
  rintro e w1' ⟨rfl, hb⟩
  have r1 := r1.below hb r1.lt
  have r2 := r2.below hb r2.lt
  have r3 := r3.below hb r3.lt
  have hB := hB.trans (hb.mono hB.size)
  clear hb c0 c1 c2 f1 hz
  obtain ⟨⟨c0, c1, c2⟩, f1⟩ := three_cells r1
  go_wp2_with fail
  refine (epoch _ _ hs hs1 n0 n1 _).mono ?_
  rintro e w' ⟨rfl, rfl⟩
  have hbs := hb0.below hB
  have hml := Lib.hid hb0.1
  go_upto_region 13 with ((with_reducible refine wp_row_store (L := LV 1 (ep n s) f m k z56) r3 (zl_size.trans (LV_size _ _ _ _ _ z56_len).symm) (line_info _ _ _ _ _ z56_len) (LV_one _ _ _ _ _ _) ?_ ?_ ?_); rfl; rfl; intro w2 u2 r3')
  have hB2 := Upd.below hB u2 (by omega)
  have hbs := hb0.below hB2
  have r3c : Row w2 (W.heap.size + 2) 40 (lcells 1 (ep n s) f m k z56).toArray := r3'
  have g1 : (bs.map bv).length = Nat.min m 56 := by rw [List.length_map, ← hml.out]; exact (Nat.min_eq_left hm).symm
  have g2 : CopyOk w2 (some ⟨W.heap.size + 2, 5, none⟩) (W.heap.size + 2) 5 A (bs.map bv) := fun h => ⟨rfl, hbs.src (by have := hml.out; simp at h; omega)⟩
  have g3 : 5 + (bs.map bv).length ≤ (lcells 1 (ep n s) f m k z56).length := by have := hml.out; simp [lcells, z56]; omega
  have G1 := Lib.hid g1
  have r1 := r1.upd u2 (by omega)
  have r2 := r2.upd u2 (by omega)
  clear g1 hbs c0 c1 c2 f1
  go_upto_region 15 with ((with_reducible refine wp_row_copy (dCap := 56) (sCap := c) r3c Try.underlying44 info5 G1.out g2 g3 (bv_one bs) ?_ ?_ ?_); rfl; rfl; intro w3 u3 r3''; have r1 := r1.upd u3 (by omega); obtain ⟨⟨c0, c1, c2⟩, f1⟩ := three_cells r1)
  have hP : Row w3 (W.heap.size + 2) 40 (LV 1 (ep n s) f m k (bs ++ z56.drop m)) := by rw [lcells_copy hb0.1 hm] at r3''; exact r3''
  have hB3 := Upd.below hB2 u3 (by omega)
  have r2 := r2.upd u3 (by omega)
  have hpl : (bs ++ z56.drop m).length = 56 := by have := hml.out; simp [z56]; omega
  clear r3'' r3c g2 G1 u2 u3 r3' hb0 hml g3 hf
  obtain ⟨P, eP⟩ : ∃ P, P = bs ++ z56.drop m := ⟨_, rfl⟩
  rw [← eP] at hP hpl
  have EP := Lib.hid eP; clear eP
  have p1 : Row (w3.setCell ⟨W.heap.size, 1, none⟩ (.int .u64 (s + 1))) W.heap.size 27 #[.int .i64 n, .int .u64 (s + 1), .int .u64 a] := r1.set 1 _
  have p2 : Row (w3.setCell ⟨W.heap.size, 1, none⟩ (.int .u64 (s + 1))) (W.heap.size + 1) 27 ZS := r2.other (by simp) _
  have p3 : Row (w3.setCell ⟨W.heap.size, 1, none⟩ (.int .u64 (s + 1))) (W.heap.size + 2) 40 (LV 1 (ep n s) f m k P) := hP.other (by simp) _
  have hB4 : Below W.heap.size W (w3.setCell ⟨W.heap.size, 1, none⟩ (.int .u64 (s + 1))) := hB3.setCell (Nat.le_refl _) _
  generalize w3.setCell ⟨W.heap.size, 1, none⟩ (.int .u64 (s + 1)) = w4 at *
  clear c0 c1 c2 f1 r1 r2 hP hB3
  have hS : SendS W.heap.size #[.int .i64 n, .int .u64 (s + 1), .int .u64 a] (LV 1 (ep n s) f m k P) w4 := ⟨p1, p3⟩
  have hi4 := line_info 1 (ep n s) f m k hpl
  refine wp_region_held (S := SendS W.heap.size #[.int .i64 n, .int .u64 (s + 1), .int .u64 a] (LV 1 (ep n s) f m k P)) (by kernel_rfl) ?_
  have e5 : ({ w4 with drawn := w4.drawn + 1 } : World) = w4.drew := rfl
  rw [e5]
  have hS : SendS W.heap.size #[.int .i64 n, .int .u64 (s + 1), .int .u64 a] (LV 1 (ep n s) f m k P) w4.drew := hS
  have p2 : Row w4.drew (W.heap.size + 1) 27 ZS := p2
  have hB4 : Below W.heap.size W w4.drew := hB4.drew
  generalize w4.drew = w5 at *
  clear p1 p3 e5
  refine take_load 0 rfl (by kernel_rfl) (by kernel_rfl) (by kernel_rfl) (fun _ _ _ _ h => h) hS (fun _ h => h.1) Try.underlying27 rfl info27 rfl ?_
  refine take_move 1 rfl (by kernel_rfl) (by kernel_rfl) (by kernel_rfl) (fun _ _ _ _ h => h) hS ?_
  refine take_load 2 rfl (by kernel_rfl) (by kernel_rfl) (by kernel_rfl) (fun _ _ _ _ h => h) hS (fun _ h => h.2) Try.underlying40 rfl hi4 rfl ?_
  refine one_store 3 (L := #[.int .i64 n, .int .u64 (s + 1), .int .u64 a]) rfl (by kernel_rfl) p2 rfl info27 (sender_one _ _ _) rfl rfl (fun w6 u6 r6 => ?_)
  have hS6 := hS.upd u6
  refine ⟨hS6, ?_⟩
  refine one_assign 4 rfl (by kernel_rfl) hS6 ?_
  refine one_store 5 rfl (by kernel_rfl) hS6.2 rfl hi4 (LV_one _ _ _ _ _ _) rfl rfl (fun w7 u7 r7 => ?_)
  have r6 := r6.upd u7 (by omega)
  refine ⟨⟨hS6.1.upd u7 (by omega), r7⟩, ?_⟩
  refine one_assign 6 rfl (by kernel_rfl) ⟨hS6.1.upd u7 (by omega), r7⟩ ?_
  refine wpAnyH_done (by kernel_rfl) ?_ _
  go_wp2
  refine bodyPost_ret (results_ctct rfl rfl rfl r6 r7 Try.underlying27 Try.underlying40 rfl rfl info27 hi4) rfl ?_
  exact ⟨by rw [← EP.out]; rfl, Upd.below (Upd.below hB4 u6 (by omega)) u7 (by omega)⟩
end
section
open Go.RowKit
set_option linter.unusedVariables false
def sdE (n s a : Int) (m : Nat) : Int := if vs n s a = true then (if 56 < m then 67 else if fr n s a = 0 then 65 else if s = 4611686018427387904 then 15 else 0) else 74
def sdS (n s a : Int) (m : Nat) : Array Value := if sdE n s a m = 0 then #[.int .i64 n, .int .u64 (s + 1), .int .u64 a] else ZS
def sdI (n s a : Int) (m : Nat) : Int := if sdE n s a m = 0 then s % n else 0
def sdL (n s a : Int) (m : Nat) (f : Bool) (k : Int) (bs : List UInt8) : Array Value := if sdE n s a m = 0 then LV 1 (ep n s) f m k (bs ++ z56.drop m) else ZL
def SdPost (n s a : Int) (m : Nat) (f : Bool) (k : Int) (bs : List UInt8) (W : World) (e : Ending) (W' : World) : Prop :=
  e = .returned (.tuple #[.agg (sdS n s a m), .int .i64 (sdI n s a m), .agg (sdL n s a m f k bs), .int .i64 (sdE n s a m)]) ∧ Below W.heap.size W W'
theorem sd_err {n s a : Int} {m : Nat} {f : Bool} {k : Int} {bs : List UInt8} {E : Int} (h : sdE n s a m = E) (hE : E ≠ 0) {W W' : World} (hb : Below W.heap.size W W') : SdPost n s a m f k bs W (.returned (.tuple #[.agg ZS, .int .i64 0, .agg ZL, .int .i64 E])) W' := by
  unfold SdPost sdS sdI sdL
  rw [h, if_neg hE, if_neg hE, if_neg hE]
  exact ⟨rfl, hb⟩
theorem sd_ok {n s a : Int} {m : Nat} {f : Bool} {k : Int} {bs : List UInt8} (h : sdE n s a m = 0) {W W' : World} (hb : Below W.heap.size W W') : SdPost n s a m f k bs W (.returned (.tuple #[.agg #[.int .i64 n, .int .u64 (s + 1), .int .u64 a], .int .i64 (s % n), .agg (LV 1 (ep n s) f m k (bs ++ z56.drop m)), .int .i64 0])) W' := by
  unfold SdPost sdS sdI sdL
  rw [h]
  exact ⟨rfl, hb⟩
theorem send_any (n s a k : Int) (A : Option Addr) (m c : Nat) (f : Bool) (bs : List UInt8) (hs : 0 ≤ s) (hs1 : s < 18446744073709551616) (ha : 0 ≤ a) (W : World) (hb0 : IsB W A m bs) :
    Calls Try.prog 25 #[.agg #[.int .i64 n, .int .u64 s, .int .u64 a], .slice A m c, .bool f, .int .u16 k] W (SdPost n s a m f k bs W) := by
  cases hv : vs n s a
  · exact (send_state n s a k A m c f hs hs1 ha hv W).mono fun e W' ⟨h1, h2⟩ => by rw [h1]; exact sd_err (by simp [sdE, hv]) (by decide) h2
  · by_cases hm : 56 < m
    · exact (send_long n s a k A m c f hs hs1 ha hv hm W).mono fun e W' ⟨h1, h2⟩ => by rw [h1]; exact sd_err (by simp [sdE, hv, hm]) (by decide) h2
    · by_cases hf : fr n s a = 0
      · exact (send_full n s a k A m c f hs hs1 ha hv (by omega) hf W).mono fun e W' ⟨h1, h2⟩ => by rw [h1]; exact sd_err (by simp [sdE, hv, hm, hf]) (by decide) h2
      · have hf' : (fr n s a == 0) = false := by simpa using hf
        by_cases hl : s = 4611686018427387904
        · subst hl
          exact (send_limit n a k A m c f ha hv (by omega) hf' W).mono fun e W' ⟨h1, h2⟩ => by rw [h1]; exact sd_err (by simp [sdE, hv, hm, hf]) (by decide) h2
        · have h3 := (vs_yes hv).m
          exact (send_ok n s a k A m c f bs hs ha hv (by omega) hf' (by omega) W hb0).mono fun e W' ⟨h1, h2⟩ => by rw [h1]; exact sd_ok (by simp [sdE, hv, hm, hf, hl]) h2
end
section
open Go.RowKit
set_option linter.unusedVariables false
theorem two_cells {w : World} {g : Nat} {t : TypeId} {a b : Value} (h : Row w g t #[a, b]) :
    (w.cell? ⟨g, 0, none⟩ = some a ∧ w.cell? ⟨g, 1, none⟩ = some b) ∧ ∀ i, w.frozen? ⟨g, i, none⟩ = false := ⟨⟨h.cell 0, h.cell 1⟩, h.frozen⟩
def vr (n x : Int) : Bool := vl n && decide (x ≤ 4611686018427387904)
def VrPost (n x : Int) (W : World) (e : Ending) (W' : World) : Prop := e = .returned (.bool (vr n x)) ∧ Below W.heap.size W W'
theorem valid_receiver (n x : Int) (W : World) : Calls Try.prog 90 #[.agg #[.int .i64 n, .int .u64 x]] W (VrPost n x W) := by
  cases hn : vl n
  · go_enter Try.func90, Try.ntmps90
    go_wp2_with (go_at_call 91; refine (valid_lines _ _).mono ?_; rintro e w' ⟨rfl, rfl⟩)
    go_ret
    exact ⟨ret_bool (by simp [vr, hn]), (Below.refl _ _).alloc (Nat.le_refl _) _⟩
  · go_enter Try.func90, Try.ntmps90
    go_wp2_with (go_at_call 91; refine (valid_lines _ _).mono ?_; rintro e w' ⟨rfl, rfl⟩)
    go_ret
    exact ⟨ret_bool (by simp [vr, hn]), (Below.refl _ _).alloc (Nat.le_refl _) _⟩
theorem results_cct {P : Program} {fn : Func} {p q u : Tmp} {ty1 ty2 : TypeId} {d1 d2 : TypeDesc} (h : fn.results = #[.cell p ty1, .cell q ty2, .tmp u]) {tmps : Array Value} {w : World} {g1 g2 : Nat} {t1 t2 : TypeId} {cs1 cs2 : Array Value}
    (h1 : tmps.getD p undef = .pointer (some ⟨g1, 0, none⟩)) (h2 : tmps.getD q undef = .pointer (some ⟨g2, 0, none⟩)) (r1 : Row w g1 t1 cs1) (r2 : Row w g2 t2 cs2)
    (u1 : P.underlying ty1 = some d1) (u2 : P.underlying ty2 = some d2) (k1 : d1.isRow = true) (k2 : d2.isRow = true) (i1 : (P.info? ty1).map (·.size) = some cs1.size) (i2 : (P.info? ty2).map (·.size) = some cs2.size) :
    (results fn tmps).run P w = .ok (.tuple #[.agg cs1, .agg cs2, tmps.getD u undef]) w := by
  have l1 := run_loadVar_mid (P := P) w g1 0 ty1 cs1.toList d1 r1.range u1 k1 (by simpa using i1)
  have l2 := run_loadVar_mid (P := P) w g2 0 ty2 cs2.toList d2 r2.range u2 k2 (by simpa using i2)
  simp only [Array.toArray_toList] at l1 l2
  simp only [Array.getD_eq_getD_getElem?] at h1 h2
  simp [results, h, h1, h2, asAddr, l1, l2]
end
section
open Go.RowKit
set_option linter.unusedVariables false
def acN (n x : Int) : Int := if vr n x = true then IntKind.u16.wrap x else 0
theorem ack_any (n x : Int) (W : World) : Calls Try.prog 38 #[.agg #[.int .i64 n, .int .u64 x]] W (fun e W' => e = .returned (.int .u16 (acN n x)) ∧ Below W.heap.size W W') := by
  cases hv : vr n x
  · have HV := Lib.hid hv
    have HA := Lib.hid (show acN n x = 0 by simp [acN, hv])
    clear hv
    go_enter Try.func38, Try.ntmps38
    go_wp2_with fail
    refine (valid_receiver _ _ _).mono ?_
    rintro e w1 ⟨rfl, hb⟩
    rw [HV.out]
    obtain ⟨r1, hz, hB⟩ := one_new hb
    clear hb
    go_wp2
    go_ret
    exact ⟨ret_int HA.out.symm, hB⟩
  · have HV := Lib.hid hv
    have HA := Lib.hid (show acN n x = IntKind.u16.wrap x by simp [acN, hv])
    clear hv
    go_enter Try.func38, Try.ntmps38
    go_wp2_with fail
    refine (valid_receiver _ _ _).mono ?_
    rintro e w1 ⟨rfl, hb⟩
    rw [HV.out]
    obtain ⟨r1, hz, hB⟩ := one_new hb
    obtain ⟨⟨c0, c1⟩, f1⟩ := two_cells r1
    clear hb
    go_wp2
    go_ret
    exact ⟨ret_int HA.out.symm, hB⟩
theorem receiver_any (n : Int) (W : World) : Calls Try.prog 28 #[.int .i64 n] W (fun e W' => e = .returned (.tuple #[.agg #[.int .i64 (nsN n), .int .u64 0], .int .i64 (nsE n)]) ∧ Below W.heap.size W W') := by
  cases hn : vl n
  · have H1 := Lib.hid (show nsN n = 0 by simp [nsN, hn])
    have H2 := Lib.hid (show nsE n = 6 by simp [nsE, hn])
    go_enter Try.func28, Try.ntmps28
    go_wp2_with (go_at_call 91; refine (valid_lines _ _).mono ?_; rintro e w' ⟨rfl, rfl⟩)
    refine bodyPost_ret (v := .tuple #[.agg #[.int .i64 0, .int .u64 0], .int .i64 6]) (by simp [results, Try.results28, go_sem]) rfl ⟨by rw [H1.out, H2.out], ?_⟩
    go_grown
  · have H1 := Lib.hid (show nsN n = n by simp [nsN, hn])
    have H2 := Lib.hid (show nsE n = 0 by simp [nsE, hn])
    go_enter Try.func28, Try.ntmps28
    go_wp2_with (go_at_call 91; refine (valid_lines _ _).mono ?_; rintro e w' ⟨rfl, rfl⟩)
    refine bodyPost_ret (v := .tuple #[.agg #[.int .i64 n, .int .u64 0], .int .i64 0]) (by simp [results, Try.results28, go_sem]) rfl ⟨by rw [H1.out, H2.out], ?_⟩
    go_grown
end
section
open Go.RowKit
set_option linter.unusedVariables false
theorem Row.bornAt {w : World} {g : Nat} (hg : w.heap.size = g) (t : TypeId) (cs : Array Value) : Row (w.alloc (.cells cs t)) g t cs := by subst hg; exact Row.born w t cs
end
section
open Go.RowKit
set_option linter.unusedVariables false
def hdB (k : Int) (e f : Bool) : UInt8 := UInt8.ofNat (k.toNat + (if f then 4 else 0) + (if e then 8 else 0))
def ln8 (k : Int) (e f : Bool) (n a : Int) (h l : UInt8) : List UInt8 := [hdB k e f, UInt8.ofNat n.toNat, UInt8.ofNat (a.toNat % 256), UInt8.ofNat (a.toNat / 256), h, l, 0, 0]
def ln0 (k : Int) (e f : Bool) (n a : Int) (p : List UInt8) : List UInt8 := ln8 k e f n a 0 0 ++ p
def lnS (k : Int) (e f : Bool) (n a : Int) (p : List UInt8) : Nat := sum16 (ln0 k e f n a p)
def lnB (k : Int) (e f : Bool) (n a : Int) (p : List UInt8) : List UInt8 := ln8 k e f n a (UInt8.ofNat (lnS k e f n a p / 256)) (UInt8.ofNat (lnS k e f n a p % 256)) ++ p
def clr (n : Int) (p : List UInt8) : Bool := (p.drop n.toNat).all (· == 0)
def lnOk1 (k n : Int) : Bool := (k == 1 || k == 2) && decide (0 ≤ n) && decide (n ≤ 56)
def lnOk2 (k : Int) (e f : Bool) (n : Int) (p : List UInt8) : Bool := clr n p && !((k == 2) && (!(n == 0) || f || e))
def lnE (k : Int) (e f : Bool) (n : Int) (p : List UInt8) : Int := if lnOk1 k n then (if lnOk2 k e f n p then 0 else 54) else 6
theorem u8_ofNat {x : Nat} (h : x < 256) : (UInt8.ofNat x).toNat = x := by rw [UInt8.toNat_ofNat', Nat.mod_eq_of_lt (by omega)]
theorem lnOk1_k {k n : Int} (h : lnOk1 k n = true) : (k = 1 ∨ k = 2) ∧ 0 ≤ n ∧ n ≤ 56 := by
  simp only [lnOk1, Bool.and_eq_true, Bool.or_eq_true, beq_iff_eq, decide_eq_true_eq] at h
  exact ⟨h.1.1, h.1.2, h.2⟩
end
end Go.Proofs.Ythjkhambmgepdaa
