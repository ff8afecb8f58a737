/- RingOrder: words for the walks of poll, send, do. -/
import Derived.Test.YthjkhambmgepdaaOrd4
import Derived.Test.YthjkhambmgepdaaLate
import Derived.Test.YthjkhambmgepdaaApp
namespace Go.Proofs.Ythjkhambmgepdaa
open Go.RowKit
set_option linter.unusedVariables false
section
variable {P : Program} {K : Act → World → Prop} {Q : Exit → Act → World → Prop} {a : Act} {w : World} {typ : TypeId} {pos : String} {after : Array Edge} {gd : Option (Nat × Bool)}
/-- A store of a whole row into a block that is known whole. -/
theorem step_store {ty : TypeId} {x y : Operand} {g : Nat} {t : TypeId} {cs L : Array Value} (hrow : Row w g t cs) (hs : cs.size = L.size) (hn : (P.info? ty).map (·.size) = some L.size) (h1 : L.all (·.oneCell') = true)
    (hx : a.eval x = .pointer (some ⟨g, 0, none⟩)) (hy : a.eval y = .agg L) (h : ∀ w', Upd w w' g → Row w' g t L → K a w') :
    Oper.wp P { dst := none, op := .store ty x y, type := typ, pos := pos, after := after, guard := none } a w K Q := by
  refine wp_store_mid (op := { dst := none, op := .store ty x y, type := typ, pos := pos, after := after, guard := none }) ty x y rfl g 0 L hx hy (hrow.there _ (by omega)) hn h1 ?_
  have hr : Row w g t ([] ++ cs.toList ++ []).toArray := by simpa using hrow
  have h2 := Row.setCells (g := g) (t := t) L.toList w [] [] cs.toList hr (by simpa using hs)
  exact h _ (Upd.setCells g _ w 0) (by simpa using h2)
/-- A store into the middle of a row that is known whole. -/
theorem step_store_mid {ty : TypeId} {x y : Operand} {g off : Nat} {t : TypeId} {pre cs post : List Value} {L : Array Value} (hrow : Row w g t (pre ++ cs ++ post).toArray) (ho : off = pre.length) (hs : cs.length = L.size) (hn : (P.info? ty).map (·.size) = some L.size)
    (h1 : L.all (·.oneCell') = true) (hx : a.eval x = .pointer (some ⟨g, off, none⟩)) (hy : a.eval y = .agg L) (h : ∀ w', Upd w w' g → Row w' g t (pre ++ L.toList ++ post).toArray → K a w') :
    Oper.wp P { dst := none, op := .store ty x y, type := typ, pos := pos, after := after, guard := none } a w K Q := by
  subst ho
  have ht : w.there g pre.length L.size := fun j hj => by
    refine ⟨?_, hrow.frozen _⟩
    rw [hrow.cell]
    simp; omega
  refine wp_store_mid (op := { dst := none, op := .store ty x y, type := typ, pos := pos, after := after, guard := none }) ty x y rfl g pre.length L hx hy ht hn h1 ?_
  exact h _ (Upd.setCells g _ w _) (Row.setCells (g := g) (t := t) L.toList w pre post cs hrow (by simpa using hs))
theorem wp_row_store_mid {ops : Array Oper} {rest : List Oper} {Q : Exit → Act → World → Prop} {ty : TypeId} {x y : Operand} {g off : Nat} {t : TypeId} {pre cs post : List Value} {L : Array Value} (hrow : Row w g t (pre ++ cs ++ post).toArray) (ho : off = pre.length) (hs : cs.length = L.size) (hn : (P.info? ty).map (·.size) = some L.size)
    (h1 : L.all (·.oneCell') = true) (hx : a.eval x = .pointer (some ⟨g, off, none⟩)) (hy : a.eval y = .agg L) (h : ∀ w', Upd w w' g → Row w' g t (pre ++ L.toList ++ post).toArray → wpList P ops Q rest (a.put none undef) w') :
    wpList P ops Q ({ dst := none, op := .store ty x y, type := typ, pos := pos, after := after, guard := none } :: rest) a w := by
  subst ho
  have ht : w.there g pre.length L.size := fun j hj => by
    refine ⟨?_, hrow.frozen _⟩
    rw [hrow.cell]
    simp; omega
  refine wpList_store_mid (op := { dst := none, op := .store ty x y, type := typ, pos := pos, after := after, guard := none }) rfl ty x y rfl g pre.length L hx hy ht hn h1 ?_
  exact h _ (Upd.setCells g _ w _) (Row.setCells (g := g) (t := t) L.toList w pre post cs hrow (by simpa using hs))
end
theorem Upd.grown {w w' : World} {g : Nat} (u : Upd w w' g) : w.grownBy w' (some g) := ⟨u.os, u.tape, u.output, Nat.le_of_eq u.size.symm, fun k _ hk => u.block k fun e => hk (by rw [e])⟩
theorem OwnR.kept {w w' : World} {base : Nat} {e : TypeId} {size : Nat} {A : Option Addr} {n c : Nat} {xs : List Value} {row : Option Nat} (h : OwnR w base e size A n c xs) (hg : w.grownBy w' row) (hf : Far (Value.slice A n c).ownBlock row) : OwnR w' base e size A n c xs :=
  World.ownsRow.kept h hg hf.or
theorem OwnR.upd {w w' : World} {base : Nat} {e : TypeId} {size : Nat} {A : Option Addr} {n c g : Nat} {xs : List Value} (h : OwnR w base e size A n c xs) (u : Upd w w' g) (hb : g < base) : OwnR w' base e size A n c xs :=
  h.kept u.grown fun k hk e => by
    have h1 := (h.ge k hk).1
    injection e with e
    omega
theorem Row.kept {w w' : World} {g : Nat} {t : TypeId} {cs : Array Value} {row : Option Nat} (h : Row w g t cs) (hg : w.grownBy w' row) (hf : Far row (some g)) : Row w' g t cs := (hg.block g h.lt fun e => hf g e.symm rfl).trans h
theorem MemL.kept {w w' : World} {g : Nat} {t : TypeId} {ls : List (List Value)} {row : Option Nat} (h : MemL w g t ls) (hg : w.grownBy w' row) (hf : Far row (some g)) : MemL w' g t ls := ⟨h.1.kept hg hf, h.2⟩
theorem OwnR.cap {w : World} {base : Nat} {e : TypeId} {size : Nat} {A : Option Addr} {n c : Nat} {xs : List Value} (h : OwnR w base e size A n c xs) : n ≤ c := by
  rcases h.2 with ⟨h1, h2⟩ | ⟨g, cap, cur, h1, _, _, h2, _⟩
  · omega
  · injection h1 with h1 h3 h4
    omega
theorem OwnR.far {w : World} {base : Nat} {e : TypeId} {size : Nat} {A : Option Addr} {n c g : Nat} {xs : List Value} (h : OwnR w base e size A n c xs) (hb : g < base) : Far (Value.slice A n c).ownBlock (some g) := fun k hk e => by
  have h1 := (h.ge k hk).1
  injection e with e
  omega
theorem Far.grow {x y y' : Option Nat} {n : Nat} (h : Far x y) (hx : ∀ k, x = some k → k < n) (hy : y' = y ∨ y' = some (n + 1)) : Far x y' := fun k hk e => by
  rcases hy with h1 | h1
  · exact h k hk (h1 ▸ e)
  · have := hx k hk
    rw [h1] at e
    injection e with e
    omega
theorem info_u8 : (Try.prog.info? 5).map (fun i => (i.zero, i.size, i.bytes)) = some (some (.int .u8 0), 1, 1) := by kernel_rfl
/-- Each block at or above B keeps its type and its size. -/
def Shape (B : Nat) (w w' : World) : Prop := ∀ b t cs, B ≤ b → Row w b t cs → ∃ cs', Row w' b t cs' ∧ cs'.size = cs.size
theorem Shape.refl (B : Nat) (w : World) : Shape B w w := fun b t cs _ h => ⟨cs, h, rfl⟩
theorem Shape.alloc (B : Nat) (w : World) (o : Obj) : Shape B w (w.alloc o) := fun b t cs _ h => ⟨cs, h.alloc o, rfl⟩
theorem Shape.below {B : Nat} {w w' : World} (hb : Below w.heap.size w w') : Shape B w w' := fun b t cs _ h => ⟨cs, h.below hb h.lt, rfl⟩
theorem Shape.upd {B g : Nat} {w w' : World} {t : TypeId} {cs L : Array Value} (u : Upd w w' g) (h : Row w g t cs) (k : Row w' g t L) (hs : cs.size = L.size) : Shape B w w' := fun b t' cs' _ h' => by
  by_cases hb : b = g
  · subst hb
    have e := h.symm.trans h'
    injection e with e
    injection e with e1 e2 e3
    subst e1 e2
    exact ⟨L, k, hs.symm⟩
  · exact ⟨cs', h'.upd u hb, rfl⟩
/-- A pointer to a new block of that type and size. -/
def PtrTo (B : Nat) (t : TypeId) (n : Nat) (u : Value) (w : World) : Prop := ∃ b cs, u = .pointer (some ⟨b, 0, none⟩) ∧ B ≤ b ∧ Row w b t cs ∧ cs.size = n
theorem PtrTo.mono {B : Nat} {t : TypeId} {n : Nat} (u : Value) (w w' : World) (h : Shape B w w') (k : PtrTo B t n u w) : PtrTo B t n u w' := by
  obtain ⟨b, cs, e, hB, hr, hn⟩ := k
  obtain ⟨cs', hr', hn'⟩ := h b t cs hB hr
  exact ⟨b, cs', e, hB, hr', by omega⟩
/-- A pointer to a new block that holds L. -/
def PtrAt (B : Nat) (t : TypeId) (L : Array Value) (u : Value) (w : World) : Prop := ∃ b, u = .pointer (some ⟨b, 0, none⟩) ∧ B ≤ b ∧ Row w b t L
theorem PtrAt.alloc {B : Nat} {t : TypeId} {L : Array Value} {u : Value} {w : World} (h : PtrAt B t L u w) (o : Obj) : PtrAt B t L u (w.alloc o) := by
  obtain ⟨b, e, hB, hr⟩ := h
  exact ⟨b, e, hB, hr.alloc o⟩
theorem PtrAt.below {B : Nat} {t : TypeId} {L : Array Value} {u : Value} {w w' : World} (h : PtrAt B t L u w) (hb : Below w.heap.size w w') : PtrAt B t L u w' := by
  obtain ⟨b, e, hB, hr⟩ := h
  exact ⟨b, e, hB, hr.below hb hr.lt⟩
theorem PtrAt.upd {B g : Nat} {t t' : TypeId} {L cs : Array Value} {u : Value} {w w' : World} (h : PtrAt B t L u w) (hu : Upd w w' g) (hr : Row w g t' cs) (hne : t ≠ t') : PtrAt B t L u w' := by
  obtain ⟨b, e, hB, hrb⟩ := h
  refine ⟨b, e, hB, hrb.upd hu fun hb => hne ?_⟩
  subst hb
  have e := hrb.symm.trans hr
  injection e with e
  injection e
/-- What holds in poll's first region when the first c stores have come up. -/
def PollS1 (w : World) (s : St) (c : Nat) (us : Nat → Value) (w' : World) : Prop :=
  Below w.heap.size w w' ∧ (1 ≤ c → PtrAt w.heap.size 35 (pR s) (us 13) w') ∧ (2 ≤ c → PtrAt w.heap.size 40 (pL s) (us 14) w')
theorem Row.pcR {w : World} {gp N m a g t gm : Nat} {SL SI SB ST : Value} (h : Row w gp 54 (PC N m a g t gm SL SI SB ST)) :
    Row w gp 54 (([.int .i64 N, .int .i64 N, .int .u64 m, .int .u64 a] : List Value) ++ ([.int .i64 N, .int .u64 g] : List Value) ++ ([.slice (some ⟨gm, 0, none⟩) N N, SL, SI, .int .i64 t, SB, ST] : List Value)).toArray := h
theorem Row.pcS {w : World} {gp N m a g t gm : Nat} {SL SI SB ST : Value} (h : Row w gp 54 (PC N m a g t gm SL SI SB ST)) :
    Row w gp 54 (([.int .i64 N] : List Value) ++ ([.int .i64 N, .int .u64 m, .int .u64 a] : List Value) ++ ([.int .i64 N, .int .u64 g, .slice (some ⟨gm, 0, none⟩) N N, SL, SI, .int .i64 t, SB, ST] : List Value)).toArray := h
theorem OwnR.drew {w : World} {base : Nat} {e : TypeId} {size : Nat} {A : Option Addr} {n c : Nat} {xs : List Value} (h : OwnR w base e size A n c xs) : OwnR w.drew base e size A n c xs := h
/-- A slice of the Pair grows by one element L, in a region that draws its order: number ib makes the element's slice, ia appends, the store into the Pair is the third link. w0: the world ahead of it. -/
def AppS (gp base : Nat) (e : TypeId) (sz : Nat) (A : Option Addr) (n c0 : Nat) (xs : List Value) (L : Array Value) (C : Value → Array Value) (w0 : World) (ib ia : Nat) (c : Nat) (us : Nat → Value) (w' : World) : Prop :=
  (c = 0 → w' = w0) ∧ (c = 1 → us ib = .slice (some ⟨w0.heap.size, 0, none⟩) 1 1 ∧ w' = w0.alloc (.cells L e)) ∧
  (2 ≤ c → ∃ A' c' w2, us ia = .slice A' (n + 1) c' ∧ OwnR w2 base e sz A' (n + 1) c' (xs ++ L.toList) ∧ (w0.alloc (.cells L e)).grownBy w2 (Value.slice A n c0).ownBlock ∧
    ((Value.slice A' (n + 1) c').ownBlock = (Value.slice A n c0).ownBlock ∨ (Value.slice A' (n + 1) c').ownBlock = some (w0.heap.size + 1)) ∧ (c = 2 → w' = w2) ∧ (3 ≤ c → Upd w2 w' gp ∧ Row w' gp 54 (C (.slice A' (n + 1) c'))))
section
variable {gp base : Nat} {e : TypeId} {sz : Nat} {A : Option Addr} {n c0 : Nat} {xs : List Value} {L : Array Value} {C : Value → Array Value} {w0 : World} {ib ia is : Nat}
theorem AppS.loc {ops : Array Oper} : ∀ c us us' w, (∀ k, mayAt ops [ib, ia, is] c k = false ∨ k ∈ [ib, ia, is].take c → us k = us' k) → AppS gp base e sz A n c0 xs L C w0 ib ia c us w → AppS gp base e sz A n c0 xs L C w0 ib ia c us' w := by
  intro c us us' w hk ⟨h0, h1, h2⟩
  refine ⟨h0, fun hc => ?_, fun hc => ?_⟩
  · rw [← hk ib (.inr (by subst hc; simp))]
    exact h1 hc
  · rw [← hk ia (.inr (by obtain ⟨k, rfl⟩ : ∃ k, c = k + 2 := ⟨c - 2, by omega⟩; simp))]
    exact h2 hc
theorem AppS.zero : AppS gp base e sz A n c0 xs L C w0 ib ia 0 (fun _ => undef) w0 := ⟨fun _ => rfl, fun h => by omega, fun h => by omega⟩
theorem AppS.one (us : Nat → Value) : AppS gp base e sz A n c0 xs L C w0 ib ia 1 (fun k => if k = ib then .slice (some ⟨w0.heap.size, 0, none⟩) 1 1 else us k) (w0.alloc (.cells L e)) :=
  ⟨fun h => by omega, fun _ => ⟨if_pos rfl, rfl⟩, fun h => by omega⟩
theorem AppS.early {us : Nat → Value} {c : Nat} {w' : World} (h : AppS gp base e sz A n c0 xs L C w0 ib ia c us w') (hc : c < 2) {g : Nat} {t : TypeId} {cs : Array Value} (hr : Row w0 g t cs) : Row w' g t cs := by
  rcases (show c = 0 ∨ c = 1 by omega) with h0 | h1
  · rw [h.1 h0]; exact hr
  · rw [(h.2.1 h1).2]; exact hr.alloc _
end
section
variable {P : Program} {K : Act → World → Prop} {Q : Exit → Act → World → Prop} {a : Act} {w : World} {dst : Option Tmp} {typ : TypeId} {pos : String} {after : Array Edge}
/-- One element appended. -/
theorem step_append {s x : Operand} {t e : TypeId} {zv : Value} {size bytes base n c gb : Nat} {A : Option Addr} {xs news : List Value} (ht : P.underlying t = some (.slice e)) (hinfo : (P.info? e).map (fun i => (i.zero, i.size, i.bytes)) = some (some zv, size, bytes))
    (hzs : zv.cells.size = size) (hsz : 0 < size) (hown : OwnR w base e size A n c xs) (hnew : Row w gb e news.toArray) (hnl : news.length = size) (h1 : ∀ u ∈ news, u.oneCell' = true)
    (hlen : (n + 1) * bytes ≤ 140737488355328) (hn : n + 1 ≤ 140737488355328) (hbase : base ≤ w.heap.size) (hs : a.eval s = .slice A n c) (hx : a.eval x = .slice (some ⟨gb, 0, none⟩) 1 1)
    (h : ∀ A' c'' w', OwnR w' base e size A' (n + 1) c'' (xs ++ news) → w.grownBy w' (Value.slice A n c).ownBlock →
      ((Value.slice A' (n + 1) c'').ownBlock = (Value.slice A n c).ownBlock ∨ (Value.slice A' (n + 1) c'').ownBlock = some w.heap.size) → K (a.put dst (.slice A' (n + 1) c'')) w') :
    Oper.wp P { dst := dst, op := .call { callee := .builtin .append, args := #[s, x], argTypes := #[t, t] }, type := typ, pos := pos, after := after, guard := none } a w K Q := by
  obtain ⟨A', c'', w', hr, h2, h3, h5⟩ := append_one (P := P) (ty := typ) ht hinfo hzs hsz hown hnew hnl h1 hlen hn hbase
  unfold Oper.wp execOp
  simp only [resolve, invoke, builtin, Sem.run_bind, Sem.run_pure, Result.andThen_ok, List.map_toArray, List.map_cons, List.map_nil, hs, hx, hr]
  exact h _ _ _ h2 h3 h5
theorem wp_append_one {ops : Array Oper} {rest : List Oper} {Q : Exit → Act → World → Prop} {s x : Operand} {t e : TypeId} {zv : Value} {size bytes base n c gb : Nat} {A : Option Addr} {xs news : List Value} (ht : P.underlying t = some (.slice e)) (hinfo : (P.info? e).map (fun i => (i.zero, i.size, i.bytes)) = some (some zv, size, bytes))
    (hzs : zv.cells.size = size) (hsz : 0 < size) (hown : OwnR w base e size A n c xs) (hnew : Row w gb e news.toArray) (hnl : news.length = size) (h1 : ∀ u ∈ news, u.oneCell' = true)
    (hlen : (n + 1) * bytes ≤ 140737488355328) (hn : n + 1 ≤ 140737488355328) (hbase : base ≤ w.heap.size) (hs : a.eval s = .slice A n c) (hx : a.eval x = .slice (some ⟨gb, 0, none⟩) 1 1)
    (h : ∀ A' c'' w', OwnR w' base e size A' (n + 1) c'' (xs ++ news) → w.grownBy w' (Value.slice A n c).ownBlock →
      ((Value.slice A' (n + 1) c'').ownBlock = (Value.slice A n c).ownBlock ∨ (Value.slice A' (n + 1) c'').ownBlock = some w.heap.size) → wpList P ops Q rest (a.put dst (.slice A' (n + 1) c'')) w') :
    wpList P ops Q ({ dst := dst, op := .call { callee := .builtin .append, args := #[s, x], argTypes := #[t, t] }, type := typ, pos := pos, after := after, guard := none } :: rest) a w :=
  wpList_plain rfl fun K hK => step_append ht hinfo hzs hsz hown hnew hnl h1 hlen hn hbase hs hx fun A' c'' w' h1 h2 h3 => hK _ _ (h A' c'' w' h1 h2 h3)
end
theorem AppS.two {gp base : Nat} {e : TypeId} {sz : Nat} {A : Option Addr} {n c0 : Nat} {xs : List Value} {L : Array Value} {C : Value → Array Value} {w0 : World} {ib ia : Nat} {us : Nat → Value} {A' : Option Addr} {c' : Nat} {w2 : World} (h2 : OwnR w2 base e sz A' (n + 1) c' (xs ++ L.toList)) (h3 : (w0.alloc (.cells L e)).grownBy w2 (Value.slice A n c0).ownBlock)
    (h5 : (Value.slice A' (n + 1) c').ownBlock = (Value.slice A n c0).ownBlock ∨ (Value.slice A' (n + 1) c').ownBlock = some (w0.alloc (.cells L e)).heap.size) : AppS gp base e sz A n c0 xs L C w0 ib ia 2 (fun k => if k = ia then .slice A' (n + 1) c' else us k) w2 :=
  ⟨fun h => by omega, fun h => by omega, fun _ => ⟨A', c', w2, if_pos rfl, h2, h3, by simpa using h5, fun _ => rfl, fun h => by omega⟩⟩
/-- The Pair behind a poll that obtained a line. -/
theorem Inv.polled {gp gm : Nat} {s : St} {w w4 w2 w5 : World} {o : Obj} {A' : Option Addr} {c' : Nat} (h : Inv gp gm s w) (hg : s.g < s.t) (hM : MemL w4 gm 40 s.ls) (l : OwnR w4 (gp + 1) 40 61 s.AL s.m s.cL (flat (linesOf s.N s.bs)))
    (i : OwnR w4 (gp + 1) 3 1 s.AI s.m s.cI (slotsOf s.N s.m)) (b : OwnR w4 (gp + 1) 5 1 s.AB s.m s.cB (s.bs.map bv)) (t : OwnR w4 (gp + 1) 5 1 s.AT s.g s.cT ((s.bs.take s.g).map bv))
    (h2 : OwnR w2 (gp + 1) 5 1 A' (s.g + 1) c' ((s.bs.take s.g).map bv ++ (#[bv (s.bs.getD s.g 0)] : Array Value).toList)) (h3 : (w4.alloc o).grownBy w2 (Value.slice s.AT s.g s.cT).ownBlock)
    (h5 : (Value.slice A' (s.g + 1) c').ownBlock = (Value.slice s.AT s.g s.cT).ownBlock ∨ (Value.slice A' (s.g + 1) c').ownBlock = some (w4.heap.size + 1)) (u5 : Upd w2 w5 gp)
    (r6 : Row w5 gp 54 (PC s.N s.m s.a (s.g + 1) s.t gm s.SL s.SI s.SB (.slice A' (s.g + 1) c'))) : Inv gp gm { s with g := s.g + 1, AT := A', cT := c' } w5 := by
  have hc := h.cnt
  have hgm := h.gmp
  have hlen : s.g < s.bs.length := by have := hc.tm; have := hc.hm; omega
  have e : (s.bs.take (s.g + 1)).map bv = (s.bs.take s.g).map bv ++ [bv (s.bs.getD s.g 0)] := by
    have e1 : s.bs.take (s.g + 1) = s.bs.take s.g ++ [s.bs.getD s.g 0] := by
      rw [List.take_add_one]
      simp [List.getD_eq_getElem?_getD, hlen]
    rw [e1, List.map_append]
    rfl
  have lt : ∀ {b' e' sz A n c xs}, OwnR w4 b' e' sz A n c xs → ∀ k, (Value.slice A n c).ownBlock = some k → k < w4.heap.size := fun hh k hk => (hh.ge k hk).2
  refine ⟨⟨hc.vl, hc.n0, hc.n1, hc.len, hc.hm, Nat.le_succ_of_le hc.ag, hg, hc.tm, hc.ma, hc.m6, hc.stored, hc.fresh⟩, r6, ?_, ?_, ?_, ?_, ?_, h.f12, h.f13, ?_, h.f23, ?_, ?_, hgm⟩
  · exact ((hM.alloc o).kept h3 (t.far (by omega))).upd u5 (by omega)
  · exact ((l.alloc o).kept h3 h.f14).upd u5 (by omega)
  · exact ((i.alloc o).kept h3 h.f24).upd u5 (by omega)
  · exact ((b.alloc o).kept h3 h.f34).upd u5 (by omega)
  · show OwnR w5 (gp + 1) 5 1 A' (s.g + 1) c' ((s.bs.take (s.g + 1)).map bv)
    rw [e]
    exact h2.upd u5 (by omega)
  · exact h.f14.grow (lt l) h5
  · exact h.f24.grow (lt i) h5
  · exact h.f34.grow (lt b) h5
end Go.Proofs.Ythjkhambmgepdaa
