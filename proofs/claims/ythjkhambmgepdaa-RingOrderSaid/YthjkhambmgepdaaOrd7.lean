/- RingOrder: a Pair with its four growing slices, and how one of them grows. -/
import Derived.Test.YthjkhambmgepdaaOrd6
import Derived.Great.BuildSlice
namespace Go.Proofs.Ythjkhambmgepdaa
open Go.RowKit
set_option linter.unusedVariables false
structure P4 (gp gm : Nat) (w : World) (N m a g t : Nat) (ls : List (List Value)) (AL : Option Addr) (nL cL : Nat) (xL : List Value) (AI : Option Addr) (nI cI : Nat) (xI : List Value) (AB : Option Addr) (nB cB : Nat) (xB : List Value) (AT : Option Addr) (nT cT : Nat) (xT : List Value) : Prop where
  pair : Row w gp 54 (PC N m a g t gm (.slice AL nL cL) (.slice AI nI cI) (.slice AB nB cB) (.slice AT nT cT))
  mem : MemL w gm 40 ls
  lines : OwnR w (gp + 1) 40 61 AL nL cL xL
  slots : OwnR w (gp + 1) 3 1 AI nI cI xI
  sent : OwnR w (gp + 1) 5 1 AB nB cB xB
  got : OwnR w (gp + 1) 5 1 AT nT cT xT
  f12 : Far (Value.slice AL nL cL).ownBlock (Value.slice AI nI cI).ownBlock
  f13 : Far (Value.slice AL nL cL).ownBlock (Value.slice AB nB cB).ownBlock
  f14 : Far (Value.slice AL nL cL).ownBlock (Value.slice AT nT cT).ownBlock
  f23 : Far (Value.slice AI nI cI).ownBlock (Value.slice AB nB cB).ownBlock
  f24 : Far (Value.slice AI nI cI).ownBlock (Value.slice AT nT cT).ownBlock
  f34 : Far (Value.slice AB nB cB).ownBlock (Value.slice AT nT cT).ownBlock
  gmp : gm < gp
theorem Inv.p4 {gp gm : Nat} {s : St} {w : World} (h : Inv gp gm s w) : P4 gp gm w s.N s.m s.a s.g s.t s.ls s.AL s.m s.cL (flat (linesOf s.N s.bs)) s.AI s.m s.cI (slotsOf s.N s.m) s.AB s.m s.cB (s.bs.map bv) s.AT s.g s.cT ((s.bs.take s.g).map bv) :=
  ⟨h.pair, h.mem, h.lines, h.slots, h.sent, h.got, h.f12, h.f13, h.f14, h.f23, h.f24, h.f34, h.gmp⟩
section
variable {gp gm : Nat} {w : World} {N m a g t m' a' g' t' : Nat} {ls : List (List Value)} {AL : Option Addr} {nL cL : Nat} {xL : List Value} {AI : Option Addr} {nI cI : Nat} {xI : List Value} {AB : Option Addr} {nB cB : Nat} {xB : List Value} {AT : Option Addr} {nT cT : Nat} {xT : List Value}
variable {o : Obj} {w2 w5 : World} {A' : Option Addr} {n' c' : Nat} {x' : List Value}
/-- The Pair's counters change. -/
theorem P4.set (h : P4 gp gm w N m a g t ls AL nL cL xL AI nI cI xI AB nB cB xB AT nT cT xT) (u : Upd w w5 gp) (r : Row w5 gp 54 (PC N m' a' g' t' gm (.slice AL nL cL) (.slice AI nI cI) (.slice AB nB cB) (.slice AT nT cT))) :
    P4 gp gm w5 N m' a' g' t' ls AL nL cL xL AI nI cI xI AB nB cB xB AT nT cT xT := by
  have hgm := h.gmp
  exact ⟨r, h.mem.upd u (by omega), h.lines.upd u (by omega), h.slots.upd u (by omega), h.sent.upd u (by omega), h.got.upd u (by omega), h.f12, h.f13, h.f14, h.f23, h.f24, h.f34, hgm⟩
theorem P4.lt1 (h : P4 gp gm w N m a g t ls AL nL cL xL AI nI cI xI AB nB cB xB AT nT cT xT) : ∀ k, (Value.slice AL nL cL).ownBlock = some k → k < w.heap.size := fun k hk => (h.lines.ge k hk).2
theorem P4.lt2 (h : P4 gp gm w N m a g t ls AL nL cL xL AI nI cI xI AB nB cB xB AT nT cT xT) : ∀ k, (Value.slice AI nI cI).ownBlock = some k → k < w.heap.size := fun k hk => (h.slots.ge k hk).2
theorem P4.lt3 (h : P4 gp gm w N m a g t ls AL nL cL xL AI nI cI xI AB nB cB xB AT nT cT xT) : ∀ k, (Value.slice AB nB cB).ownBlock = some k → k < w.heap.size := fun k hk => (h.sent.ge k hk).2
theorem P4.lt4 (h : P4 gp gm w N m a g t ls AL nL cL xL AI nI cI xI AB nB cB xB AT nT cT xT) : ∀ k, (Value.slice AT nT cT).ownBlock = some k → k < w.heap.size := fun k hk => (h.got.ge k hk).2
/-- The bytes that were sent grow. -/
theorem P4.growB (h : P4 gp gm w N m a g t ls AL nL cL xL AI nI cI xI AB nB cB xB AT nT cT xT) (h2 : OwnR w2 (gp + 1) 5 1 A' n' c' x') (h3 : (w.alloc o).grownBy w2 (Value.slice AB nB cB).ownBlock)
    (h5 : (Value.slice A' n' c').ownBlock = (Value.slice AB nB cB).ownBlock ∨ (Value.slice A' n' c').ownBlock = some (w.heap.size + 1)) (u5 : Upd w2 w5 gp) (r6 : Row w5 gp 54 (PC N m a g t gm (.slice AL nL cL) (.slice AI nI cI) (.slice A' n' c') (.slice AT nT cT))) :
    P4 gp gm w5 N m a g t ls AL nL cL xL AI nI cI xI A' n' c' x' AT nT cT xT := by
  have hgm := h.gmp
  exact ⟨r6, ((h.mem.alloc o).kept h3 (h.sent.far (by omega))).upd u5 (by omega), ((h.lines.alloc o).kept h3 h.f13).upd u5 (by omega), ((h.slots.alloc o).kept h3 h.f23).upd u5 (by omega), h2.upd u5 (by omega), ((h.got.alloc o).kept h3 h.f34.symm).upd u5 (by omega),
    h.f12, h.f13.grow h.lt1 h5, h.f14, h.f23.grow h.lt2 h5, h.f24, (h.f34.symm.grow h.lt4 h5).symm, hgm⟩
/-- The slots grow. -/
theorem P4.growI (h : P4 gp gm w N m a g t ls AL nL cL xL AI nI cI xI AB nB cB xB AT nT cT xT) (h2 : OwnR w2 (gp + 1) 3 1 A' n' c' x') (h3 : (w.alloc o).grownBy w2 (Value.slice AI nI cI).ownBlock)
    (h5 : (Value.slice A' n' c').ownBlock = (Value.slice AI nI cI).ownBlock ∨ (Value.slice A' n' c').ownBlock = some (w.heap.size + 1)) (u5 : Upd w2 w5 gp) (r6 : Row w5 gp 54 (PC N m a g t gm (.slice AL nL cL) (.slice A' n' c') (.slice AB nB cB) (.slice AT nT cT))) :
    P4 gp gm w5 N m a g t ls AL nL cL xL A' n' c' x' AB nB cB xB AT nT cT xT := by
  have hgm := h.gmp
  exact ⟨r6, ((h.mem.alloc o).kept h3 (h.slots.far (by omega))).upd u5 (by omega), ((h.lines.alloc o).kept h3 h.f12).upd u5 (by omega), h2.upd u5 (by omega), ((h.sent.alloc o).kept h3 h.f23.symm).upd u5 (by omega), ((h.got.alloc o).kept h3 h.f24.symm).upd u5 (by omega),
    h.f12.grow h.lt1 h5, h.f13, h.f14, (h.f23.symm.grow h.lt3 h5).symm, (h.f24.symm.grow h.lt4 h5).symm, h.f34, hgm⟩
/-- The lines grow. -/
theorem P4.growL (h : P4 gp gm w N m a g t ls AL nL cL xL AI nI cI xI AB nB cB xB AT nT cT xT) (h2 : OwnR w2 (gp + 1) 40 61 A' n' c' x') (h3 : (w.alloc o).grownBy w2 (Value.slice AL nL cL).ownBlock)
    (h5 : (Value.slice A' n' c').ownBlock = (Value.slice AL nL cL).ownBlock ∨ (Value.slice A' n' c').ownBlock = some (w.heap.size + 1)) (u5 : Upd w2 w5 gp) (r6 : Row w5 gp 54 (PC N m a g t gm (.slice A' n' c') (.slice AI nI cI) (.slice AB nB cB) (.slice AT nT cT))) :
    P4 gp gm w5 N m a g t ls A' n' c' x' AI nI cI xI AB nB cB xB AT nT cT xT := by
  have hgm := h.gmp
  exact ⟨r6, ((h.mem.alloc o).kept h3 (h.lines.far (by omega))).upd u5 (by omega), h2.upd u5 (by omega), ((h.slots.alloc o).kept h3 h.f12.symm).upd u5 (by omega), ((h.sent.alloc o).kept h3 h.f13.symm).upd u5 (by omega), ((h.got.alloc o).kept h3 h.f14.symm).upd u5 (by omega),
    (h.f12.symm.grow h.lt2 h5).symm, (h.f13.symm.grow h.lt3 h5).symm, (h.f14.symm.grow h.lt4 h5).symm, h.f23, h.f24, h.f34, hgm⟩
theorem P4.below (h : P4 gp gm w N m a g t ls AL nL cL xL AI nI cI xI AB nB cB xB AT nT cT xT) (hb : Below w.heap.size w w5) : P4 gp gm w5 N m a g t ls AL nL cL xL AI nI cI xI AB nB cB xB AT nT cT xT :=
  ⟨h.pair.below hb h.pair.lt, h.mem.below hb h.mem.lt, h.lines.below hb, h.slots.below hb, h.sent.below hb, h.got.below hb, h.f12, h.f13, h.f14, h.f23, h.f24, h.f34, h.gmp⟩
end
/-- The world below gm behind a slice of the Pair that grew. -/
theorem below_grow {gp gm : Nat} {w0 w w2 w5 : World} {o : Obj} {e : TypeId} {sz : Nat} {A : Option Addr} {n c : Nat} {xs : List Value} (hB : Below gm w0 w) (hg : gm < gp) (hs : gp < w.heap.size) (hw : OwnR w (gp + 1) e sz A n c xs) (h3 : (w.alloc o).grownBy w2 (Value.slice A n c).ownBlock) (u5 : Upd w2 w5 gp) : Below gm w0 w5 :=
  Upd.below ((hB.alloc (by omega) o).grown h3 (by simp; omega) (fun k hk => by have := (hw.ge k hk).1; omega)) u5 (by omega)
theorem info_i64 : (Try.prog.info? 3).map (fun i => (i.zero, i.size, i.bytes)) = some (some (.int .i64 0), 1, 8) := by kernel_rfl
/-- The Pair behind a line that was sent. -/
theorem Cnt.sent {s : St} (h : Cnt s) (hm : s.m < 600) (hlt : s.m < s.a + s.N) (x : UInt8) (AL AI AB : Option Addr) (cL cI cB : Nat) : Cnt { s with m := s.m + 1, bs := s.bs ++ [x], AL := AL, AI := AI, AB := AB, cL := cL, cI := cI, cB := cB } := by
  have hag := h.ag
  have hgt := h.gt
  have htm := h.tm
  have hl := h.hm
  refine ⟨h.vl, h.n0, h.n1, h.len, by simp [h.hm], h.ag, h.gt, Nat.le_succ_of_le h.tm, by show s.m + 1 ≤ s.a + s.N; omega, by show s.m + 1 ≤ 600; omega, fun j h1 h2 => ?_, h.fresh⟩
  have h1' : j < s.t := h1
  have h3 := h.stored j h1 h2
  have e : (s.bs ++ [x]).getD j 0 = s.bs.getD j 0 := by
    rw [List.getD_eq_getElem?_getD, List.getD_eq_getElem?_getD, List.getElem?_append_left (by omega)]
  show s.ls[j % s.N]? = some (ordL s.N j ((s.bs ++ [x]).getD j 0)).toList
  rw [e]
  exact h3
/-- The Pair with a line that was sent. -/
theorem P4.inv_sent {gp gm : Nat} {s : St} {w : World} {x : UInt8} {AL AI AB : Option Addr} {cL cI cB : Nat} (P : P4 gp gm w s.N (s.m + 1) s.a s.g s.t s.ls AL (s.m + 1) cL (flat (linesOf s.N s.bs) ++ (ordL s.N s.m x).toList) AI (s.m + 1) cI (slotsOf s.N s.m ++ [.int .i64 ((s.m % s.N : Nat) : Int)]) AB (s.m + 1) cB (s.bs.map bv ++ [bv x]) s.AT s.g s.cT ((s.bs.take s.g).map bv))
    (h : Cnt s) (hm : s.m < 600) (hlt : s.m < s.a + s.N) : Inv gp gm { s with m := s.m + 1, bs := s.bs ++ [x], AL := AL, AI := AI, AB := AB, cL := cL, cI := cI, cB := cB } w := by
  have hl := h.hm
  have hgm : s.g ≤ s.bs.length := by have := h.gt; have := h.tm; omega
  refine ⟨h.sent hm hlt x AL AI AB cL cI cB, P.pair, P.mem, ?_, ?_, ?_, ?_, P.f12, P.f13, P.f14, P.f23, P.f24, P.f34, P.gmp⟩
  · have e : flat (linesOf s.N (s.bs ++ [x])) = flat (linesOf s.N s.bs) ++ (ordL s.N s.m x).toList := by
      rw [linesOf_snoc, flat_append, hl]
      simp [flat]
    show OwnR w (gp + 1) 40 61 AL (s.m + 1) cL (flat (linesOf s.N (s.bs ++ [x])))
    rw [e]
    exact P.lines
  · show OwnR w (gp + 1) 3 1 AI (s.m + 1) cI (slotsOf s.N (s.m + 1))
    rw [slotsOf_snoc]
    exact P.slots
  · show OwnR w (gp + 1) 5 1 AB (s.m + 1) cB ((s.bs ++ [x]).map bv)
    rw [List.map_append]
    exact P.sent
  · show OwnR w (gp + 1) 5 1 s.AT s.g s.cT (((s.bs ++ [x]).take s.g).map bv)
    rw [List.take_append_of_le_length hgm]
    exact P.got
section
variable {P : Program} {w : World} {dst : Option Tmp} {typ : TypeId} {pos : String} {after : Array Edge}
/-- A load of cells out of the middle of a block, as the walks of drawn regions ask it. -/
theorem exec_load_mid {ev : Operand → Value} {ty : TypeId} {x : Operand} {b o : Nat} {cs : List Value} {d : TypeDesc} (hc : w.rangeAt b o cs) (hu : P.underlying ty = some d) (hd : d.isRow = true) (hi : (P.info? ty).map (·.size) = some cs.length) (hx : ev x = .pointer (some ⟨b, o, none⟩)) :
    (execOp ev { dst := dst, op := .load ty x, type := typ, pos := pos, after := after, guard := none }).run P w = .ok (.value (.agg cs.toArray)) w := by
  unfold execOp
  simp only [hx, Instr.loadAt, Instr.sureAddr, Sem.run_bind, Sem.run_pure, Result.andThen_ok, run_loadVar_mid w b o ty cs d hc hu hd hi]
theorem exec_load_row {ev : Operand → Value} {ty : TypeId} {x : Operand} {b : Nat} {t : TypeId} {cs : Array Value} {d : TypeDesc} (hr : Row w b t cs) (hu : P.underlying ty = some d) (hd : d.isRow = true) (hi : (P.info? ty).map (·.size) = some cs.size) (hx : ev x = .pointer (some ⟨b, 0, none⟩)) :
    (execOp ev { dst := dst, op := .load ty x, type := typ, pos := pos, after := after, guard := none }).run P w = .ok (.value (.agg cs)) w := by
  have := exec_load_mid (ev := ev) (dst := dst) (typ := typ) (pos := pos) (after := after) (x := x) hr.range hu hd (by simpa using hi) hx
  simpa using this
end
section
variable {P : Program} {K : Act → World → Prop} {Q : Exit → Act → World → Prop} {a : Act} {w : World} {dst : Option Tmp} {typ : TypeId} {pos : String} {after : Array Edge}
/-- A slice literal of one struct. -/
theorem step_build_one {t e : TypeId} {x : Operand} {L : Array Value} {zv : Value} {size bytes : Nat} (hu : P.underlying t = some (.slice e)) (hinfo : (P.info? e).map (fun i => (i.zero, i.size, i.bytes)) = some (some zv, size, bytes)) (hL : L.size = size) (hsz : 0 < size) (hsm : size ≤ 1000)
    (hx : a.eval x = .agg L) (h : K (a.put dst (.slice (some ⟨w.heap.size, 0, none⟩) 1 1)) (w.alloc (.cells L e))) :
    Oper.wp P { dst := dst, op := .buildSlice t 1 #[(0, x)], type := typ, pos := pos, after := after, guard := none } a w K Q := by
  obtain ⟨i, hi, hz⟩ := Option.map_eq_some_iff.1 hinfo
  simp only [Prod.mk.injEq] at hz
  obtain ⟨hz0, hz1, hz2⟩ := hz
  refine wp_buildSlice (o := { dst := dst, op := .buildSlice t 1 #[(0, x)], type := typ, pos := pos, after := after, guard := none }) t e 1 #[(0, x)] rfl L i zv hu hi hz0 (by omega) (by omega) ?_ h
  have e1 : (#[(0, x)].map fun (i, x) => (i, a.eval x)).toList = (([Value.agg L] : List Value).zipIdx 0).map fun x => (x.2, x.1) := by simp [hx]
  rw [e1, hz1, Great.fill_whole hsz [Value.agg L] _ (fun v hv => by obtain rfl := List.mem_singleton.1 hv; exact hL) (by simp)]
  simp [Value.cells]
end
end Go.Proofs.Ythjkhambmgepdaa
