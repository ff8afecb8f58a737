/- Texts Make App Cpy Cal R4 Ops Sum Enl Wsum Fix Afix, without what this claim does not use. -/
import Derived.Deep.OwnRows
import Derived.Laws.BytesArg
import Derived.Laws.AppendOwn
import Derived.Laws.OwnMore
import Derived.Maps.AppendAt
import Derived.OwnWalk
import Derived.Lib.Hide
import Derived.Laws.StructEq
import Derived.WalkKit
import Derived.Test.YthjkhambmgepdaaRows
import Derived.WalkSpells
import Derived.WalkLawsBesides
import Derived.IntWalk
import Derived.Deep.DeepCutAuto
import Derived.Test.YthjkhambmgepdaaKad
namespace Go.Proofs.Ythjkhambmgepdaa
section
set_option linter.unusedVariables false
open Go.RowKit
section
variable {P : Program} {ops : Array Oper} {rest : List Oper} {Q : Exit → Act → World → Prop} {a : Act} {w : World} {dst : Option Tmp} {typ : TypeId} {pos : String} {after : Array Edge}
theorem wp_make {t e : TypeId} {z : Value} {bytes : Nat} {l c : Operand} {kl kc : IntKind} {L C : Int} (n : Nat) (ht : P.underlying t = some (.slice e))
    (hinfo : (P.info? e).map (fun i => (i.zero, i.size, i.bytes)) = some (some z, 1, bytes)) (hz1 : z.cells = #[z]) (hb : bytes * n ≤ 281474976710656) (h63 : n ≤ 9223372036854775807)
    (hl : a.eval l = .int kl L) (hc : a.eval c = .int kc C) (hL : L = (n : Int)) (hC : C = (n : Int))
    (h : ∀ w', Row w' w.heap.size e (List.replicate n z).toArray → Below w.heap.size w w' → wpList P ops Q rest (a.put dst (.slice (some ⟨w.heap.size, 0, none⟩) n n)) w') :
    wpList P ops Q ({ dst := dst, op := .makeSlice t l c, type := typ, pos := pos, after := after, guard := none } :: rest) a w := by
  subst hL
  subst hC
  refine wpList_plain rfl fun K hK => ?_
  have hrun := run_make_row' (P := P) t e z bytes ht hinfo hz1 kl kc n hb h63 w
  have e1 : madeCells #[z] n = (List.replicate n z).toArray := by rw [← toList_madeCells_one]
  rw [e1] at hrun
  unfold Oper.wp
  simp [execOp, hl, hc, hrun, Result.andThen]
  rw [show Array.replicate n z = (List.replicate n z).toArray by simp]
  exact hK _ _ (h _ (Row.born _ _ _) ((Below.refl _ _).alloc (Nat.le_refl _) _))
end
theorem bv_set (pre rest : List UInt8) (y x : UInt8) : ((pre ++ y :: rest).map bv).toArray.setIfInBounds pre.length (bv x) = ((pre ++ x :: rest).map bv).toArray := by
  simp [List.setIfInBounds_toArray]
theorem bv_zeros (n : Nat) : (List.replicate n (.int .u8 0) : List Value) = (List.replicate n (0 : UInt8)).map bv := by simp [bv]
/-- A byte that the walk has computed. -/
theorem bv_nat (n : Nat) (h : n < 256) : Value.int .u8 (n : Int) = bv (UInt8.ofNat n) := by
  unfold bv
  rw [UInt8.toNat_ofNat', Nat.mod_eq_of_lt (by omega)]
/-- A new slice of bytes that the call hands back: its block, known whole. -/
def NewB (W : World) (T : TypeId) (bs : List UInt8) (e : Ending) (w' : World) : Prop :=
  ∃ g m, W.heap.size ≤ g ∧ Hid (m = bs.length) ∧ e = .returned (.slice (some ⟨g, 0, none⟩) m m) ∧ Row w' g T (bs.map bv).toArray ∧ Below W.heap.size W w'
/-- A slice of bytes as a string. -/
theorem run_str {P : Program} {w : World} {src dst e : TypeId} (hs : P.underlying src = some (.slice e)) (he : P.underlying e = some (.int .u8)) (hd : P.underlying dst = some .string)
    {A : Option Addr} {n : Nat} {bs : List UInt8} (c : Nat) (hA : IsB w A n bs) : (convert src dst (.slice A n c)).run P w = .ok (.string ⟨bs.toArray⟩) w := by
  obtain ⟨hn, hc⟩ := hA
  rw [run_convert_bytes_string (P := P) w src dst e A n c hs he hd]
  have hb : ∀ l : List UInt8, (l.map (fun x : UInt8 => (x.toNat : Int))).foldl (fun (r : ByteArray) (n : Int) => r.push (UInt8.ofNat n.toNat)) ByteArray.empty = ⟨l.toArray⟩ := by
    intro l
    have := foldl_push_bytes (l.map (fun x : UInt8 => (x.toNat : Int))) ByteArray.empty
    rw [this]
    simp [ByteArray.empty, ByteArray.emptyWithCapacity, Function.comp_def]
    rfl
  rcases Nat.eq_zero_or_pos n with h0 | h0
  · subst h0
    obtain rfl : bs = [] := List.eq_nil_of_length_eq_zero hn.symm
    cases A with
    | none => rfl
    | some a =>
      have hl : (loadCells a 0).run P w = .ok (([] : List Int).map (Value.int .u8)).toArray w := by rfl
      rw [run_bytesToString w a 0 c [] hl]
      rfl
  · obtain ⟨ad, rfl, hsrc⟩ := IsB.src (A := A) ⟨hn, hc⟩ h0
    have hl := run_loadCells_list (P := P) (w := w) ad (bs.map bv) hsrc
    have e1 : bs.map bv = (bs.map (fun x : UInt8 => (x.toNat : Int))).map (Value.int .u8) := by simp [bv, Function.comp_def]
    rw [List.length_map, ← hn, e1] at hl
    rw [run_bytesToString w _ n c _ hl, hb]
end
section
set_option linter.unusedVariables false
open Go.RowKit
/-- The slice is a row of bytes at or above block base that no one else holds. -/
def OwnB (w : World) (base : Nat) (e : TypeId) (A : Option Addr) (n c : Nat) (bs : List UInt8) : Prop := w.ownsRow base e 1 (.slice A n c) n (bs.map bv)
theorem OwnB.nil (w : World) (base : Nat) (e : TypeId) : OwnB w base e none 0 0 [] := World.ownsRow_nil w base e 1
theorem OwnB.len {w : World} {base : Nat} {e : TypeId} {A : Option Addr} {n c : Nat} {bs : List UInt8} (h : OwnB w base e A n c bs) : n = bs.length := by
  have := h.1
  simp at this
  exact this.symm
theorem OwnB.form {w : World} {base : Nat} {e : TypeId} {A : Option Addr} {n c : Nat} {bs : List UInt8} (h : OwnB w base e A n c bs) (hn : 0 < n) :
    ∃ g, A = some ⟨g, 0, none⟩ ∧ base ≤ g ∧ g < w.heap.size ∧ n ≤ c := by
  rcases h.2 with ⟨h', h0⟩ | ⟨g, cap, cur, h', hb, hg, hnc, hcm, hcs, htake⟩
  · omega
  · injection h' with h1 h2 h3
    subst h1
    exact ⟨g, rfl, hb, (Array.getElem?_eq_some_iff.1 hg).1, by omega⟩
theorem OwnB.isB {w : World} {base : Nat} {e : TypeId} {A : Option Addr} {n c : Nat} {bs : List UInt8} (h : OwnB w base e A n c bs) : IsB w A n bs := by
  refine ⟨h.len, fun hn => ?_⟩
  obtain ⟨g, rfl, _, _, hc⟩ := h.form hn
  refine ⟨g, 0, rfl, fun i hi => ?_⟩
  have := World.ownsRow.cellAt (h : w.ownsRow base e 1 (.slice (some ⟨g, 0, none⟩) n c) n (bs.map bv)) i (by have := h.len; omega)
  rw [Nat.zero_add, this]
  simp [hi, bv]
theorem OwnB.ge {w : World} {base : Nat} {e : TypeId} {A : Option Addr} {n c : Nat} {bs : List UInt8} (h : OwnB w base e A n c bs) : ∀ k, (Value.slice A n c).ownBlock = some k → base ≤ k := fun k hk => (World.ownsRow.lt h k hk).1
theorem OwnB.alloc {w : World} {base : Nat} {e : TypeId} {A : Option Addr} {n c : Nat} {bs : List UInt8} (h : OwnB w base e A n c bs) (o : Obj) : OwnB (w.alloc o) base e A n c bs := World.ownsRow.alloc h o
theorem OwnB.below {w w' : World} {base : Nat} {e : TypeId} {A : Option Addr} {n c : Nat} {bs : List UInt8} (h : OwnB w base e A n c bs) (hb : Below w.heap.size w w') : OwnB w' base e A n c bs :=
  World.ownsRow.kept h (row := none) ⟨hb.os, hb.tape, hb.output, hb.size, fun k hk _ => hb.block k hk⟩ (by cases hv : (Value.slice A n c).ownBlock <;> simp)
/-- The start of a slice. -/
theorem IsB.pre {w : World} {A : Option Addr} {n : Nat} {bs : List UInt8} (h : IsB w A n bs) (k : Nat) (hk : k ≤ n) : IsB w A k (bs.take k) := by
  refine ⟨by have := h.1; simp; omega, fun h0 => ?_⟩
  obtain ⟨b, o, e, hc⟩ := h.2 (by omega)
  exact ⟨b, o, e, fun i hi => by
    have hi' : i < bs.length := by simp at hi; omega
    rw [hc i hi']; simp⟩
section
variable {P : Program} {ops : Array Oper} {rest : List Oper} {Q : Exit → Act → World → Prop} {a : Act} {w : World} {dst : Option Tmp} {typ : TypeId} {pos : String} {after : Array Edge}
theorem wp_append_b {o : Oper} (hgd : o.guard = none) (s x : Operand) (t : TypeId) (ho : o.op = .call { callee := .builtin .append, args := #[s, x], argTypes := #[t, t] }) {e : TypeId} {base n c m c' : Nat} {A B : Option Addr} {bs cs : List UInt8} (ht : P.underlying t = some (.slice e))
    (hinfo : (P.info? e).map (fun i => (i.zero, i.size, i.bytes)) = some (some (.int .u8 0), 1, 1)) (hown : OwnB w base e A n c bs) (hB : IsB w B m cs) (hlen : n + m ≤ 140737488355328) (hbase : base ≤ w.heap.size)
    (hs : a.eval s = .slice A n c) (hx : a.eval x = .slice B m c')
    (h : ∀ A' n' c'' w', Hid (n' = n + m) → OwnB w' base e A' n' c'' (bs ++ cs) → Below base w w' → w.grownBy w' (Value.slice A n c).ownBlock → ((Value.slice A' n' c'').ownBlock = (Value.slice A n c).ownBlock ∨ (Value.slice A' n' c'').ownBlock = some w.heap.size) → wpList P ops Q rest (a.put o.dst (.slice A' n' c'')) w') :
    wpList P ops Q (o :: rest) a w := by
  obtain ⟨i, hi, hz⟩ := Option.map_eq_some_iff.1 hinfo
  simp only [Prod.mk.injEq] at hz
  obtain ⟨hz0, hz1, hz2⟩ := hz
  have key : ∃ A' c'' w', (Builtin.append_ #[t, t] o.type #[.slice A n c, .slice B m c']).run P w = .ok (.slice A' (n + m) c'') w' ∧ OwnB w' base e A' (n + m) c'' (bs ++ cs) ∧ w.grownBy w' (Value.slice A n c).ownBlock ∧ ((Value.slice A' (n + m) c'').ownBlock = (Value.slice A n c).ownBlock ∨ (Value.slice A' (n + m) c'').ownBlock = some w.heap.size) := by
    rcases Nat.eq_zero_or_pos m with h0 | h0
    · subst h0
      obtain rfl : cs = [] := List.eq_nil_of_length_eq_zero hB.1.symm
      refine ⟨A, c, w, ?_, by simpa using hown, World.grownBy.refl w _, .inl rfl⟩
      rcases hown.2 with ⟨h', hn⟩ | ⟨g, cap, cur, h', _, _, hnc, _⟩
      · injection h' with h1 h2 h3
        subst h1; subst h2; subst h3
        cases B <;> simp [Builtin.append_, run_underlying ht, sizeOf, typeInfo, hi, Builtin.lenOf, Builtin.firstCells, loadCells, loadCellsFrom]
      · injection h' with h1 h2 h3
        subst h1; subst h3
        cases B <;> simp [Builtin.append_, run_underlying ht, sizeOf, typeInfo, hi, Builtin.lenOf, Builtin.firstCells, hnc, storeCells, loadCells, loadCellsFrom]
    · obtain ⟨ad, rfl, hsrc⟩ := hB.src h0
      obtain ⟨v', w', hr, h2, h3, h4, h5⟩ := run_append_own_at (P := P) w base t o.type e i _ 1 1 ht hi hz0 hz1 hz2 rfl (by omega) (.slice A n c) n (bs.map bv) hown ad m c' (cs.map bv)
        (by simp [← hB.1]) hsrc (bv_one cs) (by simp only [maxLen]; omega) (by omega) hbase
      rcases h2.2 with ⟨rfl, hn0⟩ | ⟨g, cap, cur, rfl, rest'⟩
      · omega
      · exact ⟨_, _, _, hr, by unfold OwnB; rw [List.map_append]; exact h2, h3, h5⟩
  obtain ⟨A', c'', w', hr, h2, h3, h5⟩ := key
  refine wpList_plain hgd fun K hK => ?_
  unfold Oper.wp execOp
  simp only [ho, resolve, invoke, builtin, Sem.run_bind, Sem.run_pure, Result.andThen_ok, List.map_toArray, List.map_cons, List.map_nil, hs, hx, hr]
  exact hK _ _ (h _ _ _ _ (Lib.hid rfl) h2 ((Below.refl _ _).grown h3 hbase hown.ge) h3 h5)
end
end
section
open Go.RowKit
set_option linter.unusedVariables false
section
variable {P : Program} {K : Act → World → Prop} {Q : Exit → Act → World → Prop} {a : Act} {w : World} {dst : Option Tmp} {typ : TypeId} {pos : String} {after : Array Edge} {gd : Option (Nat × Bool)}
theorem run_append_b {t e : TypeId} {base n c m c' : Nat} {A B : Option Addr} {bs cs : List UInt8} (ht : P.underlying t = some (.slice e))
    (hinfo : (P.info? e).map (fun i => (i.zero, i.size, i.bytes)) = some (some (.int .u8 0), 1, 1)) (hown : OwnB w base e A n c bs) (hB : IsB w B m cs) (hlen : n + m ≤ 140737488355328) (hbase : base ≤ w.heap.size) :
    ∃ A' c'' w', (Builtin.append_ #[t, t] typ #[.slice A n c, .slice B m c']).run P w = .ok (.slice A' (n + m) c'') w' ∧ OwnB w' base e A' (n + m) c'' (bs ++ cs) ∧ w.grownBy w' (Value.slice A n c).ownBlock ∧ ((Value.slice A' (n + m) c'').ownBlock = (Value.slice A n c).ownBlock ∨ (Value.slice A' (n + m) c'').ownBlock = some w.heap.size) := by
  obtain ⟨i, hi, hz⟩ := Option.map_eq_some_iff.1 hinfo
  simp only [Prod.mk.injEq] at hz
  obtain ⟨hz0, hz1, hz2⟩ := hz
  rcases Nat.eq_zero_or_pos m with h0 | h0
  · subst h0
    obtain rfl : cs = [] := List.eq_nil_of_length_eq_zero hB.1.symm
    refine ⟨A, c, w, ?_, by simpa using hown, World.grownBy.refl w _, .inl rfl⟩
    rcases hown.2 with ⟨h', hn⟩ | ⟨g, cap, cur, h', _, _, hnc, _⟩
    · injection h' with h1 h2 h3
      subst h1; subst h2; subst h3
      cases B <;> simp [Builtin.append_, run_underlying ht, sizeOf, typeInfo, hi, Builtin.lenOf, Builtin.firstCells, loadCells, loadCellsFrom]
    · injection h' with h1 h2 h3
      subst h1; subst h3
      cases B <;> simp [Builtin.append_, run_underlying ht, sizeOf, typeInfo, hi, Builtin.lenOf, Builtin.firstCells, hnc, storeCells, loadCells, loadCellsFrom]
  · obtain ⟨ad, rfl, hsrc⟩ := hB.src h0
    obtain ⟨v', w', hr, h2, h3, h4, h5⟩ := run_append_own_at (P := P) w base t typ e i _ 1 1 ht hi hz0 hz1 hz2 rfl (by omega) (.slice A n c) n (bs.map bv) hown ad m c' (cs.map bv)
      (by simp [← hB.1]) hsrc (bv_one cs) (by simp only [maxLen]; omega) (by omega) hbase
    rcases h2.2 with ⟨rfl, hn0⟩ | ⟨g, cap, cur, rfl, rest'⟩
    · omega
    · exact ⟨_, _, _, hr, by unfold OwnB; rw [List.map_append]; exact h2, h3, h5⟩
/-- An append of bytes. -/
theorem step_append_b {s x : Operand} {t e : TypeId} {base n c m c' : Nat} {A B : Option Addr} {bs cs : List UInt8} (ht : P.underlying t = some (.slice e))
    (hinfo : (P.info? e).map (fun i => (i.zero, i.size, i.bytes)) = some (some (.int .u8 0), 1, 1)) (hown : OwnB w base e A n c bs) (hB : IsB w B m cs) (hlen : n + m ≤ 140737488355328) (hbase : base ≤ w.heap.size)
    (hs : a.eval s = .slice A n c) (hx : a.eval x = .slice B m c')
    (h : ∀ A' c'' w', OwnB w' base e A' (n + m) c'' (bs ++ cs) → Below base w w' → w.grownBy w' (Value.slice A n c).ownBlock → ((Value.slice A' (n + m) c'').ownBlock = (Value.slice A n c).ownBlock ∨ (Value.slice A' (n + m) c'').ownBlock = some w.heap.size) → K (a.put dst (.slice A' (n + m) c'')) w') :
    Oper.wp P { dst := dst, op := .call { callee := .builtin .append, args := #[s, x], argTypes := #[t, t] }, type := typ, pos := pos, after := after, guard := gd } a w K Q := by
  obtain ⟨A', c'', w', hr, h2, h3, h5⟩ := run_append_b (P := P) (typ := typ) (c' := c') ht hinfo hown hB hlen hbase
  unfold Oper.wp execOp
  simp only [resolve, invoke, builtin, Sem.run_bind, Sem.run_pure, Result.andThen_ok, List.map_toArray, List.map_cons, List.map_nil, hs, hx, hr]
  exact h _ _ _ h2 ((Below.refl _ _).grown h3 hbase hown.ge) h3 h5
/-- A copy of bytes: appended to nil. -/
theorem step_copy_b {s x : Operand} {t e : TypeId} {m c' : Nat} {B : Option Addr} {cs : List UInt8} (ht : P.underlying t = some (.slice e))
    (hinfo : (P.info? e).map (fun i => (i.zero, i.size, i.bytes)) = some (some (.int .u8 0), 1, 1)) (hB : IsB w B m cs) (hlen : m ≤ 140737488355328)
    (hs : a.eval s = .slice none 0 0) (hx : a.eval x = .slice B m c')
    (h : ∀ A' c'' w', OwnB w' w.heap.size e A' m c'' cs → Below w.heap.size w w' → K (a.put dst (.slice A' m c'')) w') :
    Oper.wp P { dst := dst, op := .call { callee := .builtin .append, args := #[s, x], argTypes := #[t, t] }, type := typ, pos := pos, after := after, guard := gd } a w K Q := by
  refine step_append_b (c' := c') ht hinfo (OwnB.nil w w.heap.size e) hB (by omega) (Nat.le_refl _) hs hx fun A' c'' w' h1 h2 h3 h4 => ?_
  simp only [Nat.zero_add] at h1 ⊢
  exact h A' c'' w' h1 h2
end
end
section
open Go.RowKit
set_option linter.unusedVariables false
theorem below_on {a w w' : World} (h : Below a.heap.size a w) (hb : Below w.heap.size w w') : Below a.heap.size a w' := h.trans (hb.mono h.size)
/-- Each block at or above B keeps its type and its size. -/
def Shp (B : Nat) (w w' : World) : Prop := ∀ b t cs, B ≤ b → Row w b t cs → ∃ cs', Row w' b t cs' ∧ cs'.size = cs.size
theorem Shp.refl (B : Nat) (w : World) : Shp B w w := fun b t cs _ h => ⟨cs, h, rfl⟩
theorem Shp.alloc (B : Nat) (w : World) (o : Obj) : Shp B w (w.alloc o) := fun b t cs _ h => ⟨cs, h.alloc o, rfl⟩
theorem Shp.below {B : Nat} {w w' : World} (hb : Below w.heap.size w w') : Shp B w w' := fun b t cs _ h => ⟨cs, h.below hb h.lt, rfl⟩
theorem Shp.upd {B g : Nat} {w w' : World} {t : TypeId} {cs L : Array Value} (u : Upd w w' g) (h : Row w g t cs) (k : Row w' g t L) (hs : cs.size = L.size) : Shp B w w' := fun b t' cs' _ h' => by
  by_cases hb : b = g
  · subst hb
    have e := h.symm.trans h'
    injection e with e
    injection e with e1 e2 e3
    subst e1 e2
    exact ⟨L, k, hs.symm⟩
  · exact ⟨cs', h'.upd u hb, rfl⟩
/-- A pointer to a new block of that type and size. -/
def PtrN (B : Nat) (t : TypeId) (n : Nat) (u : Value) (w : World) : Prop := ∃ b cs, u = .pointer (some ⟨b, 0, none⟩) ∧ B ≤ b ∧ Row w b t cs ∧ cs.size = n
theorem PtrN.mono {B : Nat} {t : TypeId} {n : Nat} (u : Value) (w w' : World) (h : Shp B w w') (k : PtrN B t n u w) : PtrN B t n u w' := by
  obtain ⟨b, cs, e, hB, hr, hn⟩ := k
  obtain ⟨cs', hr', hn'⟩ := h b t cs hB hr
  exact ⟨b, cs', e, hB, hr', by omega⟩
/-- A pointer to a new block that holds L. -/
def PtrL (B : Nat) (t : TypeId) (L : Array Value) (u : Value) (w : World) : Prop := ∃ b, u = .pointer (some ⟨b, 0, none⟩) ∧ B ≤ b ∧ Row w b t L
theorem PtrL.below {B : Nat} {t : TypeId} {L : Array Value} {u : Value} {w w' : World} (h : PtrL B t L u w) (hb : Below w.heap.size w w') : PtrL B t L u w' := by
  obtain ⟨b, e, hB, hr⟩ := h
  exact ⟨b, e, hB, hr.below hb hr.lt⟩
theorem PtrL.upd {B g : Nat} {t t' : TypeId} {L cs : Array Value} {u : Value} {w w' : World} (h : PtrL B t L u w) (hu : Upd w w' g) (hr : Row w g t' cs) (hne : t ≠ t') : PtrL B t L u w' := by
  obtain ⟨b, e, hB, hrb⟩ := h
  refine ⟨b, e, hB, hrb.upd hu fun hb => hne ?_⟩
  subst hb
  have e := hrb.symm.trans hr
  injection e with e
  injection e
/-- What holds when the first c links of the chain have come up: behind the first (number ic) C of its value; from c1 on block i1 holds L1, from c2 on block i2 L2. -/
def CalS (w : World) (ic : Nat) (C : Value → World → Prop) (c1 i1 : Nat) (t1 : TypeId) (L1 : Array Value) (c2 i2 : Nat) (t2 : TypeId) (L2 : Array Value) (c : Nat) (us : Nat → Value) (w' : World) : Prop :=
  Below w.heap.size w w' ∧ (c = 1 → C (us ic) w') ∧ (c1 ≤ c → PtrL w.heap.size t1 L1 (us i1) w') ∧ (c2 ≤ c → PtrL w.heap.size t2 L2 (us i2) w')
section
variable {w w9 w' : World} {ic c1 i1 c2 i2 c g : Nat} {C : Value → World → Prop} {t1 t2 : TypeId} {L1 L2 cs : Array Value} {us : Nat → Value}
theorem CalS.loc {ops : Array Oper} {st : List Nat} (hic : ic ∈ st.take 1) (h1 : ∀ c, c1 ≤ c → mayAt ops st c i1 = false) (h2 : ∀ c, c2 ≤ c → mayAt ops st c i2 = false) :
    ∀ c us us' w', (∀ k, mayAt ops st c k = false ∨ k ∈ st.take c → us k = us' k) → CalS w ic C c1 i1 t1 L1 c2 i2 t2 L2 c us w' → CalS w ic C c1 i1 t1 L1 c2 i2 t2 L2 c us' w' := by
  intro c us us' w' hk ⟨a, b, d, e⟩
  refine ⟨a, fun hc => ?_, fun hc => ?_, fun hc => ?_⟩
  · subst hc
    rw [← hk ic (.inr hic)]
    exact b rfl
  · rw [← hk i1 (.inl (h1 c hc))]
    exact d hc
  · rw [← hk i2 (.inl (h2 c hc))]
    exact e hc
theorem CalS.start (h1 : 0 < c1) (h2 : 0 < c2) : CalS w ic C c1 i1 t1 L1 c2 i2 t2 L2 0 us w.drew := ⟨below_drewN (Below.refl _ _) 1, fun h => by omega, fun h => by omega, fun h => by omega⟩
theorem CalS.below (h : CalS w ic C c1 i1 t1 L1 c2 i2 t2 L2 c us w9) (hb : Below w9.heap.size w9 w') (hC : ∀ u w w', Below w.heap.size w w' → C u w → C u w') : CalS w ic C c1 i1 t1 L1 c2 i2 t2 L2 c us w' :=
  ⟨below_on h.1 hb, fun hc => hC _ _ _ hb (h.2.1 hc), fun hc => (h.2.2.1 hc).below hb, fun hc => (h.2.2.2 hc).below hb⟩
theorem CalS.alloc (h : CalS w ic C c1 i1 t1 L1 c2 i2 t2 L2 c us w9) (hC : ∀ u w w', Below w.heap.size w w' → C u w → C u w') (o : Obj) : CalS w ic C c1 i1 t1 L1 c2 i2 t2 L2 c us (w9.alloc o) :=
  h.below ((Below.refl _ _).alloc (Nat.le_refl _) _) hC
theorem CalS.link {V : Nat → Value} (h : CalS w ic C c1 i1 t1 L1 c2 i2 t2 L2 c us w9) (hb : Below w9.heap.size w9 w') (h1 : c + 1 < c1) (h2 : c + 1 < c2) (hC : c + 1 = 1 → C (V ic) w') : CalS w ic C c1 i1 t1 L1 c2 i2 t2 L2 (c + 1) V w' :=
  ⟨below_on h.1 hb, hC, fun hc => by omega, fun hc => by omega⟩
theorem CalS.st1 (h : CalS w ic C c1 i1 t1 L1 c2 i2 t2 L2 c us w9) (u : Upd w9 w' g) (r : Row w' g t1 L1) (hu : us i1 = .pointer (some ⟨g, 0, none⟩)) (hB : w.heap.size ≤ g) (hc : c + 1 = c1) (h12 : c1 < c2) (hC : c + 1 = 1 → C (us ic) w') :
    CalS w ic C c1 i1 t1 L1 c2 i2 t2 L2 (c + 1) us w' := ⟨Upd.below h.1 u hB, hC, fun _ => ⟨g, hu, hB, r⟩, fun hx => by omega⟩
theorem CalS.st2 (h : CalS w ic C c1 i1 t1 L1 c2 i2 t2 L2 c us w9) (u : Upd w9 w' g) (r0 : Row w9 g t2 cs) (r : Row w' g t2 L2) (hu : us i2 = .pointer (some ⟨g, 0, none⟩)) (hB : w.heap.size ≤ g) (hc : c + 1 = c2) (h12 : c1 < c2) (h0 : 0 < c) (hne : t1 ≠ t2) :
    CalS w ic C c1 i1 t1 L1 c2 i2 t2 L2 (c + 1) us w' := ⟨Upd.below h.1 u hB, fun hx => by omega, fun _ => (h.2.2.1 (by omega)).upd u r0 hne, fun _ => ⟨g, hu, hB, r⟩⟩
end
/-- A copy of bytes. -/
def CpB (m : Nat) (bs : List UInt8) (u : Value) (w : World) : Prop := ∃ A c, u = .slice A m c ∧ m ≤ c ∧ IsB w A m bs
theorem CpB.mono {m : Nat} {bs : List UInt8} (u : Value) (w w' : World) (hb : Below w.heap.size w w') (h : CpB m bs u w) : CpB m bs u w' := by
  obtain ⟨A, c, e, hc, hA⟩ := h
  exact ⟨A, c, e, hc, hA.below hb⟩
def NoC (_ : Value) (_ : World) : Prop := True
theorem NoC.mono (u : Value) (w w' : World) (_ : Below w.heap.size w w') (_ : NoC u w) : NoC u w' := trivial
theorem OwnB.capM {w : World} {base : Nat} {e : TypeId} {A : Option Addr} {n c : Nat} {bs : List UInt8} (h : OwnB w base e A n c bs) : n ≤ c := by
  rcases h.2 with ⟨h1, h2⟩ | ⟨g, cap, cur, h1, _, _, h2, _⟩
  · omega
  · injection h1 with h1 h3 h4
    omega
section
variable {P : Program} {K : Act → World → Prop} {Q : Exit → Act → World → Prop} {a : Act} {w : World} {typ : TypeId} {pos : String} {after : Array Edge} {gd : Option (Nat × Bool)}
/-- A store of a whole row into a block that is known whole. -/
theorem step_put {ty : TypeId} {x y : Operand} {g : Nat} {t : TypeId} {cs L : Array Value} (hrow : Row w g t cs) (hs : cs.size = L.size) (hn : (P.info? ty).map (·.size) = some L.size) (h1 : L.all (·.oneCell') = true)
    (hx : a.eval x = .pointer (some ⟨g, 0, none⟩)) (hy : a.eval y = .agg L) (h : ∀ w', Upd w w' g → Row w' g t L → K a w') :
    Oper.wp P { dst := none, op := .store ty x y, type := typ, pos := pos, after := after, guard := none } a w K Q := by
  refine wp_store_mid (op := { dst := none, op := .store ty x y, type := typ, pos := pos, after := after, guard := none }) ty x y rfl g 0 L hx hy (hrow.there _ (by omega)) hn h1 ?_
  have hr : Row w g t ([] ++ cs.toList ++ []).toArray := by simpa using hrow
  have h2 := Row.setCells (g := g) (t := t) L.toList w [] [] cs.toList hr (by simpa using hs)
  exact h _ (Upd.setCells g _ w 0) (by simpa using h2)
end
end
section
open Go.RowKit
set_option linter.unusedVariables false
theorem Row.bornAt {w : World} {g : Nat} (hg : w.heap.size = g) (t : TypeId) (cs : Array Value) : Row (w.alloc (.cells cs t)) g t cs := by subst hg; exact Row.born w t cs
end
section
open Go.RowKit
set_option linter.unusedVariables false
section
variable {P : Program} {w : World} {dst : Option Tmp} {typ : TypeId} {pos : String} {after : Array Edge} {gd : Option (Nat × Bool)} {ev : Operand → Value}
theorem exec_load_g {ty : TypeId} {x : Operand} {b o : Nat} {cs : Array Value} {d : TypeDesc} (hc : w.rangeAt b o cs.toList) (hu : P.underlying ty = some d) (hd : d.isRow = true) (hi : (P.info? ty).map (·.size) = some cs.size) (hx : ev x = .pointer (some ⟨b, o, none⟩)) :
    (execOp ev { dst := dst, op := .load ty x, type := typ, pos := pos, after := after, guard := gd }).run P w = .ok (.value (.agg cs)) w := by
  unfold execOp
  simp only [hx, Instr.loadAt, Instr.sureAddr, Sem.run_bind, Sem.run_pure, Result.andThen_ok, run_loadVar_mid w b o ty cs.toList d hc hu hd (by simpa using hi)]
theorem exec_neq_agg {t t2 : TypeId} {x y : Operand} {X Y : Array Value} {b : Bool} (hm : P.eqGuardType P.depth t = false) (hx : ev x = .agg X) (hy : ev y = .agg Y) (hE : (Op.equalIn 10000 t (.agg X) (.agg Y)).run P w = .ok b w) :
    (execOp ev { dst := dst, op := .binOp .neq t x y t2, type := typ, pos := pos, after := after, guard := gd }).run P w = .ok (.value (.bool (!b))) w := by
  unfold execOp
  simp [hx, hy, run_eqGuard_agg w .neq t x y X Y hm, run_neq_struct, hE]
theorem exec_eql_agg {t t2 : TypeId} {x y : Operand} {X Y : Array Value} {b : Bool} (hm : P.eqGuardType P.depth t = false) (hx : ev x = .agg X) (hy : ev y = .agg Y) (hE : (Op.equalIn 10000 t (.agg X) (.agg Y)).run P w = .ok b w) :
    (execOp ev { dst := dst, op := .binOp .eql t x y t2, type := typ, pos := pos, after := after, guard := gd }).run P w = .ok (.value (.bool b)) w := by
  unfold execOp
  simp [hx, hy, run_eqGuard_agg w .eql t x y X Y hm, run_eql_struct, hE]
variable {ops : Array Oper} {rest : List Oper} {Q : Exit → Act → World → Prop} {a : Act}
/-- A step whose value is told. -/
theorem wp_told_g {o : Oper} {v : Value} (hg : Region.wanted o (yielded ops a.tmps) = true) (hy : (execOp a.eval o).run P w = .ok (.value v) w) (h : wpList P ops Q rest (a.put o.dst v) w) : wpList P ops Q (o :: rest) a w := by
  refine wpList_step fun K hK => ?_
  rw [if_pos hg]
  unfold Oper.wp
  rw [hy]
  exact hK _ _ h
theorem wp_load_g {ty : TypeId} {x : Operand} {b o : Nat} {cs : Array Value} {d : TypeDesc} (hg : Region.wanted { dst := dst, op := .load ty x, type := typ, pos := pos, after := after, guard := gd } (yielded ops a.tmps) = true) (hc : w.rangeAt b o cs.toList) (hu : P.underlying ty = some d) (hd : d.isRow = true) (hi : (P.info? ty).map (·.size) = some cs.size) (hx : a.eval x = .pointer (some ⟨b, o, none⟩))
    (h : wpList P ops Q rest (a.put dst (.agg cs)) w) : wpList P ops Q ({ dst := dst, op := .load ty x, type := typ, pos := pos, after := after, guard := gd } :: rest) a w := wp_told_g hg (exec_load_g hc hu hd hi hx) h
theorem wp_neq_g {t t2 : TypeId} {x y : Operand} {X Y : Array Value} {b : Bool} (hg : Region.wanted { dst := dst, op := .binOp .neq t x y t2, type := typ, pos := pos, after := after, guard := gd } (yielded ops a.tmps) = true) (hm : P.eqGuardType P.depth t = false) (hE : (Op.equalIn 10000 t (.agg X) (.agg Y)).run P w = .ok b w) (hx : a.eval x = .agg X) (hy : a.eval y = .agg Y)
    (h : wpList P ops Q rest (a.put dst (.bool (!b))) w) : wpList P ops Q ({ dst := dst, op := .binOp .neq t x y t2, type := typ, pos := pos, after := after, guard := gd } :: rest) a w := wp_told_g hg (exec_neq_agg hm hx hy hE) h
theorem wp_eql_g {t t2 : TypeId} {x y : Operand} {X Y : Array Value} {b : Bool} (hg : Region.wanted { dst := dst, op := .binOp .eql t x y t2, type := typ, pos := pos, after := after, guard := gd } (yielded ops a.tmps) = true) (hm : P.eqGuardType P.depth t = false) (hE : (Op.equalIn 10000 t (.agg X) (.agg Y)).run P w = .ok b w) (hx : a.eval x = .agg X) (hy : a.eval y = .agg Y)
    (h : wpList P ops Q rest (a.put dst (.bool b)) w) : wpList P ops Q ({ dst := dst, op := .binOp .eql t x y t2, type := typ, pos := pos, after := after, guard := gd } :: rest) a w := wp_told_g hg (exec_eql_agg hm hx hy hE) h
end
theorem results_ct {P : Program} {fn : Func} {p u : Tmp} {ty1 : TypeId} {d1 : TypeDesc} (h : fn.results = #[.cell p ty1, .tmp u]) {tmps : Array Value} {w : World} {g1 : Nat} {t1 : TypeId} {cs1 : Array Value}
    (h1 : tmps.getD p undef = .pointer (some ⟨g1, 0, none⟩)) (r1 : Row w g1 t1 cs1) (u1 : P.underlying ty1 = some d1) (k1 : d1.isRow = true) (i1 : (P.info? ty1).map (·.size) = some cs1.size) :
    (results fn tmps).run P w = .ok (.tuple #[.agg cs1, tmps.getD u undef]) w := by
  have l1 := run_loadVar_mid (P := P) w g1 0 ty1 cs1.toList d1 r1.range u1 k1 (by simpa using i1)
  simp only [Array.toArray_toList] at l1
  simp only [Array.getD_eq_getD_getElem?] at h1
  simp [results, h, h1, asAddr, l1]
end
section
set_option linter.unusedVariables false
def normS (T : Nat) : Nat := if T = 0 then 0 else (T - 1) % 65535 + 1
def addS (s w : Nat) : Nat := if s + w > 65535 then s + w - 65535 else s + w
theorem normS_le (T : Nat) : normS T ≤ 65535 := by unfold normS; split <;> omega
theorem addS_norm (T w : Nat) (h : w ≤ 65535) : addS (normS T) w = normS (T + w) := by
  unfold addS normS
  by_cases h0 : T = 0
  · subst h0
    by_cases hw : w = 0
    · subst hw; rfl
    · rw [if_pos rfl, if_neg (by omega), if_neg (by omega)]; omega
  · rw [if_neg h0, if_neg (show T + w ≠ 0 by omega)]
    split <;> omega
def WS : List UInt8 → Nat
  | [] => 0
  | [a] => a.toNat * 256
  | a :: b :: r => a.toNat * 256 + b.toNat + WS r
theorem WS_append : ∀ (a9 bs : List UInt8), a9.length % 2 = 0 → WS (a9 ++ bs) = WS a9 + WS bs
  | [], bs, _ => by simp [WS]
  | [a], bs, h => by simp at h
  | a :: b :: r, bs, h => by
    have ih := WS_append r bs (by simp at h; omega)
    simp only [List.cons_append, WS, ih]
    omega
def sum16 (bs : List UInt8) : Nat := 65535 - normS (WS bs)
theorem sum16_le (bs : List UInt8) : sum16 bs ≤ 65535 := by unfold sum16; omega
end
section
open Go.RowKit
set_option linter.unusedVariables false
def hdB (k : Int) (e f : Bool) : UInt8 := UInt8.ofNat (k.toNat + (if f then 4 else 0) + (if e then 8 else 0))
def ln8 (k : Int) (e f : Bool) (n a : Int) (h l : UInt8) : List UInt8 := [hdB k e f, UInt8.ofNat n.toNat, UInt8.ofNat (a.toNat % 256), UInt8.ofNat (a.toNat / 256), h, l, 0, 0]
def ln0 (k : Int) (e f : Bool) (n a : Int) (p : List UInt8) : List UInt8 := ln8 k e f n a 0 0 ++ p
def lnS (k : Int) (e f : Bool) (n a : Int) (p : List UInt8) : Nat := sum16 (ln0 k e f n a p)
def lnB (k : Int) (e f : Bool) (n a : Int) (p : List UInt8) : List UInt8 := ln8 k e f n a (UInt8.ofNat (lnS k e f n a p / 256)) (UInt8.ofNat (lnS k e f n a p % 256)) ++ p
def clr (n : Int) (p : List UInt8) : Bool := (p.drop n.toNat).all (· == 0)
def lnOk1 (k n : Int) : Bool := (k == 1 || k == 2) && decide (0 ≤ n) && decide (n ≤ 56)
def lnOk2 (k : Int) (e f : Bool) (n : Int) (p : List UInt8) : Bool := clr n p && !((k == 2) && (!(n == 0) || f || e))
def lnE (k : Int) (e f : Bool) (n : Int) (p : List UInt8) : Int := if lnOk1 k n then (if lnOk2 k e f n p then 0 else 54) else 6
theorem lnOk1_k {k n : Int} (h : lnOk1 k n = true) : (k = 1 ∨ k = 2) ∧ 0 ≤ n ∧ n ≤ 56 := by
  simp only [lnOk1, Bool.and_eq_true, Bool.or_eq_true, beq_iff_eq, decide_eq_true_eq] at h
  exact ⟨h.1.1, h.1.2, h.2⟩
end
section
open Go.RowKit
set_option linter.unusedVariables false
theorem ret_s {k : IntKind} {a b : Int} (h : a = b) : Ending.returned (.int k a) = .returned (.int k b) := by rw [h]
theorem compl16 {x : Nat} (h : x ≤ 65535) : 65535 ^^^ x = 65535 - x := by
  have e : (65535 : Nat) = 2 ^ 16 - 1 := by decide
  rw [e]
  apply Nat.eq_of_testBit_eq
  intro i
  rw [show 2 ^ 16 - 1 - x = 2 ^ 16 - (x + 1) by omega, Nat.testBit_two_pow_sub_succ (by omega), Nat.testBit_xor, Nat.testBit_two_pow_sub_one]
  by_cases hi : i < 16
  · simp [hi]
  · have : x.testBit i = false := Nat.testBit_lt_two_pow (Nat.lt_of_lt_of_le (show x < 2 ^ 16 by omega) (Nat.pow_le_pow_right (by omega) (by omega)))
    simp [hi, this]
theorem or_word {x y : Nat} (hx : x < 256) (hy : y < 256) : bits .or .u32 ((x : Int) * 256) (y : Int) = ((x * 256 + y : Nat) : Int) := by
  have h := u32_or_nat (x * 256) y (by omega) (by omega)
  have e := Nat.two_pow_add_eq_or_of_lt (i := 8) hy x
  rw [show x * 256 = 2 ^ 8 * x by omega, ← e] at h
  have e2 : ((2 ^ 8 * x : Nat) : Int) = (x : Int) * 256 := by omega
  rw [e2] at h
  rw [h]; omega
theorem WS_two {bs : List UInt8} {k : Nat} (h : k + 1 < bs.length) (hk : k % 2 = 0) : WS (bs.take (k + 2)) = WS (bs.take k) + (bs[k].toNat * 256 + bs[k + 1].toNat) := by
  rw [List.take_succ_eq_append_getElem h, List.take_succ_eq_append_getElem (by omega), List.append_assoc, WS_append _ _ (by simp; omega)]
  simp [WS]
theorem WS_one {bs : List UInt8} {k : Nat} (h : k + 1 = bs.length) (hk : k % 2 = 0) : WS (bs.take (k + 2)) = WS (bs.take k) + bs[k].toNat * 256 := by
  have e0 : bs.take k ++ [bs[k]] = bs := by rw [← List.take_succ_eq_append_getElem (by omega)]; exact List.take_of_length_le (by omega)
  rw [List.take_of_length_le (by omega)]
  have := WS_append (bs.take k) [bs[k]] (by simp; omega)
  rw [e0] at this
  simpa [WS] using this
theorem int_val {k : IntKind} {a b : Int} (h : a = b) : Value.int k a = Value.int k b := by rw [h]
theorem addS_gt {s w : Nat} (h : 65535 < s + w) : addS s w = s + w - 65535 := by simp [addS, h]
theorem addS_le {s w : Nat} (h : s + w ≤ 65535) : addS s w = s + w := by simp [addS]; omega
theorem and_ffff {T : Int} (h0 : 0 ≤ T) (h1 : T < 4294967296) : bits .and .u32 T 65535 = T % 65536 := by
  obtain ⟨n, rfl⟩ := Int.eq_ofNat_of_zero_le h0
  have := u32_and_nat n 65535 (by omega) (by omega)
  rw [show n &&& 65535 = n % 65536 from Nat.and_two_pow_sub_one_eq_mod n 16] at this
  exact this
def SumPost (bs : List UInt8) (w : World) (e : Ending) (w' : World) : Prop := e = .returned (.int .u16 (sum16 bs)) ∧ w = w'
set_option maxHeartbeats 1000000 in
theorem sum16_any (A : Option Addr) (n c : Nat) (bs : List UInt8) (w : World) (hA : IsB w A n bs) (hn : n ≤ 1000000000) :
    Calls Try.prog 97 #[.slice A n c] w (SumPost bs w) := by
  have hl := Lib.hid hA.1
  go_enter Try.func97, Try.ntmps97
  go_wp2
  go_loop [3, 4] (fun s i => ∃ k : Nat, k ≤ n + 1 ∧ k % 2 = 0 ∧ i = .int .i64 k ∧ s = .int .u32 (normS (WS (bs.take k)) : Nat)) (fun _ i => n + 2 - (intOf i).toNat)
  case atStart => exact ⟨0, by omega, rfl, rfl, rfl⟩
  case round =>
    obtain ⟨k, hk, he, rfl, rfl⟩ := hrel
    have hE := Lib.hid he
    clear he
    have hs := normS_le (WS (bs.take k))
    by_cases hlt : k < n
    · obtain ⟨b, o, rfl, _, hc⟩ := hA.at_ (by omega)
      have hkl : k < bs.length := by have := hl.out; omega
      have hck := hc k hkl
      have hx : bs[k].toNat < 256 := bs[k].toNat_lt
      by_cases h2 : k + 1 < n
      · have hkl2 : k + 1 < bs.length := by have := hl.out; omega
        have hck2 := hc (k + 1) hkl2
        have ea : o + (k + 1) = o + k + 1 := by omega
        have hx2 : bs[k + 1].toNat < 256 := bs[k + 1].toNat_lt
        have HS : Hid (normS (WS (bs.take (k + 2))) = addS (normS (WS (bs.take k))) (bs[k].toNat * 256 + bs[k + 1].toNat)) := Lib.hid (by rw [addS_norm _ _ (by omega), WS_two hkl2 hE.out])
        generalize normS (WS (bs.take k)) = s at *
        generalize bs[k].toNat = x at *
        generalize bs[k + 1].toNat = y at *
        have e1 := or_word hx hx2
        clear hc ea
        rcases (by omega : 65535 < s + (x * 256 + y) ∨ s + (x * 256 + y) ≤ 65535) with hg | hg
        · have HL := Lib.hid (addS_gt hg)
          have eM := and_ffff (T := (s : Int) + ((x : Int) * 256 + (y : Int))) (by omega) (by omega)
          go_wp2
          exact ⟨⟨k + 2, by omega, by have := hE.out; omega, by go_num, by rw [HS.out, HL.out]; exact int_val (by omega)⟩, by simp [intOf]; omega⟩
        · have HL := Lib.hid (addS_le hg)
          go_wp2
          exact ⟨⟨k + 2, by omega, by have := hE.out; omega, by go_num, by rw [HS.out, HL.out]; go_num⟩, by simp [intOf]; omega⟩
      · have HS : Hid (normS (WS (bs.take (k + 2))) = addS (normS (WS (bs.take k))) (bs[k].toNat * 256)) := Lib.hid (by rw [addS_norm _ _ (by omega), WS_one (by have := hl.out; omega) hE.out])
        generalize normS (WS (bs.take k)) = s at *
        generalize bs[k].toNat = x at *
        clear hc
        rcases (by omega : 65535 < s + x * 256 ∨ s + x * 256 ≤ 65535) with hg | hg
        · have HL := Lib.hid (addS_gt hg)
          have eM := and_ffff (T := (s : Int) + (x : Int) * 256) (by omega) (by omega)
          go_wp2
          exact ⟨⟨k + 2, by omega, by have := hE.out; omega, by go_num, by rw [HS.out, HL.out]; exact int_val (by omega)⟩, by simp [intOf]; omega⟩
        · have HL := Lib.hid (addS_le hg)
          go_wp2
          exact ⟨⟨k + 2, by omega, by have := hE.out; omega, by go_num, by rw [HS.out, HL.out]; go_num⟩, by simp [intOf]; omega⟩
    · have ht : bs.take k = bs := List.take_of_length_le (by have := hl.out; omega)
      rw [ht] at hs ⊢
      clear ht
      have e1 := u16_xor_nat 65535 _ (by omega) (show normS (WS bs) < 65536 by omega)
      go_wp2
      go_ret
      exact ⟨ret_s (by unfold sum16; rw [← compl16 hs, ← e1]; rfl), rfl⟩
end
section
open Go.RowKit
set_option linter.unusedVariables false
/-- The bytes as one number, the first byte the lowest. -/
def leN : List UInt8 → Nat
  | [] => 0
  | x :: r => x.toNat + 256 * leN r
theorem leN_lt : ∀ l : List UInt8, leN l < 256 ^ l.length
  | [] => by simp [leN]
  | x :: r => by
    have h := leN_lt r
    have h1 := x.toNat_lt
    simp only [leN, List.length_cons, Nat.pow_succ]
    omega
theorem leN_snoc : ∀ (l : List UInt8) (x : UInt8), leN (l ++ [x]) = leN l + x.toNat * 256 ^ l.length
  | [], x => by simp [leN]
  | y :: l, x => by
    simp only [List.cons_append, leN, leN_snoc l x, List.length_cons, Nat.pow_succ]
    rw [Nat.mul_add, Nat.mul_comm (256 ^ l.length) 256, ← Nat.mul_assoc x.toNat, Nat.mul_comm x.toNat 256, Nat.mul_assoc 256]
    omega
def seg (bs : List UInt8) (o s : Nat) : List UInt8 := (bs.drop o).take s
theorem seg_len {bs : List UInt8} {o s : Nat} (h : o + s ≤ bs.length) : (seg bs o s).length = s := by simp [seg]; omega
theorem seg_get {bs : List UInt8} {o s k : Nat} (h : o + s ≤ bs.length) (hk : k < s) : (seg bs o s)[k]'(by rw [seg_len h]; exact hk) = bs[o + k] := by simp [seg]
theorem pow_256r (k : Nat) : 256 ^ k = 2 ^ (8 * k) := by rw [Nat.pow_mul]
theorem pow_le8 {k : Nat} (h : k ≤ 8) : 256 ^ k ≤ 18446744073709551616 := Nat.le_trans (Nat.pow_le_pow_right (by omega) h) (by decide)
theorem wrapU64 {x : Nat} (h : x < 18446744073709551616) : IntKind.u64.wrap (x : Int) = (x : Int) := by rw [IntKind.wrap_u64]; omega
theorem or_shl {L x k : Nat} (hx : x < 256) (hk : k < 8) (hL : L < 256 ^ k) : bits .or .u64 (L : Int) (IntKind.u64.wrap (IntKind.u64.wrap (x : Int) * 2 ^ (8 * k))) = ((L + x * 256 ^ k : Nat) : Int) := by
  have hp := Nat.pow_pos (n := k) (show 0 < 256 by omega)
  have h1 : x * 256 ^ k < 256 * 256 ^ k := Nat.mul_lt_mul_of_pos_right hx hp
  have h2 : 256 * 256 ^ k ≤ 18446744073709551616 := by rw [Nat.mul_comm, ← Nat.pow_succ]; exact pow_le8 (by omega)
  have h3 : (2 : Int) ^ (8 * k) = ((256 ^ k : Nat) : Int) := by rw [pow_256r]; simp
  have h4 : 256 ^ k ≤ 256 * 256 ^ k := by omega
  rw [h3, wrapU64 (by omega), ← Int.natCast_mul, wrapU64 (by omega), u64_or_nat _ _ (by omega) (by omega)]
  congr 1
  rw [pow_256r] at *
  have := Nat.two_pow_add_eq_or_of_lt (i := 8 * k) hL x
  rw [Nat.or_comm, Nat.mul_comm, ← this]
  omega
/-- What decoding s bytes at off yields: the number, the error. -/
def fixR (bs : List UInt8) (off : Int) (s : Nat) : Nat × Nat :=
  if off < 0 ∨ (bs.length : Int) < off then (0, 6) else if bs.length - off.toNat < s then (0, 52) else (leN (seg bs off.toNat s), 0)
theorem fixR_lt (bs : List UInt8) (off : Int) (s : Nat) : (fixR bs off s).1 < 256 ^ s := by
  unfold fixR
  have := Nat.pow_pos (n := s) (show 0 < 256 by omega)
  split
  · exact this
  · split
    · exact this
    · rename_i h1 h2
      have h := leN_lt (seg bs off.toNat s)
      rwa [seg_len (by omega)] at h
/-- What a call that decodes hands back; nothing is changed. -/
def FixPost (bs : List UInt8) (off : Int) (s : Nat) (k : IntKind) (w : World) (e : Ending) (w' : World) : Prop := e = .returned (.tuple #[.int k ((fixR bs off s).1 : Nat), .int .i64 ((fixR bs off s).2 : Nat)]) ∧ w' = w
theorem fixed01 (A : Option Addr) (n c : Nat) (bs : List UInt8) (off : Int) (s : Nat) (w : World) (hA : IsB w A n bs) (hn : n ≤ 1000000000) (s0 : 0 < s) (s8 : s ≤ 8) (b0 : -9223372036854775808 ≤ off) (b1 : off < 9223372036854775808) :
    Calls Try.prog 135 #[.slice A n c, .int .i64 off, .int .i64 s] w (FixPost bs off s .u64 w) := by
  have hl := hA.1
  rcases (by omega : off < 0 ∨ (0 ≤ off ∧ (n : Int) < off) ∨ (0 ≤ off ∧ off ≤ n)) with h1 | ⟨h0, h1⟩ | ⟨h0, h1⟩
  · go_enter Try.func135, Try.ntmps135
    go_wp2
    refine bodyPost_ret (v := .tuple #[.int .u64 0, .int .i64 6]) (by simp [results, Try.results135, go_sem]) rfl ⟨by rw [fixR, if_pos (.inl h1)]; rfl, rfl⟩
  · have h2 : ¬ off < 0 := by omega
    go_enter Try.func135, Try.ntmps135
    go_wp2
    refine bodyPost_ret (v := .tuple #[.int .u64 0, .int .i64 6]) (by simp [results, Try.results135, go_sem]) rfl ⟨by rw [fixR, if_pos (.inr (by omega))]; rfl, rfl⟩
  · obtain ⟨o, rfl⟩ := Int.eq_ofNat_of_zero_le h0
    have h4 : o ≤ n := by omega
    have h5 : (o : Int) ≤ n := by omega
    clear b0 b1 h0 h1
    have hR : fixR bs o s = if n - o < s then (0, 52) else (leN (seg bs o s), 0) := by
      rw [fixR, if_neg (by omega), ← hl]
      rfl
    by_cases h2 : n - o < s
    · rw [if_pos h2] at hR
      have HR := Lib.hid hR
      have h3 : (n : Int) - o < s := by omega
      clear hR h2
      go_enter Try.func135, Try.ntmps135
      go_wp2
      refine bodyPost_ret (v := .tuple #[.int .u64 0, .int .i64 52]) (by simp [results, Try.results135, go_sem]) rfl ⟨by rw [HR.out]; rfl, rfl⟩
    · rw [if_neg h2] at hR
      have HR := Lib.hid hR
      clear hR
      have hos : o + s ≤ bs.length := by omega
      have h3 : ¬ (n : Int) - o < s := by omega
      clear h2
      have HL := Lib.hid (seg_len hos)
      have HG := Lib.hid (fun k (hk : k < s) => seg_get hos hk)
      obtain ⟨b1, o1, e1, f1⟩ := hA.2 (by omega)
      subst e1
      have HC : Hid (∀ k, (hk : k < s) → w.cell? ⟨b1, o1 + (o + k), none⟩ = some (.int .u8 (((seg bs o s)[k]'(by rw [HL.out]; exact hk)).toNat : Int))) := Lib.hid (fun k hk => by rw [HG.out k hk]; exact f1 (o + k) (by omega))
      clear f1 hA HG
      generalize seg bs o s = sg at *
      clear hl
      go_enter Try.func135, Try.ntmps135
      go_wp2
      go_loop [8, 9] (fun x i => ∃ k : Nat, k ≤ s ∧ i = .int .i64 k ∧ x = .int .u64 (leN (sg.take k) : Nat)) (fun _ i => s - (intOf i).toNat)
      case atStart => exact ⟨0, by omega, rfl, rfl⟩
      case round =>
        obtain ⟨k, hk, rfl, rfl⟩ := hrel
        by_cases hks : k < s
        · have hc := HC.out k hks
          have hlen := HL.out
          obtain ⟨x, hx⟩ : ∃ x, x = sg[k]'(by omega) := ⟨_, rfl⟩
          rw [← hx] at hc
          have HX := Lib.hid hx
          have hlt : leN (sg.take k) < 256 ^ k := by have := leN_lt (sg.take k); rwa [List.length_take, Nat.min_eq_left (by omega)] at this
          have HS : Hid (leN (sg.take (k + 1)) = leN (sg.take k) + x.toNat * 256 ^ k) := Lib.hid (by
            rw [List.take_succ_eq_append_getElem (by omega), leN_snoc, ← HX.out, List.length_take, Nat.min_eq_left (by omega)])
          clear hx
          have E := or_shl (L := leN (sg.take k)) x.toNat_lt (show k < 8 by omega) hlt
          rw [← HS.out] at E
          have HE := Lib.hid E
          clear E hlt
          go_upto_region 8 with (fail)
          rw [HE.out]
          go_wp2
          exact ⟨⟨k + 1, by omega, by go_num, rfl⟩, by simp [intOf]; omega⟩
        · obtain rfl : k = s := by omega
          have e : sg.take k = sg := List.take_of_length_le (by have := HL.out; omega)
          rw [e]
          clear e
          go_wp2
          refine bodyPost_ret (v := .tuple #[.int .u64 (leN sg : Nat), .int .i64 0]) (by simp [results, Try.results135, go_sem]) rfl ⟨by rw [HR.out]; rfl, rfl⟩
end
section
open Go.RowKit
set_option linter.unusedVariables false
theorem IsB.lit (w : World) (e : TypeId) (fr : Nat × Nat) (bs : List UInt8) : IsB (w.alloc (.cells (bs.map bv).toArray e fr)) (some ⟨w.heap.size, 0, none⟩) bs.length bs := by
  refine ⟨rfl, fun _ => ⟨w.heap.size, 0, rfl, fun i hi => ?_⟩⟩
  rw [Nat.zero_add, cell_of_row _ _ _ _ _ _ (heap_alloc_new w _)]
  simp [hi, bv]
theorem info_b : (Try.prog.info? 5).map (fun i => (i.zero, i.size, i.bytes)) = some (some (.int .u8 0), 1, 1) := by kernel_rfl
theorem info_u8 : (Try.prog.info? 5).map (fun i => (i.zero, i.size, i.bytes)) = some (some (.int .u8 0), 1, 1) := by kernel_rfl
theorem info_u8s : (Try.prog.info? 5).map (·.size) = some 1 := by kernel_rfl
def fixB (v s : Nat) : List UInt8 := (List.range s).map (fun i => UInt8.ofNat (v / 256 ^ i % 256))
theorem fixB_len (v s : Nat) : (fixB v s).length = s := by simp [fixB]
theorem fixB_take (v s i : Nat) (h : i < s) : (fixB v s).take (i + 1) = (fixB v s).take i ++ [UInt8.ofNat (v / 256 ^ i % 256)] := by
  rw [List.take_succ_eq_append_getElem (by rw [fixB_len]; exact h)]
  simp [fixB]
set_option maxHeartbeats 2000000 in
theorem append_fixed (A : Option Addr) (n c : Nat) (bs : List UInt8) (v s : Nat) (w : World) (hA : IsB w A n bs) (hn : n ≤ 1000000000) (hv : v < 18446744073709551616) (s0 : 0 < s) (s8 : s ≤ 8) :
    Calls Try.prog 142 #[.slice A n c, .int .u64 v, .int .i64 s] w (NewB w 5 (bs ++ fixB v s)) := by
  have hl := Lib.hid hA.1
  go_enter Try.func142, Try.ntmps142
  go_upto_region 2 with ((at_make; refine wp_make (n + s) Try.underlying44 info_u8 rfl (by omega) (by omega) rfl rfl (by omega) (by omega) ?_; intro w1 r1 hB1))
  have hbs := hA.below hB1
  have g1 : (bs.map bv).length = Nat.min n (n + s) := by rw [List.length_map, ← hl.out]; exact (Nat.min_eq_left (by omega)).symm
  have g2 : CopyOk w1 (some ⟨w.heap.size, 0, none⟩) w.heap.size 0 A (bs.map bv) := fun h => ⟨rfl, hbs.src (by have := hl.out; simp at h; omega)⟩
  have g3 : 0 + (bs.map bv).length ≤ (List.replicate (n + s) (Value.int .u8 0)).length := by have := hl.out; simp; omega
  have G1 := Lib.hid g1
  clear g1
  go_upto_region 3 with ((with_reducible refine wp_row_copy (dCap := n + s) (sCap := c) r1 Try.underlying44 info_u8s G1.out g2 g3 (bv_one bs) ?_ ?_ ?_); rfl; rfl; intro w2 u2 r2)
  have hB2 := Upd.below hB1 u2 (Nat.le_refl _)
  have r2 : Row w2 w.heap.size 5 ((bs ++ (fixB v s).take 0 ++ List.replicate (s - 0) 0).map bv).toArray := by
    have e := hl.out
    subst e
    simpa [bv] using r2
  clear g2 g3 G1 u2 r1 hB1
  go_wp2
  go_loopw [8] (fun i wr => ∃ k : Nat, k ≤ s ∧ i = .int .i64 k ∧ Row wr w.heap.size 5 ((bs ++ (fixB v s).take k ++ List.replicate (s - k) 0).map bv).toArray ∧ Below w.heap.size w wr) (fun i _ => s - (intOf i).toNat)
  case atStart => exact ⟨0, by omega, rfl, r2, hB2⟩
  case round =>
    obtain ⟨k, hk, rfl, hr, hB⟩ := hrel
    by_cases hkt : k < s
    · have hc : Hid ((bs ++ (fixB v s).take k).length = n + k) := Lib.hid (by have := hl.out; simp [fixB_len]; omega)
      have hcell : wr.cell? ⟨w.heap.size, n + k, none⟩ = some (.int .u8 0) := by
        rw [hr.cell, ← hc.out, show s - k = (s - (k + 1)) + 1 by omega, List.replicate_succ]
        simp [bv]
      have hfz := hr.frozen (n + k)
      have HN : Hid (Row (wr.setCell ⟨w.heap.size, n + k, none⟩ (bv (UInt8.ofNat (v / 256 ^ k % 256)))) w.heap.size 5 ((bs ++ (fixB v s).take (k + 1) ++ List.replicate (s - (k + 1)) 0).map bv).toArray) := Lib.hid (by
        have h := hr.set (n + k) (bv (UInt8.ofNat (v / 256 ^ k % 256)))
        rw [← hc.out, show s - k = (s - (k + 1)) + 1 by omega, List.replicate_succ, bv_set] at h
        rw [fixB_take v s k hkt, ← hc.out]
        simpa using h)
      have HW : Hid (Value.int .u8 ((v : Int) / 2 ^ (8 * k) % 256) = bv (UInt8.ofNat (v / 256 ^ k % 256))) := Lib.hid (by
        rw [show ((2 : Int) ^ (8 * k)) = ((256 ^ k : Nat) : Int) by rw [pow_256r]; simp, ← bv_nat _ (Nat.mod_lt _ (by omega))]
        simp)
      clear r2 hB2
      go_upto_region 5 with (fail)
      rw [HW.out]
      go_wp2
      exact ⟨⟨k + 1, by omega, by go_num, HN.out, hB.setCell (Nat.le_refl _) _⟩, by simp [intOf]; omega⟩
    · obtain rfl : k = s := by omega
      have hk1 : (fixB v k).take k = fixB v k := List.take_of_length_le (by rw [fixB_len]; omega)
      rw [hk1, Nat.sub_self, List.replicate_zero, List.append_nil] at hr
      have hlen : n + k = (bs ++ fixB v k).length := by have := hl.out; simp [fixB_len]; omega
      have HL := Lib.hid hlen
      clear hk1 hlen
      go_wp2
      go_ret
      exact ⟨w.heap.size, n + k, Nat.le_refl _, HL.out, rfl, hr, hB⟩
theorem app16 (A : Option Addr) (n c : Nat) (bs : List UInt8) (v : Nat) (w : World) (hA : IsB w A n bs) (hn : n ≤ 1000000000) (hv : v < 65536) :
    Calls Try.prog 134 #[.slice A n c, .int .u16 v] w (NewB w 5 (bs ++ fixB v 2)) := by
  have hC := append_fixed A n c bs v 2 w hA hn (by omega) (by omega) (by omega)
  change Calls _ _ #[.slice A n c, .int .u64 v, .int .i64 2] _ _ at hC
  go_enter Try.func134, Try.ntmps134
  go_wp2_with (go_at_call 142; refine hC.mono ?_; rintro e w' ⟨g, m, hge, hm, rfl, hr, hb⟩)
  go_ret
  exact ⟨g, m, hge, hm, rfl, hr, hb⟩
theorem app32 (A : Option Addr) (n c : Nat) (bs : List UInt8) (v : Nat) (w : World) (hA : IsB w A n bs) (hn : n ≤ 1000000000) (hv : v < 4294967296) :
    Calls Try.prog 138 #[.slice A n c, .int .u32 v] w (NewB w 5 (bs ++ fixB v 4)) := by
  have hC := append_fixed A n c bs v 4 w hA hn (by omega) (by omega) (by omega)
  change Calls _ _ #[.slice A n c, .int .u64 v, .int .i64 4] _ _ at hC
  go_enter Try.func138, Try.ntmps138
  go_wp2_with (go_at_call 142; refine hC.mono ?_; rintro e w' ⟨g, m, hge, hm, rfl, hr, hb⟩)
  go_ret
  exact ⟨g, m, hge, hm, rfl, hr, hb⟩
end
end Go.Proofs.Ythjkhambmgepdaa
