/- RingOrder: what is known of a Pair in memory, and the plain laws on it. -/
import Derived.Test.YthjkhambmgepdaaOrd1
namespace Go.Proofs.Ythjkhambmgepdaa
open Go.RowKit
set_option linter.unusedVariables false
/-- The line number j, with the byte x. -/
def ordL (N j : Nat) (x : UInt8) : Array Value := LV 1 (ep N j) false ((1 : Nat) : Int) 0 ([x] ++ z56.drop 1)
def linesOf (N : Nat) (bs : List UInt8) : List (List Value) := (List.range bs.length).map fun j => (ordL N j (bs.getD j 0)).toList
def slotsOf (N m : Nat) : List Value := (List.range m).map fun j => .int .i64 ((j % N : Nat) : Int)
theorem ordL_size (N j : Nat) (x : UInt8) : (ordL N j x).size = 61 := LV_size _ _ _ _ _ (len_pay rfl (by omega))
theorem linesOf_len (N : Nat) (bs : List UInt8) : (linesOf N bs).length = bs.length := by simp [linesOf]
theorem linesOf_61 (N : Nat) (bs : List UInt8) : ∀ l ∈ linesOf N bs, l.length = 61 := by
  intro l hl
  obtain ⟨j, _, rfl⟩ := List.mem_map.1 hl
  have := ordL_size N j (bs.getD j 0)
  simpa using this
theorem linesOf_snoc (N : Nat) (bs : List UInt8) (x : UInt8) : linesOf N (bs ++ [x]) = linesOf N bs ++ [(ordL N bs.length x).toList] := by
  unfold linesOf
  rw [List.length_append, List.length_singleton, List.range_succ, List.map_append]
  congr 1
  · apply List.map_congr_left
    intro j hj
    have hj := List.mem_range.1 hj
    simp [List.getD_eq_getElem?_getD, List.getElem?_append_left hj]
  · simp
theorem slotsOf_snoc (N m : Nat) : slotsOf N (m + 1) = slotsOf N m ++ [.int .i64 ((m % N : Nat) : Int)] := by simp [slotsOf, List.range_succ]
/-- The cells of a Pair. -/
def PC (N m a g t gm : Nat) (SL SI SB ST : Value) : Array Value :=
  #[.int .i64 N, .int .i64 N, .int .u64 m, .int .u64 a, .int .i64 N, .int .u64 g, .slice (some ⟨gm, 0, none⟩) N N, SL, SI, .int .i64 t, SB, ST]
structure St where
  (N m a g t : Nat)
  (bs : List UInt8)
  (ls : List (List Value))
  (AL AI AB AT : Option Addr)
  (cL cI cB cT : Nat)
def St.SL (s : St) : Value := .slice s.AL s.m s.cL
def St.SI (s : St) : Value := .slice s.AI s.m s.cI
def St.SB (s : St) : Value := .slice s.AB s.m s.cB
def St.ST (s : St) : Value := .slice s.AT s.g s.cT
/-- Two slices that lie in different blocks, or of which one has none. -/
def Far (x y : Option Nat) : Prop := ∀ k, x = some k → y ≠ some k
theorem Far.symm {x y : Option Nat} (h : Far x y) : Far y x := fun k hy hx => h k hx hy
theorem Far.or {x y : Option Nat} (h : Far x y) : x = none ∨ x ≠ y := by
  cases x with
  | none => exact .inl rfl
  | some k => exact .inr fun e => h k rfl e.symm
/-- Plain facts on the counters. -/
structure Cnt (s : St) : Prop where
  vl : vl s.N = true
  n0 : 2 ≤ s.N
  n1 : s.N ≤ 64
  len : s.ls.length = s.N
  hm : s.bs.length = s.m
  ag : s.a ≤ s.g
  gt : s.g ≤ s.t
  tm : s.t ≤ s.m
  ma : s.m ≤ s.a + s.N
  m6 : s.m ≤ 600
  stored : ∀ j, j < s.t → s.t ≤ j + s.N → s.ls[j % s.N]? = some (ordL s.N j (s.bs.getD j 0)).toList
  fresh : ∀ k, s.t ≤ k → k < s.N → s.ls[k]? = some ZL.toList
structure Inv (gp gm : Nat) (s : St) (w : World) : Prop where
  cnt : Cnt s
  pair : Row w gp 54 (PC s.N s.m s.a s.g s.t gm s.SL s.SI s.SB s.ST)
  mem : MemL w gm 40 s.ls
  lines : OwnR w (gp + 1) 40 61 s.AL s.m s.cL (flat (linesOf s.N s.bs))
  slots : OwnR w (gp + 1) 3 1 s.AI s.m s.cI (slotsOf s.N s.m)
  sent : OwnR w (gp + 1) 5 1 s.AB s.m s.cB (s.bs.map bv)
  got : OwnR w (gp + 1) 5 1 s.AT s.g s.cT ((s.bs.take s.g).map bv)
  f12 : Far s.SL.ownBlock s.SI.ownBlock
  f13 : Far s.SL.ownBlock s.SB.ownBlock
  f14 : Far s.SL.ownBlock s.ST.ownBlock
  f23 : Far s.SI.ownBlock s.SB.ownBlock
  f24 : Far s.SI.ownBlock s.ST.ownBlock
  f34 : Far s.SB.ownBlock s.ST.ownBlock
  gmp : gm < gp
theorem Inv.below {gp gm : Nat} {s : St} {w w' : World} (h : Inv gp gm s w) (hb : Below w.heap.size w w') : Inv gp gm s w' :=
  { cnt := h.cnt, pair := h.pair.below hb h.pair.lt, mem := h.mem.below hb h.mem.lt, lines := h.lines.below hb, slots := h.slots.below hb, sent := h.sent.below hb, got := h.got.below hb,
    f12 := h.f12, f13 := h.f13, f14 := h.f14, f23 := h.f23, f24 := h.f24, f34 := h.f34, gmp := h.gmp }
theorem mod_far {N i j : Nat} (hij : i < j) (hN : j < i + N) : i % N ≠ j % N := by
  intro h
  have h1 := Nat.sub_mod_eq_zero_of_mod_eq h.symm
  rw [Nat.mod_eq_of_lt (by omega)] at h1
  omega
/-- The receiver's next line lies at its place. -/
theorem Cnt.here {s : St} (h : Cnt s) (hg : s.g < s.t) : s.ls[s.g % s.N]? = some (ordL s.N s.g (s.bs.getD s.g 0)).toList := h.stored s.g hg (by have := h.ag; have := h.tm; have := h.ma; omega)
/-- .. or is not there yet: the line at its place is of the other epoch, or none. -/
theorem Cnt.away {s : St} (h : Cnt s) (hg : s.g = s.t) : s.ls[s.g % s.N]? = some ZL.toList ∨ ∃ x, s.ls[s.g % s.N]? = some (ordL s.N (s.g - s.N) x).toList ∧ s.N ≤ s.g := by
  have h0 := h.n0
  rcases Nat.lt_or_ge s.g s.N with h1 | h1
  · rw [Nat.mod_eq_of_lt h1]
    exact .inl (h.fresh s.g (by omega) h1)
  · have h2 := h.stored (s.g - s.N) (by omega) (by omega)
    have e : (s.g - s.N) % s.N = s.g % s.N := by rw [← Nat.mod_eq_sub_mod h1]
    rw [e] at h2
    exact .inr ⟨_, h2, h1⟩
end Go.Proofs.Ythjkhambmgepdaa
