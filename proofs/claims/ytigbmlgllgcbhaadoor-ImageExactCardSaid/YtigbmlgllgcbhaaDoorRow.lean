/- Own laws for whole rows: a struct or an array that fills a block, loaded, stored, copied into; a slice of bytes that reads as a list. -/
import Derived.Test.YtigbmlgllgcbhaaDoorMem
import Derived.Deep.MidRow
import Derived.Laws.CopyOwn
namespace Go.Proofs.YtigbmlgllgcbhaaDoor
set_option linter.unusedVariables false
open Go.RowKit

/-- w' is w but for block g. -/
structure Upd (w w' : World) (g : Nat) : Prop where
  os : w'.os = w.os
  tape : w'.tape = w.tape
  output : w'.output = w.output
  size : w'.heap.size = w.heap.size
  block : ∀ k, k ≠ g → w'.heap[k]? = w.heap[k]?
theorem Upd.refl (w : World) (g : Nat) : Upd w w g := ⟨rfl, rfl, rfl, rfl, fun _ _ => rfl⟩
theorem Upd.trans {a b c : World} {g : Nat} (h : Upd a b g) (k : Upd b c g) : Upd a c g :=
  ⟨k.os.trans h.os, k.tape.trans h.tape, k.output.trans h.output, k.size.trans h.size, fun j hj => (k.block j hj).trans (h.block j hj)⟩
theorem Upd.setCell (w : World) (g i : Nat) (u : Value) : Upd w (w.setCell ⟨g, i, none⟩ u) g :=
  ⟨rfl, rfl, rfl, by simp [World.setCell], fun k hk => Below.heap_setCell _ _ _ _ hk⟩
theorem Upd.setCells (g : Nat) : ∀ (l : List Value) (w : World) (o : Nat), Upd w (w.setCells g o l) g
  | [], w, o => Upd.refl w g
  | v :: r, w, o => (Upd.setCell w g o v).trans (Upd.setCells g r _ _)
theorem Upd.below {B : Nat} {a w w' : World} {g : Nat} (hb : Below B a w) (h : Upd w w' g) (hg : B ≤ g) : Below B a w' :=
  hb.trans ⟨h.os, h.tape, h.output, Nat.le_of_eq h.size.symm, fun k hk => h.block k (by omega)⟩
theorem Row.upd {w w' : World} {g k : Nat} {t : TypeId} {cs : Array Value} (h : Row w k t cs) (u : Upd w w' g) (hne : k ≠ g) : Row w' k t cs := (u.block k hne).trans h
theorem Row.range {w : World} {g : Nat} {t : TypeId} {cs : Array Value} (h : Row w g t cs) : w.rangeAt g 0 cs.toList := by
  intro j v hv
  rw [Nat.zero_add, h.cell j]
  simpa using hv
theorem Row.there {w : World} {g : Nat} {t : TypeId} {cs : Array Value} (h : Row w g t cs) (n : Nat) (hn : n ≤ cs.size) : w.there g 0 n := by
  intro j hj
  rw [Nat.zero_add]
  refine ⟨?_, h.frozen j⟩
  rw [h.cell j]
  simp; omega
theorem Row.setCells {g : Nat} {t : TypeId} : ∀ (l : List Value) (w : World) (pre post cs : List Value), Row w g t (pre ++ cs ++ post).toArray → cs.length = l.length →
    Row (w.setCells g pre.length l) g t (pre ++ l ++ post).toArray
  | [], w, pre, post, cs, h, hl => by
    obtain rfl : cs = [] := List.eq_nil_of_length_eq_zero (by simpa using hl)
    exact h
  | v :: r, w, pre, post, c :: cs, h, hl => by
    have h1 := h.set pre.length v
    have e : ((pre ++ c :: cs ++ post).toArray.setIfInBounds pre.length v) = ((pre ++ [v]) ++ cs ++ post).toArray := by
      simp [List.setIfInBounds_toArray]
    rw [e] at h1
    have h2 := Row.setCells (g := g) (t := t) r _ (pre ++ [v]) post cs h1 (by simpa using hl)
    simp only [List.length_append, List.length_cons, List.length_nil, List.append_assoc, List.cons_append, List.nil_append] at h2 ⊢
    exact h2
/-- Where 'copy' finds its cells, and where they go: asked only if there are some. -/
def CopyOk (w : World) (dp : Option Addr) (g off : Nat) (sp : Option Addr) (cs : List Value) : Prop :=
  0 < cs.length → dp = some ⟨g, off, none⟩ ∧ ∃ ad, sp = some ad ∧ ∀ j v, cs[j]? = some v → w.cell? (ad.add j) = some v
section
variable {P : Program} {ops : Array Oper} {rest : List Oper} {Q : Exit → Act → World → Prop} {a : Act} {w : World} {dst : Option Tmp} {typ : TypeId} {pos : String} {after : Array Edge}
/-- A struct or array that fills a block, loaded whole. -/
theorem wp_row_load {ty : TypeId} {x : Operand} {g : Nat} {t : TypeId} {cs : Array Value} {d : TypeDesc} (hrow : Row w g t cs) (hu : P.underlying ty = some d) (hd : d.isRow = true)
    (hi : (P.info? ty).map (·.size) = some cs.size) (hx : a.eval x = .pointer (some ⟨g, 0, none⟩)) (h : wpList P ops Q rest (a.put dst (.agg cs)) w) :
    wpList P ops Q ({ dst := dst, op := .load ty x, type := typ, pos := pos, after := after, guard := none } :: rest) a w := by
  refine wpList_load_mid (op := { dst := dst, op := .load ty x, type := typ, pos := pos, after := after, guard := none }) rfl ty x rfl g 0 hx cs.toList d hrow.range hu hd (by simpa using hi) ?_
  simpa using h
/-- .. stored whole. -/
theorem wp_row_store {ty : TypeId} {x y : Operand} {g : Nat} {t : TypeId} {cs L : Array Value} (hrow : Row w g t cs) (hs : cs.size = L.size)
    (hi : (P.info? ty).map (·.size) = some L.size) (h1 : L.all (·.oneCell') = true) (hx : a.eval x = .pointer (some ⟨g, 0, none⟩)) (hy : a.eval y = .agg L)
    (h : ∀ w', Upd w w' g → Row w' g t L → wpList P ops Q rest (a.put none undef) w') :
    wpList P ops Q ({ dst := none, op := .store ty x y, type := typ, pos := pos, after := after, guard := none } :: rest) a w := by
  refine wpList_store_mid (op := { dst := none, op := .store ty x y, type := typ, pos := pos, after := after, guard := none }) rfl ty x y rfl g 0 L hx hy (hrow.there _ (by omega)) hi h1 ?_
  have hr : Row w g t ([] ++ cs.toList ++ []).toArray := by simpa using hrow
  have h2 := Row.setCells (g := g) (t := t) L.toList w [] [] cs.toList hr (by simpa using hs)
  exact h _ (Upd.setCells g _ w 0) (by simpa using h2)
/-- 'copy' into the middle of a block, out of any slice of one-cell elements. -/
theorem wp_row_copy {d s : Operand} {dT sT elem : TypeId} {dp sp : Option Addr} {dLen dCap sLen sCap g off : Nat} {t : TypeId} {cur cs : List Value} (hrow : Row w g t cur.toArray)
    (hu : P.underlying dT = some (.slice elem)) (hsz : (P.info? elem).map (·.size) = some 1) (hn : cs.length = Nat.min sLen dLen)
    (hpos : CopyOk w dp g off sp cs) (hfit : off + cs.length ≤ cur.length) (h1 : ∀ v ∈ cs, v.oneCell' = true) (hd : a.eval d = .slice dp dLen dCap) (hs : a.eval s = .slice sp sLen sCap)
    (h : ∀ w', Upd w w' g → Row w' g t (cur.take off ++ (cs ++ cur.drop (off + cs.length))).toArray → wpList P ops Q rest (a.put dst (goInt cs.length)) w') :
    wpList P ops Q ({ dst := dst, op := .call { callee := .builtin .copy, args := #[d, s], argTypes := #[dT, sT] }, type := typ, pos := pos, after := after, guard := none } :: rest) a w := by
  by_cases h0 : cs.length = 0
  · obtain rfl : cs = [] := List.eq_nil_of_length_eq_zero h0
    refine wpList_copy_nothing (o := { dst := dst, op := .call { callee := .builtin .copy, args := #[d, s], argTypes := #[dT, sT] }, type := typ, pos := pos, after := after, guard := none }) rfl d s dT sT rfl elem hu hsz dp sp dLen dCap sLen sCap hd hs (by simpa using hn.symm) ?_
    exact h w (Upd.refl w g) (by simpa using hrow)
  · obtain ⟨rfl, ad, rfl, hsrc⟩ := hpos (by omega)
    refine wpList_copy_own (o := { dst := dst, op := .call { callee := .builtin .copy, args := #[d, s], argTypes := #[dT, sT] }, type := typ, pos := pos, after := after, guard := none }) rfl d s dT sT rfl elem hu hsz g off dLen dCap ad sLen sCap hd hs cur.toArray t hrow cs hn hsrc (by simpa using hfit) h1 ?_
    refine h _ ⟨rfl, rfl, rfl, by simp [World.setRow], fun k hk => setRow_other w g k _ hk⟩ ?_
    exact setRow_heap w g _ _ t _ hrow
end

/-- The slice at A of n elements reads in w as the bytes bs. -/
def IsB (w : World) (A : Option Addr) (n : Nat) (bs : List UInt8) : Prop :=
  n = bs.length ∧ (0 < n → ∃ b o, A = some ⟨b, o, none⟩ ∧ ∀ i (h : i < bs.length), w.cell? ⟨b, o + i, none⟩ = some (.int .u8 (bs[i].toNat : Int)))
theorem IsB.nil (w : World) (A : Option Addr) : IsB w A 0 [] := ⟨rfl, fun h => absurd h (by omega)⟩
theorem IsB.below {w w' : World} {A : Option Addr} {n : Nat} {bs : List UInt8} (h : IsB w A n bs) (hb : Below w.heap.size w w') : IsB w' A n bs := by
  refine ⟨h.1, fun hn => ?_⟩
  obtain ⟨b, o, e, hc⟩ := h.2 hn
  exact ⟨b, o, e, fun i hi => (hb.cell (p := ⟨b, o + i, none⟩) (block_lt_of_cell (hc i hi))).trans (hc i hi)⟩
theorem IsB.at_ {w : World} {A : Option Addr} {n : Nat} {bs : List UInt8} (h : IsB w A n bs) (hn : 0 < n) :
    ∃ b o, A = some ⟨b, o, none⟩ ∧ b < w.heap.size ∧ ∀ i (h : i < bs.length), w.cell? ⟨b, o + i, none⟩ = some (.int .u8 (bs[i].toNat : Int)) := by
  obtain ⟨b, o, e, hc⟩ := h.2 hn
  exact ⟨b, o, e, block_lt_of_cell (hc 0 (by have := h.1; omega)), hc⟩
def bv (x : UInt8) : Value := .int .u8 (x.toNat : Int)
theorem IsB.src {w : World} {A : Option Addr} {n : Nat} {bs : List UInt8} (h : IsB w A n bs) (hn : 0 < n) : ∃ ad, A = some ad ∧ ∀ j v, (bs.map bv)[j]? = some v → w.cell? (ad.add j) = some v := by
  obtain ⟨b, o, e, hc⟩ := h.2 hn
  refine ⟨⟨b, o, none⟩, e, fun j v hv => ?_⟩
  obtain ⟨hj, hv'⟩ := List.getElem?_eq_some_iff.1 hv
  simp only [List.length_map] at hj
  rw [Addr.add_mid, hc j hj, ← hv']
  simp [bv]
theorem bv_one (l : List UInt8) : ∀ v ∈ l.map bv, v.oneCell' = true := by
  intro v hv
  obtain ⟨x, _, rfl⟩ := List.mem_map.1 hv
  rfl
/-- A row of bytes that fills a block, read as a slice of it. -/
theorem IsB.of_row {w : World} {g : Nat} {t : TypeId} {bs : List UInt8} (h : Row w g t (bs.map bv).toArray) : IsB w (some ⟨g, 0, none⟩) bs.length bs := by
  refine ⟨rfl, fun _ => ⟨g, 0, rfl, fun i hi => ?_⟩⟩
  rw [Nat.zero_add, h.cell i]
  simp [hi, bv]
end Go.Proofs.YtigbmlgllgcbhaaDoor
