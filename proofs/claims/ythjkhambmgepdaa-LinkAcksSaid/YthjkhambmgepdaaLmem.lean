/- A memory of lines: a block that holds lines of 61 cells one behind the other; loaded, stored, changed in one cell. -/
import Derived.Test.YthjkhambmgepdaaLine
import Derived.Laws.MakeOwn
import Derived.Deep.OwnRows
namespace Go.Proofs.Ythjkhambmgepdaa
open Go.RowKit
set_option linter.unusedVariables false
def flat (ls : List (List Value)) : List Value := ls.flatMap id
theorem flat_len : ∀ (ls : List (List Value)), (∀ l ∈ ls, l.length = 61) → (flat ls).length = 61 * ls.length
  | [], _ => rfl
  | l :: r, h => by
    have h1 := flat_len r fun x hx => h x (by simp [hx])
    have h2 := h l (by simp)
    have e : flat (l :: r) = l ++ flat r := by simp [flat]
    rw [e, List.length_append, h1, h2, List.length_cons]
    omega
theorem flat_append (a b : List (List Value)) : flat (a ++ b) = flat a ++ flat b := by simp [flat]
theorem flat_split (ls : List (List Value)) (i : Nat) (h : i < ls.length) : flat ls = flat (ls.take i) ++ ls[i] ++ flat (ls.drop (i + 1)) := by
  have e : flat (ls[i] :: ls.drop (i + 1)) = ls[i] ++ flat (ls.drop (i + 1)) := List.flatMap_cons
  rw [List.append_assoc, ← e, ← List.drop_eq_getElem_cons h, ← flat_append, List.take_append_drop]
theorem flat_set (ls : List (List Value)) (i : Nat) (h : i < ls.length) (L : List Value) : flat (ls.set i L) = flat (ls.take i) ++ L ++ flat (ls.drop (i + 1)) := by
  rw [List.set_eq_take_append_cons_drop, if_pos h]
  simp [flat]
/-- Block g holds the lines ls. -/
def MemL (w : World) (g : Nat) (t : TypeId) (ls : List (List Value)) : Prop := Row w g t (flat ls).toArray ∧ ∀ l ∈ ls, l.length = 61
theorem MemL.lt {w : World} {g : Nat} {t : TypeId} {ls : List (List Value)} (h : MemL w g t ls) : g < w.heap.size := h.1.lt
theorem MemL.below {w w' : World} {g B : Nat} {t : TypeId} {ls : List (List Value)} (h : MemL w g t ls) (hb : Below B w w') (hg : g < B) : MemL w' g t ls := ⟨h.1.below hb hg, h.2⟩
theorem MemL.upd {w w' : World} {g k : Nat} {t : TypeId} {ls : List (List Value)} (h : MemL w k t ls) (u : Upd w w' g) (hne : k ≠ g) : MemL w' k t ls := ⟨h.1.upd u hne, h.2⟩
theorem MemL.alloc {w : World} {g : Nat} {t : TypeId} {ls : List (List Value)} (h : MemL w g t ls) (o : Obj) : MemL (w.alloc o) g t ls := ⟨h.1.alloc o, h.2⟩
theorem MemL.other {w : World} {g : Nat} {t : TypeId} {ls : List (List Value)} (h : MemL w g t ls) {p : Addr} (hp : g ≠ p.block) (u : Value) : MemL (w.setCell p u) g t ls := ⟨h.1.other hp u, h.2⟩
theorem MemL.take_len {w : World} {g : Nat} {t : TypeId} {ls : List (List Value)} (h : MemL w g t ls) (i : Nat) (hi : i < ls.length) : (flat (ls.take i)).length = 61 * i := by
  rw [flat_len _ fun l hl => h.2 l (List.mem_of_mem_take hl), List.length_take, Nat.min_eq_left (by omega)]
theorem MemL.cell {w : World} {g : Nat} {t : TypeId} {ls : List (List Value)} (h : MemL w g t ls) (i : Nat) (hi : i < ls.length) (c : Nat) (hc : c < 61) : w.cell? ⟨g, 61 * i + c, none⟩ = (ls[i])[c]? := by
  have hl := h.2 ls[i] (List.getElem_mem hi)
  rw [h.1.cell, flat_split ls i hi]
  simp only [List.getElem?_toArray]
  rw [List.getElem?_append_left (by rw [List.length_append, h.take_len i hi]; omega), List.getElem?_append_right (by rw [h.take_len i hi]; omega), h.take_len i hi]
  congr 1
  omega
theorem MemL.frozen {w : World} {g : Nat} {t : TypeId} {ls : List (List Value)} (h : MemL w g t ls) (i : Nat) : w.frozen? ⟨g, i, none⟩ = false := h.1.frozen i
theorem MemL.range {w : World} {g : Nat} {t : TypeId} {ls : List (List Value)} (h : MemL w g t ls) (i : Nat) (hi : i < ls.length) : w.rangeAt g (61 * i) ls[i] := by
  intro j v hv
  have hj : j < 61 := by
    have := (List.getElem?_eq_some_iff.1 hv).1
    rw [h.2 ls[i] (List.getElem_mem hi)] at this
    exact this
  rw [h.cell i hi j hj]
  exact hv
theorem MemL.there {w : World} {g : Nat} {t : TypeId} {ls : List (List Value)} (h : MemL w g t ls) (i : Nat) (hi : i < ls.length) : w.there g (61 * i) 61 := by
  intro j hj
  refine ⟨?_, h.frozen _⟩
  rw [h.cell i hi j hj]
  have := h.2 ls[i] (List.getElem_mem hi)
  simp; omega
theorem MemL.setLine {w : World} {g : Nat} {t : TypeId} {ls : List (List Value)} (h : MemL w g t ls) (i : Nat) (hi : i < ls.length) (L : List Value) (hL : L.length = 61) : MemL (w.setCells g (61 * i) L) g t (ls.set i L) := by
  refine ⟨?_, fun l hl => ?_⟩
  · have h1 := h.1
    rw [flat_split ls i hi] at h1
    have h2 := Row.setCells (g := g) (t := t) L w (flat (ls.take i)) (flat (ls.drop (i + 1))) ls[i] h1 (by rw [hL, h.2 ls[i] (List.getElem_mem hi)])
    rw [h.take_len i hi] at h2
    rw [flat_set ls i hi L]
    exact h2
  · rcases List.mem_or_eq_of_mem_set hl with h1 | h1
    · exact h.2 l h1
    · rw [h1]; exact hL
theorem MemL.setCell {w : World} {g : Nat} {t : TypeId} {ls : List (List Value)} (h : MemL w g t ls) (i : Nat) (hi : i < ls.length) (c : Nat) (hc : c < 61) (u : Value) : MemL (w.setCell ⟨g, 61 * i + c, none⟩ u) g t (ls.set i (ls[i].set c u)) := by
  have hl := h.2 ls[i] (List.getElem_mem hi)
  refine ⟨?_, fun l hl' => ?_⟩
  · have h1 := h.1.set (61 * i + c) u
    rw [flat_split ls i hi] at h1
    rw [flat_set ls i hi]
    have e := h.take_len i hi
    rw [List.setIfInBounds_toArray, List.append_assoc, List.set_append_right _ _ (by omega), show 61 * i + c - (flat (ls.take i)).length = c by omega, List.set_append_left _ _ (by omega), ← List.append_assoc] at h1
    exact h1
  · rcases List.mem_or_eq_of_mem_set hl' with h1 | h1
    · exact h.2 l h1
    · rw [h1, List.length_set]; exact hl
theorem flat_replicate (l : List Value) (hl : l.length = 61) : ∀ (n j : Nat), j < 61 * n → (flat (List.replicate n l))[j]? = l[j % 61]?
  | 0, j, h => by omega
  | n + 1, j, h => by
    have e : flat (List.replicate (n + 1) l) = l ++ flat (List.replicate n l) := by simp [flat, List.replicate_succ]
    rw [e]
    rcases Nat.lt_or_ge j 61 with h1 | h1
    · rw [List.getElem?_append_left (by omega), Nat.mod_eq_of_lt h1]
    · rw [List.getElem?_append_right (by omega), hl, flat_replicate l hl n (j - 61) (by omega), Nat.mod_eq_sub_mod h1]
theorem made_flat (z : Array Value) (hz : z.size = 61) (n : Nat) : madeCells z (n * 61) = (flat (List.replicate n z.toList)).toArray := by
  have hl : z.toList.length = 61 := by simpa using hz
  have hsz : (flat (List.replicate n z.toList)).length = 61 * n := by
    rw [flat_len _ fun l h => by rw [(List.mem_replicate.1 h).2]; exact hl]
    simp
  apply Array.ext
  · simp [madeCells, hsz]; omega
  · intro j h1 h2
    have hj : j < 61 * n := by simp [madeCells] at h1; omega
    have h3 := flat_replicate z.toList hl n j hj
    have h4 : j % 61 < z.size := by rw [hz]; exact Nat.mod_lt _ (by omega)
    simp only [madeCells, Array.getElem_map, Array.getElem_range, hz, List.getElem_toArray]
    have h5 : (flat (List.replicate n z.toList))[j]? = some ((flat (List.replicate n z.toList))[j]'(by omega)) := by simp
    rw [h3] at h5
    have h6 : z.toList[j % 61]? = some z[j % 61] := by simp [h4]
    rw [h6] at h5
    rw [getElem!_pos z (j % 61) h4]
    exact Option.some.inj h5
section
variable {P : Program} {ops : Array Oper} {rest : List Oper} {Q : Exit → Act → World → Prop} {a : Act} {w : World} {dst : Option Tmp} {typ : TypeId} {pos : String} {after : Array Edge}
/-- A new memory of n lines, all alike. -/
theorem wp_make_lines {t e : TypeId} {zv : Value} {bytes : Nat} {l c : Operand} {kl kc : IntKind} {L C : Int} (n : Nat) (z : Array Value) (hz : z.size = 61) (ht : P.underlying t = some (.slice e))
    (hinfo : (P.info? e).map (fun i => (i.zero, i.size, i.bytes)) = some (some zv, 61, bytes)) (hz1 : zv.cells = z) (hb : bytes * n ≤ 281474976710656) (h63 : n ≤ 9223372036854775807)
    (hl : a.eval l = .int kl L) (hc : a.eval c = .int kc C) (hL : L = (n : Int)) (hC : C = (n : Int))
    (h : ∀ w', MemL w' w.heap.size e (List.replicate n z.toList) → Below w.heap.size w w' → wpList P ops Q rest (a.put dst (.slice (some ⟨w.heap.size, 0, none⟩) n n)) w') :
    wpList P ops Q ({ dst := dst, op := .makeSlice t l c, type := typ, pos := pos, after := after, guard := none } :: rest) a w := by
  subst hL
  subst hC
  obtain ⟨i, hi, hzz⟩ := Option.map_eq_some_iff.1 hinfo
  simp only [Prod.mk.injEq] at hzz
  obtain ⟨hz0, hz2, hz3⟩ := hzz
  refine wpList_plain rfl fun K hK => ?_
  have hb' : (i.bytes : Int) * (n : Int) ≤ 281474976710656 := by
    have h : ((i.bytes * n : Nat) : Int) ≤ 281474976710656 := by rw [hz3]; omega
    rwa [Int.natCast_mul] at h
  have hrun := run_make (P := P) w t e i zv ht hi hz0 kl kc n n (by omega) (Int.le_refl _) hb' (by omega)
  simp only [Int.toNat_natCast, hz2, hz1] at hrun
  rw [made_flat z hz n] at hrun
  unfold Oper.wp
  simp [execOp, hl, hc, hrun, Result.andThen]
  refine hK _ _ (h _ ⟨Row.born _ _ _, fun l hl => ?_⟩ ((Below.refl _ _).alloc (Nat.le_refl _) _))
  rw [(List.mem_replicate.1 hl).2]
  simpa using hz
/-- A line of the memory, loaded whole. -/
theorem wp_mem_load {ty : TypeId} {x : Operand} {g i off : Nat} {t : TypeId} {ls : List (List Value)} {L : Array Value} {d : TypeDesc} (hm : MemL w g t ls) (hi : ls[i]? = some L.toList) (ho : off = 61 * i) (hu : P.underlying ty = some d) (hd : d.isRow = true)
    (hn : (P.info? ty).map (·.size) = some 61) (hx : a.eval x = .pointer (some ⟨g, off, none⟩)) (h : wpList P ops Q rest (a.put dst (.agg L)) w) :
    wpList P ops Q ({ dst := dst, op := .load ty x, type := typ, pos := pos, after := after, guard := none } :: rest) a w := by
  subst ho
  obtain ⟨hlt, he⟩ := List.getElem?_eq_some_iff.1 hi
  have h1 := hm.range i hlt
  have h2 := hm.2 ls[i] (List.getElem_mem hlt)
  rw [he] at h1 h2
  exact wpList_load_mid (op := { dst := dst, op := .load ty x, type := typ, pos := pos, after := after, guard := none }) rfl ty x rfl g (61 * i) hx L.toList d h1 hu hd (by rw [h2]; exact hn) (by simpa using h)
/-- .. stored whole. -/
theorem wp_mem_store {ty : TypeId} {x y : Operand} {g i off : Nat} {t : TypeId} {ls : List (List Value)} {L : Array Value} (hm : MemL w g t ls) (hi : i < ls.length) (ho : off = 61 * i) (hs : L.size = 61)
    (hn : (P.info? ty).map (·.size) = some 61) (h1 : L.all (·.oneCell') = true) (hx : a.eval x = .pointer (some ⟨g, off, none⟩)) (hy : a.eval y = .agg L)
    (h : ∀ w', Upd w w' g → MemL w' g t (ls.set i L.toList) → wpList P ops Q rest (a.put none undef) w') :
    wpList P ops Q ({ dst := none, op := .store ty x y, type := typ, pos := pos, after := after, guard := none } :: rest) a w := by
  subst ho
  refine wpList_store_mid (op := { dst := none, op := .store ty x y, type := typ, pos := pos, after := after, guard := none }) rfl ty x y rfl g (61 * i) L hx hy (by rw [hs]; exact hm.there i hi) (by rw [hs]; exact hn) h1 ?_
  exact h _ (Upd.setCells g _ w _) (hm.setLine i hi L.toList (by simpa using hs))
end
end Go.Proofs.Ythjkhambmgepdaa
