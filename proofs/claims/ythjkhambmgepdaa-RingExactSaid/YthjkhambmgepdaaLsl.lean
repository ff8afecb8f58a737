/- Slices of lines: read, loaded, copied; how one that came in is opened. -/
import Derived.Test.YthjkhambmgepdaaOpl
import Derived.Test.YthjkhambmgepdaaLmem
namespace Go.Proofs.Ythjkhambmgepdaa
open Go.RowKit Go.Deep Go.ChangeShapes Go.WideShapes
set_option linter.unusedVariables false
/-- A line. -/
structure Ln where
  (k : Int) (e f : Bool) (n a : Int) (p : List UInt8)
instance : Inhabited Ln := ⟨⟨0, false, false, 0, 0, z56⟩⟩
def Ln.v (l : Ln) : Array Value := LV l.k l.e l.f l.n l.a l.p
def Ln.ok (l : Ln) : Prop := l.p.length = 56 ∧ 0 ≤ l.a ∧ l.a < 65536
theorem Ln.size {l : Ln} (h : l.ok) : l.v.toList.length = 61 := by have := LV_size l.k l.e l.f l.n l.a h.1; simpa [Ln.v] using this
/-- The slice at A of n lines reads in w as ls. -/
def IsLs (w : World) (A : Option Addr) (n : Nat) (ls : List Ln) : Prop :=
  n = ls.length ∧ (∀ l ∈ ls, l.ok) ∧ (0 < n → ∃ b o, A = some ⟨b, o, none⟩ ∧ ∀ i (h : i < ls.length), ∀ j v, ls[i].v.toList[j]? = some v → w.cell? ⟨b, o + i * 61 + j, none⟩ = some v)
theorem IsLs.below {w w' : World} {A : Option Addr} {n : Nat} {ls : List Ln} (h : IsLs w A n ls) (hb : Below w.heap.size w w') : IsLs w' A n ls := by
  refine ⟨h.1, h.2.1, fun hn => ?_⟩
  obtain ⟨b, o, e, hc⟩ := h.2.2 hn
  exact ⟨b, o, e, fun i hi j v hv => (hb.cell (p := ⟨b, o + i * 61 + j, none⟩) (block_lt_of_cell (hc i hi j v hv))).trans (hc i hi j v hv)⟩
/-- Line i, as a range of cells. -/
theorem IsLs.at_ {w : World} {A : Option Addr} {n : Nat} {ls : List Ln} (h : IsLs w A n ls) (i : Nat) (hi : i < n) : ∃ b o l, A = some ⟨b, o, none⟩ ∧ ls[i]? = some l ∧ l.ok ∧ w.rangeAt b (o + i * 61) l.v.toList := by
  obtain ⟨hn, hk, hp⟩ := h
  obtain ⟨b, o, e, hc⟩ := hp (by omega)
  have hl : i < ls.length := by omega
  exact ⟨b, o, ls[i], e, List.getElem?_eq_getElem hl, hk _ (List.getElem_mem hl), fun j v hv => hc i hl j v hv⟩
def lsC (ls : List Ln) : List Value := ls.flatMap fun l => l.v.toList
theorem lsC_len : ∀ ls : List Ln, (∀ l ∈ ls, l.ok) → (lsC ls).length = ls.length * 61
  | [], _ => rfl
  | m :: r, hk => by
    have h := lsC_len r fun l hl => hk l (List.mem_cons_of_mem _ hl)
    have e : lsC (m :: r) = m.v.toList ++ lsC r := rfl
    rw [e, List.length_append, h, Ln.size (hk m (List.mem_cons_self ..)), List.length_cons]
    omega
theorem lsC_at : ∀ (ls : List Ln) (_ : ∀ l ∈ ls, l.ok) (i j : Nat) (hi : i < ls.length), j < 61 → (lsC ls)[i * 61 + j]? = ls[i].v.toList[j]?
  | m :: r, hk, 0, j, hi, hj => by
    have e : lsC (m :: r) = m.v.toList ++ lsC r := rfl
    rw [e, List.getElem?_append_left (by rw [Ln.size (hk m (List.mem_cons_self ..))]; omega)]
    simp
  | m :: r, hk, i + 1, j, hi, hj => by
    have e : lsC (m :: r) = m.v.toList ++ lsC r := rfl
    have hm := Ln.size (hk m (List.mem_cons_self ..))
    rw [e, List.getElem?_append_right (by rw [hm]; omega), hm]
    have h := lsC_at r (fun l hl => hk l (List.mem_cons_of_mem _ hl)) i j (by simpa using hi) hj
    rw [show (i + 1) * 61 + j - 61 = i * 61 + j by omega, h]
    simp
theorem lsC_one (ls : List Ln) : ∀ u ∈ lsC ls, u.oneCell' = true := by
  intro u hu
  obtain ⟨m, _, hm⟩ := List.mem_flatMap.1 hu
  have h := LV_one m.k m.e m.f m.n m.a m.p
  rw [Array.all_eq_true'] at h
  exact h u (by simpa [Ln.v] using hm)
theorem IsLs.src {w : World} {A : Option Addr} {n : Nat} {ls : List Ln} (h : IsLs w A n ls) (hn : 0 < n) : ∃ ad, A = some ad ∧ ∀ j u, (lsC ls)[j]? = some u → w.cell? (ad.add j) = some u := by
  obtain ⟨b, o, e, hc⟩ := h.2.2 hn
  refine ⟨⟨b, o, none⟩, e, fun j u hu => ?_⟩
  have hj : j < ls.length * 61 := by
    have := (List.getElem?_eq_some_iff.1 hu).1
    rwa [lsC_len _ h.2.1] at this
  have hi : j / 61 < ls.length := by omega
  have h6 : j / 61 * 61 + j % 61 = j := by omega
  have h1 := lsC_at ls h.2.1 (j / 61) (j % 61) hi (by omega)
  rw [h6, hu] at h1
  rw [Addr.add_mid]
  have h2 := hc (j / 61) hi (j % 61) u h1.symm
  rwa [Nat.add_assoc, h6] at h2
theorem isLs_own {w : World} {base b : Nat} {e : TypeId} {n c : Nat} {ls : List Ln} (hk : ∀ l ∈ ls, l.ok) (h : w.ownsRow base e 61 (.slice (some ⟨b, 0, none⟩) n c) n (lsC ls)) : IsLs w (some ⟨b, 0, none⟩) n ls := by
  have hl : n = ls.length := by have := h.1; rw [lsC_len _ hk] at this; omega
  refine ⟨hl, hk, fun _ => ⟨b, 0, rfl, fun i hi j v hv => ?_⟩⟩
  have hj : j < 61 := by have := (List.getElem?_eq_some_iff.1 hv).1; rwa [Ln.size (hk _ (List.getElem_mem hi))] at this
  rw [Nat.zero_add, World.ownsRow.cellAt h (i * 61 + j) (by omega), lsC_at ls hk i j hi hj]
  exact hv
theorem isLs_at {w wx : World} {b : Nat} {n : Nat} {ls : List Ln} (h : IsLs w (some ⟨b, 0, none⟩) n ls) (hx : ∀ i, wx.cell? ⟨b, i, none⟩ = w.cell? ⟨b, i, none⟩) : IsLs wx (some ⟨b, 0, none⟩) n ls := by
  refine ⟨h.1, h.2.1, fun hn => ?_⟩
  obtain ⟨b', o, e, hc⟩ := h.2.2 hn
  injection e with e
  injection e with e1 e2 e3
  subst e1 e2
  exact ⟨b, 0, rfl, fun i hi j v hv => (hx _).trans (hc i hi j v hv)⟩
theorem info_ln : (Try.prog.info? 40).map (fun i => (i.zero, i.size, i.bytes)) = some (some (.agg ZL), 61, 88) := by kernel_rfl
theorem IsLs.keep {w wx : World} {A : Option Addr} {n : Nat} {ls : List Ln} {base : Nat} (h : IsLs w A n ls) (hA : ∀ b o, A = some ⟨b, o, none⟩ → 0 < n → base ≤ b) (hx : ∀ k, base ≤ k → wx.heap[k]? = w.heap[k]?) : IsLs wx A n ls := by
  refine ⟨h.1, h.2.1, fun hn => ?_⟩
  obtain ⟨b, o, e, hc⟩ := h.2.2 hn
  exact ⟨b, o, e, fun i hi j v hv => (World.cell?_of_block (w := w) (hx b (hA b o e hn))).trans (hc i hi j v hv)⟩
/-- A slice of lines appended to nil: the copy. -/
theorem run_copy_ls {P : Program} {w : World} {t e typ : TypeId} {zv : Value} {bytes n c : Nat} {B : Option Addr} {ls : List Ln} (ht : P.underlying t = some (.slice e)) (hinfo : (P.info? e).map (fun i => (i.zero, i.size, i.bytes)) = some (some zv, 61, bytes)) (hzs : zv.cells.size = 61) (hby : bytes ≤ 1000)
    (hB : IsLs w B n ls) (hn : n ≤ 1000) : ∃ A' c'' w', (Builtin.append_ #[t, t] typ #[.slice none 0 0, .slice B n c]).run P w = .ok (.slice A' n c'') w' ∧ IsLs w' A' n ls ∧ Below w.heap.size w w' := by
  obtain ⟨i, hi, hz⟩ := Option.map_eq_some_iff.1 hinfo
  simp only [Prod.mk.injEq] at hz
  obtain ⟨hz0, hz1, hz2⟩ := hz
  rcases Nat.eq_zero_or_pos n with h0 | h0
  · subst h0
    refine ⟨none, 0, w, ?_, ⟨hB.1, hB.2.1, fun h => absurd h (by omega)⟩, Below.refl _ _⟩
    cases B <;> simp [Builtin.append_, run_underlying ht, sizeOf, typeInfo, hi, Builtin.lenOf, Builtin.firstCells, loadCells, loadCellsFrom]
  · obtain ⟨ad, rfl, hsrc⟩ := hB.src h0
    obtain ⟨v', w', hr, h2, h3, h4, h5⟩ := run_append_own_at (P := P) w w.heap.size t typ e i zv 61 bytes ht hi hz0 hz1 hz2 hzs (by omega) (.slice none 0 0) 0 [] (World.ownsRow_nil w w.heap.size e 61) ad n c (lsC ls)
      (by rw [lsC_len _ hB.2.1, ← hB.1]) hsrc (lsC_one ls) (by simp only [maxLen]; omega) (by rw [Nat.zero_add]; exact Nat.le_trans (Nat.mul_le_mul hn hby) (by omega)) (Nat.le_refl _)
    rw [Nat.zero_add, List.nil_append] at h2
    rcases h2.2 with ⟨rfl, hn0⟩ | ⟨g, cap, cur, rfl, rest'⟩
    · omega
    · exact ⟨_, _, _, hr, isLs_own hB.2.1 h2, (Below.refl _ _).grown h3 (Nat.le_refl _) (fun k hk => by cases hk)⟩
section
variable {P : Program} {ops : Array Oper} {rest : List Oper} {Q : Exit → Act → World → Prop} {a : Act} {w : World} {dst : Option Tmp} {typ : TypeId} {pos : String} {after : Array Edge}
theorem wp_copy_ls {s x : Operand} {t e : TypeId} {zv : Value} {bytes n c : Nat} {B : Option Addr} {ls : List Ln} (ht : P.underlying t = some (.slice e)) (hinfo : (P.info? e).map (fun i => (i.zero, i.size, i.bytes)) = some (some zv, 61, bytes)) (hzs : zv.cells.size = 61) (hby : bytes ≤ 1000)
    (hB : IsLs w B n ls) (hn : n ≤ 1000) (hs : a.eval s = .slice none 0 0) (hx : a.eval x = .slice B n c)
    (h : ∀ A' c' w', IsLs w' A' n ls → Below w.heap.size w w' → wpList P ops Q rest (a.put dst (.slice A' n c')) w') :
    wpList P ops Q ({ dst := dst, op := .call { callee := .builtin .append, args := #[s, x], argTypes := #[t, t] }, type := typ, pos := pos, after := after, guard := none } :: rest) a w := by
  obtain ⟨A', c'', w', hr, h2, h3⟩ := run_copy_ls (P := P) (typ := typ) (c := c) ht hinfo hzs hby hB hn
  refine wpList_plain rfl fun K hK => ?_
  unfold Oper.wp execOp
  simp only [resolve, invoke, builtin, Sem.run_bind, Sem.run_pure, Result.andThen_ok, List.map_toArray, List.map_cons, List.map_nil, hs, hx, hr]
  exact hK _ _ (h _ _ _ h2 h3)
/-- Line i, loaded. -/
theorem wp_ls_load {ty : TypeId} {x : Operand} {b off : Nat} {l : Ln} {d : TypeDesc} (hr : w.rangeAt b off l.v.toList) (hk : l.ok) (hu : P.underlying ty = some d) (hd : d.isRow = true)
    (hn : (P.info? ty).map (·.size) = some 61) (hx : a.eval x = .pointer (some ⟨b, off, none⟩)) (h : wpList P ops Q rest (a.put dst (.agg l.v)) w) :
    wpList P ops Q ({ dst := dst, op := .load ty x, type := typ, pos := pos, after := after, guard := none } :: rest) a w :=
  wpList_load_mid (op := { dst := dst, op := .load ty x, type := typ, pos := pos, after := after, guard := none }) rfl ty x rfl b off hx l.v.toList d hr hu hd (by rw [Ln.size hk]; exact hn) (by simpa using h)
end
section
variable {H : Type} {enc : TypeId × Value → H} {W : World} {base : Nat} {spare : Nat → Bool} {held : Bool}
theorem open_lines {fuel : Nat} {v : Value} {x : DataW H × List MemPlace} (h : DataW.trod enc Try.prog W base spare held fuel 36 [v] = some x) : ∃ A n c ls, v = .slice A n c ∧ IsLs W A n ls := by
  rcases open_slice Try.underlying36 h with ⟨hcs, _⟩ | ⟨a, len, cap, m, n, D, Pl, hcs, _, hl, hm, hmm, _, hall⟩
  · simp only [List.cons.injEq, and_true] at hcs
    exact ⟨none, 0, 0, [], hcs, rfl, (fun l hl => by cases hl), fun h => absurd h (by omega)⟩
  · simp only [List.cons.injEq, and_true] at hcs
    have hlm : len ≤ m := by rw [hmm]; split <;> omega
    rw [cells40L] at hall
    have each : ∀ i, i < len → ∃ q : Ln, q.ok ∧ ∀ j v, q.v.toList[j]? = some v → W.cell? (a.add (i * 61 + j)) = some v := by
      intro i hi
      obtain ⟨cs', h1, h2⟩ := hall i (by omega)
      obtain ⟨k', e', f', m', a', p', rfl, h3, h4, h5⟩ := line_of h2
      obtain ⟨_, hlen, hcell⟩ := World.cells?_some h1
      have hok : (Ln.mk k' e' f' m' a' p').ok := ⟨h3, h4, h5⟩
      refine ⟨⟨k', e', f', m', a', p'⟩, hok, fun j v hv => ?_⟩
      have hj : j < 61 := by have := (List.getElem?_eq_some_iff.1 hv).1; rwa [Ln.size hok] at this
      have h3 := hcell j hj
      rw [add_add] at h3
      rw [h3]
      exact hv
    obtain ⟨q, hq⟩ := choose_lt each
    refine ⟨some a, len, cap, (List.range len).map q, hcs, by simp, ?_, fun h0 => ?_⟩
    · intro l hl
      obtain ⟨i, hi, rfl⟩ := List.mem_map.1 hl
      exact (hq i (by simpa using hi)).1
    obtain ⟨b, o, spot⟩ := a
    have hspot : spot = none := by
      have h9 := (hq 0 h0).2 0 (.int .i64 (q 0).k) rfl
      simpa [Addr.add] using World.cell?_spot h9
    subst hspot
    refine ⟨b, o, rfl, fun i hi j v hv => ?_⟩
    have hi' : i < len := by simpa using hi
    have h4 := (hq i hi').2 j v (by simpa using hv)
    rw [Addr.add_mid, ← Nat.add_assoc] at h4
    exact h4
end
end Go.Proofs.Ythjkhambmgepdaa
