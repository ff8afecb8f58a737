/- RingOrder: plain laws for do. -/
import Derived.Test.YthjkhambmgepdaaOrd8b
namespace Go.Proofs.Ythjkhambmgepdaa
open Go.RowKit
set_option linter.unusedVariables false
theorem OwnR.addr {w : World} {base : Nat} {e : TypeId} {size : Nat} {A : Option Addr} {n c : Nat} {xs : List Value} (h : OwnR w base e size A n c xs) (hn : 0 < n) : ∃ b, A = some ⟨b, 0, none⟩ ∧ base ≤ b ∧ b < w.heap.size := by
  rcases h.2 with ⟨h1, h2⟩ | ⟨g, cap, cur, h1, h2, h3, _⟩
  · omega
  · injection h1 with h1 _ _
    refine ⟨g, h1, h2, ?_⟩
    rcases Nat.lt_or_ge g w.heap.size with h4 | h4
    · exact h4
    · rw [Array.getElem?_eq_none h4] at h3
      cases h3
theorem OwnR.cellAt {w : World} {base b : Nat} {e : TypeId} {size : Nat} {n c : Nat} {xs : List Value} (h : OwnR w base e size (some ⟨b, 0, none⟩) n c xs) (j : Nat) (hj : j < n * size) : w.cell? ⟨b, j, none⟩ = xs[j]? := World.ownsRow.cellAt h j hj
theorem flat_at (ls : List (List Value)) (h : ∀ l ∈ ls, l.length = 61) (i : Nat) (hi : i < ls.length) (j : Nat) (hj : j < 61) : (flat ls)[61 * i + j]? = ls[i][j]? := by
  have e : (flat (ls.take i)).length = 61 * i := by rw [flat_len _ fun l hl => h l (List.mem_of_mem_take hl), List.length_take, Nat.min_eq_left (by omega)]
  have h1 := h ls[i] (List.getElem_mem hi)
  rw [flat_split ls i hi, List.getElem?_append_left (by rw [List.length_append]; omega), List.getElem?_append_right (by omega), e]
  congr 1
  omega
theorem OwnR.lineAt {w : World} {base b : Nat} {e : TypeId} {n c N : Nat} {bs : List UInt8} (h : OwnR w base e 61 (some ⟨b, 0, none⟩) n c (flat (linesOf N bs))) (i : Nat) (hi : i < n) (hn : bs.length = n) : w.rangeAt b (61 * i) (ordL N i (bs.getD i 0)).toList := fun j v hv => by
  have hl : i < (linesOf N bs).length := by rw [linesOf_len]; omega
  have e1 : (linesOf N bs)[i] = (ordL N i (bs.getD i 0)).toList := by simp [linesOf]
  have hj : j < 61 := by
    have := (List.getElem?_eq_some_iff.1 hv).1
    have := ordL_size N i (bs.getD i 0)
    simp at *
    omega
  rw [h.cellAt (61 * i + j) (by omega), flat_at _ (linesOf_61 N bs) i hl j hj, e1]
  exact hv
theorem slotsOf_at (N m i : Nat) (hi : i < m) : (slotsOf N m)[i]? = some (.int .i64 ((i % N : Nat) : Int)) := by simp [slotsOf, hi]
/-- The Pair behind a line that was stored. -/
theorem Cnt.store {s : St} (h : Cnt s) (ht : s.t < s.m) : Cnt { s with t := s.t + 1, ls := s.ls.set (s.t % s.N) (ordL s.N s.t (s.bs.getD s.t 0)).toList } := by
  have h0 := h.n0
  have hl := h.len
  have hk : s.t % s.N < s.N := Nat.mod_lt _ (by omega)
  refine ⟨h.vl, h.n0, h.n1, by simp [h.len], h.hm, h.ag, Nat.le_succ_of_le h.gt, ht, h.ma, h.m6, fun j h1 h2 => ?_, fun k h1 h2 => ?_⟩
  · show (s.ls.set (s.t % s.N) (ordL s.N s.t (s.bs.getD s.t 0)).toList)[j % s.N]? = some (ordL s.N j (s.bs.getD j 0)).toList
    have h1 : j < s.t + 1 := h1
    have h2 : s.t + 1 ≤ j + s.N := h2
    by_cases hj : j = s.t
    · subst hj
      rw [List.getElem?_set_self (by omega)]
    · rw [List.getElem?_set_ne (Ne.symm (mod_far (by omega) (by omega)))]
      exact h.stored j (by omega) (by omega)
  · show (s.ls.set (s.t % s.N) (ordL s.N s.t (s.bs.getD s.t 0)).toList)[k]? = some ZL.toList
    have h1 : s.t + 1 ≤ k := h1
    have h2 : k < s.N := h2
    rw [List.getElem?_set_ne (by rw [Nat.mod_eq_of_lt (by omega)]; omega)]
    exact h.fresh k (by omega) h2
/-- .. behind an acknowledgement of all that was received. -/
theorem Cnt.acked {s : St} (h : Cnt s) : Cnt { s with a := s.g } :=
  ⟨h.vl, h.n0, h.n1, h.len, h.hm, Nat.le_refl _, h.gt, h.tm, by show s.m ≤ s.g + s.N; have := h.ma; have := h.ag; omega, h.m6, h.stored, h.fresh⟩
theorem Inv.acked {gp gm : Nat} {s : St} {w w5 : World} (h : Inv gp gm s w) (u : Upd w w5 gp) (r : Row w5 gp 54 (PC s.N s.m s.g s.g s.t gm s.SL s.SI s.SB s.ST)) : Inv gp gm { s with a := s.g } w5 := by
  have P := h.p4.set u r
  exact ⟨h.cnt.acked, P.pair, P.mem, P.lines, P.slots, P.sent, P.got, P.f12, P.f13, P.f14, P.f23, P.f24, P.f34, P.gmp⟩
theorem Inv.store {gp gm : Nat} {s : St} {w w4 w5 : World} (h : Inv gp gm s w) (ht : s.t < s.m) (u4 : Upd w w4 gm) (hM : MemL w4 gm 40 (s.ls.set (s.t % s.N) (ordL s.N s.t (s.bs.getD s.t 0)).toList)) (u : Upd w4 w5 gp)
    (r : Row w5 gp 54 (PC s.N s.m s.a s.g (s.t + 1) gm s.SL s.SI s.SB s.ST)) : Inv gp gm { s with t := s.t + 1, ls := s.ls.set (s.t % s.N) (ordL s.N s.t (s.bs.getD s.t 0)).toList } w5 := by
  have hgm := h.gmp
  exact ⟨h.cnt.store ht, r, hM.upd u (by omega), (h.lines.upd u4 (by omega)).upd u (by omega), (h.slots.upd u4 (by omega)).upd u (by omega), (h.sent.upd u4 (by omega)).upd u (by omega), (h.got.upd u4 (by omega)).upd u (by omega), h.f12, h.f13, h.f14, h.f23, h.f24, h.f34, hgm⟩
/-- The acknowledgement of all that was received is understood. -/
theorem ack_all {n m g a : Nat} (hv : vs n m a = true) (hag : a ≤ g) (hgm : g ≤ m) (hm : m ≤ 600) : Acked n m a (IntKind.u16.wrap g) (g - a) := by
  refine acked hv ?_ (by omega)
  simp only [mv, IntKind.wrap_u16]
  omega
end Go.Proofs.Ythjkhambmgepdaa
