/- Links, in plain words: an end of a link, when it is valid, how it lies in memory. -/
import Derived.Test.YthjkhambmgepdaaMat
import Derived.Test.YthjkhambmgepdaaSd
import Derived.Test.YthjkhambmgepdaaRf1
namespace Go.Proofs.Ythjkhambmgepdaa
open Go.RowKit
set_option linter.unusedVariables false
/-- An end of a link. -/
structure LE where
  (n s a rn rc : Int) (q : List (List UInt8)) (off want : Int) (pt : List UInt8) (told : Int)
def cutB (k n : Int) : Bool := decide (52 ≤ k) && decide (k < n) && ((k - 52) % 56 == 0)
def qOk (q : List (List UInt8)) : Bool := q.all fun m => decide (m.length ≤ 1048576)
def offOk (off : Int) (q : List (List UInt8)) : Bool := off == -1 || (decide (0 < q.length) && cutB off (q.headD []).length)
def soundB (e : LE) : Bool := vs e.n e.s e.a && decide (e.q.length ≤ 64) && qOk e.q && offOk e.off e.q
def partOk (want : Int) (pt : List UInt8) : Bool := if want = -1 then pt.length == 0 else decide (want ≤ 1048576) && cutB pt.length want
def compB (e : LE) : Bool := vr e.rn e.rc && decide (e.told ≤ e.rc) && partOk e.want e.pt
def vE (e : LE) : Bool := soundB e && compB e && (e.n == e.rn)
/-- What the types say, and that the bytes lie in memory. -/
structure LE.ty (e : LE) : Prop where
  s0 : 0 ≤ e.s
  s1 : e.s < 18446744073709551616
  a0 : 0 ≤ e.a
  a1 : e.a < 18446744073709551616
  r0 : 0 ≤ e.rc
  r1 : e.rc < 18446744073709551616
  t0 : 0 ≤ e.told
  t1 : e.told < 18446744073709551616
  o0 : -9223372036854775808 ≤ e.off
  o1 : e.off < 9223372036854775808
  w0 : -9223372036854775808 ≤ e.want
  w1 : e.want < 9223372036854775808
  ql : e.q.length ≤ 1000000
  qm : ∀ m ∈ e.q, m.length ≤ 1000000000
  pl : e.pt.length ≤ 1000000000
/-- Its cells: the queue is the slice at A, the part that has come the slice at B. -/
def LEV (e : LE) (A : Option Addr) (c : Nat) (B : Option Addr) (d : Nat) : Array Value :=
  #[.int .i64 e.n, .int .u64 e.s, .int .u64 e.a, .int .i64 e.rn, .int .u64 e.rc, .slice A e.q.length c, .int .i64 e.off, .int .i64 e.want, .slice B e.pt.length d, .int .u64 e.told]
/-- The same, as the two halves hold it. -/
def LBV (e : LE) (A : Option Addr) (c : Nat) (B : Option Addr) (d : Nat) : Array Value :=
  #[.int .i64 e.n, .int .u64 e.s, .int .u64 e.a, .slice A e.q.length c, .int .i64 e.off, .int .i64 e.rn, .int .u64 e.rc, .int .i64 e.want, .slice B e.pt.length d, .int .u64 e.told]
/-- The queue and the part, in memory. -/
structure Held (w : World) (e : LE) (A : Option Addr) (c : Nat) (B : Option Addr) (d : Nat) : Prop where
  q : IsM w A e.q.length e.q
  qc : e.q.length ≤ c
  p : IsB w B e.pt.length e.pt
  pc : e.pt.length ≤ d
theorem IsM.below {w w' : World} {a : Option Addr} {len : Nat} {ls : List (List UInt8)} (h : IsM w a len ls) (hb : Below w.heap.size w w') : IsM w' a len ls := by
  refine ⟨h.1, fun hn => ?_⟩
  obtain ⟨b, o, e, hc⟩ := h.at_ hb hn
  exact ⟨b, o, e, hc⟩
theorem Held.below {w w' : World} {e : LE} {A B : Option Addr} {c d : Nat} (h : Held w e A c B d) (hb : Below w.heap.size w w') : Held w' e A c B d := ⟨h.q.below hb, h.qc, h.p.below hb, h.pc⟩
theorem ak_self {n s a : Int} (h0 : 0 ≤ a) : akE n s a (IntKind.u16.wrap a) = if vs n s a = true then 0 else 74 := by
  have hm : mv (IntKind.u16.wrap a) a = 0 := by unfold mv; rw [IntKind.wrap_u16]; omega
  unfold akE
  rw [hm]
  split
  · next h =>
    have := (vs_yes h).a0
    rw [if_pos (by omega)]
  · rfl
theorem qOk_at {q : List (List UInt8)} {i : Nat} (h : i < q.length) : qOk (q.drop i) = (decide (q[i].length ≤ 1048576) && qOk (q.drop (i + 1))) := by
  unfold qOk
  rw [List.drop_eq_getElem_cons h, List.all_cons]
end Go.Proofs.Ythjkhambmgepdaa
