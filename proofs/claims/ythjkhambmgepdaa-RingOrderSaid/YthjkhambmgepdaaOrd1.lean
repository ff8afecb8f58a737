/- Contracts of NewReceiver and AckCount; a growing slice of cells of the call's own. -/
import Derived.Test.YthjkhambmgepdaaFill
import Derived.Test.YthjkhambmgepdaaTail
import Derived.Laws.AppendOwn
import Derived.Laws.OwnMore
import Derived.Maps.AppendAt
import Derived.OwnWalk
namespace Go.Proofs.Ythjkhambmgepdaa
open Go.RowKit
set_option linter.unusedVariables false
theorem new_receiver (n : Int) (hn : vl n = true) (W : World) : Calls Try.prog 28 #[.int .i64 n] W (fun e W' => e = .returned (.tuple #[.agg #[.int .i64 n, .int .u64 0], .int .i64 0]) ∧ Below W.heap.size W W') := by
  go_enter Try.func28, Try.ntmps28
  go_wp2_with (go_at_call 91; refine (valid_lines _ _).mono ?_; rintro e w' ⟨rfl, rfl⟩)
  refine bodyPost_ret (v := .tuple #[.agg #[.int .i64 n, .int .u64 0], .int .i64 0]) (by simp [results, Try.results28, go_sem]) rfl ⟨rfl, ?_⟩
  go_grown
theorem ack_count (n x : Int) (hv : vl n = true) (hx : x ≤ 4611686018427387904) (W : World) : Calls Try.prog 38 #[.agg #[.int .i64 n, .int .u64 x]] W (fun e W' => e = .returned (.int .u16 (IntKind.u16.wrap x)) ∧ Below W.heap.size W W') := by
  have hvr : Hid (vr n x = true) := Lib.hid (by simp [vr, hv, hx])
  go_enter Try.func38, Try.ntmps38
  go_wp2_with fail
  refine (valid_receiver _ _ _).mono ?_
  rintro e w1 ⟨rfl, hb⟩
  rw [hvr.out]
  obtain ⟨r1, hz, hB⟩ := one_new hb
  obtain ⟨⟨c0, c1⟩, f1⟩ := two_cells r1
  clear hb
  go_wp2
  go_ret
  exact ⟨rfl, hB⟩
/-- The slice is a row of cells, 'size' an element, at or above block base that no one else holds. -/
def OwnR (w : World) (base : Nat) (e : TypeId) (size : Nat) (A : Option Addr) (n c : Nat) (xs : List Value) : Prop := w.ownsRow base e size (.slice A n c) n xs
theorem OwnR.nil (w : World) (base : Nat) (e : TypeId) (size : Nat) : OwnR w base e size none 0 0 [] := World.ownsRow_nil w base e size
theorem OwnR.len {w : World} {base size : Nat} {e : TypeId} {A : Option Addr} {n c : Nat} {xs : List Value} (h : OwnR w base e size A n c xs) : xs.length = n * size := h.1
theorem OwnR.ge {w : World} {base size : Nat} {e : TypeId} {A : Option Addr} {n c : Nat} {xs : List Value} (h : OwnR w base e size A n c xs) : ∀ k, (Value.slice A n c).ownBlock = some k → base ≤ k ∧ k < w.heap.size := fun k hk => World.ownsRow.lt h k hk
theorem OwnR.alloc {w : World} {base size : Nat} {e : TypeId} {A : Option Addr} {n c : Nat} {xs : List Value} (h : OwnR w base e size A n c xs) (o : Obj) : OwnR (w.alloc o) base e size A n c xs := World.ownsRow.alloc h o
theorem OwnR.below {w w' : World} {base size : Nat} {e : TypeId} {A : Option Addr} {n c : Nat} {xs : List Value} (h : OwnR w base e size A n c xs) (hb : Below w.heap.size w w') : OwnR w' base e size A n c xs :=
  World.ownsRow.kept h (row := none) ⟨hb.os, hb.tape, hb.output, hb.size, fun k hk _ => hb.block k hk⟩ (by cases hv : (Value.slice A n c).ownBlock <;> simp)
section
variable {P : Program} {ops : Array Oper} {rest : List Oper} {Q : Exit → Act → World → Prop} {a : Act} {w : World} {dst : Option Tmp} {typ : TypeId} {pos : String} {after : Array Edge}
/-- One element appended: its cells lie at the start of block gb. -/
theorem append_one {t ty e : TypeId} {zv : Value} {size bytes base n c gb : Nat} {A : Option Addr} {xs news : List Value} (ht : P.underlying t = some (.slice e)) (hinfo : (P.info? e).map (fun i => (i.zero, i.size, i.bytes)) = some (some zv, size, bytes))
    (hzs : zv.cells.size = size) (hsz : 0 < size) (hown : OwnR w base e size A n c xs) (hnew : Row w gb e news.toArray) (hnl : news.length = size) (h1 : ∀ u ∈ news, u.oneCell' = true)
    (hlen : (n + 1) * bytes ≤ 140737488355328) (hn : n + 1 ≤ 140737488355328) (hbase : base ≤ w.heap.size) :
    ∃ A' c'' w', (Builtin.append_ #[t, t] ty #[.slice A n c, .slice (some ⟨gb, 0, none⟩) 1 1]).run P w = .ok (.slice A' (n + 1) c'') w' ∧ OwnR w' base e size A' (n + 1) c'' (xs ++ news) ∧ w.grownBy w' (Value.slice A n c).ownBlock ∧
      ((Value.slice A' (n + 1) c'').ownBlock = (Value.slice A n c).ownBlock ∨ (Value.slice A' (n + 1) c'').ownBlock = some w.heap.size) := by
  obtain ⟨i, hi, hz⟩ := Option.map_eq_some_iff.1 hinfo
  simp only [Prod.mk.injEq] at hz
  obtain ⟨hz0, hz1, hz2⟩ := hz
  obtain ⟨v', w', hr, h2, h3, h4, h5⟩ := run_append_own_at (P := P) w base t ty e i zv size bytes ht hi hz0 hz1 hz2 hzs hsz (.slice A n c) n xs hown ⟨gb, 0, none⟩ 1 1 news (by omega)
    (fun j u hu => by
      have : (⟨gb, 0, none⟩ : Addr).add j = ⟨gb, j, none⟩ := by rw [Addr.add_mid, Nat.zero_add]
      rw [this, hnew.cell j]
      simpa using hu) h1 (by simp only [maxLen]; omega) hlen hbase
  rcases h2.2 with ⟨rfl, hn0⟩ | ⟨g, cap, cur, rfl, rest'⟩
  · omega
  · exact ⟨_, _, _, hr, h2, h3, h5⟩
end
end Go.Proofs.Ythjkhambmgepdaa
