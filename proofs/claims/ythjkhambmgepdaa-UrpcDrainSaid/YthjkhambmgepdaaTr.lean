/- A slice of steps (structs of three integers) that came in. -/
import Derived.Test.YthjkhambmgepdaaCz
import Derived.Test.YthjkhambmgepdaaR1
import Derived.Test.YthjkhambmgepdaaIsRow
import Derived.Deep.Fields
import Derived.Deep.SlicePairs
import Derived.Lib.SmallJoins
import Derived.OpenShut
import Derived.Deep.CutBlock
import Derived.Deep.CutRange
namespace Go.Proofs.Ythjkhambmgepdaa
open Go.RowKit Go.Deep Go.ChangeShapes Go.WideShapes
set_option linter.unusedVariables false
theorem cells3T : Try.prog.cellsOf 3 = 1 := by kernel_rfl
/-- A slice of structs of three integers that came in. -/
def IsTr (w : World) (A : Option Addr) (n : Nat) : Prop := ∀ i, i < n → ∃ b o x y z, A = some ⟨b, o, none⟩ ∧ w.cell? ⟨b, o + i * 3, none⟩ = some (.int .i64 x) ∧ w.cell? ⟨b, o + i * 3 + 1, none⟩ = some (.int .i64 y) ∧ w.cell? ⟨b, o + i * 3 + 2, none⟩ = some (.int .i64 z)
theorem IsTr.part {col : Nat → Nat} {w : World} {A : Option Addr} {n : Nat} (h : IsTr w A n) (hc : ∀ x, x < w.heap.size → col x = 0) : Part col 0 w (fun w => IsTr w A n) := fun w' hs hk i hi => by
  obtain ⟨b, o, x, y, z, e, h0, h1, h2⟩ := h i hi
  have hb := World.block_lt_of_cell? w ⟨b, o + i * 3, none⟩ h0
  have hs := hk b hb (hc b hb)
  exact ⟨b, o, x, y, z, e, (World.cell?_of_block (a := ⟨b, o + i * 3, none⟩) hs).trans h0, (World.cell?_of_block (a := ⟨b, o + i * 3 + 1, none⟩) hs).trans h1, (World.cell?_of_block (a := ⟨b, o + i * 3 + 2, none⟩) hs).trans h2⟩
section
variable {H : Type} {enc : TypeId × Value → H} {W : World} {base : Nat} {spare : Nat → Bool} {held : Bool}
set_option maxRecDepth 100000 in
theorem open_trips {t e : TypeId} {f0 f1 f2 : Field} {fuel : Nat} {A : Option Addr} {len cap : Nat} {x : DataW H × List MemPlace} (ht : Try.prog.underlying t = some (.slice e)) (he : Try.prog.underlying e = some (.struct #[f0, f1, f2]))
    (ce : Try.prog.cellsOf e = 3) (o0 : f0.offset = 0) (o1 : f1.offset = 1) (o2 : f2.offset = 2) (t0 : f0.type = 3) (t1 : f1.type = 3) (t2 : f2.type = 3)
    (h : DataW.trod enc Try.prog W base spare held fuel t [.slice A len cap] = some x) : IsTr W A len := by
  rcases open_slice ht h with ⟨hcs, _⟩ | ⟨a, len', cap', m, n, D, Pl, hcs, hb, hl, hm, hmm, hx, hall⟩
  · simp only [List.cons.injEq, and_true] at hcs
    injection hcs with e1 e2 e3
    intro i hi
    omega
  · simp only [List.cons.injEq, and_true] at hcs
    injection hcs with e1 e2 e3
    subst e1 e2 e3
    intro i hi
    have hlm : i < m := by rw [hmm]; split <;> omega
    obtain ⟨cs', h1, h2⟩ := hall i hlm
    rw [ce] at h1
    obtain ⟨_, hlen, hcell⟩ := World.cells?_some h1
    obtain ⟨xs, k, hk, hxy, _, hxl, hf⟩ := DataW.trod_struct he h2
    match xs, hxl, cs', hlen with
    | [y0, y1, y2], _, [v0, v1, v2], _ =>
      have g0 := hf 0 f0 rfl
      have g1 := hf 1 f1 rfl
      have g2 := hf 2 f2 rfl
      simp [o0, o1, o2, t0, t1, t2, cells3T] at g0 g1 g2
      obtain ⟨z0, q0, _, _⟩ := DataW.trod_int Try.underlying3 g0
      obtain ⟨z1, q1, _, _⟩ := DataW.trod_int Try.underlying3 g1
      obtain ⟨z2, q2, _, _⟩ := DataW.trod_int Try.underlying3 g2
      simp only [List.cons.injEq, and_true] at q0 q1 q2
      subst q0 q1 q2
      have c0 := hcell 0 (by omega)
      have c1 := hcell 1 (by omega)
      have c2 := hcell 2 (by omega)
      obtain ⟨_, h10, _⟩ := hall 0 (by omega)
      rw [ce] at h10
      obtain ⟨_, _, hcell0⟩ := World.cells?_some h10
      obtain ⟨b, o, spot⟩ := a
      have hspot : spot = none := by
        have h11 := hcell0 0 (by omega)
        rw [List.getElem?_eq_getElem (by omega)] at h11
        simpa [Addr.add] using World.cell?_spot h11
      subst hspot
      rw [Addr.add_mid, Addr.add_mid] at c0 c1 c2
      exact ⟨b, o, z0, z1, z2, rfl, by simpa using c0, by simpa using c1, by simpa using c2⟩
end
theorem and1 (x : Int) : bits .and .i64 x 1 = 0 ∨ bits .and .i64 x 1 = 1 := by
  show IntKind.i64.wrap ((BitVec.ofInt 64 x &&& BitVec.ofInt 64 1).toNat : Int) = 0 ∨ IntKind.i64.wrap ((BitVec.ofInt 64 x &&& BitVec.ofInt 64 1).toNat : Int) = 1
  have h : (BitVec.ofInt 64 x &&& BitVec.ofInt 64 1).toNat ≤ 1 := by
    rw [BitVec.toNat_and]
    exact Nat.and_le_right
  rw [IntKind.wrap_i64]
  omega
theorem Part.ofWhite {col col' : Nat → Nat} {w w' : World} {P : World → Prop} (h : Part col 0 w P) (hw : White col w w') (hc : ∀ x, x < w.heap.size → col x = 0 → col' x = 0) : Part col' 0 w' P := fun w2 hs hk => h w2 (Nat.le_trans hw.size hs) fun x hx h0 => (hk x (Nat.lt_of_lt_of_le hx hw.size) (hc x hx h0)).trans (hw.block x hx h0)
end Go.Proofs.Ythjkhambmgepdaa
