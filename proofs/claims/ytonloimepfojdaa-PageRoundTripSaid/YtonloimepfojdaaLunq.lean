/- Page tables: the walk of PageUnpackExact, for arguments that came in. -/
import Derived.Test.YtonloimepfojdaaLunp
import Derived.Test.YtonloimepfojdaaIsRow
namespace Go.Proofs.Ytonloimepfojdaa
open Go.RowKit
set_option linter.unusedVariables false
theorem IsRow.isI {w : World} {a : Option Addr} {len cap : Nat} {zs : List Int} (h : IsRow .i64 w a len cap zs) : IsI w a len := by
  rcases h with ⟨rfl, rfl, rfl, rfl⟩ | ⟨x, rfl, hl, hm, hz, hc, hw⟩
  · intro i hi
    omega
  · intro i hi
    have h0 := hc 0 (by omega)
    obtain ⟨b, o, sp⟩ := x
    have hsp : sp = none := by simpa [Addr.add] using World.cell?_spot h0
    subst hsp
    have := hc i (by omega)
    rw [Addr.add_mid] at this
    exact ⟨b, o, _, rfl, this⟩
theorem walk_unpack (W : World) (w : Int) (A : Option Addr) (n c : Nat) (zs : List Int) (level : Int) (B : Option Addr) (m d : Nat) (ys : List Int) (at_ by' : Int) (_ : (Lit.int .i64 w).wf = true) (hA : IsRow .u8 W A n c zs) (_ : (Lit.int .i64 level).wf = true) (hB : IsRow .i64 W B m d ys) (_ : (Lit.int .i64 at_).wf = true) (hb : (Lit.int .u8 by').wf = true) :
    Calls Try.prog 8 #[.int .i64 w, .slice A n c, .int .i64 level, .slice B m d, .int .i64 at_, .int .u8 by'] W (True1 W) := by
  obtain ⟨bs, h1, h2⟩ := hA.isB
  obtain ⟨b0, b1⟩ := wf_u8 hb
  exact law_unpack w level at_ by' A n c bs B m d W h1 hB.isI b0 b1
end Go.Proofs.Ytonloimepfojdaa
