/- Contracts of Uint16, Uint32, Uint64. -/
import Derived.Test.YtigbmlgllgcbhaaDoorFixr
namespace Go.Proofs.YtigbmlgllgcbhaaDoor
open Go.RowKit
set_option linter.unusedVariables false
theorem uint16_01 (A : Option Addr) (n c : Nat) (bs : List UInt8) (off : Int) (w : World) (hA : IsB w A n bs) (hn : n ≤ 1000000000) (b0 : -9223372036854775808 ≤ off) (b1 : off < 9223372036854775808) :
    Calls Tryd.prog 32 #[.slice A n c, .int .i64 off] w (FixPost bs off 2 .u16 w) := by
  have hC := fixed01 A n c bs off 2 w hA hn (by omega) (by omega) b0 b1
  have hv := fixR_lt bs off 2
  change Calls _ _ #[.slice A n c, .int .i64 off, .int .i64 2] _ _ at hC
  unfold FixPost at *
  generalize fixR bs off 2 = r at *
  obtain ⟨v, er⟩ := r
  have HV : Hid (IntKind.u16.wrap (v : Int) = (v : Int)) := Lib.hid (by
    rw [IntKind.wrap_u16]
    have h1 : v < 65536 := hv
    omega)
  clear hv
  go_enter Tryd.func32, Tryd.ntmps32
  go_wp2_with (go_at_call 44; refine hC.mono ?_; rintro e w' ⟨rfl, rfl⟩)
  refine bodyPost_ret (v := .tuple #[.int .u16 (v : Nat), .int .i64 (er : Nat)]) (by simp [results, Tryd.results32, go_sem, HV.out]) rfl ⟨rfl, rfl⟩
theorem uint32_01 (A : Option Addr) (n c : Nat) (bs : List UInt8) (off : Int) (w : World) (hA : IsB w A n bs) (hn : n ≤ 1000000000) (b0 : -9223372036854775808 ≤ off) (b1 : off < 9223372036854775808) :
    Calls Tryd.prog 33 #[.slice A n c, .int .i64 off] w (FixPost bs off 4 .u32 w) := by
  have hC := fixed01 A n c bs off 4 w hA hn (by omega) (by omega) b0 b1
  have hv := fixR_lt bs off 4
  change Calls _ _ #[.slice A n c, .int .i64 off, .int .i64 4] _ _ at hC
  unfold FixPost at *
  generalize fixR bs off 4 = r at *
  obtain ⟨v, er⟩ := r
  have HV : Hid ((v : Int) % 4294967296 = (v : Int)) := Lib.hid (by
    have h1 : v < 4294967296 := hv
    omega)
  clear hv
  go_enter Tryd.func33, Tryd.ntmps33
  go_wp2_with (go_at_call 44; refine hC.mono ?_; rintro e w' ⟨rfl, rfl⟩)
  refine bodyPost_ret (v := .tuple #[.int .u32 (v : Nat), .int .i64 (er : Nat)]) (by simp [results, Tryd.results33, go_sem, HV.out]) rfl ⟨rfl, rfl⟩
end Go.Proofs.YtigbmlgllgcbhaaDoor
