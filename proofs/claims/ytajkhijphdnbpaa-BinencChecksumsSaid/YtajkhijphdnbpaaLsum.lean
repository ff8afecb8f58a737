/- The walk of BinencChecksums. -/
import Derived.Test.YtajkhijphdnbpaaSpare
import Derived.Test.YtajkhijphdnbpaaIsRow
import Derived.Test.YtajkhijphdnbpaaWcrc
import Derived.Test.YtajkhijphdnbpaaWsum
namespace Go.Proofs.Ytajkhijphdnbpaa
open Go.RowKit
set_option linter.unusedVariables false
theorem law_checksums (A : Option Addr) (n c : Nat) (bs : List UInt8) (w : World) (hA : IsB w A n bs) (hn : n ≤ 9223372036854775807) :
    Calls Try.prog 3 #[.slice A n c] w (True1 w) := by
  rcases Nat.lt_or_ge 3000 n with hlt | hge
  · go_enter Try.func3, Try.ntmps3
    go_wp2_with (go_at_call 13; refine (awake01 _).mono ?_; rintro e w1 ⟨rfl, hb1⟩)
    go_ret
    exact ⟨rfl, hb1⟩
  · have hn6 : n ≤ 1000000 := by omega
    have hn9 : n ≤ 1000000000 := by omega
    go_enter Try.func3, Try.ntmps3
    go_wp2_with fail
    refine (spare01 A n c bs _ hA hn6).mono ?_
    rintro e w1 ⟨g1, c1, rfl, ho1, hb1⟩
    have hB1 : IsB w1 (some ⟨g1, 0, none⟩) n bs := by
      have := (ho1.isB.pre n (by omega))
      rwa [List.take_left' hA.1.symm] at this
    go_wp2_with fail
    refine (crc32 _ n c1 bs _ hB1 hn9).mono ?_
    rintro e w2 ⟨rfl, hb2⟩
    have hbw2 : Below w.heap.size w w2 := hb1.trans (hb2.mono hb1.size)
    go_wp2_with fail
    refine (crc_ref A n c bs _ (hA.below hbw2) hn9).mono ?_
    rintro e w2 ⟨rfl, rfl⟩
    go_wp2_with fail
    refine (spare01 A n c bs _ (hA.below hbw2) hn6).mono ?_
    rintro e w3 ⟨g3, c3, rfl, ho3, hb3⟩
    have hbw3 : Below w.heap.size w w3 := hbw2.trans (hb3.mono hbw2.size)
    have hB3 : IsB w3 (some ⟨g3, 0, none⟩) n bs := by
      have := (ho3.isB.pre n (by omega))
      rwa [List.take_left' hA.1.symm] at this
    go_wp2_with fail
    refine (sum16_any _ n c3 bs _ hB3 hn9).mono ?_
    rintro e w3 ⟨rfl, rfl⟩
    go_wp2_with fail
    refine (sum_ref A n c bs _ (hA.below hbw3) hn9).mono ?_
    rintro e w3 ⟨rfl, rfl⟩
    go_wp2_with (go_at_call 13; refine (awake01 _).mono ?_; rintro e w4 ⟨rfl, hb4⟩)
    go_ret
    exact ⟨rfl, hbw3.trans (hb4.mono hbw3.size)⟩
theorem walk_checksums (W : World) (A : Option Addr) (n c : Nat) (zs : List Int) (h : IsRow .u8 W A n c zs) :
    Calls Try.prog 3 #[.slice A n c] W (True1 W) := by
  obtain ⟨bs, hA, hn⟩ := h.isB
  exact law_checksums A n c bs W hA hn
end Go.Proofs.Ytajkhijphdnbpaa
