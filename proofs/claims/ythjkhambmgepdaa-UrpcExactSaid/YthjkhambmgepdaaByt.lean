/- Contracts of Bytes and of the reference's Bytes. -/
import Derived.Test.YthjkhambmgepdaaVar
import Derived.Test.YthjkhambmgepdaaAby
namespace Go.Proofs.Ythjkhambmgepdaa
open Go.RowKit
set_option linter.unusedVariables false
/-- What decoding a byte string yields: the bytes, the next offset, the error. -/
def bR (bs : List UInt8) (off limit : Int) : List UInt8 × Nat × Nat :=
  if off < 0 ∨ (bs.length : Int) < off ∨ limit < 0 then ([], 0, 6)
  else if (uvR bs off).2.2 ≠ 0 then ([], 0, (uvR bs off).2.2)
  else if limit < (uvR bs off).1 then ([], 0, 15)
  else if bs.length - (uvR bs off).2.1 < (uvR bs off).1 then ([], 0, 52)
  else ((bs.drop (uvR bs off).2.1).take (uvR bs off).1, (uvR bs off).2.1 + (uvR bs off).1, 0)
def BPost (bs : List UInt8) (off limit : Int) (w : World) (e : Ending) (w' : World) : Prop :=
  ∃ A n c, e = .returned (.tuple #[.slice A n c, .int .i64 ((bR bs off limit).2.1 : Nat), .int .i64 ((bR bs off limit).2.2 : Nat)]) ∧ OwnB w' w.heap.size 5 A n c (bR bs off limit).1 ∧ Below w.heap.size w w'
theorem OwnB.of_row {w : World} {base g : Nat} {e : TypeId} {bs : List UInt8} (h : Row w g e (bs.map bv).toArray) (hb : base ≤ g) (hm : bs.length ≤ maxLen) : OwnB w base e (some ⟨g, 0, none⟩) bs.length bs.length bs := ⟨by simp, .inr ⟨g, bs.length, _, rfl, hb, h, Nat.le_refl _, hm, by simp, by simp [List.take_of_length_le]⟩⟩
theorem IsB.suf {w : World} {n : Nat} {b o k v : Nat} {bs : List UInt8} (h : IsB w (some ⟨b, o, none⟩) n bs) (hk : k + v ≤ n) : IsB w (some ⟨b, o + k, none⟩) v ((bs.drop k).take v) := by
  refine ⟨by have := h.1; simp; omega, fun h0 => ⟨b, o + k, rfl, fun i hi => ?_⟩⟩
  obtain ⟨b', o', e, hc⟩ := h.2 (by omega)
  injection e with e
  injection e with e1 e2
  subst e1 e2
  have hl := h.1
  have hi' : k + i < bs.length := by simp at hi; omega
  rw [Nat.add_assoc, hc (k + i) hi']
  simp
set_option maxRecDepth 2000 in
set_option maxHeartbeats 1000000 in
theorem bytes01 (A : Option Addr) (n c : Nat) (bs : List UInt8) (off limit : Int) (w : World) (hA : IsB w A n bs) (hc : n ≤ c) (hn : n ≤ 1000000) (b0 : -9223372036854775808 ≤ off) (b1 : off < 9223372036854775808) (l0 : -9223372036854775808 ≤ limit) (l1 : limit < 9223372036854775808) :
    Calls Try.prog 116 #[.slice A n c, .int .i64 off, .int .i64 limit] w (BPost bs off limit w) := by
  have hl := hA.1
  have bad : ∀ e w', (off < 0 ∨ (n : Int) < off ∨ limit < 0) → w' = w → e = .returned (.tuple #[.slice none 0 0, .int .i64 0, .int .i64 6]) → BPost bs off limit w e w' := by
    intro e w' h hw he
    have hb : bR bs off limit = ([], 0, 6) := by rw [bR, if_pos (by rw [← hl]; exact h)]
    refine ⟨none, 0, 0, ?_, ?_, ?_⟩
    · rw [hb]; exact he
    · rw [hb]; exact OwnB.nil _ _ _
    · rw [hw]; exact Below.refl _ _
  rcases (by omega : off < 0 ∨ (0 ≤ off ∧ (n : Int) < off) ∨ (0 ≤ off ∧ off ≤ n)) with h1 | ⟨h0, h1⟩ | ⟨h0, h1⟩
  · have B := Lib.hid bad
    clear bad
    go_enter Try.func116, Try.ntmps116
    go_wp2
    refine bodyPost_ret (v := .tuple #[.slice none 0 0, .int .i64 0, .int .i64 6]) (by simp [results, Try.results116, go_sem]) rfl (B.out _ _ (.inl h1) rfl rfl)
  · have h2 : ¬ off < 0 := by omega
    have B := Lib.hid bad
    clear bad
    go_enter Try.func116, Try.ntmps116
    go_wp2
    refine bodyPost_ret (v := .tuple #[.slice none 0 0, .int .i64 0, .int .i64 6]) (by simp [results, Try.results116, go_sem]) rfl (B.out _ _ (.inr (.inl h1)) rfl rfl)
  · have h2 : ¬ off < 0 := by omega
    have h3 : ¬ (n : Int) < off := by omega
    have B := Lib.hid bad
    clear bad
    by_cases hlim : limit < 0
    · go_enter Try.func116, Try.ntmps116
      go_wp2
      refine bodyPost_ret (v := .tuple #[.slice none 0 0, .int .i64 0, .int .i64 6]) (by simp [results, Try.results116, go_sem]) rfl (B.out _ _ (.inr (.inr hlim)) rfl rfl)
    · clear B
      obtain ⟨L, rfl⟩ : ∃ L : Nat, limit = (L : Int) := ⟨limit.toNat, by omega⟩
      have hL : L < 9223372036854775808 := by omega
      have hC := uvarint01 A n c bs off w hA (by omega) b0 b1
      have hu := uvR_lt bs off
      have hnx : (uvR bs off).2.2 = 0 → 0 < (uvR bs off).2.1 ∧ (uvR bs off).2.1 ≤ bs.length := fun h => by have := uvR_next h; omega
      have hR : bR bs off L = if (uvR bs off).2.2 ≠ 0 then ([], 0, (uvR bs off).2.2) else if L < (uvR bs off).1 then ([], 0, 15)
          else if bs.length - (uvR bs off).2.1 < (uvR bs off).1 then ([], 0, 52) else ((bs.drop (uvR bs off).2.1).take (uvR bs off).1, (uvR bs off).2.1 + (uvR bs off).1, 0) := by
        rw [bR, if_neg (by rw [← hl]; omega)]
        simp only [Int.ofNat_lt]
      unfold UvPost at hC
      generalize uvR bs off = r at *
      obtain ⟨v, nx, er⟩ := r
      simp only at hC hu hnx hR
      have HC := Lib.hid hC
      have HA := Lib.hid hA
      have hlh := Lib.hid hl
      clear hl
      have hl := hlh
      clear hlh hC hA h0 h1 b0 b1 l0 l1 hlim
      by_cases he : er = 0
      · subst he
        obtain ⟨hx0, hx1⟩ := hnx rfl
        rw [if_neg (by simp)] at hR
        have hxn : nx ≤ n := by have := hl.out; omega
        clear hnx hx1
        by_cases hv : L < v
        · rw [if_pos hv] at hR
          have HR := Lib.hid hR
          clear hR
          go_enter Try.func116, Try.ntmps116
          go_wp2_with (go_at_call 115; refine HC.out.mono ?_; rintro e w' ⟨rfl, rfl⟩)
          refine bodyPost_ret (v := .tuple #[.slice none 0 0, .int .i64 0, .int .i64 15]) (by simp [results, Try.results116, go_sem]) rfl ⟨none, 0, 0, by rw [HR.out]; rfl, by rw [HR.out]; exact OwnB.nil _ _ _, Below.refl _ _⟩
        · rw [if_neg hv] at hR
          by_cases hw : bs.length - nx < v
          · rw [if_pos hw] at hR
            have HR := Lib.hid hR
            have hw2 : (n : Int) - nx < v := by have := hl.out; omega
            clear hR hw
            go_enter Try.func116, Try.ntmps116
            go_wp2_with (go_at_call 115; refine HC.out.mono ?_; rintro e w' ⟨rfl, rfl⟩)
            refine bodyPost_ret (v := .tuple #[.slice none 0 0, .int .i64 0, .int .i64 52]) (by simp [results, Try.results116, go_sem]) rfl ⟨none, 0, 0, by rw [HR.out]; rfl, by rw [HR.out]; exact OwnB.nil _ _ _, Below.refl _ _⟩
          · rw [if_neg hw] at hR
            have HR := Lib.hid hR
            have hw2 : ¬ (n : Int) - nx < v := by have := hl.out; omega
            have hvn : nx + v ≤ n := by have := hl.out; omega
            obtain ⟨b2, o2, e2, _⟩ := HA.out.2 (by omega)
            subst e2
            have hsuf := HA.out.suf hvn
            clear hR hw hu
            generalize (bs.drop nx).take v = sg at *
            rcases (by omega : nx < c ∨ (nx = c ∧ v = 0)) with hcc | ⟨hcc, hv0⟩
            · go_enter Try.func116, Try.ntmps116
              go_upto_region 10 with (go_at_call 115; refine HC.out.mono ?_; rintro e w' ⟨rfl, rfl⟩)
              go_upto_region 11 with ((at_make; refine wp_make v Try.underlying44 info_w8 rfl (by omega) (by omega) rfl rfl rfl rfl ?_; intro w2 r2 hb2))
              have q1 : (sg.map bv).length = Nat.min (n - nx) v := by rw [List.length_map, ← hsuf.1]; exact (Nat.min_eq_right (by omega)).symm
              have q2 : CopyOk w2 (some ⟨w'.heap.size, 0, none⟩) w'.heap.size 0 (some ⟨b2, o2 + nx, none⟩) (sg.map bv) := fun hp => ⟨rfl, (hsuf.below hb2).src (by have := hsuf.1; simp at hp; omega)⟩
              have q3 : 0 + (sg.map bv).length ≤ (List.replicate v (Value.int .u8 0)).length := by have := hsuf.1; simp; omega
              have Q1 := Lib.hid q1
              have HS := Lib.hid hsuf.1
              clear q1 hsuf
              go_upto_region 12 with ((with_reducible refine wp_row_copy (dCap := v) (sCap := c - nx) r2 Try.underlying44 info_w8s Q1.out q2 q3 (bv_one sg) ?_ ?_ ?_); rfl; rfl; intro w3 u3 r3)
              have hb3 := Upd.below hb2 u3 (Nat.le_refl _)
              have r3 : Row w3 w'.heap.size 5 (sg.map bv).toArray := by
                have e := HS.out
                subst e
                simpa using r3
              clear q2 q3 Q1 u3 r2 hb2
              have hv3 : v < 9223372036854775808 := by omega
              go_wp2
              refine bodyPost_ret (v := .tuple #[.slice (some ⟨w'.heap.size, 0, none⟩) v v, .int .i64 ((nx : Int) + v), .int .i64 0]) (by simp [results, Try.results116, go_sem]) rfl ⟨_, v, v, by rw [HR.out]; rfl, by rw [HR.out]; have hi := OwnB.of_row r3 (Nat.le_refl _) (by rw [← HS.out]; simp only [maxLen]; omega); rw [← HS.out] at hi; exact hi, hb3⟩
            · obtain rfl : nx = n := by omega
              obtain rfl : nx = c := by omega
              obtain rfl : v = 0 := by omega

              obtain rfl : sg = [] := List.eq_nil_of_length_eq_zero hsuf.1.symm
              go_enter Try.func116, Try.ntmps116
              go_upto_region 10 with (go_at_call 115; refine HC.out.mono ?_; rintro e w' ⟨rfl, rfl⟩)
              go_upto_region 11 with ((at_make; refine wp_make 0 Try.underlying44 info_w8 rfl (by omega) (by omega) rfl rfl rfl rfl ?_; intro w2 r2 hb2))
              have q1 : (([] : List UInt8).map bv).length = Nat.min 0 0 := rfl
              have q2 : CopyOk w2 (some ⟨w'.heap.size, 0, none⟩) w'.heap.size 0 (some ⟨b2, o2, none⟩) (([] : List UInt8).map bv) := fun hp => absurd hp (by simp)
              have q3 : 0 + (([] : List UInt8).map bv).length ≤ (List.replicate 0 (Value.int .u8 0)).length := by simp
              have Q1 := Lib.hid q1
              clear q1 hsuf
              go_upto_region 12 with ((with_reducible refine wp_row_copy (dCap := 0) (sCap := 0) r2 Try.underlying44 info_w8s Q1.out q2 q3 (bv_one []) ?_ ?_ ?_); rfl; rfl; intro w3 u3 r3)
              have hb3 := Upd.below hb2 u3 (Nat.le_refl _)
              clear q2 q3 Q1 u3 r2 hb2
              go_wp2
              refine bodyPost_ret (v := .tuple #[.slice (some ⟨w'.heap.size, 0, none⟩) 0 0, .int .i64 (nx : Int), .int .i64 0]) (by simp [results, Try.results116, go_sem]) rfl ⟨some ⟨w'.heap.size, 0, none⟩, 0, 0, by rw [HR.out]; rfl, by rw [HR.out]; exact OwnB.of_row (bs := []) (by simpa using r3) (Nat.le_refl _) (by simp), hb3⟩
      · rw [if_pos he] at hR
        have HR := Lib.hid hR
        have heb : ((er : Int) != 0) = true := by simpa using he
        clear hR hnx
        go_enter Try.func116, Try.ntmps116
        go_wp2_with (go_at_call 115; refine HC.out.mono ?_; rintro e w' ⟨rfl, rfl⟩)
        refine bodyPost_ret (v := .tuple #[.slice none 0 0, .int .i64 0, .int .i64 (er : Nat)]) (by simp [results, Try.results116, go_sem]) rfl ⟨none, 0, 0, by rw [HR.out]; rfl, by rw [HR.out]; exact OwnB.nil _ _ _, Below.refl _ _⟩
set_option maxRecDepth 2000 in
set_option maxHeartbeats 1000000 in
theorem bytes_ref (A : Option Addr) (n c : Nat) (bs : List UInt8) (off limit : Int) (w : World) (hA : IsB w A n bs) (hc : n ≤ c) (hn : n ≤ 1000000) (b0 : -9223372036854775808 ≤ off) (b1 : off < 9223372036854775808) (l0 : -9223372036854775808 ≤ limit) (l1 : limit < 9223372036854775808) :
    Calls Try.prog 132 #[.slice A n c, .int .i64 off, .int .i64 limit] w (BPost bs off limit w) := by
  have hl := hA.1
  have bad : ∀ e w', (off < 0 ∨ (n : Int) < off ∨ limit < 0) → w' = w → e = .returned (.tuple #[.slice none 0 0, .int .i64 0, .int .i64 6]) → BPost bs off limit w e w' := by
    intro e w' h hw he
    have hb : bR bs off limit = ([], 0, 6) := by rw [bR, if_pos (by rw [← hl]; exact h)]
    refine ⟨none, 0, 0, ?_, ?_, ?_⟩
    · rw [hb]; exact he
    · rw [hb]; exact OwnB.nil _ _ _
    · rw [hw]; exact Below.refl _ _
  rcases (by omega : off < 0 ∨ (0 ≤ off ∧ (n : Int) < off) ∨ (0 ≤ off ∧ off ≤ n)) with h1 | ⟨h0, h1⟩ | ⟨h0, h1⟩
  · have B := Lib.hid bad
    clear bad
    go_enter Try.func132, Try.ntmps132
    go_wp2
    refine bodyPost_ret (v := .tuple #[.slice none 0 0, .int .i64 0, .int .i64 6]) (by simp [results, Try.results132, go_sem]) rfl (B.out _ _ (.inl h1) rfl rfl)
  · have h2 : ¬ off < 0 := by omega
    have B := Lib.hid bad
    clear bad
    go_enter Try.func132, Try.ntmps132
    go_wp2
    refine bodyPost_ret (v := .tuple #[.slice none 0 0, .int .i64 0, .int .i64 6]) (by simp [results, Try.results132, go_sem]) rfl (B.out _ _ (.inr (.inl h1)) rfl rfl)
  · have h2 : ¬ off < 0 := by omega
    have h3 : ¬ (n : Int) < off := by omega
    have B := Lib.hid bad
    clear bad
    by_cases hlim : limit < 0
    · go_enter Try.func132, Try.ntmps132
      go_wp2
      refine bodyPost_ret (v := .tuple #[.slice none 0 0, .int .i64 0, .int .i64 6]) (by simp [results, Try.results132, go_sem]) rfl (B.out _ _ (.inr (.inr hlim)) rfl rfl)
    · clear B
      obtain ⟨L, rfl⟩ : ∃ L : Nat, limit = (L : Int) := ⟨limit.toNat, by omega⟩
      have hL : L < 9223372036854775808 := by omega
      have hC := uvarint_ref A n c bs off w hA (by omega) b0 b1
      have hu := uvR_lt bs off
      have hnx : (uvR bs off).2.2 = 0 → 0 < (uvR bs off).2.1 ∧ (uvR bs off).2.1 ≤ bs.length := fun h => by have := uvR_next h; omega
      have hR : bR bs off L = if (uvR bs off).2.2 ≠ 0 then ([], 0, (uvR bs off).2.2) else if L < (uvR bs off).1 then ([], 0, 15)
          else if bs.length - (uvR bs off).2.1 < (uvR bs off).1 then ([], 0, 52) else ((bs.drop (uvR bs off).2.1).take (uvR bs off).1, (uvR bs off).2.1 + (uvR bs off).1, 0) := by
        rw [bR, if_neg (by rw [← hl]; omega)]
        simp only [Int.ofNat_lt]
      unfold UvPost at hC
      generalize uvR bs off = r at *
      obtain ⟨v, nx, er⟩ := r
      simp only at hC hu hnx hR
      have HC := Lib.hid hC
      have HA := Lib.hid hA
      have hlh := Lib.hid hl
      clear hl
      have hl := hlh
      clear hlh hC hA h0 h1 b0 b1 l0 l1 hlim
      by_cases he : er = 0
      · subst he
        obtain ⟨hx0, hx1⟩ := hnx rfl
        rw [if_neg (by simp)] at hR
        have hxn : nx ≤ n := by have := hl.out; omega
        clear hnx hx1
        by_cases hv : L < v
        · rw [if_pos hv] at hR
          have HR := Lib.hid hR
          clear hR
          go_enter Try.func132, Try.ntmps132
          go_wp2_with (go_at_call 131; refine HC.out.mono ?_; rintro e w' ⟨rfl, rfl⟩)
          refine bodyPost_ret (v := .tuple #[.slice none 0 0, .int .i64 0, .int .i64 15]) (by simp [results, Try.results132, go_sem]) rfl ⟨none, 0, 0, by rw [HR.out]; rfl, by rw [HR.out]; exact OwnB.nil _ _ _, Below.refl _ _⟩
        · rw [if_neg hv] at hR
          by_cases hw : bs.length - nx < v
          · rw [if_pos hw] at hR
            have HR := Lib.hid hR
            have hw2 : (n : Int) - nx < v := by have := hl.out; omega
            clear hR hw
            go_enter Try.func132, Try.ntmps132
            go_wp2_with (go_at_call 131; refine HC.out.mono ?_; rintro e w' ⟨rfl, rfl⟩)
            refine bodyPost_ret (v := .tuple #[.slice none 0 0, .int .i64 0, .int .i64 52]) (by simp [results, Try.results132, go_sem]) rfl ⟨none, 0, 0, by rw [HR.out]; rfl, by rw [HR.out]; exact OwnB.nil _ _ _, Below.refl _ _⟩
          · rw [if_neg hw] at hR
            have HR := Lib.hid hR
            have hw2 : ¬ (n : Int) - nx < v := by have := hl.out; omega
            have hvn : nx + v ≤ n := by have := hl.out; omega
            obtain ⟨b2, o2, e2, _⟩ := HA.out.2 (by omega)
            subst e2
            have hsuf := HA.out.suf hvn
            clear hR hw hu
            generalize (bs.drop nx).take v = sg at *
            rcases (by omega : nx < c ∨ (nx = c ∧ v = 0)) with hcc | ⟨hcc, hv0⟩
            · have hv3 : v < 9223372036854775808 := by omega
              go_enter Try.func132, Try.ntmps132
              go_upto_region 10 with (go_at_call 131; refine HC.out.mono ?_; rintro e w' ⟨rfl, rfl⟩)
              have hl3 : 0 + v ≤ 140737488355328 := by omega
              go_wp2_with (at_builtin; (refine wp_append_b (P := Try.prog) (m := v) (c' := c - nx) rfl _ _ 44 rfl Try.underlying44 info_b (OwnB.nil w' w'.heap.size 5) hsuf hl3 (Nat.le_refl _) rfl (by simp [Act.eval]; done) ?_); intro A3 n3 c3 w3 hn3 ho3 hb3 hg3 hat3)
              obtain rfl : v = n3 := by have := hn3.out; omega
              refine bodyPost_ret (v := .tuple #[.slice A3 v c3, .int .i64 ((nx : Int) + v), .int .i64 0]) (by simp [results, Try.results132, go_sem]) rfl ⟨A3, v, c3, by rw [HR.out]; rfl, by rw [HR.out]; exact ho3, hb3⟩
            · obtain rfl : nx = n := by omega
              obtain rfl : nx = c := by omega
              obtain rfl : v = 0 := by omega
              obtain rfl : sg = [] := List.eq_nil_of_length_eq_zero hsuf.1.symm
              go_enter Try.func132, Try.ntmps132
              go_upto_region 10 with (go_at_call 131; refine HC.out.mono ?_; rintro e w' ⟨rfl, rfl⟩)
              have hl3 : 0 + 0 ≤ 140737488355328 := by omega
              go_wp2_with (at_builtin; (refine wp_append_b (P := Try.prog) (m := 0) (c' := 0) rfl _ _ 44 rfl Try.underlying44 info_b (OwnB.nil w' w'.heap.size 5) (IsB.nil _ (some ⟨b2, o2, none⟩)) hl3 (Nat.le_refl _) rfl (by simp [Act.eval]; done) ?_); intro A3 n3 c3 w3 hn3 ho3 hb3 hg3 hat3)
              obtain rfl : n3 = 0 := by have := hn3.out; omega
              refine bodyPost_ret (v := .tuple #[.slice A3 0 c3, .int .i64 (nx : Int), .int .i64 0]) (by simp [results, Try.results132, go_sem]) rfl ⟨A3, 0, c3, by rw [HR.out]; rfl, by rw [HR.out]; exact ho3, hb3⟩
      · rw [if_pos he] at hR
        have HR := Lib.hid hR
        have heb : ((er : Int) != 0) = true := by simpa using he
        clear hR hnx
        go_enter Try.func132, Try.ntmps132
        go_wp2_with (go_at_call 131; refine HC.out.mono ?_; rintro e w' ⟨rfl, rfl⟩)
        refine bodyPost_ret (v := .tuple #[.slice none 0 0, .int .i64 0, .int .i64 (er : Nat)]) (by simp [results, Try.results132, go_sem]) rfl ⟨none, 0, 0, by rw [HR.out]; rfl, by rw [HR.out]; exact OwnB.nil _ _ _, Below.refl _ _⟩
end Go.Proofs.Ythjkhambmgepdaa
