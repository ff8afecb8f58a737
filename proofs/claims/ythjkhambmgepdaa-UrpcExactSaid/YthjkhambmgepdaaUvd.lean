/- What decoding a variable-length integer yields; contracts of Uvarint and of the reference's Uvarint. -/
import Derived.Test.YthjkhambmgepdaaFix
import Derived.WalkMore
namespace Go.Proofs.Ythjkhambmgepdaa
open Go.RowKit
set_option linter.unusedVariables false
/-- From the rest of the bytes, n groups decoded to v, the next byte at offset o: the value, the next offset, the error. -/
def uvGo : List UInt8 → Nat → Nat → Nat → Nat × Nat × Nat
  | [], _, _, _ => (0, 0, 52)
  | x :: r, n, v, o =>
    if n = 9 ∧ 1 < x.toNat then (0, 0, 6)
    else if 0 < n ∧ x.toNat = 0 then (0, 0, 54)
    else if x.toNat < 128 then (v + x.toNat * 128 ^ n, o + 1, 0)
    else uvGo r (n + 1) (v + x.toNat % 128 * 128 ^ n) (o + 1)
def uvR (bs : List UInt8) (off : Int) : Nat × Nat × Nat := if off < 0 ∨ (bs.length : Int) < off then (0, 0, 6) else uvGo (bs.drop off.toNat) 0 0 off.toNat
def UvPost (bs : List UInt8) (off : Int) (w : World) (e : Ending) (w' : World) : Prop := e = .returned (.tuple #[.int .u64 ((uvR bs off).1 : Nat), .int .i64 ((uvR bs off).2.1 : Nat), .int .i64 ((uvR bs off).2.2 : Nat)]) ∧ w' = w
theorem pow_128 (k : Nat) : 128 ^ k = 2 ^ (7 * k) := by rw [Nat.pow_mul]
theorem pow9 {k : Nat} (h : k ≤ 9) : 128 ^ k ≤ 9223372036854775808 := Nat.le_trans (Nat.pow_le_pow_right (by omega) h) (by decide)
theorem fits64 {x k : Nat} (hx : x < 128) (hk : k ≤ 9) (h9 : k = 9 → x ≤ 1) : x * 128 ^ k < 18446744073709551616 := by
  rcases Nat.lt_or_ge k 9 with h | h
  · have h1 : 128 ^ k ≤ 128 ^ 8 := Nat.pow_le_pow_right (by omega) (by omega)
    have h2 : x * 128 ^ k ≤ 127 * 128 ^ 8 := Nat.mul_le_mul (by omega) h1
    have h3 : (127 : Nat) * 128 ^ 8 < 18446744073709551616 := by decide +kernel
    exact Nat.lt_of_le_of_lt h2 h3
  · obtain rfl : k = 9 := by omega
    have h1 := h9 rfl
    have h2 : x * 128 ^ 9 ≤ 1 * 128 ^ 9 := Nat.mul_le_mul_right _ h1
    have h3 : (1 : Nat) * 128 ^ 9 < 18446744073709551616 := by decide +kernel
    exact Nat.lt_of_le_of_lt h2 h3
theorem or_shl7 {L x k : Nat} (hx : x < 128) (hk : k ≤ 9) (h9 : k = 9 → x ≤ 1) (hL : L < 128 ^ k) : bits .or .u64 (L : Int) (IntKind.u64.wrap (IntKind.u64.wrap (x : Int) * 2 ^ (7 * k))) = ((L + x * 128 ^ k : Nat) : Int) := by
  have h1 := fits64 hx hk h9
  have h2 := pow9 hk
  have h3 : (2 : Int) ^ (7 * k) = ((128 ^ k : Nat) : Int) := by rw [pow_128]; simp
  rw [h3, wrapU64 (by omega), ← Int.natCast_mul, wrapU64 (by omega), u64_or_nat _ _ (by omega) (by omega)]
  congr 1
  rw [pow_128] at *
  have := Nat.two_pow_add_eq_or_of_lt (i := 7 * k) hL x
  rw [Nat.or_comm, Nat.mul_comm, ← this]
  omega
theorem acc_lt {L x k : Nat} (hL : L < 128 ^ k) (hx : x < 128) : L + x * 128 ^ k < 128 ^ (k + 1) := by
  have : x * 128 ^ k ≤ 127 * 128 ^ k := Nat.mul_le_mul_right _ (by omega)
  rw [Nat.pow_succ]
  omega
theorem and127u8 {x : Nat} (h : x < 256) : bits .and .u8 (x : Int) 127 = ((x % 128 : Nat) : Int) := by
  have := u8_and_nat x 127 h (by omega)
  rw [show x &&& 127 = x % 128 from Nat.and_two_pow_sub_one_eq_mod x 7] at this
  exact this
theorem step7 {v X k : Nat} (hX : X < 256) (hk : k ≤ 9) (h9 : k = 9 → X ≤ 1) (hv : v < 128 ^ k) :
    bits .or .u64 (v : Int) (IntKind.u64.wrap (IntKind.u64.wrap (bits .and .u8 (X : Int) 127) * 2 ^ (7 * k))) = ((v + X % 128 * 128 ^ k : Nat) : Int) := by
  rw [and127u8 hX]
  exact or_shl7 (Nat.mod_lt _ (by omega)) hk (fun h => by have := h9 h; omega) hv
/-- The last group: what is handed back. -/
theorem uv_done {bs r : List UInt8} {x : UInt8} {X o k v : Nat} {off : Int} (hx : X = x.toNat) (hR : uvR bs off = uvGo (x :: r) k v (o + k)) (h9 : k = 9 → X ≤ 1) (h0 : 0 < k → X ≠ 0) (hX : X < 128) :
    uvR bs off = (v + X % 128 * 128 ^ k, o + k + 1, 0) := by
  subst hx
  rw [hR, uvGo, if_neg (fun h => by have := h9 h.1; omega), if_neg (fun h => h0 h.1 h.2), if_pos hX, Nat.mod_eq_of_lt hX]
theorem uv_next {bs r : List UInt8} {x : UInt8} {X o k v : Nat} {off : Int} (hx : X = x.toNat) (hR : uvR bs off = uvGo (x :: r) k v (o + k)) (h9 : k ≠ 9) (hX : 128 ≤ X) :
    uvR bs off = uvGo r (k + 1) (v + X % 128 * 128 ^ k) (o + (k + 1)) := by
  subst hx
  rw [hR, uvGo, if_neg (fun h => h9 h.1), if_neg (fun h => by omega), if_neg (by omega)]
  rfl
theorem uv_big {bs r : List UInt8} {x : UInt8} {X o v : Nat} {off : Int} (hx : X = x.toNat) (hR : uvR bs off = uvGo (x :: r) 9 v (o + 9)) (hX : 1 < X) : uvR bs off = (0, 0, 6) := by
  subst hx
  rw [hR, uvGo, if_pos ⟨rfl, hX⟩]
theorem uv_zero {bs r : List UInt8} {x : UInt8} {X o k v : Nat} {off : Int} (hx : X = x.toNat) (hR : uvR bs off = uvGo (x :: r) k v (o + k)) (hk : 0 < k) (hX : X = 0) : uvR bs off = (0, 0, 54) := by
  subst hx
  rw [hR, uvGo, if_neg (fun h => by omega), if_pos ⟨hk, hX⟩]
set_option maxRecDepth 20000 in
set_option maxHeartbeats 4000000 in
theorem uvarint01 (A : Option Addr) (n c : Nat) (bs : List UInt8) (off : Int) (w : World) (hA : IsB w A n bs) (hn : n ≤ 1000000000) (b0 : -9223372036854775808 ≤ off) (b1 : off < 9223372036854775808) :
    Calls Try.prog 115 #[.slice A n c, .int .i64 off] w (UvPost bs off w) := by
  have hl := hA.1
  rcases (by omega : off < 0 ∨ (0 ≤ off ∧ (n : Int) < off) ∨ (0 ≤ off ∧ off ≤ n)) with h1 | ⟨h0, h1⟩ | ⟨h0, h1⟩
  · go_enter Try.func115, Try.ntmps115
    go_wp2
    go_step3
    go_wp2
    rw [Exit.noGoto_ret]
    refine bodyPost_ret (v := .tuple #[.int .u64 0, .int .i64 0, .int .i64 6]) (by simp [results, Try.results115, go_sem]) rfl ⟨by rw [uvR, if_pos (.inl h1)]; rfl, rfl⟩
  · have h2 : ¬ off < 0 := by omega
    go_enter Try.func115, Try.ntmps115
    go_wp2
    go_step3
    go_wp2
    rw [Exit.noGoto_ret]
    refine bodyPost_ret (v := .tuple #[.int .u64 0, .int .i64 0, .int .i64 6]) (by simp [results, Try.results115, go_sem]) rfl ⟨by rw [uvR, if_pos (.inr (by omega))]; rfl, rfl⟩
  · obtain ⟨o, rfl⟩ := Int.eq_ofNat_of_zero_le h0
    have h4 : o ≤ n := by omega
    have h5 : (o : Int) ≤ n := by omega
    clear b0 b1 h0 h1
    have HR : Hid (uvR bs o = uvGo (bs.drop (o + 0)) 0 0 (o + 0)) := Lib.hid (by
      rw [uvR, if_neg (by omega)]
      rfl)
    have HL := Lib.hid hl
    clear hl
    go_enter Try.func115, Try.ntmps115
    go_wp2
    go_step3
    go_wp2
    go_step3
    go_wp2
    go_loop [4, 7] (fun x i => ∃ k v : Nat, i = .int .i64 k ∧ x = .int .u64 v ∧ k ≤ 9 ∧ v < 128 ^ k ∧ o + k ≤ n ∧ Hid (uvR bs o = uvGo (bs.drop (o + k)) k v (o + k))) (fun _ i => 10 - (intOf i).toNat)
    case atStart => exact ⟨0, 0, rfl, rfl, by omega, by omega, by omega, HR⟩
    case round =>
      clear HR
      obtain ⟨k, v, rfl, rfl, hk, hv, hok, HR⟩ := hrel
      by_cases hend : o + k = n
      · have e1 : (o : Int) + k = n := by omega
        go_wp2
        refine bodyPost_ret (v := .tuple #[.int .u64 0, .int .i64 0, .int .i64 52]) (by simp [results, Try.results115, go_sem]) rfl ⟨by rw [HR.out, List.drop_eq_nil_of_le (by have := HL.out; omega)]; rfl, rfl⟩
      · have hlt : o + k < bs.length := by have := HL.out; omega
        have hi : o + k < n := by omega
        obtain ⟨b1, o1, e1, f1⟩ := hA.2 (by omega)
        subst e1
        obtain ⟨x, hx⟩ : ∃ x, x = bs[o + k] := ⟨_, rfl⟩
        have hc : w.cell? ⟨b1, o1 + (o + k), none⟩ = some (.int .u8 (x.toNat : Int)) := by rw [hx]; exact f1 (o + k) hlt
        have HG : Hid (uvR bs o = uvGo (x :: bs.drop (o + k + 1)) k v (o + k)) := Lib.hid (by rw [HR.out, List.drop_eq_getElem_cons hlt, ← hx])
        have hne : ¬ (o : Int) + k = n := by omega
        have hx256 : x.toNat < 256 := x.toNat_lt
        have HV := Lib.hid hv
        obtain ⟨X, hXe⟩ : ∃ X, X = x.toNat := ⟨_, rfl⟩
        rw [← hXe] at hc hx256
        have HX := Lib.hid hXe
        clear f1 hx HR hlt hend hv hXe
        by_cases h9 : k = 9
        · subst h9
          by_cases hX1 : 1 < X
          · have hXi : (1 : Int) < X := by omega
            go_wp2
            (try rw [Exit.noGoto_ret])
            refine bodyPost_ret (v := .tuple #[.int .u64 0, .int .i64 0, .int .i64 6]) (by simp [results, Try.results115, go_sem]) rfl ⟨by rw [uv_big HX.out HG.out hX1]; rfl, rfl⟩
          · have hXi : ¬ (1 : Int) < X := by omega
            by_cases hX0 : X = 0
            · have hXb : ((X : Int) == 0) = true := beq_iff_eq.2 (by omega)
              go_wp2
              (try rw [Exit.noGoto_ret])
              refine bodyPost_ret (v := .tuple #[.int .u64 0, .int .i64 0, .int .i64 54]) (by simp [results, Try.results115, go_sem]) rfl ⟨by rw [uv_zero HX.out HG.out (by omega) hX0]; rfl, rfl⟩
            · have hXb : ((X : Int) == 0) = false := beq_eq_false_iff_ne.2 (by omega)
              have hX128 : X < 128 := by omega
              obtain ⟨V, hV⟩ : ∃ V, V = v + X % 128 * 128 ^ 9 := ⟨_, rfl⟩
              have HE := Lib.hid (step7 hx256 hk (fun _ => by omega) HV.out)
              have HU := Lib.hid (uv_done HX.out HG.out (fun _ => by omega) (fun _ => hX0) (by omega))
              rw [← hV] at HE HU
              clear hV
              have HE9 : Hid (bits .or .u64 (v : Int) (IntKind.u64.wrap (IntKind.u64.wrap (bits .and .u8 (X : Int) 127) * 9223372036854775808)) = (V : Int)) := Lib.hid (by
                rw [← HE.out]
                rfl)
              have hXd : decide ((X : Int) < 128) = true := decide_eq_true (by omega)
              clear hX128 hx256
              go_upto_region 12 with (fail)
              rw [HE9.out]
              go_wp2
              (try rw [Exit.noGoto_ret])
              refine bodyPost_ret (v := .tuple #[.int .u64 (V : Int), .int .i64 ((o : Int) + 10), .int .i64 0]) (by simp [results, Try.results115, go_sem]) rfl ⟨by rw [HU.out]; simp; omega, rfl⟩
        · have h9b : ((k : Int) == 9) = false := beq_eq_false_iff_ne.2 (by omega)
          rcases Nat.eq_zero_or_pos k with hk0 | hk0
          · have hkp : ¬ 0 < k := by omega
            clear hk0
            by_cases hX : X < 128
            · skip
              obtain ⟨V, hV⟩ : ∃ V, V = v + X % 128 * 128 ^ k := ⟨_, rfl⟩
              have HE := Lib.hid (step7 hx256 hk (fun h => absurd h h9) HV.out)
              have HU := Lib.hid (uv_done HX.out HG.out (fun h => absurd h h9) (fun h => absurd h hkp) (hX))
              rw [← hV] at HE HU
              clear hV
              have hXd : decide ((X : Int) < 128) = true := decide_eq_true (by omega)
              clear hX hx256
              go_upto_region 12 with (fail)
              rw [HE.out]
              go_wp2
              (try rw [Exit.noGoto_ret])
              refine bodyPost_ret (v := .tuple #[.int .u64 (V : Int), .int .i64 ((o : Int) + ((k : Int) + 1)), .int .i64 0]) (by simp [results, Try.results115, go_sem]) rfl ⟨by rw [HU.out]; simp; omega, rfl⟩
            · have hX2 : 128 ≤ X := by omega
              obtain ⟨V, hV⟩ : ∃ V, V = v + X % 128 * 128 ^ k := ⟨_, rfl⟩
              have HE := Lib.hid (step7 hx256 hk (fun h => absurd h h9) HV.out)
              have HU := Lib.hid (uv_next HX.out HG.out h9 (by omega))
              have HW := Lib.hid (acc_lt (x := X % 128) HV.out (Nat.mod_lt _ (by omega)))
              rw [← hV] at HE HU HW
              clear hV
              have hXd : decide ((X : Int) < 128) = false := decide_eq_false (by omega)
              clear hX hX2 hx256
              go_upto_region 12 with (fail)
              rw [HE.out]
              go_wp2
              exact ⟨⟨k + 1, _, by go_num, rfl, by omega, HW.out, by omega, HU⟩, by simp [intOf]; omega⟩
          · skip
            by_cases hX0 : X = 0
            · have hXb : ((X : Int) == 0) = true := beq_iff_eq.2 (by omega)
              go_wp2
              (try rw [Exit.noGoto_ret])
              refine bodyPost_ret (v := .tuple #[.int .u64 0, .int .i64 0, .int .i64 54]) (by simp [results, Try.results115, go_sem]) rfl ⟨by rw [uv_zero HX.out HG.out hk0 hX0]; rfl, rfl⟩
            · have hXb : ((X : Int) == 0) = false := beq_eq_false_iff_ne.2 (by omega)
              by_cases hX : X < 128
              · skip
                obtain ⟨V, hV⟩ : ∃ V, V = v + X % 128 * 128 ^ k := ⟨_, rfl⟩
                have HE := Lib.hid (step7 hx256 hk (fun h => absurd h h9) HV.out)
                have HU := Lib.hid (uv_done HX.out HG.out (fun h => absurd h h9) (fun h => hX0) (hX))
                rw [← hV] at HE HU
                clear hV
                have hXd : decide ((X : Int) < 128) = true := decide_eq_true (by omega)
                clear hX hx256
                go_upto_region 12 with (fail)
                rw [HE.out]
                go_wp2
                (try rw [Exit.noGoto_ret])
                refine bodyPost_ret (v := .tuple #[.int .u64 (V : Int), .int .i64 ((o : Int) + ((k : Int) + 1)), .int .i64 0]) (by simp [results, Try.results115, go_sem]) rfl ⟨by rw [HU.out]; simp; omega, rfl⟩
              · have hX2 : 128 ≤ X := by omega
                obtain ⟨V, hV⟩ : ∃ V, V = v + X % 128 * 128 ^ k := ⟨_, rfl⟩
                have HE := Lib.hid (step7 hx256 hk (fun h => absurd h h9) HV.out)
                have HU := Lib.hid (uv_next HX.out HG.out h9 (by omega))
                have HW := Lib.hid (acc_lt (x := X % 128) HV.out (Nat.mod_lt _ (by omega)))
                rw [← hV] at HE HU HW
                clear hV
                have hXd : decide ((X : Int) < 128) = false := decide_eq_false (by omega)
                clear hX hX2 hx256
                go_upto_region 12 with (fail)
                rw [HE.out]
                go_wp2
                exact ⟨⟨k + 1, _, by go_num, rfl, by omega, HW.out, by omega, HU⟩, by simp [intOf]; omega⟩
end Go.Proofs.Ythjkhambmgepdaa
