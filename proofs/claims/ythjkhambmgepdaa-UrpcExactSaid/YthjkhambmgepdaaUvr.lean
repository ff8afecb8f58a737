/- Contract of the reference's Uvarint. -/
import Derived.Test.YthjkhambmgepdaaUvd
namespace Go.Proofs.Ythjkhambmgepdaa
open Go.RowKit
set_option linter.unusedVariables false
set_option maxRecDepth 20000 in
set_option maxHeartbeats 4000000 in
theorem uvarint_ref (A : Option Addr) (n c : Nat) (bs : List UInt8) (off : Int) (w : World) (hA : IsB w A n bs) (hn : n ≤ 1000000000) (b0 : -9223372036854775808 ≤ off) (b1 : off < 9223372036854775808) :
    Calls Try.prog 131 #[.slice A n c, .int .i64 off] w (UvPost bs off w) := by
  have hl := hA.1
  rcases (by omega : off < 0 ∨ (0 ≤ off ∧ (n : Int) < off) ∨ (0 ≤ off ∧ off ≤ n)) with h1 | ⟨h0, h1⟩ | ⟨h0, h1⟩
  · go_enter Try.func131, Try.ntmps131
    go_wp2
    refine bodyPost_ret (v := .tuple #[.int .u64 0, .int .i64 0, .int .i64 6]) (by simp [results, Try.results131, go_sem]) rfl ⟨by rw [uvR, if_pos (.inl h1)]; rfl, rfl⟩
  · have h2 : ¬ off < 0 := by omega
    go_enter Try.func131, Try.ntmps131
    go_wp2
    refine bodyPost_ret (v := .tuple #[.int .u64 0, .int .i64 0, .int .i64 6]) (by simp [results, Try.results131, go_sem]) rfl ⟨by rw [uvR, if_pos (.inr (by omega))]; rfl, rfl⟩
  · obtain ⟨o, rfl⟩ := Int.eq_ofNat_of_zero_le h0
    have h4 : o ≤ n := by omega
    have h5 : (o : Int) ≤ n := by omega
    clear b0 b1 h0 h1
    have HR : Hid (uvR bs o = uvGo (bs.drop (o + 0)) 0 0 (o + 0)) := Lib.hid (by
      rw [uvR, if_neg (by omega)]
      rfl)
    have HL := Lib.hid hl
    clear hl
    go_enter Try.func131, Try.ntmps131
    go_wp2
    go_loop [7, 8] (fun x i => ∃ k v : Nat, i = .int .i64 k ∧ x = .int .u64 v ∧ k ≤ 9 ∧ v < 128 ^ k ∧ o + k ≤ n ∧ Hid (uvR bs o = uvGo (bs.drop (o + k)) k v (o + k))) (fun _ i => 10 - (intOf i).toNat)
    case atStart => exact ⟨0, 0, rfl, rfl, by omega, by omega, by omega, HR⟩
    case round =>
      clear HR
      obtain ⟨k, v, rfl, rfl, hk, hv, hok, HR⟩ := hrel
      have hk10 : k < 10 := by omega
      by_cases hend : o + k = n
      · have e1 : (n : Int) ≤ (o : Int) + k := by omega
        go_wp2
        refine bodyPost_ret (v := .tuple #[.int .u64 0, .int .i64 0, .int .i64 52]) (by simp [results, Try.results131, go_sem]) rfl ⟨by rw [HR.out, List.drop_eq_nil_of_le (by have := HL.out; omega)]; rfl, rfl⟩
      · have hlt : o + k < bs.length := by have := HL.out; omega
        have hi : o + k < n := by omega
        obtain ⟨b1, o1, e1, f1⟩ := hA.2 (by omega)
        subst e1
        obtain ⟨x, hx⟩ : ∃ x, x = bs[o + k] := ⟨_, rfl⟩
        have hc : w.cell? ⟨b1, o1 + (o + k), none⟩ = some (.int .u8 (x.toNat : Int)) := by rw [hx]; exact f1 (o + k) hlt
        have HG : Hid (uvR bs o = uvGo (x :: bs.drop (o + k + 1)) k v (o + k)) := Lib.hid (by rw [HR.out, List.drop_eq_getElem_cons hlt, ← hx])
        have hne : ¬ (n : Int) ≤ (o : Int) + k := by omega
        have hx256 : x.toNat < 256 := x.toNat_lt
        have HV := Lib.hid hv
        obtain ⟨X, hXe⟩ : ∃ X, X = x.toNat := ⟨_, rfl⟩
        rw [← hXe] at hc hx256
        have HX := Lib.hid hXe
        clear f1 hx HR hlt hend hv hXe
        by_cases h9 : k = 9
        · subst h9
          by_cases hX1 : 1 < X
          · have hXi : (1 : Int) < X := by omega
            go_wp2
            refine bodyPost_ret (v := .tuple #[.int .u64 0, .int .i64 0, .int .i64 6]) (by simp [results, Try.results131, go_sem]) rfl ⟨by rw [uv_big HX.out HG.out hX1]; rfl, rfl⟩
          · have hXi : ¬ (1 : Int) < X := by omega
            by_cases hX0 : X = 0
            · skip
              obtain ⟨V, hV⟩ : ∃ V, V = v + X % 128 * 128 ^ 9 := ⟨_, rfl⟩
              have HE := Lib.hid (step7 hx256 hk (fun h => by omega) HV.out)
              have HU := Lib.hid (uv_zero HX.out HG.out (by omega) hX0)
              rw [← hV] at HE
              clear hV
              have HE9 : Hid (bits .or .u64 (v : Int) (IntKind.u64.wrap (IntKind.u64.wrap (bits .and .u8 (X : Int) 127) * 9223372036854775808)) = (V : Int)) := Lib.hid (by
                rw [← HE.out]
                rfl)
              subst hX0
              go_upto_region 13 with (fail)
              (first | rw [HE9.out] | skip)
              go_wp2
              refine bodyPost_ret (v := .tuple #[.int .u64 0, .int .i64 0, .int .i64 54]) (by simp [results, Try.results131, go_sem]) rfl ⟨by rw [HU.out]; rfl, rfl⟩
            · have hXb : ((X : Int) == 0) = false := beq_eq_false_iff_ne.2 (by omega)
              have hX128 : X < 128 := by omega
              obtain ⟨V, hV⟩ : ∃ V, V = v + X % 128 * 128 ^ 9 := ⟨_, rfl⟩
              have HE := Lib.hid (step7 hx256 hk (fun _ => by omega) HV.out)
              have HU := Lib.hid (uv_done HX.out HG.out (fun _ => by omega) (fun _ => hX0) (by omega))
              rw [← hV] at HE HU
              clear hV
              have HE9 : Hid (bits .or .u64 (v : Int) (IntKind.u64.wrap (IntKind.u64.wrap (bits .and .u8 (X : Int) 127) * 9223372036854775808)) = (V : Int)) := Lib.hid (by
                rw [← HE.out]
                rfl)
              clear hx256
              go_upto_region 13 with (fail)
              rw [HE9.out]
              go_wp2
              refine bodyPost_ret (v := .tuple #[.int .u64 (V : Int), .int .i64 ((o : Int) + 9 + 1), .int .i64 0]) (by simp [results, Try.results131, go_sem]) rfl ⟨by rw [HU.out]; simp; try omega, rfl⟩
        · have h9b : ((k : Int) == 9) = false := beq_eq_false_iff_ne.2 (by omega)
          by_cases hX0 : X = 0
          · rcases Nat.eq_zero_or_pos k with hk0 | hk0
            · have hkp : ¬ 0 < k := by omega
              have hX : X < 128 := by omega
              have hXb : ((X : Int) == 0) = true := beq_iff_eq.2 (by omega)
              clear hk0
              obtain ⟨V, hV⟩ : ∃ V, V = v + X % 128 * 128 ^ k := ⟨_, rfl⟩
              have HE := Lib.hid (step7 hx256 hk (fun h => absurd h h9) HV.out)
              have HU := Lib.hid (uv_done HX.out HG.out (fun h => absurd h h9) (fun h => absurd h hkp) hX)
              rw [← hV] at HE HU
              clear hV
              subst hX0
              go_upto_region 13 with (fail)
              have HE0 : bits .or .u64 (v : Int) (IntKind.u64.wrap (IntKind.u64.wrap (bits .and .u8 0 127) * 2 ^ (7 * k))) = (V : Int) := HE.out
              rw [HE0]
              clear HE0
              go_wp2
              refine bodyPost_ret (v := .tuple #[.int .u64 (V : Int), .int .i64 ((o : Int) + (k : Int) + 1), .int .i64 0]) (by simp [results, Try.results131, go_sem]) rfl ⟨by rw [HU.out]; simp; try omega, rfl⟩
            · skip
              obtain ⟨V, hV⟩ : ∃ V, V = v + X % 128 * 128 ^ k := ⟨_, rfl⟩
              have HE := Lib.hid (step7 hx256 hk (fun h => absurd h h9) HV.out)
              have HU := Lib.hid (uv_zero HX.out HG.out (hk0) hX0)
              rw [← hV] at HE
              clear hV
              subst hX0
              go_upto_region 13 with (fail)
              (first | rw [HE.out] | skip)
              go_wp2
              refine bodyPost_ret (v := .tuple #[.int .u64 0, .int .i64 0, .int .i64 54]) (by simp [results, Try.results131, go_sem]) rfl ⟨by rw [HU.out]; rfl, rfl⟩
          · have hXb : ((X : Int) == 0) = false := beq_eq_false_iff_ne.2 (by omega)
            by_cases hX : X < 128
            · skip
              obtain ⟨V, hV⟩ : ∃ V, V = v + X % 128 * 128 ^ k := ⟨_, rfl⟩
              have HE := Lib.hid (step7 hx256 hk (fun h => absurd h h9) HV.out)
              have HU := Lib.hid (uv_done HX.out HG.out (fun h => absurd h h9) (fun h => hX0) (hX))
              rw [← hV] at HE HU
              clear hV
              clear hx256
              go_upto_region 13 with (fail)
              rw [HE.out]
              go_wp2
              refine bodyPost_ret (v := .tuple #[.int .u64 (V : Int), .int .i64 ((o : Int) + (k : Int) + 1), .int .i64 0]) (by simp [results, Try.results131, go_sem]) rfl ⟨by rw [HU.out]; simp; try omega, rfl⟩
            · have hX2 : 128 ≤ X := by omega
              obtain ⟨V, hV⟩ : ∃ V, V = v + X % 128 * 128 ^ k := ⟨_, rfl⟩
              have HE := Lib.hid (step7 hx256 hk (fun h => absurd h h9) HV.out)
              have HU := Lib.hid (uv_next HX.out HG.out h9 (by omega))
              have HW := Lib.hid (acc_lt (x := X % 128) HV.out (Nat.mod_lt _ (by omega)))
              rw [← hV] at HE HU HW
              clear hV
              go_upto_region 13 with (fail)
              rw [HE.out]
              go_wp2
              exact ⟨⟨k + 1, _, by go_num, rfl, by omega, HW.out, by omega, HU⟩, by simp [intOf]; omega⟩
end Go.Proofs.Ythjkhambmgepdaa
