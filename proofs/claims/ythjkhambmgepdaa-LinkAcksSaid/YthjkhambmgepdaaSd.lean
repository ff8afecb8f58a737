/- Send, for every argument: its contract by one plain function. -/
import Derived.Test.YthjkhambmgepdaaR3
namespace Go.Proofs.Ythjkhambmgepdaa
open Go.RowKit
set_option linter.unusedVariables false
def sdE (n s a : Int) (m : Nat) : Int := if vs n s a = true then (if 56 < m then 67 else if fr n s a = 0 then 65 else if s = 4611686018427387904 then 15 else 0) else 74
def sdS (n s a : Int) (m : Nat) : Array Value := if sdE n s a m = 0 then #[.int .i64 n, .int .u64 (s + 1), .int .u64 a] else ZS
def sdI (n s a : Int) (m : Nat) : Int := if sdE n s a m = 0 then s % n else 0
def sdL (n s a : Int) (m : Nat) (f : Bool) (k : Int) (bs : List UInt8) : Array Value := if sdE n s a m = 0 then LV 1 (ep n s) f m k (bs ++ z56.drop m) else ZL
def SdPost (n s a : Int) (m : Nat) (f : Bool) (k : Int) (bs : List UInt8) (W : World) (e : Ending) (W' : World) : Prop :=
  e = .returned (.tuple #[.agg (sdS n s a m), .int .i64 (sdI n s a m), .agg (sdL n s a m f k bs), .int .i64 (sdE n s a m)]) ∧ Below W.heap.size W W'
theorem sd_err {n s a : Int} {m : Nat} {f : Bool} {k : Int} {bs : List UInt8} {E : Int} (h : sdE n s a m = E) (hE : E ≠ 0) {W W' : World} (hb : Below W.heap.size W W') : SdPost n s a m f k bs W (.returned (.tuple #[.agg ZS, .int .i64 0, .agg ZL, .int .i64 E])) W' := by
  unfold SdPost sdS sdI sdL
  rw [h, if_neg hE, if_neg hE, if_neg hE]
  exact ⟨rfl, hb⟩
theorem sd_ok {n s a : Int} {m : Nat} {f : Bool} {k : Int} {bs : List UInt8} (h : sdE n s a m = 0) {W W' : World} (hb : Below W.heap.size W W') : SdPost n s a m f k bs W (.returned (.tuple #[.agg #[.int .i64 n, .int .u64 (s + 1), .int .u64 a], .int .i64 (s % n), .agg (LV 1 (ep n s) f m k (bs ++ z56.drop m)), .int .i64 0])) W' := by
  unfold SdPost sdS sdI sdL
  rw [h]
  exact ⟨rfl, hb⟩
theorem send_any (n s a k : Int) (A : Option Addr) (m c : Nat) (f : Bool) (bs : List UInt8) (hs : 0 ≤ s) (hs1 : s < 18446744073709551616) (ha : 0 ≤ a) (W : World) (hb0 : IsB W A m bs) :
    Calls Try.prog 25 #[.agg #[.int .i64 n, .int .u64 s, .int .u64 a], .slice A m c, .bool f, .int .u16 k] W (SdPost n s a m f k bs W) := by
  cases hv : vs n s a
  · exact (send_state n s a k A m c f hs hs1 ha hv W).mono fun e W' ⟨h1, h2⟩ => by rw [h1]; exact sd_err (by simp [sdE, hv]) (by decide) h2
  · by_cases hm : 56 < m
    · exact (send_long n s a k A m c f hs hs1 ha hv hm W).mono fun e W' ⟨h1, h2⟩ => by rw [h1]; exact sd_err (by simp [sdE, hv, hm]) (by decide) h2
    · by_cases hf : fr n s a = 0
      · exact (send_full n s a k A m c f hs hs1 ha hv (by omega) hf W).mono fun e W' ⟨h1, h2⟩ => by rw [h1]; exact sd_err (by simp [sdE, hv, hm, hf]) (by decide) h2
      · have hf' : (fr n s a == 0) = false := by simpa using hf
        by_cases hl : s = 4611686018427387904
        · subst hl
          exact (send_limit n a k A m c f ha hv (by omega) hf' W).mono fun e W' ⟨h1, h2⟩ => by rw [h1]; exact sd_err (by simp [sdE, hv, hm, hf]) (by decide) h2
        · have h3 := (vs_yes hv).m
          exact (send_ok n s a k A m c f bs hs ha hv (by omega) hf' (by omega) W hb0).mono fun e W' ⟨h1, h2⟩ => by rw [h1]; exact sd_ok (by simp [sdE, hv, hm, hf, hl]) h2
end Go.Proofs.Ythjkhambmgepdaa
