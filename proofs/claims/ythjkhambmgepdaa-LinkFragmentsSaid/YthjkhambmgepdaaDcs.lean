/- Lines: what RingLines asks of the decoders; strings of bytes as a step; one byte changed. -/
import Derived.Test.YthjkhambmgepdaaDec
import Derived.Test.YthjkhambmgepdaaW1
namespace Go.Proofs.Ythjkhambmgepdaa
open Go.RowKit
set_option linter.unusedVariables false
theorem decode_enc {k : Int} {e f : Bool} {n a : Int} {p bs : List UInt8} (D : DecEnc k e f n a p bs) (A : Option Addr) (c : Nat) (W : World) (hA : IsB W A 64 bs) (hc : 64 ≤ c) : Calls Try.prog 32 #[.slice A 64 c] W (fun e' W' => e' = .returned (.tuple #[.agg (LV k e f n a p), .int .i64 0]) ∧ Below W.heap.size W W') :=
  (decode_line A 64 c bs W hA hc).mono (by
    rintro e' W' ⟨h1, hB⟩
    refine ⟨?_, hB⟩
    rw [h1, D.dc]
    unfold dcL
    rw [D.dc, if_pos rfl, D.k, D.e, D.f, D.n, D.a, D.p])
theorem decode_bad {bs : List UInt8} {E : Int} (h : dcE bs = E) (hE : E ≠ 0) (A : Option Addr) (n c : Nat) (W : World) (hA : IsB W A n bs) (hc : n ≤ c) : Calls Try.prog 32 #[.slice A n c] W (fun e' W' => e' = .returned (.tuple #[.agg ZL, .int .i64 E]) ∧ Below W.heap.size W W') :=
  (decode_line A n c bs W hA hc).mono (by
    rintro e' W' ⟨h1, hB⟩
    refine ⟨?_, hB⟩
    rw [h1, h]
    unfold dcL
    rw [h, if_neg hE])
theorem encq_yes (k : Int) (e f : Bool) (n a : Int) (p : List UInt8) (a0 : 0 ≤ a) (a1 : a < 65536) (hp : p.length = 56) (h : lnE k e f n p = 0) (W : World) : Calls Try.prog 31 #[.agg (LV k e f n a p)] W (fun e' W' => ∃ A c, e' = .returned (.tuple #[.slice A 64 c, .int .i64 0]) ∧ IsB W' A 64 (lnB k e f n a p) ∧ Below W.heap.size W W') :=
  (encode_ref k e f n a p a0 a1 hp W).mono (by
    rintro e' W' ⟨⟨h1, _⟩ | ⟨_, A, c, h2, h3⟩, hB⟩
    · exact absurd h h1
    · exact ⟨A, c, h2, h3, hB⟩)
theorem encq_no (k : Int) (e f : Bool) (n a : Int) (p : List UInt8) (E : Int) (a0 : 0 ≤ a) (a1 : a < 65536) (hp : p.length = 56) (h : lnE k e f n p = E) (hE : E ≠ 0) (W : World) : Calls Try.prog 31 #[.agg (LV k e f n a p)] W (EncNo E W) :=
  (encode_ref k e f n a p a0 a1 hp W).mono (by
    rintro e' W' ⟨⟨h1, h2⟩ | ⟨h1, _⟩, hB⟩
    · exact ⟨by rw [h2, h], hB⟩
    · exact absurd (h.symm.trans h1) hE)
section
variable {w : World} {dst : Option Tmp} {typ : TypeId} {pos : String} {after : Array Edge} {gd : Option (Nat × Bool)} {ev : Operand → Value}
theorem exec_str {x : Operand} {A : Option Addr} {n c : Nat} {bs : List UInt8} (h : IsB w A n bs) (hx : ev x = .slice A n c) : (execOp ev { dst := dst, op := .convert 44 9 x, type := typ, pos := pos, after := after, guard := gd }).run Try.prog w = .ok (.value (.string ⟨bs.toArray⟩)) w := by
  unfold execOp
  simp only [hx, Sem.run_bind, run_str (P := Try.prog) Try.underlying44 Try.underlying5 Try.underlying9 c h, Result.andThen_ok, Sem.run_pure]
variable {ops : Array Oper} {rest : List Oper} {Q : Exit → Act → World → Prop} {a : Act}
theorem wp_str_g {x : Operand} {A : Option Addr} {n c : Nat} {bs : List UInt8} (hg : Region.wanted { dst := dst, op := .convert 44 9 x, type := typ, pos := pos, after := after, guard := gd } (yielded ops a.tmps) = true) (h : IsB w A n bs) (hx : a.eval x = .slice A n c)
    (hk : wpList Try.prog ops Q rest (a.put dst (.string ⟨bs.toArray⟩)) w) : wpList Try.prog ops Q ({ dst := dst, op := .convert 44 9 x, type := typ, pos := pos, after := after, guard := gd } :: rest) a w := wp_told_g hg (exec_str h hx) hk
end
theorem OwnB.capN {w : World} {base : Nat} {e : TypeId} {A : Option Addr} {n c : Nat} {bs : List UInt8} (h : OwnB w base e A n c bs) : n ≤ c := by
  rcases h.2 with ⟨hv, h0⟩ | ⟨g, cap, cur, hv, _, _, h3, _⟩
  · omega
  · injection hv with _ _ h4
    omega
theorem u8_xor_nat (a b : Nat) (ha : a < 256) (hb : b < 256) : bits .xor .u8 (a : Int) (b : Int) = ((a ^^^ b : Nat) : Int) := by
  have hx : a ^^^ b < 2 ^ 8 := Nat.xor_lt_two_pow (by omega) (by omega)
  show IntKind.u8.wrap ((BitVec.ofInt 8 (a : Int) ^^^ BitVec.ofInt 8 (b : Int)).toNat : Int) = _
  rw [BitVec.toNat_xor, BitVec.ofInt_natCast, BitVec.ofInt_natCast, BitVec.toNat_ofNat, BitVec.toNat_ofNat, Nat.mod_eq_of_lt (by omega), Nat.mod_eq_of_lt (by omega), IntKind.wrap_u8]
  omega
theorem xor_byte (x : UInt8) (b : Int) (b0 : 0 ≤ b) (b1 : b < 256) : Value.int .u8 (bits .xor .u8 (x.toNat : Int) b) = bv (x ^^^ UInt8.ofNat b.toNat) := by
  obtain ⟨k, rfl⟩ := Int.eq_ofNat_of_zero_le b0
  rw [u8_xor_nat _ _ x.toNat_lt (by omega)]
  unfold bv
  rw [UInt8.toNat_xor, Int.toNat_natCast, u8_ofNat (by omega)]
theorem xor_ne (x : UInt8) (b : Int) (b0 : 0 < b) (b1 : b < 256) : x ^^^ UInt8.ofNat b.toNat ≠ x := by
  intro h
  have h1 := congrArg UInt8.toNat h
  rw [UInt8.toNat_xor, u8_ofNat (by omega)] at h1
  have h2 : x.toNat ^^^ (x.toNat ^^^ b.toNat) = 0 := by rw [h1, Nat.xor_self]
  rw [← Nat.xor_assoc, Nat.xor_self, Nat.zero_xor] at h2
  omega
theorem set_same (bs : List UInt8) (i : Nat) (h : i < bs.length) : bs.set i bs[i] = bs := by simp
/-- A block that holds bytes at its start, one of them written. -/
theorem isB_set {w : World} {g : Nat} {t : TypeId} {cur : Array Value} {n i : Nat} {bs : List UInt8} {y : UInt8} (hl : n = bs.length) (hi : i < n) (hs : n ≤ cur.size) (ht : cur.toList.take (n * 1) = bs.map bv) (h : Row w g t (cur.setIfInBounds i (bv y))) : IsB w (some ⟨g, 0, none⟩) n (bs.set i y) := by
  refine ⟨by rw [List.length_set]; exact hl, fun _ => ⟨g, 0, rfl, fun j hj => ?_⟩⟩
  have hj' : j < n := by rw [List.length_set] at hj; omega
  rw [Nat.zero_add, h.cell j]
  have e1 : (cur.setIfInBounds i (bv y)).toList.take n = (bs.set i y).map bv := by
    rw [Array.toList_setIfInBounds, List.take_set]
    rw [Nat.mul_one] at ht
    rw [ht, List.map_set]
  have e2 := congrArg (fun l => l[j]?) e1
  simp only [List.getElem?_take, if_pos hj', List.getElem?_map, List.getElem?_eq_getElem hj, Option.map_some, Array.getElem?_toList] at e2
  exact e2
end Go.Proofs.Ythjkhambmgepdaa
