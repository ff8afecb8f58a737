/- Image: trailing zeros cut off; an image's header. -/
import Derived.Test.YtigbmlgllgcbhaaDoorIb
import Derived.Test.YtigbmlgllgcbhaaDoorUint
import Derived.Lib.TrimByte
namespace Go.Proofs.YtigbmlgllgcbhaaDoor
open Go.RowKit
set_option linter.unusedVariables false
set_option linter.unusedSimpArgs false
set_option maxRecDepth 100000 in
set_option maxHeartbeats 8000000 in
theorem trim45 (s : ByteArray) (c : UInt8) (w : World) (hs : s.size ≤ 9223372036854775807) :
    Calls Tryd.prog 45 #[.string s, .int .u8 c.toNat] w fun e w' => e = .returned (.string ⟨(Lib.trimRightB s.data.toList c).toArray⟩) ∧ w' = w := by
  go_enter Tryd.func45, Tryd.ntmps45
  go_wp2
  go_loop [0] (fun v => ∃ k : Nat, k ≤ s.size ∧ v = .string ⟨(s.data.toList.take k).toArray⟩ ∧ ∀ (j : Nat) b, k ≤ j → s.data.toList[j]? = some b → b = c) (fun v => Lib.strSize v)
  case atStart =>
    refine ⟨s.size, Nat.le_refl _, ?_, fun j b hj hb => ?_⟩
    · rw [Lib.size_eq, List.take_length, Lib.mk_data]
    · have : s.data.toList.length ≤ j := by rw [← Lib.size_eq]; exact hj
      simp [List.getElem?_eq_none this] at hb
  case round =>
    obtain ⟨k, hk, rfl, hc⟩ := hrel
    have hkl : k ≤ s.data.toList.length := by rw [← Lib.size_eq]; exact hk
    have hts : (⟨(s.data.toList.take k).toArray⟩ : ByteArray).size = k := by rw [Lib.size_mk, List.length_take]; omega
    have hb0 : ∀ h, s.data.toList[k - 1]? = some ((⟨(s.data.toList.take k).toArray⟩ : ByteArray)[k - 1]'h) := by
      intro h
      rw [← Lib.getElem_mk (s.data.toList.take k) (k - 1) h, List.getElem?_take]
      rw [hts] at h
      rw [if_pos h]
    have hx1 : (⟨(s.data.toList.take k).toArray⟩ : ByteArray).extract 0 (k - 1) = ⟨(s.data.toList.take (k - 1)).toArray⟩ := by
      rw [Lib.extract_mk, List.drop_zero, List.take_take]
      congr 3
      omega
    have hK : Lib.Kept (∀ (j : Nat) b, k ≤ j → s.data.toList[j]? = some b → b = c) := hc
    clear hc
    have hkl' : Lib.Kept (k ≤ s.data.toList.length) := hkl
    clear hkl
    generalize ht : (⟨(s.data.toList.take k).toArray⟩ : ByteArray) = t at hts hb0 hx1 ⊢
    have hK3 : Lib.Kept ((⟨(s.data.toList.take k).toArray⟩ : ByteArray) = t) := ht
    clear ht
    by_cases h0 : 0 < k
    · have h1 : k - 1 < t.size := by omega
      have hwr : ((k : Int) - 1 + 9223372036854775808) % 18446744073709551616 - 9223372036854775808 = ((k - 1 : Nat) : Int) := by omega
      have hbk := hb0 h1
      clear hb0
      by_cases heq : t[k - 1]'h1 = c
      · have heq' : ((t[k - 1]'h1).toNat : Int) = (c.toNat : Int) := by rw [heq]
        have hK2 : Lib.Kept (s.data.toList[k - 1]? = some (t[k - 1]'h1)) := hbk
        clear hbk
        go_wp2
        refine ⟨⟨k - 1, by omega, rfl, fun j b hj hb => ?_⟩, ?_⟩
        · by_cases e : j = k - 1
          · subst e
            have h2 : s.data.toList[k - 1]? = some (t[k - 1]'h1) := hK2
            have h3 : s.data.toList[k - 1]? = some b := by simpa using hb
            rw [h2] at h3
            rw [← Option.some.inj h3, heq]
          · exact hK j b (by omega) (by simpa using hb)
        · rw [Lib.strSize_string, Lib.strSize_string, Lib.size_mk, List.length_take, ← Lib.size_eq]
          omega
      · have hne' : ¬ ((t[k - 1]'h1).toNat : Int) = (c.toNat : Int) := by
          intro e
          exact heq (UInt8.toNat_inj.1 (by exact_mod_cast e))
        have hbeq : (((t[k - 1]'h1).toNat : Int) == (c.toNat : Int)) = false := by simpa using hne'
        have hK2 : Lib.Kept (s.data.toList[k - 1]? = some (t[k - 1]'h1)) := hbk
        clear hbk
        go_wp2
        go_ret
        refine ⟨?_, rfl⟩
        have ht' : (⟨(s.data.toList.take k).toArray⟩ : ByteArray) = t := hK3
        show Ending.returned (Value.string t) = _
        rw [Lib.trimRightB_take s.data.toList c k hkl' hK (fun b hk0 hb => by
          have h2 : s.data.toList[k - 1]? = some (t[k - 1]'h1) := hK2
          rw [h2] at hb
          rw [← Option.some.inj hb]
          exact heq), ht']
    · clear hb0
      go_wp2
      go_ret
      refine ⟨?_, rfl⟩
      have ht' : (⟨(s.data.toList.take k).toArray⟩ : ByteArray) = t := hK3
      show Ending.returned (Value.string t) = _
      rw [Lib.trimRightB_take s.data.toList c k hkl' hK (fun b hk0 hb => absurd hk0 h0), ht']
set_option maxRecDepth 100000 in
set_option maxHeartbeats 8000000 in
theorem trim34 (s : ByteArray) (w : World) (hs : s.size ≤ 9223372036854775807) (h0 : s.toList.isEmpty = false) :
    Calls Tryd.prog 34 #[.string s, .string ⟨#[0]⟩] w fun e w' => e = .returned (.string ⟨(Lib.trimRightB s.data.toList 0).toArray⟩) ∧ w' = w := by
  have hT := trim45 s 0 w hs
  have e0 : ((0 : UInt8).toNat : Int) = 0 := rfl
  rw [e0] at hT
  go_enter Tryd.func34, Tryd.ntmps34
  go_wp2_with (go_at_call 45; refine hT.mono ?_; rintro e w' ⟨rfl, rfl⟩)

  · go_ret
    exact ⟨rfl, rfl⟩
def hdrE (bs : List UInt8) : Int :=
  if bs.length < 16 then 52
  else if bs.take 4 ≠ [77, 75, 66, 73] then 68
  else if leN (seg bs 4 2) ≠ 1 then 69
  else if bs.length < leN (seg bs 8 4) then 52
  else if leN (seg bs 8 4) < bs.length then 53
  else if 16777216 < leN (seg bs 8 4) then 15
  else if leN (seg bs 12 4) ≠ crc (bs.drop 16) then 55
  else 0
theorem fixR_in {bs : List UInt8} {o s : Nat} (h : o + s ≤ bs.length) : fixR bs (o : Int) s = (leN (seg bs o s), 0) := by
  unfold fixR
  rw [if_neg (by omega), if_neg (by rw [Int.toNat_natCast]; omega), Int.toNat_natCast]
theorem fix16 (A : Option Addr) (c : Nat) (bs : List UInt8) (w : World) (hA : IsB w A bs.length bs) (hn : bs.length ≤ 1000000000) {x : Int} {o : Nat} (hx : x = o) (h : o + 2 ≤ bs.length) : Calls Tryd.prog 32 #[.slice A bs.length c, .int .i64 x] w (fun e w' => e = .returned (.tuple #[.int .u16 (leN (seg bs o 2) : Nat), .int .i64 0]) ∧ w' = w) := by
  subst hx
  have := uint16_01 A bs.length c bs (o : Int) w hA hn (by omega) (by omega)
  unfold FixPost at this
  rw [fixR_in h] at this
  exact this
theorem fix32 (A : Option Addr) (c : Nat) (bs : List UInt8) (w : World) (hA : IsB w A bs.length bs) (hn : bs.length ≤ 1000000000) {x : Int} {o : Nat} (hx : x = o) (h : o + 4 ≤ bs.length) : Calls Tryd.prog 33 #[.slice A bs.length c, .int .i64 x] w (fun e w' => e = .returned (.tuple #[.int .u32 (leN (seg bs o 4) : Nat), .int .i64 0]) ∧ w' = w) := by
  subst hx
  have := uint32_01 A bs.length c bs (o : Int) w hA hn (by omega) (by omega)
  unfold FixPost at this
  rw [fixR_in h] at this
  exact this
theorem leN2 (bs : List UInt8) (o : Nat) : leN (seg bs o 2) < 65536 := by
  have h := leN_lt (seg bs o 2)
  have h2 : (seg bs o 2).length ≤ 2 := by simp [seg]; omega
  exact Nat.lt_of_lt_of_le h (Nat.pow_le_pow_right (by omega) h2)
theorem leN4 (bs : List UInt8) (o : Nat) : leN (seg bs o 4) < 4294967296 := by
  have h := leN_lt (seg bs o 4)
  have h2 : (seg bs o 4).length ≤ 4 := by simp [seg]; omega
  exact Nat.lt_of_lt_of_le h (Nat.pow_le_pow_right (by omega) h2)
theorem IsB.part {w : World} {n : Nat} {bs : List UInt8} {g o : Nat} (h : IsB w (some ⟨g, o, none⟩) n bs) (k m : Nat) (hk : k + m ≤ n) : IsB w (some ⟨g, o + k, none⟩) m (seg bs k m) := by
  have hn := h.1
  refine ⟨by simp [seg]; omega, fun h0 => ⟨g, o + k, rfl, fun i hi => ?_⟩⟩
  obtain ⟨b', o', e, -, hc⟩ := h.at_ (by omega)
  cases e
  have hi2 : i < m := by simp [seg] at hi; omega
  have := hc (k + i) (by omega)
  rw [show g = g from rfl, Nat.add_assoc, this]
  simp [seg]
theorem crc_lt2 (bs : List UInt8) : crc bs < 4294967296 := by unfold crc; omega
def HdP (bs : List UInt8) (W : World) (en : Ending) (W' : World) : Prop := en = .returned (.int .i64 (hdrE bs)) ∧ Below W.heap.size W W'
set_option maxRecDepth 100000 in
set_option maxHeartbeats 8000000 in
theorem header_short (A : Option Addr) (c : Nat) (bs : List UInt8) (W : World) (hA : IsB W A bs.length bs) (h : bs.length < 16) : Calls Tryd.prog 31 #[.slice A bs.length c] W (HdP bs W) := by
  have HE := Lib.hid (show hdrE bs = 52 by unfold hdrE; rw [if_pos h])
  have d0 : decide (bs.length < 16) = true := decide_eq_true h
  have d0i : decide ((bs.length : Int) < 16) = true := decide_eq_true (by omega)
  clear h
  go_enter Tryd.func31, Tryd.ntmps31
  go_wp2
  go_ret
  exact ⟨by (rw [HE.out]; rfl), Below.refl _ _⟩
set_option maxRecDepth 100000 in
set_option maxHeartbeats 8000000 in
theorem header_long (g o : Nat) (c : Nat) (bs : List UInt8) (W : World) (hA : IsB W (some ⟨g, o, none⟩) bs.length bs) (hc : bs.length ≤ c) (hc16 : ¬ c = 16) (h16 : 16 ≤ bs.length) (hl : bs.length ≤ 1000000000) : Calls Tryd.prog 31 #[.slice (some ⟨g, o, none⟩) bs.length c] W (HdP bs W) := by
  have hB := Below.refl W.heap.size W
  have H4 := Lib.hid (fix16 (some ⟨g, o, none⟩) c bs W hA (by omega) (x := 4) (o := 4) rfl (by omega))
  have H8 := Lib.hid (fix32 (some ⟨g, o, none⟩) c bs W hA (by omega) (x := 8) (o := 8) rfl (by omega))
  have H12 := Lib.hid (fix32 (some ⟨g, o, none⟩) c bs W hA (by omega) (x := 12) (o := 12) rfl (by omega))
  have hI := hA.part 16 (bs.length - 16) (by omega)
  rw [show seg bs 16 (bs.length - 16) = bs.drop 16 from List.take_of_length_le (by simp)] at hI
  have HC := Lib.hid (crc32 (some ⟨g, o + 16, none⟩) (bs.length - 16) (c - 16) (bs.drop 16) W hI (by omega))
  clear hI
  have hs1 := run_str (P := Tryd.prog) (w := W) (dst := 9) Tryd.underlying23 Tryd.underlying5 Tryd.underlying9 c (show IsB W (some ⟨g, o, none⟩) 4 (bs.take 4) from ⟨by simp; omega, fun _ => by
    obtain ⟨b', o', e, -, hcc⟩ := hA.at_ (by omega)
    cases e
    exact ⟨g, o, rfl, fun i hi => by rw [hcc i (by simp at hi; omega)]; simp⟩⟩)
  have v4 := leN2 bs 4
  have v8 := leN4 bs 8
  have v12 := leN4 bs 12
  have vc := crc_lt2 (bs.drop 16)
  obtain ⟨ve, hve⟩ : ∃ ve, leN (seg bs 4 2) = ve := ⟨_, rfl⟩
  obtain ⟨sz, hsz⟩ : ∃ sz, leN (seg bs 8 4) = sz := ⟨_, rfl⟩
  obtain ⟨sm, hsm⟩ : ∃ sm, leN (seg bs 12 4) = sm := ⟨_, rfl⟩
  obtain ⟨cr, hcr⟩ : ∃ cr, crc (bs.drop 16) = cr := ⟨_, rfl⟩
  obtain ⟨hd, hhd⟩ : ∃ hd, bs.take 4 = hd := ⟨_, rfl⟩
  rw [hve] at H4 v4
  rw [hsz] at H8 v8
  rw [hsm] at H12 v12
  rw [hcr] at HC vc
  rw [hhd] at hs1
  have HEQ := Lib.hid (show hdrE bs = if (!hd == [77, 75, 66, 73]) = true then 68 else if ((ve : Int) != 1) = true then 69 else if bs.length < sz then 52 else if sz < bs.length then 53 else if 16777216 < (sz : Int) then 15 else if ((sm : Int) != (cr : Int)) = true then 55 else 0 by
    unfold hdrE
    rw [if_neg (by omega), hve, hsz, hsm, hcr, hhd]
    have e1 : ((!hd == [77, 75, 66, 73]) = true) = (hd ≠ [77, 75, 66, 73]) := by simp
    have e2 : (((ve : Int) != 1) = true) = (ve ≠ 1) := by simp; omega
    have e3 : ((16777216 : Int) < (sz : Int)) = (16777216 < sz) := by simp; omega
    have e4 : (((sm : Int) != (cr : Int)) = true) = (sm ≠ cr) := by simp; omega
    simp only [e1, e2, e3, e4])
  clear hve hsz hsm hcr hhd hA
  have d0 : decide (bs.length < 16) = false := decide_eq_false (by omega)
  have d0i : decide ((bs.length : Int) < 16) = false := decide_eq_false (by omega)
  have hi0 : (16 : Int) ≤ (bs.length : Int) := by omega
  have hi4 : (4 : Int) ≤ (c : Int) := by omega
  have hi5 : (4 : Int) ≤ (bs.length : Int) := by omega
  have hi6 : bs.length ≤ c := by omega
  generalize bs.length = n at *
  go_enter Tryd.func31, Tryd.ntmps31
  go_upto_region 6 with (first | (go_at_call 32; with_reducible refine H4.out.mono ?_; rintro en w2 ⟨rfl, rfl⟩) | (go_at_call 33; with_reducible refine H8.out.mono ?_; rintro en w2 ⟨rfl, rfl⟩) | (go_at_call 33; with_reducible refine H12.out.mono ?_; rintro en w2 ⟨rfl, rfl⟩) | (go_at_call 28; with_reducible refine HC.out.mono ?_; rintro en w2 ⟨rfl, hb2⟩; have hB := hB.trans (hb2.mono hB.size)))
  clear H4 H8 H12
  go_wp2_with (first | (go_at_call 32; with_reducible refine H4.out.mono ?_; rintro en w2 ⟨rfl, rfl⟩) | (go_at_call 33; with_reducible refine H8.out.mono ?_; rintro en w2 ⟨rfl, rfl⟩) | (go_at_call 33; with_reducible refine H12.out.mono ?_; rintro en w2 ⟨rfl, rfl⟩) | (go_at_call 28; with_reducible refine HC.out.mono ?_; rintro en w2 ⟨rfl, hb2⟩; have hB := hB.trans (hb2.mono hB.size)))
  all_goals (go_ret; refine ⟨?_, hB⟩; rw [HEQ.out]; (repeat (first | rw [if_pos (by assumption)] | rw [if_neg (Bool.eq_false_iff.1 (by assumption))] | rw [if_neg (Int.not_lt.2 (by assumption))] | rw [if_neg (by assumption)] | rw [if_pos (by omega)] | rw [if_neg (by omega)])); rfl)
set_option maxRecDepth 100000 in
set_option maxHeartbeats 8000000 in
theorem header_16 (g o : Nat) (bs : List UInt8) (W : World) (hA : IsB W (some ⟨g, o, none⟩) bs.length bs) (h16 : bs.length = 16) : Calls Tryd.prog 31 #[.slice (some ⟨g, o, none⟩) bs.length 16] W (HdP bs W) := by
  have hB := Below.refl W.heap.size W
  have H4 := Lib.hid (fix16 (some ⟨g, o, none⟩) 16 bs W hA (by omega) (x := 4) (o := 4) rfl (by omega))
  have H8 := Lib.hid (fix32 (some ⟨g, o, none⟩) 16 bs W hA (by omega) (x := 8) (o := 8) rfl (by omega))
  have H12 := Lib.hid (fix32 (some ⟨g, o, none⟩) 16 bs W hA (by omega) (x := 12) (o := 12) rfl (by omega))
  have HC := Lib.hid (crc32 (some ⟨g, o, none⟩) 0 0 [] W (IsB.nil _ _) (by omega))
  rw [show ([] : List UInt8) = bs.drop 16 from (List.drop_eq_nil_of_le (by omega)).symm] at HC
  have hs1 := run_str (P := Tryd.prog) (w := W) (dst := 9) Tryd.underlying23 Tryd.underlying5 Tryd.underlying9 16 (show IsB W (some ⟨g, o, none⟩) 4 (bs.take 4) from ⟨by simp; omega, fun _ => by
    obtain ⟨b', o', e, -, hcc⟩ := hA.at_ (by omega)
    cases e
    exact ⟨g, o, rfl, fun i hi => by rw [hcc i (by simp at hi; omega)]; simp⟩⟩)
  have v4 := leN2 bs 4
  have v8 := leN4 bs 8
  have v12 := leN4 bs 12
  have vc := crc_lt2 (bs.drop 16)
  obtain ⟨ve, hve⟩ : ∃ ve, leN (seg bs 4 2) = ve := ⟨_, rfl⟩
  obtain ⟨sz, hsz⟩ : ∃ sz, leN (seg bs 8 4) = sz := ⟨_, rfl⟩
  obtain ⟨sm, hsm⟩ : ∃ sm, leN (seg bs 12 4) = sm := ⟨_, rfl⟩
  obtain ⟨cr, hcr⟩ : ∃ cr, crc (bs.drop 16) = cr := ⟨_, rfl⟩
  obtain ⟨hd, hhd⟩ : ∃ hd, bs.take 4 = hd := ⟨_, rfl⟩
  rw [hve] at H4 v4
  rw [hsz] at H8 v8
  rw [hsm] at H12 v12
  rw [hcr] at HC vc
  rw [hhd] at hs1
  have HEQ := Lib.hid (show hdrE bs = if (!hd == [77, 75, 66, 73]) = true then 68 else if ((ve : Int) != 1) = true then 69 else if bs.length < sz then 52 else if sz < bs.length then 53 else if 16777216 < (sz : Int) then 15 else if ((sm : Int) != (cr : Int)) = true then 55 else 0 by
    unfold hdrE
    rw [if_neg (by omega), hve, hsz, hsm, hcr, hhd]
    have e1 : ((!hd == [77, 75, 66, 73]) = true) = (hd ≠ [77, 75, 66, 73]) := by simp
    have e2 : (((ve : Int) != 1) = true) = (ve ≠ 1) := by simp; omega
    have e3 : ((16777216 : Int) < (sz : Int)) = (16777216 < sz) := by simp; omega
    have e4 : (((sm : Int) != (cr : Int)) = true) = (sm ≠ cr) := by simp; omega
    simp only [e1, e2, e3, e4])
  clear hve hsz hsm hcr hhd hA
  have d0 : decide (bs.length < 16) = false := decide_eq_false (by omega)
  have d0i : decide ((bs.length : Int) < 16) = false := decide_eq_false (by omega)
  have hi0 : (16 : Int) ≤ (bs.length : Int) := by omega
  have hi4 : (4 : Int) ≤ (16 : Int) := by omega
  have hi5 : (4 : Int) ≤ (bs.length : Int) := by omega
  have hi6 : bs.length ≤ 16 := by omega
  generalize bs.length = n at *
  subst h16
  go_enter Tryd.func31, Tryd.ntmps31
  go_upto_region 6 with (first | (go_at_call 32; with_reducible refine H4.out.mono ?_; rintro en w2 ⟨rfl, rfl⟩) | (go_at_call 33; with_reducible refine H8.out.mono ?_; rintro en w2 ⟨rfl, rfl⟩) | (go_at_call 33; with_reducible refine H12.out.mono ?_; rintro en w2 ⟨rfl, rfl⟩) | (go_at_call 28; with_reducible refine HC.out.mono ?_; rintro en w2 ⟨rfl, hb2⟩; have hB := hB.trans (hb2.mono hB.size)))
  clear H4 H8 H12
  go_wp2_with (first | (go_at_call 32; with_reducible refine H4.out.mono ?_; rintro en w2 ⟨rfl, rfl⟩) | (go_at_call 33; with_reducible refine H8.out.mono ?_; rintro en w2 ⟨rfl, rfl⟩) | (go_at_call 33; with_reducible refine H12.out.mono ?_; rintro en w2 ⟨rfl, rfl⟩) | (go_at_call 28; with_reducible refine HC.out.mono ?_; rintro en w2 ⟨rfl, hb2⟩; have hB := hB.trans (hb2.mono hB.size)))
  all_goals (go_ret; refine ⟨?_, hB⟩; rw [HEQ.out]; (repeat (first | rw [if_pos (by assumption)] | rw [if_neg (Bool.eq_false_iff.1 (by assumption))] | rw [if_neg (Int.not_lt.2 (by assumption))] | rw [if_neg (by assumption)] | rw [if_pos (by omega)] | rw [if_neg (by omega)])); rfl)
theorem hdr (A : Option Addr) (c : Nat) (bs : List UInt8) (W : World) (hA : IsB W A bs.length bs) (hc : bs.length ≤ c) (hl : bs.length ≤ 1000000000) : Calls Tryd.prog 31 #[.slice A bs.length c] W (HdP bs W) := by
  rcases Nat.lt_or_ge bs.length 16 with h | h
  · exact header_short A c bs W hA h
  · obtain ⟨g, o, rfl, -, -⟩ := hA.at_ (by omega)
    by_cases h16 : c = 16
    · subst h16
      exact header_16 g o bs W hA (by omega)
    · exact header_long g o c bs W hA hc h16 h hl
end Go.Proofs.YtigbmlgllgcbhaaDoor
