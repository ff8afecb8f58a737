/- Texts Lz, without what this claim does not use. -/
import Derived.Test.YthjkhambmgepdaaQay
import Derived.Test.YthjkhambmgepdaaQaz
namespace Go.Proofs.Ythjkhambmgepdaa
section
open Go.RowKit
set_option linter.unusedVariables false
section
theorem partOk_yes {want : Int} {pt : List UInt8} (h : partOk want pt = true) : (want = -1 ∧ pt = []) ∨ (want ≤ 1048576 ∧ 52 ≤ (pt.length : Int) ∧ (pt.length : Int) < want ∧ ((pt.length : Int) - 52) % 56 = 0) := by
  unfold partOk at h
  by_cases hw : want = -1
  · rw [if_pos hw] at h
    exact .inl ⟨hw, List.eq_nil_of_length_eq_zero (by simpa using h)⟩
  · rw [if_neg hw, Bool.and_eq_true, decide_eq_true_eq] at h
    have := cutB_yes h.2
    exact .inr ⟨h.1, this⟩
theorem cutB_mk {k n : Int} (h1 : 52 ≤ k) (h2 : k < n) (h3 : (k - 52) % 56 = 0) : cutB k n = true := by simp [cutB, h1, h2, h3]
theorem partOk_mk {want : Int} {pt : List UInt8} (h0 : want ≤ 1048576) (h1 : 52 ≤ (pt.length : Int)) (h2 : (pt.length : Int) < want) (h3 : ((pt.length : Int) - 52) % 56 = 0) : partOk want pt = true := by
  unfold partOk
  rw [if_neg (by omega), decide_eq_true h0, cutB_mk h1 h2 h3]
  rfl
theorem vE_mk {e : LE} (h : VE e) : vE e = true := by
  have h1 : qOk e.q = true := by
    unfold qOk
    rw [List.all_eq_true]
    intro m hm
    have := h.qm m hm
    simp [this]
  have h2 : offOk e.off e.q = true := by
    unfold offOk
    rcases h.off with h | ⟨h3, h4, h5, h6⟩
    · simp [h]
    · have := cutB_mk h4 h5 h6
      unfold frM at this
      rw [this]
      simp [h3]
  have h3 := h.vs
  have h4 := h.vr
  have h5 := h.part
  have h6 := h.same
  have h7 := h.ql
  have h8 := h.told
  simp only [vE, soundB, compB, h1, h2, h3, h4, h5, Bool.and_eq_true, decide_eq_true_eq, beq_iff_eq]
  exact ⟨⟨⟨⟨⟨trivial, h7⟩, trivial⟩, trivial⟩, ⟨⟨trivial, h8⟩, trivial⟩⟩, h6⟩
structure Gd (e : LE) : Prop where
  v : vE e = true
  a : 0 ≤ e.a
  t : 0 ≤ e.told
theorem Gd.ve {e : LE} (h : Gd e) : VE e := vE_yes h.v
theorem vr_le {n x : Int} (h : vr n x = true) : x ≤ 4611686018427387904 := by simp [vr] at h; exact h.2
theorem vr_mk {n x : Int} (h : vl n = true) (h2 : x ≤ 4611686018427387904) : vr n x = true := by simp [vr, h, h2]
theorem Gd.ty {e : LE} (h : Gd e) : e.ty := by
  have hv := h.ve
  have hs := vs_yes hv.vs
  have hr := vr_le hv.vr
  have h0 := h.a
  have h1 := h.t
  have h2 := hv.told
  have h3 := hs.a0
  have h4 := hs.m
  have hp := partOk_yes hv.part
  have ho : -1 ≤ e.off ∧ e.off ≤ 1048576 := by
    rcases hv.off with h | ⟨h5, h6, h7, _⟩
    · omega
    · have := hv.qm _ (frM_mem h5)
      omega
  have hw : -1 ≤ e.want ∧ e.want ≤ 1048576 ∧ e.pt.length ≤ 1048576 := by
    rcases hp with ⟨h5, h6⟩ | ⟨h5, h6, h7, _⟩
    · rw [h6]; simp; omega
    · omega
  have hql := hv.ql
  refine ⟨by omega, by omega, by omega, by omega, by omega, by omega, by omega, by omega, by omega, by omega, by omega, by omega, by omega, fun m hm => ?_, by omega⟩
  have := hv.qm m hm
  omega
def nxn (e : LE) : Ln := if nxGo e = true then ⟨1, ep e.n e.s, decide (e.off < 0), (frP e).length, acN e.rn e.rc, frP e ++ z56.drop (frP e).length⟩ else ⟨2, false, false, 0, acN e.rn e.rc, z56⟩
theorem nxn_v {e : LE} (h : nxE e = 0) : nxV e = (nxn e).v := by
  unfold nxV nxn
  rw [if_pos h]
  split <;> rfl
theorem acN_range (n x : Int) : 0 ≤ acN n x ∧ acN n x < 65536 := by
  unfold acN
  split
  · rw [IntKind.wrap_u16]; omega
  · omega
theorem z56_all : ∀ x ∈ z56, x = 0 := by
  intro x hx
  exact (List.mem_replicate.1 hx).2
theorem nxn_ok {e : LE} (h : VE e) : (nxn e).ok := by
  have ha := acN_range e.rn e.rc
  unfold nxn
  split
  · next hg =>
    have h0 : 0 < e.q.length := by simp [nxGo] at hg; exact hg.1
    have := frP_len h h0
    refine ⟨?_, ha.1, ha.2⟩
    simp [z56]
    omega
  · exact ⟨z56_len, ha.1, ha.2⟩
theorem nxGo_q {e : LE} (h : nxGo e = true) : 0 < e.q.length ∧ 0 < fr e.n e.s e.a := by simpa [nxGo, List.length_pos_iff] using h
theorem nxn_e {e : LE} (h : VE e) : lnE (nxn e).k (nxn e).e (nxn e).f (nxn e).n (nxn e).p = 0 := by
  unfold nxn
  split
  · next hg =>
    have h0 := (nxGo_q hg).1
    have hp := frP_len h h0
    have h1 : lnOk1 1 ((frP e).length : Int) = true := by simp [lnOk1]; omega
    have h2 : lnOk2 1 (ep e.n e.s) (decide (e.off < 0)) ((frP e).length : Int) (frP e ++ z56.drop (frP e).length) = true := by
      simp only [lnOk2, clr, Int.toNat_natCast, List.drop_left]
      have : (z56.drop (frP e).length).all (· == 0) = true := by
        rw [List.all_eq_true]
        intro x hx
        rw [z56_all x (List.mem_of_mem_drop hx)]
        rfl
      rw [this]
      rfl
    unfold lnE
    rw [h1, h2]
    rfl
  · rfl
structure RS where
  (rc want : Int) (pt : List UInt8) (got : Nat)
def RS.le (n : Int) (r : RS) : LE := ⟨n, 0, 0, n, r.rc, [], -1, r.want, r.pt, 0⟩
def rsOf (e : LE) (T : Nat) : RS := ⟨e.rc, e.want, e.pt, T⟩
def rsStep (n : Int) (r : RS) (l : Ln) : RS := if l.k = 1 then (if acE (r.le n) l.f l.n l.p = true then ⟨r.rc + 1, -1, [], r.got + 1⟩ else ⟨r.rc + 1, acW (r.le n) l.f l.p, acP (r.le n) l.f l.n l.p, r.got⟩) else r
structure Fit (n : Int) (V : List (List UInt8)) (r : RS) (l : Ln) : Prop where
  ok : l.ok
  e : lnE l.k l.e l.f l.n l.p = 0
  d : l.k = 1 → acD (r.le n) l.e l.f l.n l.p = true
  m : l.k = 1 → acE (r.le n) l.f l.n l.p = true → V[r.got]? = some (acP (r.le n) l.f l.n l.p)
def Run (n : Int) (V : List (List UInt8)) : RS → List Ln → RS → Prop
  | r, [], r' => r = r'
  | r, l :: ls, r' => Fit n V r l ∧ Run n V (rsStep n r l) ls r'
theorem Run.snoc {n : Int} {V : List (List UInt8)} {l : Ln} : ∀ {ls : List Ln} {r r' : RS}, Run n V r ls r' → Fit n V r' l → Run n V r (ls ++ [l]) (rsStep n r' l)
  | [], r, r', h, hf => by
    have h : r = r' := h
    subst h
    exact ⟨hf, rfl⟩
  | k :: ls, r, r', h, hf => ⟨h.1, Run.snoc h.2 hf⟩
theorem Run.more {n : Int} {V : List (List UInt8)} {m : List UInt8} : ∀ {ls : List Ln} {r r' : RS}, Run n V r ls r' → Run n (V ++ [m]) r ls r'
  | [], r, r', h => h
  | k :: ls, r, r', h => ⟨⟨h.1.ok, h.1.e, h.1.d, fun h1 h2 => by
    have := h.1.m h1 h2
    rw [List.getElem?_append_left (List.getElem?_eq_some_iff.1 this).1]
    exact this⟩, Run.more h.2⟩
theorem rsStep_rc (n : Int) (r : RS) (l : Ln) : r.rc ≤ (rsStep n r l).rc ∧ r.got ≤ (rsStep n r l).got := by
  unfold rsStep
  split
  · split <;> exact ⟨by simp only; omega, by simp only; omega⟩
  · exact ⟨Int.le_refl _, Nat.le_refl _⟩
theorem Run.le {n : Int} {V : List (List UInt8)} : ∀ {ls : List Ln} {r r' : RS}, Run n V r ls r' → r.rc ≤ r'.rc ∧ r.got ≤ r'.got
  | [], r, r', h => by
    have h : r = r' := h
    subst h
    exact ⟨Int.le_refl _, Nat.le_refl _⟩
  | k :: ls, r, r', h => by
    have h1 := rsStep_rc n r k
    have h2 := Run.le h.2
    exact ⟨Int.le_trans h1.1 h2.1, Nat.le_trans h1.2 h2.2⟩
structure Sync (x : LE) (V : List (List UInt8)) (r : RS) : Prop where
  rc : r.rc = x.s
  got : r.got ≤ V.length
  q : x.q = V.drop r.got
  st : (x.off = -1 ∧ r.want = -1 ∧ r.pt = []) ∨ (52 ≤ x.off ∧ (x.off - 52) % 56 = 0 ∧ 0 < x.q.length ∧ x.off < (frM x).length ∧ r.want = (frM x).length ∧ r.pt = (frM x).take x.off.toNat)
theorem leN_fixB (v : Nat) : ∀ s, leN (fixB v s) = v % 256 ^ s
  | 0 => by simp [fixB, leN, Nat.mod_one]
  | s + 1 => by
    rw [fixB_snoc, leN_snoc, leN_fixB v s, fixB_len, u8_ofNat (Nat.mod_lt _ (by omega))]
    rw [Nat.pow_succ, Nat.mod_mul]
    rw [Nat.mul_comm (256 ^ s)]
theorem drop_cons {V q : List (List UInt8)} {k : Nat} (h : q = V.drop k) (h0 : 0 < q.length) : V[k]? = some (q.headD []) ∧ q.tail = V.drop (k + 1) ∧ k < V.length := by
  have hk : k < V.length := by rw [h, List.length_drop] at h0; omega
  have e := List.drop_eq_getElem_cons hk
  rw [← h] at e
  refine ⟨?_, ?_, hk⟩
  · rw [e, List.getElem?_eq_getElem hk]; rfl
  · rw [e]; rfl
theorem sync_first {x : LE} {V : List (List UInt8)} {r : RS} (h : Gd x) (hs : Sync x V r) (hg : nxGo x = true) (ho : x.off = -1) (hw : r.want = -1) (hp : r.pt = []) : Fit x.n V r (nxn x) ∧ Sync (nxG x) V (rsStep x.n r (nxn x)) := by
  have hv := h.ve
  obtain ⟨h0, hf⟩ := nxGo_q hg
  have hq := drop_cons hs.q h0
  have hm1 : (frM x).length ≤ 1048576 := hv.qm _ (frM_mem h0)
  have hP : frP x = fixB (frM x).length 4 ++ (frM x).take 52 := by unfold frP; rw [if_pos (by omega)]
  have hPl : (frP x).length = 4 + min (frM x).length 52 := by rw [hP]; simp [fixB_len]; omega
  have hS : frS x = min (frM x).length 52 := by unfold frS; rw [if_pos (by omega)]
  have hN : nxn x = ⟨1, ep x.n x.s, true, (frP x).length, acN x.rn x.rc, frP x ++ z56.drop (frP x).length⟩ := by
    unfold nxn
    rw [if_pos hg, decide_eq_true (by omega : x.off < 0)]
  have hH : acH (frP x ++ z56.drop (frP x).length) = (frM x).length := by
    unfold acH
    rw [hP, List.append_assoc, List.take_append_of_le_length (by rw [fixB_len]; omega), List.take_of_length_le (by rw [fixB_len]; omega), leN_fixB]
    omega
  have hB : acB true ((frP x).length : Int) (frP x ++ z56.drop (frP x).length) = (frM x).take 52 := by
    unfold acB
    rw [if_pos rfl, Int.toNat_natCast, List.take_left, hP, List.drop_append_of_le_length (by rw [fixB_len]; omega)]
    rw [List.drop_of_length_le (by rw [fixB_len]; omega)]
    rfl
  have hPP : acP (r.le x.n) true ((frP x).length : Int) (frP x ++ z56.drop (frP x).length) = (frM x).take 52 := by
    unfold acP
    rw [hB]
    simp [RS.le, hp]
  have hWW : acW (r.le x.n) true (frP x ++ z56.drop (frP x).length) = ((frM x).length : Int) := by
    unfold acW
    rw [if_pos rfl, hH]
  have hD : acD (r.le x.n) (ep x.n x.s) true ((frP x).length : Int) (frP x ++ z56.drop (frP x).length) = true := by
    unfold acD
    rw [hH]
    simp only [RS.le, hs.rc, hw, if_true, hPl]
    simp
    omega
  have hE : acE (r.le x.n) true ((frP x).length : Int) (frP x ++ z56.drop (frP x).length) = nxEnd x := by
    unfold acE nxEnd
    rw [hPP, hWW, hS]
    simp only [List.length_take]
    rw [Bool.eq_iff_iff]
    simp
    omega
  have hfull : nxEnd x = true → (frM x).take 52 = frM x := by
    intro he
    unfold nxEnd at he
    rw [hS, beq_iff_eq] at he
    exact List.take_of_length_le (by omega)
  refine ⟨⟨nxn_ok hv, nxn_e hv, fun _ => ?_, fun _ he => ?_⟩, ?_⟩
  · rw [hN]; exact hD
  · rw [hN] at he ⊢
    simp only at he ⊢
    rw [hE] at he
    rw [hPP, hfull he]
    exact hq.1
  · have hstep : rsStep x.n r (nxn x) = if nxEnd x = true then ⟨r.rc + 1, -1, [], r.got + 1⟩ else ⟨r.rc + 1, ((frM x).length : Int), (frM x).take 52, r.got⟩ := by
      unfold rsStep
      rw [hN]
      simp only [if_true, hE, hWW, hPP]
    rw [hstep]
    by_cases he : nxEnd x = true
    · rw [if_pos he]
      refine ⟨by simp [nxG, hs.rc], hq.2.2, by simp [nxG, he, hq.2.1], .inl ⟨by simp [nxG, he], rfl, rfl⟩⟩
    · have hne : ¬ frS x = (frM x).length := by unfold nxEnd at he; simpa using he
      have hl : 52 < (frM x).length := by omega
      have h52 : frS x = 52 := by omega
      have e1 : nxG x = { x with s := x.s + 1, off := 52, told := x.rc } := by unfold nxG; rw [if_neg he, if_neg he, h52]; rfl
      rw [if_neg he, e1]
      refine ⟨by simp [hs.rc], hs.got, hs.q, .inr ⟨by simp, by simp, h0, ?_, rfl, rfl⟩⟩
      show (52 : Int) < (frM x).length
      omega
theorem sync_on {x : LE} {V : List (List UInt8)} {r : RS} (h : Gd x) (hs : Sync x V r) (hg : nxGo x = true) (ho : 52 ≤ x.off) (hc : (x.off - 52) % 56 = 0) (hlt : x.off < (frM x).length) (hw : r.want = (frM x).length) (hp : r.pt = (frM x).take x.off.toNat) :
    Fit x.n V r (nxn x) ∧ Sync (nxG x) V (rsStep x.n r (nxn x)) := by
  have hv := h.ve
  obtain ⟨h0, hf⟩ := nxGo_q hg
  have hq := drop_cons hs.q h0
  have hm1 : (frM x).length ≤ 1048576 := hv.qm _ (frM_mem h0)
  have hP : frP x = ((frM x).drop x.off.toNat).take 56 := by unfold frP; rw [if_neg (by omega)]
  have hPl : (frP x).length = min ((frM x).length - x.off.toNat) 56 := by rw [hP]; simp; omega
  have hS : frS x = min (frM x).length (x.off.toNat + 56) := by unfold frS; rw [if_neg (by omega)]
  have hN : nxn x = ⟨1, ep x.n x.s, false, (frP x).length, acN x.rn x.rc, frP x ++ z56.drop (frP x).length⟩ := by
    unfold nxn
    rw [if_pos hg, decide_eq_false (by omega : ¬ x.off < 0)]
  have hptl : r.pt.length = x.off.toNat := by rw [hp]; simp; omega
  have hB : acB false ((frP x).length : Int) (frP x ++ z56.drop (frP x).length) = ((frM x).drop x.off.toNat).take 56 := by
    unfold acB
    rw [if_neg (by simp), Int.toNat_natCast, List.take_left, hP]
  have hPP : acP (r.le x.n) false ((frP x).length : Int) (frP x ++ z56.drop (frP x).length) = (frM x).take (x.off.toNat + 56) := by
    unfold acP
    rw [hB]
    simp only [RS.le, hp]
    rw [List.take_add]
  have hWW : acW (r.le x.n) false (frP x ++ z56.drop (frP x).length) = ((frM x).length : Int) := by
    unfold acW
    rw [if_neg (by simp)]
    exact hw
  have hD : acD (r.le x.n) (ep x.n x.s) false ((frP x).length : Int) (frP x ++ z56.drop (frP x).length) = true := by
    have h1 : (((frM x).length : Int) == -1) = false := by rw [beq_eq_false_iff_ne]; omega
    unfold acD
    simp only [RS.le, hs.rc, hw, hptl, h1]
    simp
    omega
  have hE : acE (r.le x.n) false ((frP x).length : Int) (frP x ++ z56.drop (frP x).length) = nxEnd x := by
    unfold acE nxEnd
    rw [hPP, hWW, hS]
    simp only [List.length_take]
    rw [Bool.eq_iff_iff]
    simp
    omega
  have hfull : nxEnd x = true → (frM x).take (x.off.toNat + 56) = frM x := by
    intro he
    unfold nxEnd at he
    rw [hS, beq_iff_eq] at he
    exact List.take_of_length_le (by omega)
  refine ⟨⟨nxn_ok hv, nxn_e hv, fun _ => ?_, fun _ he => ?_⟩, ?_⟩
  · rw [hN]; exact hD
  · rw [hN] at he ⊢
    simp only at he ⊢
    rw [hE] at he
    rw [hPP, hfull he]
    exact hq.1
  · have hstep : rsStep x.n r (nxn x) = if nxEnd x = true then ⟨r.rc + 1, -1, [], r.got + 1⟩ else ⟨r.rc + 1, ((frM x).length : Int), (frM x).take (x.off.toNat + 56), r.got⟩ := by
      unfold rsStep
      rw [hN]
      simp only [if_true, hE, hWW, hPP]
    rw [hstep]
    by_cases he : nxEnd x = true
    · rw [if_pos he]
      refine ⟨by simp [nxG, hs.rc], hq.2.2, by simp [nxG, he, hq.2.1], .inl ⟨by simp [nxG, he], rfl, rfl⟩⟩
    · have hne : ¬ frS x = (frM x).length := by unfold nxEnd at he; simpa using he
      have hl : x.off.toNat + 56 < (frM x).length := by omega
      have h52 : frS x = x.off.toNat + 56 := by omega
      have e0 : ((x.off.toNat + 56 : Nat) : Int) = x.off + 56 := by omega
      have e1 : nxG x = { x with s := x.s + 1, off := x.off + 56, told := x.rc } := by unfold nxG; rw [if_neg he, if_neg he, h52, e0]
      rw [if_neg he, e1]
      refine ⟨by simp [hs.rc], hs.got, hs.q, .inr ⟨by show 52 ≤ x.off + 56; omega, by show (x.off + 56 - 52) % 56 = 0; omega, h0, ?_, rfl, ?_⟩⟩
      · show x.off + 56 < ((frM x).length : Int)
        omega
      · show (frM x).take (x.off.toNat + 56) = (frM x).take (x.off + 56).toNat
        congr 1
        omega
theorem sync_next {x : LE} {V : List (List UInt8)} {r : RS} (h : Gd x) (hs : Sync x V r) (hg : nxGo x = true) : Fit x.n V r (nxn x) ∧ Sync (nxG x) V (rsStep x.n r (nxn x)) := by
  rcases hs.st with ⟨h1, h2, h3⟩ | ⟨h1, h2, _, h3, h4, h5⟩
  · exact sync_first h hs hg h1 h2 h3
  · exact sync_on h hs hg h1 h2 h3 h4 h5
def akF : Int → List Ln → Int
  | a, [] => a
  | a, l :: ls => akF (a + mv l.a a) ls
theorem mv_range (k a : Int) : 0 ≤ mv k a ∧ mv k a < 65536 := by unfold mv; omega
theorem akF_ge : ∀ (ls : List Ln) (a : Int), a ≤ akF a ls
  | [], a => Int.le_refl _
  | l :: ls, a => by
    have h1 := akF_ge ls (a + mv l.a a)
    have h2 := mv_range l.a a
    show a ≤ akF (a + mv l.a a) ls
    omega
theorem akF_snoc (l : Ln) : ∀ (ls : List Ln) (a : Int), akF a (ls ++ [l]) = akF a ls + mv l.a (akF a ls)
  | [], a => rfl
  | k :: ls, a => akF_snoc l ls (a + mv k.a a)
structure Dir (x y : LE) (L B : List Ln) (V : List (List UInt8)) (T : Nat) : Prop where
  same : x.n = y.rn
  run : ∃ r, Run y.rn V (rsOf y T) L r ∧ Sync x V r
  ack : akF x.a B = y.told
theorem Dir.rc {x y : LE} {L B : List Ln} {V : List (List UInt8)} {T : Nat} (h : Dir x y L B V T) : y.rc ≤ x.s := by
  obtain ⟨r, h1, h2⟩ := h.run
  have := (Run.le h1).1
  rw [h2.rc] at this
  exact this
theorem Dir.got {x y : LE} {L B : List Ln} {V : List (List UInt8)} {T : Nat} (h : Dir x y L B V T) : T ≤ V.length := by
  obtain ⟨r, h1, h2⟩ := h.run
  exact Nat.le_trans (Run.le h1).2 h2.got
theorem Dir.enq {x y : LE} {L B : List Ln} {V : List (List UInt8)} {T : Nat} (h : Dir x y L B V T) (m : List UInt8) : Dir { x with q := x.q ++ [m] } y L B (V ++ [m]) T := by
  obtain ⟨r, h1, h2⟩ := h.run
  refine ⟨h.same, ⟨r, Run.more h1, ⟨h2.rc, by simp; have := h2.got; omega, ?_, ?_⟩⟩, h.ack⟩
  · show x.q ++ [m] = (V ++ [m]).drop r.got
    rw [List.drop_append_of_le_length h2.got, h2.q]
  · rcases h2.st with h3 | ⟨h3, h4, h5, h6, h7, h8⟩
    · exact .inl h3
    · have e : frM { x with q := x.q ++ [m] } = frM x := by
        unfold frM
        show (x.q ++ [m]).headD [] = x.q.headD []
        cases hq : x.q with
        | nil => rw [hq] at h5; simp at h5
        | cons a t => rfl
      refine .inr ⟨h3, h4, by show 0 < (x.q ++ [m]).length; simp, ?_, ?_, ?_⟩
      · rw [e]; exact h6
      · rw [e]; exact h7
      · rw [e]; exact h8
theorem nx_zero {x : LE} (h : Gd x) (hs : x.s < 4611686018427387904) : nxE x = 0 ∨ nxE x = 17 := by
  unfold nxE
  rw [if_pos h.v]
  split
  · rw [if_neg (by omega)]; exact .inl rfl
  · split
    · exact .inl rfl
    · exact .inr rfl
theorem nxL_told {x : LE} (h : nxE x = 0) : (nxL x).told = x.rc := by
  unfold nxL
  rw [if_pos h]
  split <;> rfl
theorem nxL_keep {x : LE} (h : nxE x = 0) : (nxL x).n = x.n ∧ (nxL x).a = x.a ∧ (nxL x).rn = x.rn ∧ (nxL x).rc = x.rc ∧ (nxL x).want = x.want ∧ (nxL x).pt = x.pt := by
  unfold nxL
  rw [if_pos h]
  split <;> exact ⟨rfl, rfl, rfl, rfl, rfl, rfl⟩
theorem Dir.tr {x y : LE} {L B : List Ln} {V : List (List UInt8)} {T : Nat} (h : Dir x y L B V T) (hx : Gd x) (h0 : nxE x = 0) : Dir (nxL x) y (L ++ [nxn x]) B V T := by
  obtain ⟨r, h1, h2⟩ := h.run
  obtain ⟨k1, k2, -⟩ := nxL_keep h0
  refine ⟨k1.trans h.same, ?_, by rw [k2]; exact h.ack⟩
  cases hg : nxGo x
  · have e1 : nxn x = ⟨2, false, false, 0, acN x.rn x.rc, z56⟩ := by unfold nxn; rw [hg]; rfl
    have e2 : nxL x = { x with told := x.rc } := by unfold nxL; rw [if_pos h0, hg]; rfl
    have hF : Fit y.rn V r (nxn x) := ⟨nxn_ok hx.ve, nxn_e hx.ve, fun hk => (by rw [e1] at hk; cases hk), fun hk _ => (by rw [e1] at hk; cases hk)⟩
    have e3 : rsStep y.rn r (nxn x) = r := by unfold rsStep; rw [e1]; rfl
    refine ⟨r, ?_, ?_⟩
    · have := Run.snoc h1 hF
      rw [e3] at this
      exact this
    · rw [e2]
      exact ⟨h2.rc, h2.got, h2.q, h2.st⟩
  · have e2 : nxL x = nxG x := by unfold nxL; rw [if_pos h0, hg]; rfl
    obtain ⟨h3, h4⟩ := sync_next hx h2 hg
    rw [h.same] at h3 h4
    exact ⟨_, Run.snoc h1 h3, by rw [e2]; exact h4⟩
theorem Dir.told {z x : LE} {L B : List Ln} {V : List (List UInt8)} {T : Nat} (h : Dir z x L B V T) (hz : Gd z) (hx : Gd x) (h0 : nxE x = 0) : Dir z (nxL x) L (B ++ [nxn x]) V T := by
  obtain ⟨k1, k2, k3, k4, k5, k6⟩ := nxL_keep h0
  refine ⟨h.same.trans k3.symm, ?_, ?_⟩
  · have e : rsOf (nxL x) T = rsOf x T := by unfold rsOf; rw [k4, k5, k6]
    rw [e, k3]
    exact h.run
  · rw [akF_snoc, h.ack, nxL_told h0]
    have e : (nxn x).a = acN x.rn x.rc := by unfold nxn; split <;> rfl
    have hr := hx.ve.vr
    have e2 : acN x.rn x.rc = IntKind.u16.wrap x.rc := by unfold acN; rw [if_pos hr]
    have h1 := h.rc
    have h2 := akF_ge B z.a
    rw [h.ack] at h2
    have h3 := vs_yes hz.ve.vs
    have h4 := h3.d
    have h5 := h3.n1
    have h6 := hx.ve.told
    rw [e, e2, IntKind.wrap_u16]
    unfold mv
    omega
theorem dv_keep (y : LE) (l : Ln) : (dvG y l.k l.f l.n l.a l.p).n = y.n ∧ (dvG y l.k l.f l.n l.a l.p).s = y.s ∧ (dvG y l.k l.f l.n l.a l.p).a = y.a + mv l.a y.a ∧ (dvG y l.k l.f l.n l.a l.p).rn = y.rn ∧ (dvG y l.k l.f l.n l.a l.p).q = y.q ∧ (dvG y l.k l.f l.n l.a l.p).off = y.off ∧ (dvG y l.k l.f l.n l.a l.p).told = y.told := by
  unfold dvG
  split <;> exact ⟨rfl, rfl, rfl, rfl, rfl, rfl, rfl⟩
def tkN (y : LE) (l : Ln) (T : Nat) : Nat := if dvC y l.k l.f l.n l.p = true then T + 1 else T
theorem rs_dv (y : LE) (l : Ln) (T : Nat) : rsOf (dvG y l.k l.f l.n l.a l.p) (tkN y l T) = rsStep y.rn (rsOf y T) l := by
  have e1 : acE ((rsOf y T).le y.rn) l.f l.n l.p = acE y l.f l.n l.p := rfl
  have e2 : acW ((rsOf y T).le y.rn) l.f l.p = acW y l.f l.p := rfl
  have e3 : acP ((rsOf y T).le y.rn) l.f l.n l.p = acP y l.f l.n l.p := rfl
  unfold rsStep dvG tkN dvC
  by_cases hk : l.k = 1
  · rw [if_pos hk, if_pos hk, e1, e2, e3]
    cases hE : acE y l.f l.n l.p <;> simp [rsOf, hk]
  · rw [if_neg hk, if_neg hk]
    simp [rsOf, hk]
theorem Dir.de {x y : LE} {l : Ln} {ls B : List Ln} {V : List (List UInt8)} {T : Nat} (h : Dir x y (l :: ls) B V T) : Dir x (dvG y l.k l.f l.n l.a l.p) ls B V (tkN y l T) := by
  obtain ⟨r, h1, h2⟩ := h.run
  obtain ⟨k1, k2, k3, k4, k5, k6, k7⟩ := dv_keep y l
  refine ⟨h.same.trans k4.symm, ⟨r, ?_, h2⟩, by rw [k7]; exact h.ack⟩
  rw [k4, rs_dv]
  exact h1.2
theorem Dir.back {y x : LE} {l : Ln} {M ls : List Ln} {V : List (List UInt8)} {T : Nat} (h : Dir y x M (l :: ls) V T) : Dir (dvG y l.k l.f l.n l.a l.p) x M ls V T := by
  obtain ⟨r, h1, h2⟩ := h.run
  obtain ⟨k1, k2, k3, k4, k5, k6, k7⟩ := dv_keep y l
  refine ⟨k1.trans h.same, ⟨r, h1, ⟨h2.rc.trans k2.symm, h2.got, k5.trans h2.q, ?_⟩⟩, ?_⟩
  · unfold frM
    rw [k6, k5]
    exact h2.st
  · rw [k3]
    exact h.ack
structure Takes (y : LE) (l : Ln) (V : List (List UInt8)) (T : Nat) : Prop where
  ok : l.ok
  e : lnE l.k l.e l.f l.n l.p = 0
  mv : mv l.a y.a ≤ y.s - y.a
  dv : dvE y l.k l.e l.f l.n l.a l.p = 0
  m : dvC y l.k l.f l.n l.p = true → V[T]? = some (dvM y l.k l.f l.n l.p)
  no : dvC y l.k l.f l.n l.p = false → dvM y l.k l.f l.n l.p = []
theorem takes {x y : LE} {l : Ln} {ls B M : List Ln} {V V' : List (List UInt8)} {T T' : Nat} (h : Dir x y (l :: ls) B V T) (hb : Dir y x M (l :: ls) V' T') (hy : Gd y) (hx : Gd x) (hs : x.s < 4611686018427387904) : Takes y l V T := by
  obtain ⟨r, ⟨hF, -⟩, -⟩ := h.run
  have hm : mv l.a y.a ≤ y.s - y.a := by
    have h1 := hb.ack
    have h2 := akF_ge ls (y.a + mv l.a y.a)
    have h3 : akF (y.a + mv l.a y.a) ls = x.told := h1
    have h4 := hx.ve.told
    have h5 := hb.rc
    omega
  have hrc := h.rc
  refine ⟨hF.ok, hF.e, hm, ?_, fun hc => ?_, fun hc => ?_⟩
  · unfold dvE
    rw [if_pos hy.v, if_pos hF.e, if_pos hm]
    by_cases hk : l.k = 1
    · have hd : acD y l.e l.f l.n l.p = true := hF.d hk
      rw [if_pos hk, if_pos hd, if_neg (by omega)]
    · rw [if_neg hk]
  · have hc2 := hc
    unfold dvC at hc2
    rw [Bool.and_eq_true, decide_eq_true_eq] at hc2
    have := hF.m hc2.1 hc2.2
    unfold dvM
    rw [if_pos hc]
    exact this
  · unfold dvM
    rw [hc]
    rfl
theorem Gd.enq {x : LE} (h : Gd x) (hq : x.q.length < 64) {m : List UInt8} (hm : m.length ≤ 1048576) : Gd { x with q := x.q ++ [m] } := by
  have hv := h.ve
  refine ⟨vE_mk ⟨hv.vs, by show (x.q ++ [m]).length ≤ 64; simp; omega, ?_, ?_, hv.vr, hv.told, hv.part, hv.same⟩, h.a, h.t⟩
  · intro k hk
    rcases List.mem_append.1 hk with h1 | h1
    · exact hv.qm k h1
    · rw [List.mem_singleton.1 h1]; exact hm
  · rcases hv.off with h1 | ⟨h1, h2, h3, h4⟩
    · exact .inl h1
    · have e : frM { x with q := x.q ++ [m] } = frM x := by
        unfold frM
        show (x.q ++ [m]).headD [] = x.q.headD []
        cases hq : x.q with
        | nil => rw [hq] at h1; simp at h1
        | cons a t => rfl
      exact .inr ⟨by show 0 < (x.q ++ [m]).length; simp, h2, by rw [e]; exact h3, h4⟩
theorem Gd.tr {x : LE} (h : Gd x) (h0 : nxE x = 0) : Gd (nxL x) := by
  have hv := h.ve
  have ht := hv.told
  have hr : 0 ≤ x.rc := by have := h.t; omega
  cases hg : nxGo x
  · have e2 : nxL x = { x with told := x.rc } := by unfold nxL; rw [if_pos h0, hg]; rfl
    rw [e2]
    exact ⟨vE_mk ⟨hv.vs, hv.ql, hv.qm, hv.off, hv.vr, Int.le_refl _, hv.part, hv.same⟩, h.a, hr⟩
  · have e2 : nxL x = nxG x := by unfold nxL; rw [if_pos h0, hg]; rfl
    obtain ⟨q0, hf⟩ := nxGo_q hg
    have hs := vs_yes hv.vs
    have hne : x.s ≠ 4611686018427387904 := by
      intro h9
      unfold nxE at h0
      rw [if_pos h.v, if_pos hg, if_pos h9] at h0
      cases h0
    have hfr : x.s - x.a < x.n := by unfold fr at hf; rw [if_pos hv.vs] at hf; omega
    have hvs : vs x.n (x.s + 1) x.a = true := vs_mk ⟨hs.vl, hs.n0, hs.n1, by have := hs.a0; omega, by omega, by have := hs.m; omega⟩
    rw [e2]
    by_cases he : nxEnd x = true
    · have e1 : nxG x = { x with s := x.s + 1, off := -1, q := x.q.tail, told := x.rc } := by unfold nxG; rw [if_pos he, if_pos he]
      rw [e1]
      exact ⟨vE_mk ⟨hvs, by show x.q.tail.length ≤ 64; have := hv.ql; simp; omega, fun m hm => hv.qm m (List.mem_of_mem_tail hm), .inl rfl, hv.vr, Int.le_refl _, hv.part, hv.same⟩, h.a, hr⟩
    · have e1 : nxG x = { x with s := x.s + 1, off := (frS x : Int), told := x.rc } := by unfold nxG; rw [if_neg he, if_neg he]
      have hne : ¬ frS x = (frM x).length := by unfold nxEnd at he; simpa using he
      have ho : (x.off = -1 ∧ frS x = min (frM x).length 52) ∨ (52 ≤ x.off ∧ (x.off - 52) % 56 = 0 ∧ frS x = min (frM x).length (x.off.toNat + 56)) := by
        rcases hv.off with h1 | ⟨h1, h2, h3, h4⟩
        · exact .inl ⟨h1, by unfold frS; rw [if_pos (by omega)]⟩
        · exact .inr ⟨h2, h4, by unfold frS; rw [if_neg (by omega)]⟩
      rw [e1]
      refine ⟨vE_mk ⟨hvs, hv.ql, hv.qm, .inr ⟨q0, ?_, ?_, ?_⟩, hv.vr, Int.le_refl _, hv.part, hv.same⟩, h.a, hr⟩
      · show 52 ≤ (frS x : Int)
        omega
      · show (frS x : Int) < (frM x).length
        omega
      · show ((frS x : Int) - 52) % 56 = 0
        omega
theorem Gd.de {y : LE} (h : Gd y) {l : Ln} {V : List (List UInt8)} {T : Nat} (t : Takes y l V T) : Gd (dvG y l.k l.f l.n l.a l.p) := by
  have hv := h.ve
  have hs := vs_yes hv.vs
  have hm := mv_range l.a y.a
  have hle := t.mv
  have hvs : vs y.n y.s (y.a + mv l.a y.a) = true := vs_mk ⟨hs.vl, hs.n0, hs.n1, by omega, by have := hs.d; omega, hs.m⟩
  have ha := h.a
  by_cases hk : l.k = 1
  · have hdv := t.dv
    unfold dvE at hdv
    rw [if_pos h.v, if_pos t.e, if_pos hle, if_pos hk] at hdv
    have hD : acD y l.e l.f l.n l.p = true := by
      cases hD : acD y l.e l.f l.n l.p
      · rw [hD] at hdv; cases hdv
      · rfl
    rw [if_pos hD] at hdv
    have h62 : y.rc ≠ 4611686018427387904 := by
      intro h9
      rw [if_pos h9] at hdv
      cases hdv
    have hr1 := vr_le hv.vr
    have hvr : vr y.rn (y.rc + 1) = true := vr_mk (vr_vl hv.vr) (by omega)
    have htl : y.told ≤ y.rc + 1 := by have := hv.told; omega
    unfold dvG
    rw [if_pos hk]
    cases hE : acE y l.f l.n l.p
    · simp only [if_false, Bool.false_eq_true]
      refine ⟨vE_mk ⟨hvs, hv.ql, hv.qm, hv.off, hvr, htl, ?_, hv.same⟩, by show 0 ≤ y.a + mv l.a y.a; omega, h.t⟩
      show partOk (acW y l.f l.p) (acP y l.f l.n l.p) = true
      have hE' : ¬ acW y l.f l.p ≤ ((acP y l.f l.n l.p).length : Int) := by unfold acE at hE; simpa using hE
      unfold acD at hD
      simp only [Bool.and_eq_true, beq_iff_eq, decide_eq_true_eq] at hD
      obtain ⟨⟨⟨⟨-, hf⟩, hn0⟩, hn1⟩, hif⟩ := hD
      have hpl := t.ok.1
      cases hfl : l.f
      · rw [hfl] at hif hE' hf
        simp only [Bool.false_eq_true, if_false, beq_iff_eq] at hif
        rcases partOk_yes hv.part with ⟨h1, h2⟩ | ⟨h1, h2, h3, h4⟩
        · rw [h1] at hf; cases hf
        · have hl : (acP y false l.n l.p).length = y.pt.length + l.n.toNat := by
            unfold acP acB
            simp
            omega
          have hw : acW y false l.p = y.want := rfl
          rw [hl, hw] at hE'
          exact partOk_mk (by rw [hw]; omega) (by rw [hl]; omega) (by rw [hl, hw]; omega) (by rw [hl]; omega)
      · rw [hfl] at hif hE' hf
        simp only [if_true, Bool.and_eq_true, decide_eq_true_eq, beq_iff_eq] at hif
        obtain ⟨⟨h4, hH⟩, hmin⟩ := hif
        rcases partOk_yes hv.part with ⟨h1, h2⟩ | ⟨h1, h2, h3, _⟩
        · have hl : (acP y true l.n l.p).length = l.n.toNat - 4 := by
            unfold acP acB
            rw [h2]
            simp
            omega
          have hw : acW y true l.p = (acH l.p : Int) := rfl
          rw [hl, hw] at hE'
          exact partOk_mk (by rw [hw]; omega) (by rw [hl]; omega) (by rw [hl, hw]; omega) (by rw [hl]; omega)
        · exfalso
          have h5 : (y.want == -1) = false := by rw [beq_eq_false_iff_ne]; omega
          rw [h5] at hf
          cases hf
    · simp only [if_true]
      exact ⟨vE_mk ⟨hvs, hv.ql, hv.qm, hv.off, hvr, htl, rfl, hv.same⟩, by show 0 ≤ y.a + mv l.a y.a; omega, h.t⟩
  · have e : dvG y l.k l.f l.n l.a l.p = { y with a := y.a + mv l.a y.a } := by unfold dvG; rw [if_neg hk]
    rw [e]
    exact ⟨vE_mk ⟨hvs, hv.ql, hv.qm, hv.off, hv.vr, hv.told, hv.part, hv.same⟩, by show 0 ≤ y.a + mv l.a y.a; omega, h.t⟩
end
structure WrS where
  (E : Nat → LE) (Y : Nat → List Ln) (V : Nat → List (List UInt8)) (T : Nat → Nat)
section
def cntF (len : Nat) (off : Int) : Nat := if off < 0 then 1 + (len - 52 + 55) / 56 else (len - off.toNat + 55) / 56
def unsQ : List (List UInt8) → Nat
  | [] => 0
  | m :: t => cntF m.length (-1) + unsQ t
def uns (x : LE) : Nat := match x.q with
  | [] => 0
  | m :: t => cntF m.length x.off + unsQ t
def potD (x y : LE) (L : List Ln) : Nat := 4 * uns x + 2 * (x.s - y.told).toNat + L.length
def pot (S : WrS) : Nat := potD (S.E 0) (S.E 1) (S.Y 1) + potD (S.E 1) (S.E 0) (S.Y 0)
theorem uns_new {x : LE} (h : x.off = -1) : uns x = unsQ x.q := by
  unfold uns
  cases hq : x.q with
  | nil => rfl
  | cons m t => simp [unsQ, h]
theorem unsQ_snoc (m : List UInt8) : ∀ q : List (List UInt8), unsQ (q ++ [m]) = unsQ q + cntF m.length (-1)
  | [] => by simp [unsQ]
  | k :: t => by simp [unsQ, unsQ_snoc m t]; omega
theorem uns_enq (x : LE) (hx : Gd x) (m : List UInt8) : uns { x with q := x.q ++ [m] } = uns x + cntF m.length (-1) := by
  unfold uns
  cases hq : x.q with
  | nil =>
    rcases hx.ve.off with h | h
    · simp [h, unsQ]
    · have := h.1; rw [hq] at this; simp at this
  | cons k t =>
    simp [unsQ_snoc]
    omega
theorem uns_go {x : LE} (hx : Gd x) (hg : nxGo x = true) : uns (nxG x) + 1 = uns x := by
  obtain ⟨h0, -⟩ := nxGo_q hg
  obtain ⟨m, t, hq⟩ : ∃ m t, x.q = m :: t := by
    cases hq : x.q with
    | nil => rw [hq] at h0; simp at h0
    | cons m t => exact ⟨m, t, rfl⟩
  have hM : frM x = m := by unfold frM; rw [hq]; rfl
  have hux : uns x = cntF m.length x.off + unsQ t := by unfold uns; rw [hq]
  by_cases he : nxEnd x = true
  · have e1 : nxG x = { x with s := x.s + 1, off := -1, q := x.q.tail, told := x.rc } := by unfold nxG; rw [if_pos he, if_pos he]
    have hu : uns (nxG x) = unsQ t := by rw [uns_new (by rw [e1])]; rw [e1]; show unsQ x.q.tail = _; rw [hq]; rfl
    have hfs : frS x = m.length := by unfold nxEnd at he; rw [beq_iff_eq, hM] at he; exact he
    have h1 : cntF m.length x.off = 1 := by
      rcases hx.ve.off with h | ⟨_, h2, h3, _⟩
      · unfold frS at hfs
        rw [if_pos (by omega), hM] at hfs
        unfold cntF
        rw [if_pos (by omega)]
        omega
      · unfold frS at hfs
        rw [if_neg (by omega), hM] at hfs
        rw [hM] at h3
        unfold cntF
        rw [if_neg (by omega)]
        omega
    rw [hu, hux, h1]
    omega
  · have e1 : nxG x = { x with s := x.s + 1, off := (frS x : Int), told := x.rc } := by unfold nxG; rw [if_neg he, if_neg he]
    have hne : ¬ frS x = m.length := by unfold nxEnd at he; rw [hM] at he; simpa using he
    have hu : uns (nxG x) = cntF m.length (frS x : Int) + unsQ t := by rw [e1]; unfold uns; simp only [hq]
    have h1 : cntF m.length (frS x : Int) + 1 = cntF m.length x.off := by
      rcases hx.ve.off with h | ⟨_, h2, h3, _⟩
      · have hfs : frS x = min m.length 52 := by unfold frS; rw [if_pos (by omega), hM]
        unfold cntF
        rw [if_neg (by omega), if_pos (by omega)]
        omega
      · have hfs : frS x = min m.length (x.off.toNat + 56) := by unfold frS; rw [if_neg (by omega), hM]
        rw [hM] at h3
        unfold cntF
        rw [if_neg (by omega), if_neg (by omega)]
        omega
    rw [hu, hux]
    omega
theorem Dir.told_le {x y : LE} {L B : List Ln} {V : List (List UInt8)} {T : Nat} (h : Dir x y L B V T) (hy : Gd y) : y.told ≤ x.s := by
  have := h.rc
  have := hy.ve.told
  omega
structure WInv (c : Nat) (S : WrS) : Prop where
  g : ∀ s, s < 2 → Gd (S.E s)
  d : ∀ s, s < 2 → Dir (S.E s) (S.E (1 - s)) (S.Y (1 - s)) (S.Y s) (S.V s) (S.T (1 - s))
  bs : ∀ s, s < 2 → (S.E s).s ≤ c
  bY : ∀ s, s < 2 → (S.Y s).length ≤ c
  bV : ∀ s, s < 2 → (S.V s).length ≤ c
  p : pot S ≤ 32 * c
theorem pot_sym (S : WrS) (s : Nat) (hs : s < 2) : pot S = potD (S.E s) (S.E (1 - s)) (S.Y (1 - s)) + potD (S.E (1 - s)) (S.E s) (S.Y s) := by
  rcases (by omega : s = 0 ∨ s = 1) with rfl | rfl
  · rfl
  · unfold pot; rw [Nat.add_comm]
theorem one_sub {s : Nat} (hs : s < 2) : 1 - s < 2 ∧ 1 - (1 - s) = s ∧ 1 - s ≠ s := by omega
theorem WInv.of {c : Nat} {S : WrS} (s : Nat) (hs : s < 2) (g0 : Gd (S.E s)) (g1 : Gd (S.E (1 - s))) (d0 : Dir (S.E s) (S.E (1 - s)) (S.Y (1 - s)) (S.Y s) (S.V s) (S.T (1 - s))) (d1 : Dir (S.E (1 - s)) (S.E s) (S.Y s) (S.Y (1 - s)) (S.V (1 - s)) (S.T s))
    (s0 : (S.E s).s ≤ c) (s1 : (S.E (1 - s)).s ≤ c) (y0 : (S.Y s).length ≤ c) (y1 : (S.Y (1 - s)).length ≤ c) (v0 : (S.V s).length ≤ c) (v1 : (S.V (1 - s)).length ≤ c) (hp : pot S ≤ 32 * c) : WInv c S := by
  obtain ⟨a, b, e⟩ := one_sub hs
  have hc : ∀ t, t < 2 → t = s ∨ t = 1 - s := fun t ht => by omega
  refine ⟨fun t ht => ?_, fun t ht => ?_, fun t ht => ?_, fun t ht => ?_, fun t ht => ?_, hp⟩ <;> rcases hc t ht with rfl | rfl
  · exact g0
  · exact g1
  · exact d0
  · rw [b]; exact d1
  · exact s0
  · exact s1
  · exact y0
  · exact y1
  · exact v0
  · exact v1
theorem WInv.mono {c c' : Nat} {S : WrS} (h : WInv c S) (hc : c ≤ c') : WInv c' S :=
  ⟨h.g, h.d, fun s hs => by have := h.bs s hs; omega, fun s hs => Nat.le_trans (h.bY s hs) hc, fun s hs => Nat.le_trans (h.bV s hs) hc, by have := h.p; omega⟩
theorem WInv.bT {c : Nat} {S : WrS} (h : WInv c S) {s : Nat} (hs : s < 2) : S.T s ≤ (S.V (1 - s)).length := by
  obtain ⟨a, b, e⟩ := one_sub hs
  have := (h.d (1 - s) a).got
  rwa [b] at this
def enqS (S : WrS) (s : Nat) (m : List UInt8) : WrS := { S with E := upd S.E s { S.E s with q := (S.E s).q ++ [m] }, V := upd S.V s (S.V s ++ [m]) }
def trS (S : WrS) (s : Nat) : WrS := { S with E := upd S.E s (nxL (S.E s)), Y := upd S.Y (1 - s) (S.Y (1 - s) ++ [nxn (S.E s)]) }
def deS (S : WrS) (s : Nat) (l : Ln) (ls : List Ln) : WrS := { S with E := upd S.E s (dvG (S.E s) l.k l.f l.n l.a l.p), Y := upd S.Y s ls, T := upd S.T s (tkN (S.E s) l (S.T s)) }
theorem WInv.enq {c k : Nat} {S : WrS} (h : WInv c S) {s : Nat} (hs : s < 2) (hq : (S.E s).q.length < 64) {m : List UInt8} (hm : m.length ≤ 1048576) (hk : 4 * cntF m.length (-1) ≤ 32 * k) (hk1 : 1 ≤ k) : WInv (c + k) (enqS S s m) := by
  obtain ⟨a, b, e⟩ := one_sub hs
  have hE : (enqS S s m).E s = { S.E s with q := (S.E s).q ++ [m] } := upd_self _ _ _
  have hE1 : (enqS S s m).E (1 - s) = S.E (1 - s) := upd_other e
  have hV : (enqS S s m).V s = S.V s ++ [m] := upd_self _ _ _
  have hV1 : (enqS S s m).V (1 - s) = S.V (1 - s) := upd_other e
  have d1 := h.d (1 - s) a
  rw [b] at d1
  have hu := uns_enq (S.E s) (h.g s hs) m
  refine WInv.of s hs ?_ ?_ ?_ ?_ ?_ ?_ ?_ ?_ ?_ ?_ ?_
  · rw [hE]; exact (h.g s hs).enq hq hm
  · rw [hE1]; exact h.g _ a
  · rw [hE, hE1, hV]; exact (h.d s hs).enq m
  · rw [hE, hE1, hV1]; exact ⟨d1.same, d1.run, d1.ack⟩
  · rw [hE]; have := h.bs s hs; show (S.E s).s ≤ _; omega
  · rw [hE1]; have := h.bs _ a; omega
  · exact Nat.le_trans (h.bY s hs) (by omega)
  · exact Nat.le_trans (h.bY _ a) (by omega)
  · rw [hV]; have := h.bV s hs; simp; omega
  · rw [hV1]; exact Nat.le_trans (h.bV _ a) (by omega)
  · rw [pot_sym _ s hs, hE, hE1]
    have hp := h.p
    rw [pot_sym _ s hs] at hp
    have hY : (enqS S s m).Y = S.Y := rfl
    rw [hY]
    unfold potD at hp ⊢
    rw [hu]
    have e1 : ({ S.E s with q := (S.E s).q ++ [m] } : LE).s = (S.E s).s := rfl
    have e2 : ({ S.E s with q := (S.E s).q ++ [m] } : LE).told = (S.E s).told := rfl
    rw [e1, e2]
    omega
theorem pot_tr {c : Nat} {S : WrS} (h : WInv c S) {s : Nat} (hs : s < 2) (h0 : nxE (S.E s) = 0) : pot (trS S s) < pot S := by
  obtain ⟨a, b, e⟩ := one_sub hs
  have hE : (trS S s).E s = nxL (S.E s) := upd_self _ _ _
  have hE1 : (trS S s).E (1 - s) = S.E (1 - s) := upd_other e
  have hY : (trS S s).Y (1 - s) = S.Y (1 - s) ++ [nxn (S.E s)] := upd_self _ _ _
  have hY1 : (trS S s).Y s = S.Y s := upd_other (by omega)
  have d1 := h.d (1 - s) a
  rw [b] at d1
  rw [pot_sym _ s hs, pot_sym _ s hs, hE, hE1, hY, hY1]
  unfold potD
  rw [nxL_told h0, List.length_append, List.length_singleton]
  have hx := h.g s hs
  have hlt := d1.rc
  have htl := hx.ve.told
  have htl2 := (h.d s hs).told_le (h.g _ a)
  cases hg : nxGo (S.E s)
  · have e2 : nxL (S.E s) = { S.E s with told := (S.E s).rc } := by unfold nxL; rw [if_pos h0, hg]; rfl
    have hu : uns (nxL (S.E s)) = uns (S.E s) := by rw [e2]; rfl
    have hss : (nxL (S.E s)).s = (S.E s).s := by rw [e2]
    have hr : (S.E s).rn / 2 ≤ (S.E s).rc - (S.E s).told := by
      unfold nxE at h0
      rw [if_pos hx.v, hg] at h0
      simp only [Bool.false_eq_true, if_false] at h0
      by_cases h9 : (S.E s).rn / 2 ≤ (S.E s).rc - (S.E s).told
      · exact h9
      · rw [if_neg h9] at h0; cases h0
    have hn := vl_range (vr_vl hx.ve.vr)
    rw [hu, hss]
    omega
  · have e2 : nxL (S.E s) = nxG (S.E s) := by unfold nxL; rw [if_pos h0, hg]; rfl
    have hu := uns_go hx hg
    have hss : (nxL (S.E s)).s = (S.E s).s + 1 := by rw [e2]; rfl
    rw [e2] at hss ⊢
    rw [hss]
    omega
theorem WInv.tr {c : Nat} {S : WrS} (h : WInv c S) {s : Nat} (hs : s < 2) (h0 : nxE (S.E s) = 0) : WInv (c + 1) (trS S s) := by
  obtain ⟨a, b, e⟩ := one_sub hs
  have hpt := pot_tr h hs h0
  have hE : (trS S s).E s = nxL (S.E s) := upd_self _ _ _
  have hE1 : (trS S s).E (1 - s) = S.E (1 - s) := upd_other e
  have hY : (trS S s).Y (1 - s) = S.Y (1 - s) ++ [nxn (S.E s)] := upd_self _ _ _
  have hY1 : (trS S s).Y s = S.Y s := upd_other (by omega)
  have d1 := h.d (1 - s) a
  rw [b] at d1
  have hss : (nxL (S.E s)).s ≤ (S.E s).s + 1 := by
    unfold nxL
    rw [if_pos h0]
    split
    · exact Int.le_refl _
    · show (S.E s).s ≤ _; omega
  refine WInv.of s hs ?_ ?_ ?_ ?_ ?_ ?_ ?_ ?_ ?_ ?_ ?_
  · rw [hE]; exact (h.g s hs).tr h0
  · rw [hE1]; exact h.g _ a
  · rw [hE, hE1, hY, hY1]; exact (h.d s hs).tr (h.g s hs) h0
  · rw [hE, hE1, hY, hY1]; exact d1.told (h.g _ a) (h.g s hs) h0
  · rw [hE]; have := h.bs s hs; omega
  · rw [hE1]; have := h.bs _ a; omega
  · rw [hY1]; exact Nat.le_trans (h.bY s hs) (by omega)
  · rw [hY]; have := h.bY _ a; simp; omega
  · exact Nat.le_trans (h.bV s hs) (by omega)
  · exact Nat.le_trans (h.bV _ a) (by omega)
  · have := h.p; omega
theorem WInv.takes {c : Nat} {S : WrS} (h : WInv c S) (hc : c < 4611686018427387904) {s : Nat} (hs : s < 2) {l : Ln} {ls : List Ln} (hY : S.Y s = l :: ls) : Takes (S.E s) l (S.V (1 - s)) (S.T s) := by
  obtain ⟨a, b, e⟩ := one_sub hs
  have d0 := h.d (1 - s) a
  rw [b, hY] at d0
  have d1 := h.d s hs
  rw [hY] at d1
  exact Go.Proofs.Ythjkhambmgepdaa.takes d0 d1 (h.g s hs) (h.g _ a) (by have := h.bs _ a; omega)
theorem dv_uns (y : LE) (l : Ln) : uns (dvG y l.k l.f l.n l.a l.p) = uns y := by
  obtain ⟨k1, k2, k3, k4, k5, k6, k7⟩ := dv_keep y l
  unfold uns
  rw [k5, k6]
theorem pot_de {S : WrS} {s : Nat} (hs : s < 2) {l : Ln} {ls : List Ln} (hY : S.Y s = l :: ls) : pot (deS S s l ls) < pot S := by
  obtain ⟨a, b, e⟩ := one_sub hs
  have hE : (deS S s l ls).E s = dvG (S.E s) l.k l.f l.n l.a l.p := upd_self _ _ _
  have hE1 : (deS S s l ls).E (1 - s) = S.E (1 - s) := upd_other e
  have hY0 : (deS S s l ls).Y s = ls := upd_self _ _ _
  have hY1 : (deS S s l ls).Y (1 - s) = S.Y (1 - s) := upd_other e
  obtain ⟨k1, k2, k3, k4, k5, k6, k7⟩ := dv_keep (S.E s) l
  rw [pot_sym _ s hs, pot_sym _ s hs, hE, hE1, hY0, hY1, hY]
  unfold potD
  rw [dv_uns, k2, k7, List.length_cons]
  omega
theorem WInv.de {c : Nat} {S : WrS} (h : WInv c S) (hc : c < 4611686018427387904) {s : Nat} (hs : s < 2) {l : Ln} {ls : List Ln} (hY : S.Y s = l :: ls) : WInv c (deS S s l ls) := by
  obtain ⟨a, b, e⟩ := one_sub hs
  have tk := h.takes hc hs hY
  have hpt := pot_de hs hY
  have hE : (deS S s l ls).E s = dvG (S.E s) l.k l.f l.n l.a l.p := upd_self _ _ _
  have hE1 : (deS S s l ls).E (1 - s) = S.E (1 - s) := upd_other e
  have hY0 : (deS S s l ls).Y s = ls := upd_self _ _ _
  have hY1 : (deS S s l ls).Y (1 - s) = S.Y (1 - s) := upd_other e
  have hT0 : (deS S s l ls).T s = tkN (S.E s) l (S.T s) := upd_self _ _ _
  have hT1 : (deS S s l ls).T (1 - s) = S.T (1 - s) := upd_other e
  have d0 := h.d (1 - s) a
  rw [b, hY] at d0
  have d1 := h.d s hs
  rw [hY] at d1
  obtain ⟨k1, k2, k3, k4, k5, k6, k7⟩ := dv_keep (S.E s) l
  have hyl := h.bY s hs
  rw [hY] at hyl
  refine WInv.of s hs ?_ ?_ ?_ ?_ ?_ ?_ ?_ ?_ ?_ ?_ ?_
  · rw [hE]; exact (h.g s hs).de tk
  · rw [hE1]; exact h.g _ a
  · rw [hE, hE1, hY0, hY1, hT1]; exact d1.back
  · rw [hE, hE1, hY0, hY1, hT0]; exact d0.de
  · rw [hE, k2]; exact h.bs s hs
  · rw [hE1]; exact h.bs _ a
  · rw [hY0]; simp at hyl; omega
  · rw [hY1]; exact h.bY _ a
  · exact h.bV s hs
  · exact h.bV _ a
  · have := h.p; omega
theorem still {c : Nat} {S : WrS} (h : WInv c S) (h0 : ∀ s, s < 2 → nxE (S.E s) = 17) (hY : ∀ s, s < 2 → S.Y s = []) {s : Nat} (hs : s < 2) : (S.E s).q = [] := by
  obtain ⟨a, b, e⟩ := one_sub hs
  have hd := h.d s hs
  have hx := h.g s hs
  have hy := h.g _ a
  have h1 := h0 s hs
  have h2 := h0 _ a
  obtain ⟨r, hr, hsy⟩ := hd.run
  rw [hY _ a] at hr
  have hr : rsOf (S.E (1 - s)) (S.T (1 - s)) = r := hr
  have hrc : (S.E (1 - s)).rc = (S.E s).s := by rw [← hsy.rc, ← hr]; rfl
  have hak := hd.ack
  rw [hY s hs] at hak
  have hak : (S.E s).a = (S.E (1 - s)).told := hak
  have hsame := hd.same
  cases hq : (S.E s).q with
  | nil => rfl
  | cons m t =>
    exfalso
    have hg : nxGo (S.E s) = false := by
      cases hg : nxGo (S.E s)
      · rfl
      · unfold nxE at h1
        rw [if_pos hx.v, hg] at h1
        simp only [if_true] at h1
        split at h1 <;> cases h1
    have hvs := vs_yes hx.ve.vs
    have hfr : fr (S.E s).n (S.E s).s (S.E s).a ≤ 0 := by
      unfold nxGo at hg
      rw [hq] at hg
      simpa using hg
    unfold fr at hfr
    rw [if_pos hx.ve.vs] at hfr
    have hrn := vl_range (vr_vl hy.ve.vr)
    unfold nxE at h2
    rw [if_pos hy.v] at h2
    split at h2
    · split at h2 <;> cases h2
    · rw [if_pos (by omega)] at h2
      cases h2
theorem all_come {c : Nat} {S : WrS} (h : WInv c S) (hY : ∀ s, s < 2 → S.Y s = []) (hq : ∀ s, s < 2 → (S.E s).q = []) {s : Nat} (hs : s < 2) : S.T s = (S.V (1 - s)).length ∧ idleE (S.E s) = true := by
  obtain ⟨a, b, e⟩ := one_sub hs
  have hd := h.d _ a
  rw [b] at hd
  obtain ⟨r, hr, hsy⟩ := hd.run
  rw [hY s hs] at hr
  have hr : rsOf (S.E s) (S.T s) = r := hr
  have hq1 := hq _ a
  have hql := hsy.q
  rw [hq1] at hql
  have hg := hsy.got
  have hgot : r.got = S.T s := by rw [← hr]; rfl
  have hl : ((S.V (1 - s)).drop r.got).length = 0 := by rw [← hql]; rfl
  rw [List.length_drop] at hl
  refine ⟨by omega, ?_⟩
  have hw : (S.E s).want = -1 := by
    have hwr : r.want = (S.E s).want := by rw [← hr]; rfl
    rcases hsy.st with ⟨_, h2, _⟩ | ⟨_, _, h3, _⟩
    · omega
    · rw [hq1] at h3; simp at h3
  unfold idleE
  rw [(h.g s hs).v, hq s hs, hw]
  rfl
def newS (n : Int) : WrS := ⟨fun _ => newL n, fun _ => [], fun _ => [], fun _ => 0⟩
theorem newS_inv {n : Int} (hv : vl n = true) : WInv 0 (newS n) := by
  have hr := vl_range hv
  have h1 : vs n 0 0 = true := vs_mk ⟨hv, hr.1, hr.2, by omega, by omega, by omega⟩
  have h2 : vr n 0 = true := by simp [vr, hv]
  have hg : Gd (newL n) := ⟨vE_mk ⟨h1, Nat.zero_le _, fun m hm => (by cases hm), .inl rfl, h2, Int.le_refl _, rfl, rfl⟩, Int.le_refl _, Int.le_refl _⟩
  exact ⟨fun _ _ => hg, fun _ _ => ⟨rfl, ⟨⟨0, -1, [], 0⟩, rfl, ⟨rfl, Nat.le_refl _, rfl, .inl ⟨rfl, rfl, rfl⟩⟩⟩, rfl⟩, fun _ _ => Int.le_refl _, fun _ _ => Nat.le_refl _, fun _ _ => Nat.le_refl _, Nat.le_refl _⟩
end
theorem WrS.enq_e {e : LE} {m : List UInt8} (h : Gd e) (hm : m.length ≤ 1048576) (hq : e.q.length < 64) : enqE e m = 0 ∧ enqL e m = { e with q := e.q ++ [m] } := by
  have h1 : enqE e m = 0 := by unfold enqE; rw [if_pos h.v, if_neg (by omega), if_neg (by omega)]
  exact ⟨h1, by unfold enqL; rw [if_pos h1]⟩
theorem LV_list (k : Int) (e f : Bool) (n a : Int) {p : List UInt8} (hp : p.length = 56) : (LV k e f n a p).toList.length = 61 := by have := LV_size k e f n a hp; simpa using this
theorem LV_ones (k : Int) (e f : Bool) (n a : Int) (p : List UInt8) : ∀ u ∈ (LV k e f n a p).toList, u.oneCell' = true := by
  intro u hu
  have h := LV_one k e f n a p
  rw [Array.all_eq_true'] at h
  exact h u (by simpa using hu)
theorem lsC_snoc (ls : List Ln) (l : Ln) : lsC (ls ++ [l]) = lsC ls ++ l.v.toList := by simp [lsC]
theorem deliver_ok (e : LE) (A B : Option Addr) (c d : Nat) (k : Int) (el fl : Bool) (len ack : Int) (p : List UInt8) (W : World) (ht : e.ty) (hH : Held W e A c B d) (hl : p.length = 56) (ha : 0 ≤ ack ∧ ack < 65536) (hE : dvE e k el fl len ack p = 0) : Calls Try.prog 51 #[.agg (LEV e A c B d), .agg (LV k el fl len ack p)] W (DvP e k el fl len ack p W) := by
  by_cases hv : vE e = true
  · by_cases h0 : lnE k el fl len p = 0
    · by_cases hm : mv ack e.a ≤ e.s - e.a
      · by_cases hk : k = 1
        · cases hD : acD e el fl len p
          · exfalso
            unfold dvE at hE
            rw [if_pos hv, if_pos h0, if_pos hm, if_pos hk, hD] at hE
            cases hE
          · by_cases h6 : e.rc = 4611686018427387904
            · exfalso
              unfold dvE at hE
              rw [if_pos hv, if_pos h0, if_pos hm, if_pos hk, hD, if_pos rfl, if_pos h6] at hE
              cases hE
            · cases hC : acE e fl len p
              · exact dv_inc e A B c d k el fl len ack p W ht hH hl ha hv h0 hm hk hD hC h6
              · exact dv_com e A B c d k el fl len ack p W ht hH hl ha hv h0 hm hk hD hC h6
        · exact dv_ack e A B c d k el fl len ack p W ht hH hl ha hv h0 hm hk
      · exfalso
        unfold dvE at hE
        rw [if_pos hv, if_pos h0, if_neg hm] at hE
        cases hE
    · exfalso
      unfold dvE at hE
      rw [if_pos hv, if_neg h0] at hE
      cases hE
  · exfalso
    unfold dvE at hE
    rw [if_neg hv] at hE
    cases hE
theorem next_ok_is {e e' : LE} {L : Array Value} {E : Int} {A B : Option Addr} {c d : Nat} {W : World} (hg : Gd e) (hs : e.s < 4611686018427387904) (hE : nxE e = E) (hL : nxL e = e') (hV : nxV e = L) (ht : e.ty) (hH : Held W e A c B d) : Calls Try.prog 45 #[.agg (LEV e A c B d)] W (NxI e' L E W) := by
  subst hE hL hV
  show Calls Try.prog 45 #[.agg (LEV e A c B d)] W (NxP e W)
  have hv := hg.v
  by_cases hq0 : 0 < e.q.length
  · by_cases hf0 : 0 < fr e.n e.s e.a
    · have hs : ¬ e.s = 4611686018427387904 := by omega
      cases hend : nxEnd e
      · exact next_more e A B c d W ht hH hv hq0 hf0 hs hend
      · exact next_end1 e A B c d W ht hH hv hq0 hf0 hs hend
    · by_cases hc : e.rn / 2 ≤ e.rc - e.told
      · exact next_f0y e A B c d W ht hH hv hq0 (by omega) hc
      · exact next_f0n e A B c d W ht hH hv hq0 (by omega) (by omega)
  · by_cases hc : e.rn / 2 ≤ e.rc - e.told
    · exact next_q0y e A B c d W ht hH hv (by omega) hc
    · exact next_q0n e A B c d W ht hH hv (by omega) (by omega)
theorem enq_ok_is {e e' : LE} {m : List UInt8} {A B Am : Option Addr} {c d cm n : Nat} {W : World} (hg : Gd e) (hE : enqE e m = 0) (hL : enqL e m = e') (hn : n = m.length) (ht : e.ty) (hH : Held W e A c B d) (hm : IsB W Am n m) : Calls Try.prog 42 #[.agg (LEV e A c B d), .slice Am n cm] W (EnI e' 0 W) := by
  have hv := hg.v
  have h1 : m.length ≤ 1048576 ∧ e.q.length ≠ 64 := by
    unfold enqE at hE
    rw [if_pos hv] at hE
    split at hE
    · cases hE
    · split at hE
      · cases hE
      · exact ⟨by omega, by assumption⟩
  subst hn hL
  refine (enq_ok e A B c d Am cm m W ht hH hm hv h1.1 h1.2).mono ?_
  rintro en W' ⟨A', c', B', d', h2, h3, h4⟩
  exact ⟨A', c', B', d', by rw [h2, hE], h3, h4⟩
theorem pend_ok_is {e : LE} {k : Int} {A B : Option Addr} {c d : Nat} {W : World} (hg : Gd e) (hk : (e.q.length : Int) = k) (ht : e.ty) (hH : Held W e A c B d) : Calls Try.prog 43 #[.agg (LEV e A c B d)] W (fun en W' => en = .returned (.int .i64 k) ∧ Below W.heap.size W W') := by
  subst hk
  exact pend_yes e A B c d W ht hH hg.v
def DvI (e : LE) (ms : List UInt8) (cc : Bool) (W : World) (en : Ending) (W' : World) : Prop := ∃ A c B d M mc, en = .returned (.tuple #[.agg (LEV e A c B d), .slice M ms.length mc, .bool cc, .int .i64 0]) ∧ HeldT W' W.heap.size e A c B d ∧ OwnB W' W.heap.size 5 M ms.length mc ms ∧ Below W.heap.size W W'
theorem deliver_is {e e9 : LE} {ms : List UInt8} {cc : Bool} {A B : Option Addr} {c d : Nat} {k : Int} {el fl : Bool} {len ack : Int} {p : List UInt8} {W : World} (hE : dvE e k el fl len ack p = 0) (hG : dvG e k fl len ack p = e9) (hM : dvM e k fl len p = ms) (hC : dvC e k fl len p = cc) (ht : e.ty) (hH : Held W e A c B d) (hl : p.length = 56) (ha : 0 ≤ ack ∧ ack < 65536) :
    Calls Try.prog 51 #[.agg (LEV e A c B d), .agg (LV k el fl len ack p)] W (DvI e9 ms cc W) := by
  refine (deliver_ok e A B c d k el fl len ack p W ht hH hl ha hE).mono ?_
  rintro en W' (h | ⟨-, A', c', B', d', M, mc, h1, h2, h3, h4⟩)
  · exact absurd hE h.1
  · subst hG hM hC
    exact ⟨A', c', B', d', M, mc, h1, h2, h3, h4⟩
theorem Part.ownB {col : Nat → Nat} {w : World} {lo : Nat} {A : Option Addr} {n c : Nat} {bs : List UInt8} (h : OwnB w lo 5 A n c bs) (hc : ∀ x, lo ≤ x → col x = 0) : Part col 0 w (fun w => IsB w A n bs) := fun w' hs hk =>
  h.isB.of_same fun b o e h0 => by
    obtain ⟨g, hA, hg, hl⟩ := OwnV.form (size := 1) h h0
    rw [hA] at e
    injection e with e
    injection e with e1 e2 e3
    subst e1
    exact hk _ hl (hc _ hg)
theorem HeldT.lower {w : World} {lo lo' : Nat} {e : LE} {A B : Option Addr} {c d : Nat} (h : HeldT w lo e A c B d) (hl : lo' ≤ lo) : HeldT w lo' e A c B d := by
  obtain ⟨vs, b2, b3, l2, l3, h⟩ := h
  exact ⟨vs, b2, b3, by omega, by omega, h⟩
end
end Go.Proofs.Ythjkhambmgepdaa
