/- Draws: a row of frames cut. -/
import Derived.Test.YtaolgdpkcbfocaaDoorB6
import Derived.Test.YtaolgdpkcbfocaaDoorFOpen
namespace Go.Proofs.YtaolgdpkcbfocaaDoorA
open Go.Proofs
set_option autoImplicit false
set_option linter.unusedVariables false
set_option linter.unusedSimpArgs false
set_option maxRecDepth 4000
def kd13_0_1 (size : Int) (a : Int) (bs : List Int) : CB := if okW bs a ∧ a ≤ 1099500000000 ∧ 0 ≤ size ∧ size ≤ 400 then some (ro 11 ((recsD bs a size).map Rec.tr), [(1, .cells [.t (.sl 1 (bs.map bTr)), ci (recsP bs a size)])], 2) else none
def kd13_0_0 (size : Int) (a : Int) (r0 : List (List Tree)) : CB := (unBys r0).bind (kd13_0_1 size a)
def kd13_0 : List TV → List (Nat × AObj) → CB
  | [.c (.ptr 1 0), .c (.t (.v (.int .i64 size)))], [(1, .cells [.t (.sl 1 r0), .t (.v (.int .i64 a))])] => kd13_0_0 size a r0
  | _, _ => none
def kd13_call (f : FuncId) (args : List TV) (o : List (Nat × AObj)) : CB := if f = 77 then orO (kd13_0 args o) (kd12.callB f args o) else kd12.callB f args o
def kd13 : Kn := { call := kd12.call, eqs := eqTys, callB := kd13_call }
attribute [go_sem] kd13_0_0 kd13_0_1 kd13_0 kd13_call kd13
theorem kd13_ok : ∀ f args o res o1 n1, kd13_call f args o = some (res, o1, n1) → TC Tryd.prog f args o (o.length + 1) res o1 n1 := by
  intro f args o res o1 n1 h
  unfold kd13_call at h
  split at h
  · rename_i e; subst e
    have hh := orO_elim h
    clear h
    rcases hh with h | h
    rotate_left
    · exact kD12.callB _ _ _ _ _ _ h
    unfold kd13_0 at h
    split at h
    · rename_i size r0 a; unfold kd13_0_0 at h
      have hb0 := Option.bind_eq_some_iff.1 h
      clear h
      obtain ⟨bs, e0, h⟩ := hb0
      unfold kd13_0_1 at h
      split at h
      · rename_i hc; cases h; rw [unBys_ok e0]; exact recs_tc bs a size hc.1.1 hc.1.2.1 hc.2.1 hc.2.2.1 hc.2.2.2
      · cases h
    · cases h
  · exact kD12.callB f args o res o1 n1 h
theorem kD13 : KnOk Tryd.prog kd13 := ⟨kD12.call, eqTysOk, kd13_ok⟩
def gB (l : List Int) (i : Nat) : Int := l.getD i 0
def cutN (l : List Int) (a : Nat) : Int := ((gB l (a + 3) * 256 + gB l (a + 2)) * 256 + gB l (a + 1)) * 256 + gB l a
def cutC (l : List Int) (a : Nat) : Int := if a = l.length then -1 else if l.length < a + 9 then 1 else if cutN l a = 0 ∨ 16376 < cutN l a then 2 else if (l.length : Int) < a + 8 + cutN l a then 1 else 0
def cutE (l : List Int) (a : Nat) : Int := if cutC l a = 0 then a + 8 + cutN l a else a
theorem gB_at {l : List Int} {i : Nat} (hb : okB l) (h : i < l.length) : ∃ b, l[i]? = some b ∧ gB l i = b ∧ 0 ≤ b ∧ b ≤ 255 := by
  refine ⟨l[i], List.getElem?_eq_getElem h, ?_, hb _ (List.getElem_mem h)⟩
  simp [gB, List.getD, List.getElem?_eq_getElem h]
set_option maxHeartbeats 16000000 in
theorem cut_tc (l : List Int) (a : Nat) (hl : l.length ≤ 1073741824) (ha : a ≤ l.length) (hb : okB l) : TC Tryd.prog 96 [ro 1 (l.map bTr), int (a : Nat)] [] 1 (.tup [int (cutC l a), int (cutE l a)]) [] 1 := by
  by_cases c0 : a = l.length
  · have e1 : cutC l a = -1 := by simp [cutC, c0]
    have e2 : cutE l a = a := by simp [cutE, e1]
    rw [e1, e2]
    refine tc_intro Tryd.func96 rfl 52 rfl (Nat.le_of_ble_eq_true rfl) (by decide) [4, 5] rfl (by intro id x h; cases h) ?_
    intro w0 E0
    have kOk := kD13
    have hp := (show ((a : Int) == (l.length : Int)) = true from by simp [c0])
    refine wk1 ?_
    refine am_retP rfl ?_ rfl
    first | rfl | (refine go ?_; rfl)
  by_cases c1 : l.length < a + 9
  · have e1 : cutC l a = 1 := by simp [cutC, c0, c1]
    have e2 : cutE l a = a := by simp [cutE, e1]
    rw [e1, e2]
    refine tc_intro Tryd.func96 rfl 52 rfl (Nat.le_of_ble_eq_true rfl) (by decide) [4, 5] rfl (by intro id x h; cases h) ?_
    intro w0 E0
    have kOk := kD13
    have hp := (show ((a : Int) == (l.length : Int)) = false ∧ IntKind.i64.wrap ((l.length : Int) - (a : Int)) = (l.length : Int) - (a : Int) ∧ ((l.length : Int) - (a : Int) < 9) = True from ⟨by simp; omega, wrapN (by omega) (by omega), eq_true (by omega)⟩)
    refine wk1 ?_
    refine am_retP rfl ?_ rfl
    first | rfl | (refine go ?_; rfl)
  obtain ⟨b0, x0, y0, z0, w0⟩ := gB_at hb (i := a) (by omega)
  obtain ⟨b1, x1, y1, z1, w1⟩ := gB_at hb (i := a + 1) (by omega)
  obtain ⟨b2, x2, y2, z2, w2⟩ := gB_at hb (i := a + 2) (by omega)
  obtain ⟨b3, x3, y3, z3, w3⟩ := gB_at hb (i := a + 3) (by omega)
  have en : cutN l a = ((b3 * 256 + b2) * 256 + b1) * 256 + b0 := by rw [cutN, y0, y1, y2, y3]
  generalize hn : ((b3 * 256 + b2) * 256 + b1) * 256 + b0 = n at en
  have base := (show (((a : Int) == (l.length : Int)) = false ∧ IntKind.i64.wrap ((l.length : Int) - (a : Int)) = (l.length : Int) - (a : Int) ∧ ((l.length : Int) - (a : Int) < 9) = False) ∧ (((3 : Int) ≥ 0) = True ∧ ((2 : Int) ≥ 0) = True ∧ ((1 : Int) ≥ 0) = True ∧ ((0 : Int) ≥ 0) = True ∧ ((-1 : Int) ≥ 0) = False ∧ IntKind.i64.wrap ((3 : Int) - 1) = 2 ∧ IntKind.i64.wrap ((2 : Int) - 1) = 1 ∧ IntKind.i64.wrap ((1 : Int) - 1) = 0 ∧ IntKind.i64.wrap ((0 : Int) - 1) = -1) ∧
      (IntKind.i64.wrap ((a : Int) + 3) = ((a + 3 : Nat) : Int) ∧ IntKind.i64.wrap ((a : Int) + 2) = ((a + 2 : Nat) : Int) ∧ IntKind.i64.wrap ((a : Int) + 1) = ((a + 1 : Nat) : Int) ∧ IntKind.i64.wrap ((a : Int) + 0) = (a : Int) ∧ (a < l.length) = True ∧ (a + 1 < l.length) = True ∧ (a + 2 < l.length) = True ∧ (a + 3 < l.length) = True) ∧
      ((l.map bTr)[a]? = some (bTr b0) ∧ (l.map bTr)[a + 1]? = some (bTr b1) ∧ (l.map bTr)[a + 2]? = some (bTr b2) ∧ (l.map bTr)[a + 3]? = some (bTr b3) ∧ (l.map bTr).length = l.length) ∧
      (IntKind.i64.wrap b0 = b0 ∧ IntKind.i64.wrap b1 = b1 ∧ IntKind.i64.wrap b2 = b2 ∧ IntKind.i64.wrap b3 = b3 ∧ IntKind.i64.wrap ((0 : Int) * 256) = 0 ∧ IntKind.i64.wrap (0 + b3) = b3 ∧ IntKind.i64.wrap (b3 * 256) = b3 * 256 ∧ IntKind.i64.wrap (b3 * 256 + b2) = b3 * 256 + b2 ∧ IntKind.i64.wrap ((b3 * 256 + b2) * 256) = (b3 * 256 + b2) * 256 ∧ IntKind.i64.wrap ((b3 * 256 + b2) * 256 + b1) = (b3 * 256 + b2) * 256 + b1 ∧ IntKind.i64.wrap (((b3 * 256 + b2) * 256 + b1) * 256) = ((b3 * 256 + b2) * 256 + b1) * 256 ∧ IntKind.i64.wrap (((b3 * 256 + b2) * 256 + b1) * 256 + b0) = n) ∧
      (IntKind.i64.wrap ((a : Int) + 8) = (a : Int) + 8 ∧ IntKind.i64.wrap ((a : Int) + 8 + n) = (a : Int) + 8 + n) from
    ⟨⟨by simp; omega, wrapN (by omega) (by omega), eq_false (by omega)⟩, ⟨by simp, by simp, by simp, by simp, by simp, by decide, by decide, by decide, by decide⟩,
     ⟨by rw [wrapN (by omega) (by omega)]; rfl, by rw [wrapN (by omega) (by omega)]; rfl, by rw [wrapN (by omega) (by omega)]; rfl, by rw [wrapN (by omega) (by omega)]; omega, eq_true (by omega), eq_true (by omega), eq_true (by omega), eq_true (by omega)⟩,
     ⟨by rw [List.getElem?_map, x0]; rfl, by rw [List.getElem?_map, x1]; rfl, by rw [List.getElem?_map, x2]; rfl, by rw [List.getElem?_map, x3]; rfl, by simp⟩,
     ⟨wrapN (by omega) (by omega), wrapN (by omega) (by omega), wrapN (by omega) (by omega), wrapN (by omega) (by omega), by decide, by rw [Int.zero_add]; exact wrapN (by omega) (by omega), wrapN (by omega) (by omega), wrapN (by omega) (by omega), wrapN (by omega) (by omega), wrapN (by omega) (by omega), wrapN (by omega) (by omega), by rw [hn]; exact wrapN (by omega) (by omega)⟩,
     ⟨wrapN (by omega) (by omega), wrapN (by omega) (by omega)⟩⟩)
  simp only [bTr] at base
  have n0 : 0 ≤ n := by omega
  have hcs : n = 0 ∨ 16376 < n ∨ (n ≠ 0 ∧ n ≤ 16376 ∧ (l.length : Int) < a + 8 + n) ∨ (n ≠ 0 ∧ n ≤ 16376 ∧ ¬ (l.length : Int) < a + 8 + n) := by omega
  rcases hcs with c | c | ⟨c, c', c''⟩ | ⟨c, c', c''⟩
  case' inl =>
    have e1 : cutC l a = 2 := by simp [cutC, c0, c1, en, c]
    have hp := And.intro base (show (n == 0) = true from by simp [c])
  case' inr.inl =>
    have e1 : cutC l a = 2 := by simp [cutC, c0, c1, en, c]
    have hp := And.intro base (show (n == 0) = false ∧ (n > 16376) = True from ⟨by simp; omega, eq_true c⟩)
  case' inr.inr.inl =>
    have e1 : cutC l a = 1 := by
      have : ¬ (16376 < n) := by omega
      simp [cutC, c0, c1, en, c, this, c'']
    have hp := And.intro base (show (n == 0) = false ∧ (n > 16376) = False ∧ ((a : Int) + 8 + n > (l.length : Int)) = True from ⟨by simp [c], eq_false (by omega), eq_true (by omega)⟩)
  case' inr.inr.inr =>
    have e1 : cutC l a = 0 := by
      have : ¬ (16376 < n) := by omega
      simp only [cutC, c0, c1, en, c, this, c'', ↓reduceIte, or_self]
    have hp := And.intro base (show (n == 0) = false ∧ (n > 16376) = False ∧ ((a : Int) + 8 + n > (l.length : Int)) = False from ⟨by simp [c], eq_false (by omega), eq_false (by omega)⟩)
  all_goals
    simp only [cutE, e1, en, ↓reduceIte, Int.reduceEq]
    refine tc_intro Tryd.func96 rfl 52 rfl (Nat.le_of_ble_eq_true rfl) (by decide) [4, 5] rfl (by intro id x h; cases h) ?_
    intro w0 E0
    have kOk := kD13
    refine wk1 ?_
    refine am_tidy [] [0, 1, 6, 7] 1 rfl ?_
    refine go1 ?_
    refine am_loop 5 ?_
    refine amR_succ ?_
    refine wk1 ?_
    refine amR_tidy [] [0, 1, 6, 7] 1 rfl ?_
    refine go1 ?_
    refine amR_succ ?_
    refine wk1 ?_
    refine amR_tidy [] [0, 1, 6, 7] 1 rfl ?_
    refine go1 ?_
    refine amR_succ ?_
    refine wk1 ?_
    refine amR_tidy [] [0, 1, 6, 7] 1 rfl ?_
    refine go1 ?_
    refine amR_succ ?_
    refine wk1 ?_
    refine amR_tidy [] [0, 1, 6, 7] 1 rfl ?_
    refine go1 ?_
    refine amR_succ ?_
    refine wk1 ?_
    refine am_retP rfl ?_ rfl
    first | rfl | (refine go ?_; rfl)
theorem cut2_tc (l : List Int) (a : Int) (hl : l.length ≤ 1073741824) (h0 : 0 ≤ a) (ha : a ≤ (l.length : Int)) (hb : okB l) : TC Tryd.prog 96 [ro 1 (l.map bTr), int a] [] 1 (.tup [int (cutC l a.toNat), int (cutE l a.toNat)]) [] 1 := by
  obtain ⟨n, rfl⟩ := Int.eq_ofNat_of_zero_le h0
  exact cut_tc l n hl (by omega) hb
def kd14_0_1 (a : Int) (l : List Int) : Option TV := if l.length ≤ 1073741824 ∧ 0 ≤ a ∧ a ≤ (l.length : Int) ∧ okB l then some (.tup [int (cutC l a.toNat), int (cutE l a.toNat)]) else none
def kd14_0_0 (a : Int) (r0 : List (List Tree)) : Option TV := (unBys r0).bind (kd14_0_1 a)
def kd14_0 : List TV → Option TV
  | [.c (.t (.sl 1 r0)), .c (.t (.v (.int .i64 a)))] => kd14_0_0 a r0
  | _ => none
def kd14_call (f : FuncId) (args : List TV) : Option TV := if f = 96 then orO (kd14_0 args) (kd13.call f args) else kd13.call f args
def kd14 : Kn := { call := kd14_call, eqs := eqTys, callB := kd13.callB }
attribute [go_sem] kd14_0_0 kd14_0_1 kd14_0 kd14_call kd14
theorem kd14_ok : ∀ f args res, kd14_call f args = some res → TC Tryd.prog f args [] 1 res [] 1 := by
  intro f args res h
  unfold kd14_call at h
  split at h
  · rename_i e; subst e
    have hh := orO_elim h
    clear h
    rcases hh with h | h
    rotate_left
    · exact kD13.call _ _ _ h
    unfold kd14_0 at h
    split at h
    · rename_i r0 a; unfold kd14_0_0 at h
      obtain ⟨l, e0, h⟩ := Option.bind_eq_some_iff.1 h
      unfold kd14_0_1 at h
      split at h
      · rename_i hc; cases h; rw [unBys_ok e0]; exact cut2_tc l a hc.1 hc.2.1 hc.2.2.1 hc.2.2.2
      · cases h
    · cases h
  · exact kD13.call f args res h
theorem kD14 : KnOk Tryd.prog kd14 := ⟨kd14_ok, eqTysOk, kD13.callB⟩
end Go.Proofs.YtaolgdpkcbfocaaDoorA
/- Draws: a disk. -/
namespace Go.Proofs.YtaolgdpkcbfocaaDoorA
open Go.Proofs
set_option autoImplicit false
set_option linter.unusedVariables false
set_option linter.unusedSimpArgs false
set_option maxRecDepth 4000
theorem fourL_ok (x : Int) : okB (fourL x) := fun n hn => by
  simp only [fourL, List.mem_cons, List.not_mem_nil, or_false] at hn
  rcases hn with rfl | rfl | rfl | rfl <;> omega
theorem frmL_ok {l : List Int} (h : okB l) : okB (frmL l) := by
  unfold frmL
  exact okB_app (okB_app (fourL_ok _) (fourL_ok _)) h
theorem recsL_ok : ∀ {l : List Rec}, rsAll l = true → okB (recsL l)
  | [], _ => fun n hn => by cases hn
  | r :: l, h => by
    simp only [rsAll, Bool.and_eq_true] at h
    exact okB_app (frmL_ok (recW_ok h.1)) (recsL_ok h.2)
theorem recO_ok (l : List Rec) : okB (recO l) := by
  unfold recO
  split
  · rename_i h
    unfold rsF at h
    simp only [Bool.and_eq_true] at h
    exact recsL_ok h.2
  · exact fun n hn => by cases hn
def iT (x : Int) : List Tree := [.v (.int .i64 x)]
/-- The ends of the frames from place a on. -/
def endsG (l : List Int) : Nat → Int → List Int
  | 0, _ => []
  | f + 1, a => if cutC l a.toNat = 0 then cutE l a.toNat :: endsG l f (cutE l a.toNat) else []
def ddR (bs : List Int) (a size : Int) : List Int := recO (recsD bs a size)
def ddE (l : List Int) : List Int := endsG l l.length 0
/-- The place behind the capacity's draw. -/
def ddP (bs : List Int) (a size : Int) : Int := pkP (recsP bs a size) 300
def ddK (bs : List Int) (a size : Int) : Int := IntKind.i64.wrap ((ddR bs a size).length + pkX bs (recsP bs a size) 300)
theorem recsP_le (bs : List Int) (a size : Int) (hb : okS bs) (h0 : 0 ≤ a) (h1 : a ≤ 1099500000000) (hs0 : 0 ≤ size) (hs1 : size ≤ 400) : a ≤ recsP bs a size ∧ recsP bs a size ≤ a + 3000 := by
  have htd : Int.tdiv size 40 = size / 40 := Int.tdiv_eq_ediv_of_nonneg hs0
  have hm : rcM size = 2 + size / 40 := by unfold rcM; rw [htd, wrapN (by omega) (by omega)]
  have hr := pkX_rng (bs := bs) (a := a) (n := rcM size) ⟨hb, h0, by omega⟩ (by omega)
  have hp0 := pkP_le a (rcM size)
  have h2 := drA_le bs (rcL bs (rcK bs a size) s0 (pkP a (rcM size))) (rcA bs (rcK bs a size) s0 (pkP a (rcM size)))
  have h3 : ∀ (d : Nat) (s : Stb) (p : Int), 0 ≤ p → p + 200 * d ≤ 1099510000000 → p ≤ rcA bs d s p ∧ rcA bs d s p ≤ p + 200 * d := by
    intro d
    induction d with
    | zero => intro s p _ _; simp [rcA]
    | succ d ih =>
      intro s p q0 q1
      have n1 := nZ_le bs p s ⟨hb, by omega, by omega⟩ (by omega)
      have n2 := ih (nxS bs p s) (nZ bs p 4 s) (by omega) (by omega)
      rw [rcA]
      omega
  have h4 := h3 (rcK bs a size) s0 (pkP a (rcM size)) (by omega) (by unfold rcK; omega)
  have h5 : (rcK bs a size : Int) ≤ 12 := by unfold rcK; omega
  unfold recsP
  omega
theorem recsD_len (bs : List Int) (a size : Int) (hb : okS bs) (h0 : 0 ≤ a) (h1 : a ≤ 1099500000000) (hs0 : 0 ≤ size) (hs1 : size ≤ 400) : (recsD bs a size).length ≤ 1224 := by
  have htd : Int.tdiv size 40 = size / 40 := Int.tdiv_eq_ediv_of_nonneg hs0
  have hm : rcM size = 2 + size / 40 := by unfold rcM; rw [htd, wrapN (by omega) (by omega)]
  have hr := pkX_rng (bs := bs) (a := a) (n := rcM size) ⟨hb, h0, by omega⟩ (by omega)
  have hp0 := pkP_le a (rcM size)
  have h3 : ∀ (d : Nat) (s : Stb) (p : Int), 0 ≤ p → p + 200 * d ≤ 1099510000000 → s.log.length + 4 * d ≤ 100 → (rcL bs d s p).length ≤ 102 * d := by
    intro d
    induction d with
    | zero => intro s p _ _ _; simp [rcL]
    | succ d ih =>
      intro s p q0 q1 q2
      have n1 := nZ_le bs p s ⟨hb, by omega, by omega⟩ (by omega)
      have n4 := nE_len bs p s ⟨hb, by omega, by omega⟩ (by omega)
      have e5 : (nxS bs p s).log = nE bs p 4 s := rfl
      have n2 := ih (nxS bs p s) (nZ bs p 4 s) (by omega) (by omega) (by rw [e5]; omega)
      have n3 := rrL_len s (nxS bs p s)
      rw [e5] at n3
      rw [rcL, List.length_append]
      omega
  have h5 : (rcK bs a size : Int) ≤ 12 := by unfold rcK; omega
  have h4 := h3 (rcK bs a size) s0 (pkP a (rcM size)) (by omega) (by omega) (by simp [s0]; omega)
  unfold recsD
  rw [drR_len]
  omega
theorem gB_rng {l : List Int} (hb : okB l) (i : Nat) : 0 ≤ gB l i ∧ gB l i ≤ 255 := by
  by_cases h : i < l.length
  · obtain ⟨b, _, e, h1, h2⟩ := gB_at hb h
    omega
  · have : gB l i = 0 := by simp [gB, List.getD, List.getElem?_eq_none (Nat.le_of_not_lt h)]
    omega
theorem cut_step {l : List Int} {a : Nat} (hb : okB l) (h : cutC l a = 0) : a + 9 ≤ l.length ∧ (a : Int) + 9 ≤ cutE l a ∧ cutE l a ≤ (l.length : Int) := by
  have e : cutE l a = a + 8 + cutN l a := by simp [cutE, h]
  have g0 := gB_rng hb a
  have g1 := gB_rng hb (a + 1)
  have g2 := gB_rng hb (a + 2)
  have g3 := gB_rng hb (a + 3)
  have hn : 0 ≤ cutN l a := by unfold cutN; omega
  unfold cutC at h
  split at h; · cases h
  split at h; · cases h
  split at h; · cases h
  split at h; · cases h
  omega
theorem endsG_len (l : List Int) : ∀ (d : Nat) (a : Int), (endsG l d a).length ≤ d
  | 0, _ => by simp [endsG]
  | d + 1, a => by
    rw [endsG]
    split
    · have := endsG_len l d (cutE l a.toNat)
      simp; omega
    · simp
/-- What is told to be synced, and the place behind its draw. -/
def ddS (bs E : List Int) (n p : Int) : Int := if 0 < E.length then (if pkX bs p 4 = 0 then pkX bs (pkP p 4) (n + 1) else E.getD (pkX bs (pkP p 4) (E.length : Nat)).toNat 0) else pkX bs p (n + 1)
def ddQ (bs E : List Int) (n p : Int) : Int := if 0 < E.length then (if pkX bs p 4 = 0 then pkP (pkP p 4) (n + 1) else pkP (pkP p 4) (E.length : Nat)) else pkP p (n + 1)
theorem ddQ_le (bs E : List Int) (n p : Int) : p ≤ ddQ bs E n p ∧ ddQ bs E n p ≤ p + 8 := by
  have h1 := pkP_le p 4
  have h2 := pkP_le (pkP p 4) (n + 1)
  have h3 := pkP_le (pkP p 4) (E.length : Nat)
  have h4 := pkP_le p (n + 1)
  unfold ddQ
  (repeat' split) <;> omega
def ddG (bs : List Int) (k cap n p : Int) : Int := if k = 0 then IntKind.i64.wrap (1048576 + pkX bs p 2) else if k = 1 then IntKind.i64.wrap (n - 1) else if k = 2 then cap else if k = 3 then cap else if k < 7 then n else cap
def ddY (k syn n : Int) : Int := if k = 2 then IntKind.i64.wrap (n + 1) else if k = 3 then -1 else syn
def ddZ (k p : Int) : Int := if k = 0 then pkP p 2 else p
def drDq (bs : List Int) (a size : Int) : Int := ddQ bs (ddE (ddR bs a size)) ((ddR bs a size).length : Nat) (ddP bs a size)
def drDk (bs : List Int) (a size : Int) : Dk := ⟨ddG bs (pkX bs (drDq bs a size) 20) (ddK bs a size) ((ddR bs a size).length : Nat) (pkP (drDq bs a size) 20), ddY (pkX bs (drDq bs a size) 20) (ddS bs (ddE (ddR bs a size)) ((ddR bs a size).length : Nat) (ddP bs a size)) ((ddR bs a size).length : Nat), ddR bs a size⟩
def drDz (bs : List Int) (a size : Int) : Int := ddZ (pkX bs (drDq bs a size) 20) (pkP (drDq bs a size) 20)
set_option maxHeartbeats 64000000 in
theorem disk_tc (bs : List Int) (a size : Int) (hb : okS bs) (h0 : 0 ≤ a) (h1 : a ≤ 1099500000000) (hs0 : 0 ≤ size) (hs1 : size ≤ 400) : TC Tryd.prog 75 [.c (.ptr 1 0), int size] [(1, .cells [.t (.sl 1 (bs.map bTr)), ci a])] 2
    (.agg (drDk bs a size).cv) [(1, .cells [.t (.sl 1 (bs.map bTr)), ci (drDz bs a size)])] 2 := by
  simp only [drDk, drDz, drDq, Dk.cv]
  have ok : ∀ q : Int, 0 ≤ q → q ≤ 1099511000000 → okW bs q = True := fun q hq0 hq1 => eq_true ⟨hb, hq0, by omega⟩
  have r1 := recsP_le bs a size hb h0 h1 hs0 hs1
  have r2 := recO_len (recsD bs a size)
  have r3 := recO_ok (recsD bs a size)
  have r4 := recsD_len bs a size hb h0 h1 hs0 hs1
  refine tc_cell tabOk Tryd.func75 rfl 88 rfl (Nat.le_of_ble_eq_true rfl) (by decide) [(4, some 62)] rfl dom1 ?_
  intro w0 E0
  have kOk := kD14
  have hp := (show okW bs a = True ∧ (a ≤ 1099500000000) = True ∧ (0 ≤ size) = True ∧ (size ≤ 400) = True ∧ ((recsD bs a size).length ≤ 1048576) = True from ⟨ok _ h0 (by omega), eq_true h1, eq_true hs0, eq_true hs1, eq_true (by omega)⟩)
  refine am_rs tabOk kOk rfl fun K Q1 hK => ?_
  refine go1 ?_
  refine hK _ ?_
  clear hK K Q1
  refine am_rs tabOk kOk rfl fun K Q1 hK => ?_
  refine go1 ?_
  refine hK _ ?_
  clear hK K Q1
  refine am_tidy [(1, 1), (2, 2), (3, 3)] [0, 4, 5] 4 rfl ?_
  refine go1 ?_
  refine am_frz 3 rfl (Nat.le_of_ble_eq_true rfl) (by decide) ?_
  refine go1 ?_
  clear hp
  have hcap : ddK bs a size = IntKind.i64.wrap ((ddR bs a size).length + pkX bs (recsP bs a size) 300) := rfl
  have hpl : ddP bs a size = pkP (recsP bs a size) 300 := rfl
  have r5 := pkP_le (recsP bs a size) 300
  rw [← hpl] at r5
  unfold ddR at hcap ⊢
  generalize recsP bs a size = p1 at *
  generalize recO (recsD bs a size) = D at *
  generalize ddP bs a size = p2 at *
  generalize ddK bs a size = cap at *
  have hp := (show okW bs p1 = True ∧ pkP p1 300 = p2 ∧ IntKind.i64.wrap ((D.length : Int) + pkX bs p1 300) = cap from ⟨ok _ (by omega) (by omega), hpl.symm, hcap.symm⟩)
  refine am_rs tabOk kOk rfl fun K Q1 hK => ?_
  refine go1 ?_
  refine hK _ ?_
  clear hK K Q1
  refine am_rs tabOk kOk rfl fun K Q1 hK => ?_
  refine go1 ?_
  refine hK _ ?_
  clear hK K Q1
  refine am_rs tabOk kOk rfl fun K Q1 hK => ?_
  refine go1 ?_
  refine hK _ ?_
  clear hK K Q1
  refine am_scut True ⟨[(0, .c (.ptr 1 0)), (4, .c (.ptr 2 0)), (5, ro 1 (D.map bTr)), (6, .c (.ptr 3 0)), (7, .c (.own 4 0 (ddE D).length))], [(1, .cells [.t (.sl 1 (bs.map bTr)), ci p2]), (2, .cells [ci 0, ci 0, .t (.v (.slice none 0 0))]), (3, .cells [ci cap, ci 0, .t (.sl 1 (D.map bTr))]), (4, .arr 3 1 ((ddE D).map iT))], 5⟩ (fun _ => ?_) fun KC hKC => ?_
  rotate_left
  · clear hp
    refine am_tidy [(1, 1), (2, 2), (4, 3), (5, 4)] [0, 4, 5, 6, 7, 8] 5 rfl ?_
    refine go ?_
    refine wk ?_
    refine am_loop (D.length + 1) ?_
    suffices key : ∀ (d : Nat) (k : Int) (X : List Int), 0 ≤ k → k ≤ (D.length : Int) → (D.length : Int) ≤ k + d → X ++ endsG D d k = ddE D → (X.length : Int) ≤ k → amR Tryd.prog _ _ _ (d + 1) ⟨[(0, .c (.ptr 1 0)), (4, .c (.ptr 2 0)), (5, ro 1 (D.map bTr)), (6, .c (.ptr 3 0)), (7, .c (.own 4 0 X.length)), (8, int k)], [(1, .cells [.t (.sl 1 (bs.map bTr)), ci p2]), (2, .cells [ci 0, ci 0, .t (.v (.slice none 0 0))]), (3, .cells [ci cap, ci 0, .t (.sl 1 (D.map bTr))]), (4, .arr 3 1 (X.map iT))], 5⟩ from key D.length 0 [] (by omega) (by omega) (by omega) rfl (by simp)
    intro d
    induction d with
    | zero =>
      intro k X q0 q1 q2 hX hXl
      have hc : cutC D k.toNat ≠ 0 := by
        have : k.toNat = D.length := by omega
        simp [cutC, this]
      rw [endsG, List.append_nil] at hX
      have hp := (show (D.length ≤ 1073741824) = True ∧ (0 ≤ k) = True ∧ (k ≤ (D.length : Int)) = True ∧ okB D = True ∧ (cutC D k.toNat != 0) = true from ⟨eq_true (by omega), eq_true q0, eq_true q1, eq_true r3, by simpa using hc⟩)
      refine amR_succ ?_
      refine wk1 ?_
      refine hKC _ [(1, 1), (2, 2), (3, 3), (4, 4)] [0, 4, 5, 6, 7] 5 True.intro rfl ?_
      rw [← hX]
      first | rfl | (refine go ?_; rfl)
    | succ d ih =>
      intro k X q0 q1 q2 hX hXl
      by_cases hc : cutC D k.toNat = 0
      · rw [endsG, if_pos hc] at hX
        have cs := cut_step r3 hc
        have ihk := ih (cutE D k.toNat) (X ++ [cutE D k.toNat]) (by omega) (by omega) (by omega) (by rw [List.append_assoc]; exact hX) (by rw [List.length_append]; simp; omega)
        clear ih
        have hp := (show (D.length ≤ 1073741824) = True ∧ (0 ≤ k) = True ∧ (k ≤ (D.length : Int)) = True ∧ okB D = True ∧ cutC D k.toNat = 0 ∧ ((0 : Int) != 0) = false ∧ (X.length + 1 ≤ maxLen) = True ∧ ((X.length + 1) * 8 ≤ 140737488355328) = True from ⟨eq_true (by omega), eq_true q0, eq_true q1, eq_true r3, hc, by simp, eq_true (by unfold maxLen; omega), eq_true (by omega)⟩)
        refine amR_succ ?_
        refine wk1 ?_
        refine amR_tidy [(1, 1), (2, 2), (3, 3), (6, 4)] [0, 4, 5, 6, 7, 8] 5 rfl ?_
        refine go1 ?_
        refine amR_st ?_ ihk
        simp [iT]
      · rw [endsG, if_neg hc, List.append_nil] at hX
        have hp := (show (D.length ≤ 1073741824) = True ∧ (0 ≤ k) = True ∧ (k ≤ (D.length : Int)) = True ∧ okB D = True ∧ (cutC D k.toNat != 0) = true from ⟨eq_true (by omega), eq_true q0, eq_true q1, eq_true r3, by simpa using hc⟩)
        refine amR_succ ?_
        refine wk1 ?_
        refine hKC _ [(1, 1), (2, 2), (3, 3), (4, 4)] [0, 4, 5, 6, 7] 5 True.intro rfl ?_
        rw [← hX]
        first | rfl | (refine go ?_; rfl)
  have hEl : (ddE D).length ≤ D.length := endsG_len D D.length 0
  generalize ddE D = E at hEl ⊢
  clear hp
  have q1 := ddQ_le bs E (D.length : Nat) p2
  obtain ⟨sy, hS⟩ : ∃ s, s = ddS bs E (D.length : Nat) p2 := ⟨_, rfl⟩
  obtain ⟨p4, hQ⟩ : ∃ p, p = ddQ bs E (D.length : Nat) p2 := ⟨_, rfl⟩
  rw [← hS, ← hQ]
  rw [← hQ] at q1
  have q2 := pkP_le p2 4
  have q3 := pkP_le p4 20
  have wn : IntKind.i64.wrap ((D.length : Int) + 1) = (D.length : Int) + 1 := wrapN (by omega) (by omega)
  refine am_scut True ⟨[(0, .c (.ptr 1 0)), (4, .c (.ptr 2 0)), (5, ro 1 (D.map bTr)), (6, .c (.ptr 3 0))], [(1, .cells [.t (.sl 1 (bs.map bTr)), ci p4]), (2, .cells [ci 0, ci 0, .t (.v (.slice none 0 0))]), (3, .cells [ci cap, ci sy, .t (.sl 1 (D.map bTr))])], 4⟩ (fun _ => ?_) fun KC hKC => ?_
  rotate_left
  · have base := (show okW bs p2 = True ∧ okW bs (pkP p2 4) = True ∧ IntKind.i64.wrap ((D.length : Int) + 1) = (D.length : Int) + 1 ∧ (1 ≤ (D.length : Int) + 1) = True ∧ ((D.length : Int) + 1 ≤ 1073741824) = True from ⟨ok _ (by omega) (by omega), ok _ (by omega) (by omega), wn, eq_true (by omega), eq_true (by omega)⟩)
    by_cases c1 : 0 < E.length
    · by_cases c2 : pkX bs p2 4 = 0
      · have e1 : sy = pkX bs (pkP p2 4) ((D.length : Int) + 1) := by rw [hS]; simp only [ddS, c1, c2, ↓reduceIte]
        have e2 : p4 = pkP (pkP p2 4) ((D.length : Int) + 1) := by rw [hQ]; simp only [ddQ, c1, c2, ↓reduceIte]
        have hp := And.intro base (show ((E.length : Int) > 0) = True ∧ (pkX bs p2 4 != 0) = false from ⟨eq_true (by omega), by simp [c2]⟩)
        refine wk1 ?_
        refine hKC _ [(1, 1), (2, 2), (3, 3)] [0, 4, 5, 6] 4 True.intro rfl ?_
        rw [e1, e2]
        first | rfl | (refine go ?_; rfl)
      · have e1 : sy = E.getD (pkX bs (pkP p2 4) (E.length : Nat)).toNat 0 := by rw [hS]; simp only [ddS, c1, c2, ↓reduceIte]
        have e2 : p4 = pkP (pkP p2 4) (E.length : Nat) := by rw [hQ]; simp only [ddQ, c1, c2, ↓reduceIte]
        have rg := pkX_rng (bs := bs) (a := pkP p2 4) (n := (E.length : Nat)) ⟨hb, by omega, by omega⟩ (by omega)
        obtain ⟨i, hi⟩ : ∃ i : Nat, pkX bs (pkP p2 4) (E.length : Nat) = (i : Int) := ⟨_, (Int.toNat_of_nonneg rg.1).symm⟩
        rw [hi, Int.toNat_natCast] at e1
        have hil : i < E.length := by omega
        obtain ⟨e, he⟩ : ∃ e, E[i]? = some e := ⟨E[i]'hil, List.getElem?_eq_getElem hil⟩
        have e1' : sy = e := by rw [e1, List.getD_eq_getElem?_getD, he]; rfl
        have hp := And.intro base (show ((E.length : Int) > 0) = True ∧ (pkX bs p2 4 != 0) = true ∧ (1 ≤ (E.length : Int)) = True ∧ ((E.length : Int) ≤ 1073741824) = True ∧ pkX bs (pkP p2 4) (E.length : Nat) = (i : Int) ∧ (i < E.length) = True ∧ (E.map iT)[i]? = some [.v (.int .i64 e)] from ⟨eq_true (by omega), by simpa using c2, eq_true (by omega), eq_true (by omega), hi, eq_true hil, by rw [List.getElem?_map, he]; rfl⟩)
        refine wk1 ?_
        refine hKC _ [(1, 1), (2, 2), (3, 3)] [0, 4, 5, 6] 4 True.intro rfl ?_
        rw [e1', e2]
        first | rfl | (refine go ?_; rfl)
    · have e1 : sy = pkX bs p2 ((D.length : Int) + 1) := by rw [hS]; simp only [ddS, c1, ↓reduceIte]
      have e2 : p4 = pkP p2 ((D.length : Int) + 1) := by rw [hQ]; simp only [ddQ, c1, ↓reduceIte]
      have hp := And.intro base (show ((E.length : Int) > 0) = False from eq_false (by omega))
      refine wk1 ?_
      refine hKC _ [(1, 1), (2, 2), (3, 3)] [0, 4, 5, 6] 4 True.intro rfl ?_
      rw [e1, e2]
      first | rfl | (refine go ?_; rfl)
  have rk := pkX_rng (bs := bs) (a := p4) (n := 20) ⟨hb, by omega, by omega⟩ (by omega)
  have base := (show okW bs p4 = True ∧ okW bs (pkP p4 20) = True ∧ IntKind.i64.wrap ((D.length : Int) + 1) = (D.length : Int) + 1 from ⟨ok _ (by omega) (by omega), ok _ (by omega) (by omega), wn⟩)
  have hk : pkX bs p4 20 = 0 ∨ pkX bs p4 20 = 1 ∨ pkX bs p4 20 = 2 ∨ pkX bs p4 20 = 3 ∨ (¬ pkX bs p4 20 = 0 ∧ ¬ pkX bs p4 20 = 1 ∧ ¬ pkX bs p4 20 = 2 ∧ ¬ pkX bs p4 20 = 3 ∧ pkX bs p4 20 < 7) ∨ (¬ pkX bs p4 20 = 0 ∧ ¬ pkX bs p4 20 = 1 ∧ ¬ pkX bs p4 20 = 2 ∧ ¬ pkX bs p4 20 = 3 ∧ ¬ pkX bs p4 20 < 7) := by omega
  rcases hk with c | c | c | c | ⟨c0, c1, c2, c3, c4⟩ | ⟨c0, c1, c2, c3, c4⟩
  · simp only [ddG, ddY, ddZ, c, ↓reduceIte, Int.reduceEq]
    have hp := And.intro base (show pkX bs p4 20 = 0 ∧ ((0 : Int) == 0) = true from ⟨c, by decide⟩)
    refine wk1 ?_
    refine am_retC [(1, 1)] rfl ?_ rfl rfl
    first | refine go ?_ | rfl
  · simp only [ddG, ddY, ddZ, c, ↓reduceIte, Int.reduceEq]
    have hp := And.intro base (show pkX bs p4 20 = 1 ∧ ((1 : Int) == 0) = false ∧ ((1 : Int) == 1) = true from ⟨c, by decide, by decide⟩)
    refine wk1 ?_
    refine am_retC [(1, 1)] rfl ?_ rfl rfl
    first | refine go ?_ | rfl
  · simp only [ddG, ddY, ddZ, c, ↓reduceIte, Int.reduceEq]
    have hp := And.intro base (show pkX bs p4 20 = 2 ∧ ((2 : Int) == 0) = false ∧ ((2 : Int) == 1) = false ∧ ((2 : Int) == 2) = true from ⟨c, by decide, by decide, by decide⟩)
    refine wk1 ?_
    refine am_retC [(1, 1)] rfl ?_ rfl rfl
    first | refine go ?_ | rfl
  · simp only [ddG, ddY, ddZ, c, ↓reduceIte, Int.reduceEq]
    have hp := And.intro base (show pkX bs p4 20 = 3 ∧ ((3 : Int) == 0) = false ∧ ((3 : Int) == 1) = false ∧ ((3 : Int) == 2) = false ∧ ((3 : Int) == 3) = true from ⟨c, by decide, by decide, by decide, by decide⟩)
    refine wk1 ?_
    refine am_retC [(1, 1)] rfl ?_ rfl rfl
    first | refine go ?_ | rfl
  · simp only [ddG, ddY, ddZ, c0, c1, c2, c3, c4, ↓reduceIte, Int.reduceEq]
    have hp := And.intro base (show (pkX bs p4 20 == 0) = false ∧ (pkX bs p4 20 == 1) = false ∧ (pkX bs p4 20 == 2) = false ∧ (pkX bs p4 20 == 3) = false ∧ (pkX bs p4 20 < 7) = True from ⟨by simpa using c0, by simpa using c1, by simpa using c2, by simpa using c3, eq_true c4⟩)
    refine wk1 ?_
    refine am_retC [(1, 1)] rfl ?_ rfl rfl
    first | refine go ?_ | rfl
  · simp only [ddG, ddY, ddZ, c0, c1, c2, c3, c4, ↓reduceIte, Int.reduceEq]
    have hp := And.intro base (show (pkX bs p4 20 == 0) = false ∧ (pkX bs p4 20 == 1) = false ∧ (pkX bs p4 20 == 2) = false ∧ (pkX bs p4 20 == 3) = false ∧ (pkX bs p4 20 < 7) = False from ⟨by simpa using c0, by simpa using c1, by simpa using c2, by simpa using c3, eq_false c4⟩)
    refine wk1 ?_
    refine am_retC [(1, 1)] rfl ?_ rfl rfl
    first | refine go ?_ | rfl
end Go.Proofs.YtaolgdpkcbfocaaDoorA
/- Draws: a disk and what is written to it; a disk and what it keeps. -/
namespace Go.Proofs.YtaolgdpkcbfocaaDoorA
open Go.Proofs
set_option autoImplicit false
set_option linter.unusedVariables false
set_option linter.unusedSimpArgs false
set_option maxRecDepth 4000
def kd15_0_1 (size : Int) (a : Int) (bs : List Int) : CB := if okW bs a ∧ a ≤ 1099500000000 ∧ 0 ≤ size ∧ size ≤ 400 then some (.agg (drDk bs a size).cv, [(1, .cells [.t (.sl 1 (bs.map bTr)), ci (drDz bs a size)])], 2) else none
def kd15_0_0 (size : Int) (a : Int) (r0 : List (List Tree)) : CB := (unBys r0).bind (kd15_0_1 size a)
def kd15_0 : List TV → List (Nat × AObj) → CB
  | [.c (.ptr 1 0), .c (.t (.v (.int .i64 size)))], [(1, .cells [.t (.sl 1 r0), .t (.v (.int .i64 a))])] => kd15_0_0 size a r0
  | _, _ => none
def kd15_call (f : FuncId) (args : List TV) (o : List (Nat × AObj)) : CB := if f = 75 then orO (kd15_0 args o) (kd14.callB f args o) else kd14.callB f args o
def kd15 : Kn := { call := kd14.call, eqs := eqTys, callB := kd15_call }
attribute [go_sem] kd15_0_0 kd15_0_1 kd15_0 kd15_call kd15
theorem kd15_ok : ∀ f args o res o1 n1, kd15_call f args o = some (res, o1, n1) → TC Tryd.prog f args o (o.length + 1) res o1 n1 := by
  intro f args o res o1 n1 h
  unfold kd15_call at h
  split at h
  · rename_i e; subst e
    have hh := orO_elim h
    clear h
    rcases hh with h | h
    rotate_left
    · exact kD14.callB _ _ _ _ _ _ h
    unfold kd15_0 at h
    split at h
    · rename_i size r0 a; unfold kd15_0_0 at h
      have hb0 := Option.bind_eq_some_iff.1 h
      clear h
      obtain ⟨bs, e0, h⟩ := hb0
      unfold kd15_0_1 at h
      split at h
      · rename_i hc; cases h; rw [unBys_ok e0]; exact disk_tc bs a size hc.1.1 hc.1.2.1 hc.2.1 hc.2.2.1 hc.2.2.2
      · cases h
    · cases h
  · exact kD14.callB f args o res o1 n1 h
theorem kD15 : KnOk Tryd.prog kd15 := ⟨kD14.call, eqTysOk, kd15_ok⟩
theorem drDz_le (bs : List Int) (a size : Int) (hb : okS bs) (h0 : 0 ≤ a) (h1 : a ≤ 1099500000000) (hs0 : 0 ≤ size) (hs1 : size ≤ 400) : a ≤ drDz bs a size ∧ drDz bs a size ≤ a + 3100 := by
  have r1 := recsP_le bs a size hb h0 h1 hs0 hs1
  have r2 := pkP_le (recsP bs a size) 300
  have r3 := ddQ_le bs (ddE (ddR bs a size)) ((ddR bs a size).length : Nat) (ddP bs a size)
  have r4 := pkP_le (drDq bs a size) 20
  have r5 := pkP_le (pkP (drDq bs a size) 20) 2
  have e1 : ddP bs a size = pkP (recsP bs a size) 300 := rfl
  have e2 : drDq bs a size = ddQ bs (ddE (ddR bs a size)) ((ddR bs a size).length : Nat) (ddP bs a size) := rfl
  unfold drDz ddZ
  split <;> omega
def szB (bs : List Int) : Int := if (bs.length : Int) < 400 then (bs.length : Int) else 400
theorem szB_rng (bs : List Int) : 0 ≤ szB bs ∧ szB bs ≤ 400 := by unfold szB; split <;> omega
def wrZ (bs : List Int) : Int := drDz bs 0 (szB bs)
def wrR (bs : List Int) : List Rec := recsD bs (wrZ bs) (szB bs)
def wrP (bs : List Int) : Int := recsP bs (wrZ bs) (szB bs)
def wrC (bs : List Int) : Int := if pkX bs (wrP bs) 4 = 0 then IntKind.i64.wrap (IntKind.i64.wrap ((drDk bs 0 (szB bs)).data.length + ((recO (wrR bs)).length : Int)) - pkX bs (pkP (wrP bs) 4) 2) else (drDk bs 0 (szB bs)).cap
def wrD (bs : List Int) : Dk := ⟨wrC bs, (drDk bs 0 (szB bs)).syn, (drDk bs 0 (szB bs)).data⟩
theorem wrR_len (bs : List Int) (hb : okS bs) : (wrR bs).length ≤ 1224 := by
  have hs := szB_rng bs
  have hz := drDz_le bs 0 (szB bs) hb (by omega) (by omega) hs.1 hs.2
  exact recsD_len bs (wrZ bs) (szB bs) hb (by unfold wrZ; omega) (by unfold wrZ; omega) hs.1 hs.2
set_option maxHeartbeats 64000000 in
theorem dwr_tc (bs : List Int) (hb : okS bs) : TC Tryd.prog 41 [ro 1 (bs.map bTr)] [] 1 (.tup [.agg (wrD bs).cv, ro 11 ((wrR bs).map Rec.tr)]) [] 1 := by
  have ok : ∀ q : Int, 0 ≤ q → q ≤ 1099511000000 → okW bs q = True := fun q hq0 hq1 => eq_true ⟨hb, hq0, by omega⟩
  have hs := szB_rng bs
  have hz := drDz_le bs 0 (szB bs) hb (by omega) (by omega) hs.1 hs.2
  have hr := recsP_le bs (wrZ bs) (szB bs) hb (by unfold wrZ; omega) (by unfold wrZ; omega) hs.1 hs.2
  have hl := wrR_len bs hb
  have p1 := pkP_le (wrP bs) 4
  have ez : drDz bs 0 (szB bs) = wrZ bs := rfl
  have er : recsD bs (wrZ bs) (szB bs) = wrR bs := rfl
  have ep : recsP bs (wrZ bs) (szB bs) = wrP bs := rfl
  have es : (if (bs.length : Int) < 400 then (bs.length : Int) else 400) = szB bs := rfl
  rw [ez] at hz
  rw [ep] at hr
  simp only [wrD, wrC, Dk.cv]
  have base := (show (if (bs.length : Int) < 400 then (bs.length : Int) else 400) = szB bs ∧ drDz bs 0 (szB bs) = wrZ bs ∧ recsD bs (wrZ bs) (szB bs) = wrR bs ∧ recsP bs (wrZ bs) (szB bs) = wrP bs ∧ okW bs 0 = True ∧ okW bs (wrZ bs) = True ∧ okW bs (wrP bs) = True ∧ okW bs (pkP (wrP bs) 4) = True ∧ (0 ≤ szB bs) = True ∧ (szB bs ≤ 400) = True ∧ (wrZ bs ≤ 1099500000000) = True ∧ ((wrR bs).length ≤ 1048576) = True from
    ⟨es, ez, er, ep, ok _ (by omega) (by omega), ok _ (by omega) (by omega), ok _ (by omega) (by omega), ok _ (by omega) (by omega), eq_true hs.1, eq_true hs.2, eq_true (by omega), eq_true (by omega)⟩)
  generalize hd : drDk bs 0 (szB bs) = d
  obtain ⟨cap, syn, D⟩ := d
  by_cases c : pkX bs (wrP bs) 4 = 0
  · simp only [if_pos c]
    refine tc_cell tabOk Tryd.func41 rfl 29 rfl (Nat.le_of_ble_eq_true rfl) (by decide) [(2, some 62), (3, none)] rfl (by intro id x h; cases h) ?_
    intro w0 E0
    have kOk := kD15
    have hp := And.intro base (And.intro hd (show (pkX bs (wrP bs) 4 == 0) = true from by simp [c]))
    refine wk1 ?_
    refine am_retC [] rfl ?_ rfl rfl
    first | refine go ?_ | rfl
  · simp only [if_neg c]
    refine tc_cell tabOk Tryd.func41 rfl 29 rfl (Nat.le_of_ble_eq_true rfl) (by decide) [(2, some 62), (3, none)] rfl (by intro id x h; cases h) ?_
    intro w0 E0
    have kOk := kD15
    have hp := And.intro base (And.intro hd (show (pkX bs (wrP bs) 4 == 0) = false from by simp [c]))
    refine wk1 ?_
    refine am_retC [] rfl ?_ rfl rfl
    first | refine go ?_ | rfl
set_option maxHeartbeats 64000000 in
theorem dcr_tc (bs : List Int) (hb : okS bs) : TC Tryd.prog 42 [ro 1 (bs.map bTr)] [] 1 (.tup [.agg (drDk bs 0 (szB bs)).cv, int (IntKind.i64.wrap (pkX bs (wrZ bs) 120 - 4))]) [] 1 := by
  have ok : ∀ q : Int, 0 ≤ q → q ≤ 1099511000000 → okW bs q = True := fun q hq0 hq1 => eq_true ⟨hb, hq0, by omega⟩
  have hs := szB_rng bs
  have hz := drDz_le bs 0 (szB bs) hb (by omega) (by omega) hs.1 hs.2
  have ez : drDz bs 0 (szB bs) = wrZ bs := rfl
  have es : (if (bs.length : Int) < 400 then (bs.length : Int) else 400) = szB bs := rfl
  rw [ez] at hz
  have base := (show (if (bs.length : Int) < 400 then (bs.length : Int) else 400) = szB bs ∧ drDz bs 0 (szB bs) = wrZ bs ∧ okW bs 0 = True ∧ okW bs (wrZ bs) = True ∧ (0 ≤ szB bs) = True ∧ (szB bs ≤ 400) = True from
    ⟨es, ez, ok _ (by omega) (by omega), ok _ (by omega) (by omega), eq_true hs.1, eq_true hs.2⟩)
  generalize hd : drDk bs 0 (szB bs) = d
  obtain ⟨cap, syn, D⟩ := d
  simp only [Dk.cv]
  refine tc_cell tabOk Tryd.func42 rfl 14 rfl (Nat.le_of_ble_eq_true rfl) (by decide) [(2, some 62), (3, none)] rfl (by intro id x h; cases h) ?_
  intro w0 E0
  have kOk := kD15
  have hp := And.intro base hd
  refine wk1 ?_
  refine am_retC [] rfl ?_ rfl rfl
  first | refine go ?_ | rfl
end Go.Proofs.YtaolgdpkcbfocaaDoorA
/- Disks: after a crash, synced; bytes told alike; answers told as only read. -/
namespace Go.Proofs.YtaolgdpkcbfocaaDoorA
open Go.Proofs
set_option autoImplicit false
set_option linter.unusedVariables false
set_option linter.unusedSimpArgs false
set_option maxRecDepth 4000
/-- A nil slice handed in is a row with nothing in it. -/
theorem tc_nilArg {P : Program} {f : FuncId} {args : List TV} {o0 o1 : List (Nat × AObj)} {n0 n1 : Nat} {res : TV} {xs : List Tree} {sz : Nat} (h : TC P f (.agg (xs.map .t ++ [.t (.sl sz [])]) :: args) o0 n0 res o1 n1) : TC P f (.agg (xs.map .t ++ [.t (.v (.slice none 0 0))]) :: args) o0 n0 res o1 n1 := by
  refine ⟨h.1, fun E w vs hvs hobjs hnext hzero hfresh hown hpre => ?_⟩
  refine h.2 E w vs ?_ hobjs hnext hzero hfresh hown hpre
  cases vs with
  | nil => exact hvs.elim
  | cons v vs =>
    obtain ⟨⟨ws, h1, h2⟩, h3⟩ := hvs
    refine ⟨⟨ws, h1, ?_⟩, h3⟩
    obtain ⟨us, u, rfl, h4, h5⟩ := all2_snoc h2
    refine all2_mk_snoc h4 ?_
    have m5 : RO w (fun b o => E.own b o = none) u (.v (.slice none 0 0)) := h5
    cases m5
    exact RO.sl none 0 sz [] 0 0 (fun _ _ => .bool false) (Nat.le_refl _) (Nat.zero_le _) (fun x hx => by cases hx) (fun h => (h rfl).elim) (fun i j hi => absurd hi (Nat.not_lt_zero _)) (fun i x hx => by simp at hx)
set_option maxHeartbeats 16000000 in
theorem same_tc (x y : List Int) (hx : x.length ≤ 1073741824) : TC Tryd.prog 43 [ro 1 (x.map bTr), ro 1 (y.map bTr)] [] 1 (bool (decide (x = y))) [] 1 := by
  refine tc_intro Tryd.func43 rfl 26 rfl (Nat.le_of_ble_eq_true rfl) (by decide) [4] rfl (by intro id x h; cases h) ?_
  intro w0 E0
  have kOk := kD15
  by_cases hl : x.length = y.length
  rotate_left
  · have e : decide (x = y) = false := by simp only [decide_eq_false_iff_not]; intro h; exact hl (by rw [h])
    rw [e]
    have hp := (show ((x.length : Int) != (y.length : Int)) = true from by simp; omega)
    refine wk1 ?_
    refine am_retP rfl ?_ rfl
    first | rfl | (refine go ?_; rfl)
  have hp := (show ((x.length : Int) != (y.length : Int)) = false from by simp; omega)
  refine wk1 ?_
  refine am_tidy [] [0, 1, 5] 1 rfl ?_
  refine go1 ?_
  clear hp
  refine am_loop (x.length + 1) ?_
  suffices key : ∀ (d k : Nat), k + d = x.length → x.take k = y.take k → amR Tryd.prog _ _ _ (d + 1) ⟨[(0, ro 1 (x.map bTr)), (1, ro 1 (y.map bTr)), (5, int (k : Nat))], [], 1⟩ from key x.length 0 (by simp) (by simp)
  intro d
  induction d with
  | zero =>
    intro k hk ht
    have hk' : k = x.length := hk
    have e : decide (x = y) = true := by
      simp only [decide_eq_true_eq]
      rw [hk', List.take_length, hl, List.take_length] at ht
      exact ht
    rw [e]
    have hp := (show ((k : Int) < (x.length : Int)) = False from eq_false (by omega))
    refine amR_succ ?_
    refine wk1 ?_
    refine am_retP rfl ?_ rfl
    first | rfl | (refine go ?_; rfl)
  | succ d ih =>
    intro k hk ht
    obtain ⟨a, ha⟩ : ∃ e, x[k]? = some e := ⟨x[k]'(by omega), List.getElem?_eq_getElem (by omega)⟩
    obtain ⟨b, hb⟩ : ∃ e, y[k]? = some e := ⟨y[k]'(by omega), List.getElem?_eq_getElem (by omega)⟩
    have base := (show ((k : Int) < (x.length : Int)) = True ∧ (k < x.length) = True ∧ (k < y.length) = True ∧ (x.map bTr)[k]? = some [.v (.int .u8 a)] ∧ (y.map bTr)[k]? = some [.v (.int .u8 b)] ∧ IntKind.i64.wrap ((k : Int) + 1) = ((k + 1 : Nat) : Int) from
      ⟨eq_true (by omega), eq_true (by omega), eq_true (by omega), by rw [List.getElem?_map, ha]; rfl, by rw [List.getElem?_map, hb]; rfl, by rw [wrapN (by omega) (by omega)]; rfl⟩)
    by_cases c : a = b
    · have ihk := ih (k + 1) (by omega) (by rw [List.take_add_one, List.take_add_one, ht, ha, hb, c])
      clear ih
      have hp := And.intro base (show (a != b) = false from by simp [c])
      refine amR_succ ?_
      refine wk1 ?_
      refine amR_tidy [] [0, 1, 5] 1 rfl ?_
      refine go1 ?_
      exact ihk
    · have e : decide (x = y) = false := by
        simp only [decide_eq_false_iff_not]
        intro h
        rw [h, hb] at ha
        exact c (Option.some.inj ha).symm
      rw [e]
      have hp := And.intro base (show (a != b) = true from by simpa using c)
      refine amR_succ ?_
      refine wk1 ?_
      refine am_retP rfl ?_ rfl
      first | rfl | (refine go ?_; rfl)
/-- How much is kept. -/
def crN (d : Dk) (keep : Int) : Nat :=
  (d.syn + (if (d.data.length : Int) - d.syn < (if 0 > keep then 0 else keep) then (d.data.length : Int) - d.syn else (if 0 > keep then 0 else keep))).toNat
def crD (d : Dk) (keep : Int) : Dk := ⟨d.cap, d.syn, d.data.take (crN d keep)⟩
def syD (d : Dk) : Dk := ⟨d.cap, (d.data.length : Nat), d.data⟩
theorem crN_rng {d : Dk} {keep : Int} (h : dkF d = true) : d.syn ≤ (crN d keep : Int) ∧ crN d keep ≤ d.data.length := by
  simp only [dkF, decide_eq_true_eq] at h
  unfold crN
  (repeat' split) <;> omega
set_option maxHeartbeats 16000000 in
theorem crash_tc (d : Dk) (keep : Int) (h : dkF d = true) : TC Tryd.prog 44 [.agg d.cv, int keep] [] 1 (.agg [ci (crD d keep).cap, ci (crD d keep).syn, .own 1 0 (crD d keep).data.length]) [(1, .arr 5 1 ((crD d keep).data.map bTr))] 2 := by
  have hr := crN_rng (keep := keep) h
  have hok := h
  simp only [dkF, decide_eq_true_eq] at hok
  simp only [crD]
  have hN : ((crN d keep : Nat) : Int) = d.syn + (if (d.data.length : Int) - d.syn < (if 0 > keep then 0 else keep) then (d.data.length : Int) - d.syn else (if 0 > keep then 0 else keep)) := by
    unfold crN
    (repeat' split) <;> omega
  generalize crN d keep = n at hr hN ⊢
  obtain ⟨c, s, l⟩ := d
  simp only at hr hN hok ⊢
  simp only [Dk.cv]
  generalize hM : (if 0 > keep then 0 else keep) = M at hN
  generalize hR : (if (l.length : Int) - s < M then (l.length : Int) - s else M) = R at hN
  have hl : (l.take n).length = n := by rw [List.length_take]; omega
  refine tc_cell tabOk Tryd.func44 rfl 27 rfl (Nat.le_of_ble_eq_true rfl) (by decide) [(4, some 62)] rfl (by intro id x h; cases h) ?_
  intro w0 E0
  have kOk := kD15
  have hp := (show dkF ⟨c, s, l⟩ = true ∧ (if 0 > keep then 0 else keep) = M ∧ IntKind.i64.wrap ((l.length : Int) - s) = (l.length : Int) - s ∧ (if (l.length : Int) - s < M then (l.length : Int) - s else M) = R ∧ IntKind.i64.wrap (s + R) = (n : Int) ∧ (n ≤ l.length) = True ∧ (0 ≤ n) = True ∧ (l.map bTr).take n = (l.take n).map bTr ∧ (l.take n).length = n ∧ (n ≤ 1073741824) = True from
    ⟨h, hM, wrapN (by omega) (by omega), hR, by rw [wrapN (by omega) (by omega)]; omega, eq_true hr.2, eq_true (by omega), by rw [List.map_take], hl, eq_true (by omega)⟩)
  refine wk1 ?_
  refine am_retC [(3, 1)] rfl ?_ rfl rfl
  first | refine go ?_ | rfl
set_option maxHeartbeats 16000000 in
theorem sync_tc (d : Dk) (h : dkF d = true) : TC Tryd.prog 45 [.agg d.cv] [] 1 (.agg [ci (syD d).cap, ci (syD d).syn, .own 1 0 (syD d).data.length]) [(1, .arr 5 1 ((syD d).data.map bTr))] 2 := by
  have hok := h
  simp only [dkF, decide_eq_true_eq] at hok
  obtain ⟨c, s, l⟩ := d
  simp only at hok
  simp only [syD, Dk.cv]
  refine tc_cell tabOk Tryd.func45 rfl 14 rfl (Nat.le_of_ble_eq_true rfl) (by decide) [(2, some 62)] rfl (by intro id x h; cases h) ?_
  intro w0 E0
  have kOk := kD15
  have hp := (show dkF ⟨c, s, l⟩ = true ∧ (l.length ≤ 1073741824) = True from ⟨h, eq_true (by omega)⟩)
  refine wk1 ?_
  refine am_retC [(3, 1)] rfl ?_ rfl rfl
  first | refine go ?_ | rfl
theorem crashF_tc (d : Dk) (keep : Int) (h : dkF d = true) : TC Tryd.prog 44 [.agg d.cv, int keep] [] 1 (.agg (crD d keep).cv) [] 1 :=
  tc_freeze (xs := [.v (.int .i64 (crD d keep).cap), .v (.int .i64 (crD d keep).syn)]) (crash_tc d keep h) (by simp)
theorem syncF_tc (d : Dk) (h : dkF d = true) : TC Tryd.prog 45 [.agg d.cv] [] 1 (.agg (syD d).cv) [] 1 :=
  tc_freeze (xs := [.v (.int .i64 (syD d).cap), .v (.int .i64 (syD d).syn)]) (sync_tc d h) (by simp)
theorem dwIF_tc (d : Dk) (rs : List Rec) (h : dkF d = true) (hr : rs.length ≤ 1048576) : TC Tryd.prog 35 [.agg d.cv, ro 11 (rs.map Rec.tr)] [] 1 (.agg [ci (dwC d rs), ci d.cap, ci d.syn, .t (.sl 1 ((dwD d rs).map bTr))]) [] 1 :=
  tc_freeze (xs := [.v (.int .i64 (dwC d rs)), .v (.int .i64 d.cap), .v (.int .i64 d.syn)]) (dwI_tc d rs h hr) (by simp)
theorem dwSF_tc (d : Dk) (rs : List Rec) (h : dkF d = true) (hr : rs.length ≤ 1048576) : TC Tryd.prog 33 [.agg d.cv, ro 11 (rs.map Rec.tr)] [] 1 (.agg [ci (dwC d rs), ci d.cap, ci d.syn, .t (.sl 1 ((dwD d rs).map bTr))]) [] 1 :=
  tc_freeze (xs := [.v (.int .i64 (dwC d rs)), .v (.int .i64 d.cap), .v (.int .i64 d.syn)]) (dwS_tc d rs h hr) (by simp)
theorem dwSN_tc (a b : Int) (rs : List Rec) (h : dkF ⟨a, b, []⟩ = true) (hr : rs.length ≤ 1048576) : TC Tryd.prog 33 [.agg [ci a, ci b, .t (.v (.slice none 0 0))], ro 11 (rs.map Rec.tr)] [] 1 (.agg [ci (dwC ⟨a, b, []⟩ rs), ci a, ci b, .t (.sl 1 ((dwD ⟨a, b, []⟩ rs).map bTr))]) [] 1 :=
  tc_nilArg (xs := [.v (.int .i64 a), .v (.int .i64 b)]) (sz := 1) (dwSF_tc ⟨a, b, []⟩ rs h hr)
def kd16_0_2 (a : List Int) (b : List Int) : Option TV := if a.length ≤ 1073741824 then some (bool (decide (a = b))) else none
def kd16_0_1 (r1 : List (List Tree)) (a : List Int) : Option TV := (unBys r1).bind (kd16_0_2 a)
def kd16_0_0 (r0 : List (List Tree)) (r1 : List (List Tree)) : Option TV := (unBys r0).bind (kd16_0_1 r1)
def kd16_0 : List TV → Option TV
  | [.c (.t (.sl 1 r0)), .c (.t (.sl 1 r1))] => kd16_0_0 r0 r1
  | _ => none
def kd16_1_1 (k : Int) (d : Dk) : Option TV := if dkF d = true then some (.agg (crD d k).cv) else none
def kd16_1_0 (k : Int) (r0 : List CV) : Option TV := (unDk r0).bind (kd16_1_1 k)
def kd16_1 : List TV → Option TV
  | [.agg r0, .c (.t (.v (.int .i64 k)))] => kd16_1_0 k r0
  | _ => none
def kd16_2_1 (d : Dk) : Option TV := if dkF d = true then some (.agg (syD d).cv) else none
def kd16_2_0 (r0 : List CV) : Option TV := (unDk r0).bind (kd16_2_1)
def kd16_2 : List TV → Option TV
  | [.agg r0] => kd16_2_0 r0
  | _ => none
def kd16_3_2 (d : Dk) (rs : List Rec) : Option TV := if dkF d = true ∧ rs.length ≤ 1048576 then some (.agg [ci (dwC d rs), ci d.cap, ci d.syn, .t (.sl 1 ((dwD d rs).map bTr))]) else none
def kd16_3_1 (r1 : List (List Tree)) (d : Dk) : Option TV := (unRecs r1).bind (kd16_3_2 d)
def kd16_3_0 (r0 : List CV) (r1 : List (List Tree)) : Option TV := (unDk r0).bind (kd16_3_1 r1)
def kd16_3 : List TV → Option TV
  | [.agg r0, .c (.t (.sl 11 r1))] => kd16_3_0 r0 r1
  | _ => none
def kd16_4_2 (d : Dk) (rs : List Rec) : Option TV := if dkF d = true ∧ rs.length ≤ 1048576 then some (.agg [ci (dwC d rs), ci d.cap, ci d.syn, .t (.sl 1 ((dwD d rs).map bTr))]) else none
def kd16_4_1 (r1 : List (List Tree)) (d : Dk) : Option TV := (unRecs r1).bind (kd16_4_2 d)
def kd16_4_0 (r0 : List CV) (r1 : List (List Tree)) : Option TV := (unDk r0).bind (kd16_4_1 r1)
def kd16_4 : List TV → Option TV
  | [.agg r0, .c (.t (.sl 11 r1))] => kd16_4_0 r0 r1
  | _ => none
def kd16_5_1 (bs : List Int) : Option TV := if okS bs then some (.tup [.agg (wrD bs).cv, ro 11 ((wrR bs).map Rec.tr)]) else none
def kd16_5_0 (r0 : List (List Tree)) : Option TV := (unBys r0).bind (kd16_5_1)
def kd16_5 : List TV → Option TV
  | [.c (.t (.sl 1 r0))] => kd16_5_0 r0
  | _ => none
def kd16_6_1 (bs : List Int) : Option TV := if okS bs then some (.tup [.agg (drDk bs 0 (szB bs)).cv, int (IntKind.i64.wrap (pkX bs (wrZ bs) 120 - 4))]) else none
def kd16_6_0 (r0 : List (List Tree)) : Option TV := (unBys r0).bind (kd16_6_1)
def kd16_6 : List TV → Option TV
  | [.c (.t (.sl 1 r0))] => kd16_6_0 r0
  | _ => none
def kd16_call (f : FuncId) (args : List TV) : Option TV := if f = 43 then orO (kd16_0 args) (kd15.call f args) else if f = 44 then orO (kd16_1 args) (kd15.call f args) else if f = 45 then orO (kd16_2 args) (kd15.call f args) else if f = 35 then orO (kd16_3 args) (kd15.call f args) else if f = 33 then orO (kd16_4 args) (kd15.call f args) else if f = 41 then orO (kd16_5 args) (kd15.call f args) else if f = 42 then orO (kd16_6 args) (kd15.call f args) else kd15.call f args
def kd16 : Kn := { call := kd16_call, eqs := eqTys, callB := kd15.callB }
attribute [go_sem] kd16_0_0 kd16_0_1 kd16_0_2 kd16_0 kd16_1_0 kd16_1_1 kd16_1 kd16_2_0 kd16_2_1 kd16_2 kd16_3_0 kd16_3_1 kd16_3_2 kd16_3 kd16_4_0 kd16_4_1 kd16_4_2 kd16_4 kd16_5_0 kd16_5_1 kd16_5 kd16_6_0 kd16_6_1 kd16_6 kd16_call kd16
theorem kd16_ok : ∀ f args res, kd16_call f args = some res → TC Tryd.prog f args [] 1 res [] 1 := by
  intro f args res h
  unfold kd16_call at h
  split at h
  · rename_i e; subst e
    have hh := orO_elim h
    clear h
    rcases hh with h | h
    rotate_left
    · exact kD15.call _ _ _ h
    unfold kd16_0 at h
    split at h
    · rename_i r0 r1; unfold kd16_0_0 at h
      obtain ⟨a, e0, h⟩ := Option.bind_eq_some_iff.1 h
      unfold kd16_0_1 at h
      obtain ⟨b, e1, h⟩ := Option.bind_eq_some_iff.1 h
      unfold kd16_0_2 at h
      split at h
      · rename_i hc; cases h; rw [unBys_ok e0, unBys_ok e1]; exact same_tc a b hc
      · cases h
    · cases h
  split at h
  · rename_i e; subst e
    have hh := orO_elim h
    clear h
    rcases hh with h | h
    rotate_left
    · exact kD15.call _ _ _ h
    unfold kd16_1 at h
    split at h
    · rename_i r0 k; unfold kd16_1_0 at h
      obtain ⟨d, e0, h⟩ := Option.bind_eq_some_iff.1 h
      unfold kd16_1_1 at h
      split at h
      · rename_i hc; cases h; rw [unDk_ok e0]; exact crashF_tc d k hc
      · cases h
    · cases h
  split at h
  · rename_i e; subst e
    have hh := orO_elim h
    clear h
    rcases hh with h | h
    rotate_left
    · exact kD15.call _ _ _ h
    unfold kd16_2 at h
    split at h
    · rename_i r0; unfold kd16_2_0 at h
      obtain ⟨d, e0, h⟩ := Option.bind_eq_some_iff.1 h
      unfold kd16_2_1 at h
      split at h
      · rename_i hc; cases h; rw [unDk_ok e0]; exact syncF_tc d hc
      · cases h
    · cases h
  split at h
  · rename_i e; subst e
    have hh := orO_elim h
    clear h
    rcases hh with h | h
    rotate_left
    · exact kD15.call _ _ _ h
    unfold kd16_3 at h
    split at h
    · rename_i r0 r1; unfold kd16_3_0 at h
      obtain ⟨d, e0, h⟩ := Option.bind_eq_some_iff.1 h
      unfold kd16_3_1 at h
      obtain ⟨rs, e1, h⟩ := Option.bind_eq_some_iff.1 h
      unfold kd16_3_2 at h
      split at h
      · rename_i hc; cases h; rw [unDk_ok e0, unRecs_ok e1]; exact dwIF_tc d rs hc.1 hc.2
      · cases h
    · cases h
  split at h
  · rename_i e; subst e
    have hh := orO_elim h
    clear h
    rcases hh with h | h
    rotate_left
    · exact kD15.call _ _ _ h
    unfold kd16_4 at h
    split at h
    · rename_i r0 r1; unfold kd16_4_0 at h
      obtain ⟨d, e0, h⟩ := Option.bind_eq_some_iff.1 h
      unfold kd16_4_1 at h
      obtain ⟨rs, e1, h⟩ := Option.bind_eq_some_iff.1 h
      unfold kd16_4_2 at h
      split at h
      · rename_i hc; cases h; rw [unDk_ok e0, unRecs_ok e1]; exact dwSF_tc d rs hc.1 hc.2
      · cases h
    · cases h
  split at h
  · rename_i e; subst e
    have hh := orO_elim h
    clear h
    rcases hh with h | h
    rotate_left
    · exact kD15.call _ _ _ h
    unfold kd16_5 at h
    split at h
    · rename_i r0; unfold kd16_5_0 at h
      obtain ⟨bs, e0, h⟩ := Option.bind_eq_some_iff.1 h
      unfold kd16_5_1 at h
      split at h
      · rename_i hc; cases h; rw [unBys_ok e0]; exact dwr_tc bs hc
      · cases h
    · cases h
  split at h
  · rename_i e; subst e
    have hh := orO_elim h
    clear h
    rcases hh with h | h
    rotate_left
    · exact kD15.call _ _ _ h
    unfold kd16_6 at h
    split at h
    · rename_i r0; unfold kd16_6_0 at h
      obtain ⟨bs, e0, h⟩ := Option.bind_eq_some_iff.1 h
      unfold kd16_6_1 at h
      split at h
      · rename_i hc; cases h; rw [unBys_ok e0]; exact dcr_tc bs hc
      · cases h
    · cases h
  · exact kD15.call f args res h
theorem kD16 : KnOk Tryd.prog kd16 := ⟨kd16_ok, eqTysOk, kD15.callB⟩
def kd17_0_1 (a : Int) (b : Int) (rs : List Rec) : CB := if dkF ⟨a, b, []⟩ = true ∧ rs.length ≤ 1048576 then some (.agg [ci (dwC ⟨a, b, []⟩ rs), ci a, ci b, .t (.sl 1 ((dwD ⟨a, b, []⟩ rs).map bTr))], [], 1) else none
def kd17_0_0 (a : Int) (b : Int) (r0 : List (List Tree)) : CB := (unRecs r0).bind (kd17_0_1 a b)
def kd17_0 : List TV → List (Nat × AObj) → CB
  | [.agg [.t (.v (.int .i64 a)), .t (.v (.int .i64 b)), .t (.v (.slice none 0 0))], .c (.t (.sl 11 r0))], [] => kd17_0_0 a b r0
  | _, _ => none
def kd17_call (f : FuncId) (args : List TV) (o : List (Nat × AObj)) : CB := if f = 33 then orO (kd17_0 args o) (kd16.callB f args o) else kd16.callB f args o
def kd17 : Kn := { call := kd16.call, eqs := eqTys, callB := kd17_call }
attribute [go_sem] kd17_0_0 kd17_0_1 kd17_0 kd17_call kd17
theorem kd17_ok : ∀ f args o res o1 n1, kd17_call f args o = some (res, o1, n1) → TC Tryd.prog f args o (o.length + 1) res o1 n1 := by
  intro f args o res o1 n1 h
  unfold kd17_call at h
  split at h
  · rename_i e; subst e
    have hh := orO_elim h
    clear h
    rcases hh with h | h
    rotate_left
    · exact kD16.callB _ _ _ _ _ _ h
    unfold kd17_0 at h
    split at h
    · rename_i a b r0; unfold kd17_0_0 at h
      have hb0 := Option.bind_eq_some_iff.1 h
      clear h
      obtain ⟨rs, e0, h⟩ := hb0
      unfold kd17_0_1 at h
      split at h
      · rename_i hc; cases h; rw [unRecs_ok e0]; exact dwSN_tc a b rs hc.1 hc.2
      · cases h
    · cases h
  · exact kD16.callB f args o res o1 n1 h
theorem kD17 : KnOk Tryd.prog kd17 := ⟨kD16.call, eqTysOk, kd17_ok⟩
end Go.Proofs.YtaolgdpkcbfocaaDoorA
/- Disks: the law holds at every argument. -/
namespace Go.Proofs.YtaolgdpkcbfocaaDoorA
open Go.Proofs
set_option autoImplicit false
set_option linter.unusedVariables false
set_option linter.unusedSimpArgs false
set_option maxRecDepth 4000
theorem recO_small {rs : List Rec} (h : rs.length ≤ 1224) : (recO rs).length ≤ 343944 := by
  unfold recO
  split
  · rename_i hr
    unfold rsF at hr
    simp only [Bool.and_eq_true] at hr
    have := recsL_len hr.2
    omega
  · simp
/-- What a write does, told apart. -/
theorem wr_cases (u : Dk) (rs : List Rec) (h : dkF u = true) :
    (rsF rs = false ∧ (recO rs).length = 0 ∧ dwC u rs = 2 ∧ dwD u rs = u.data) ∨ (rsF rs = true ∧ u.cap < (u.data.length : Int) + ((recO rs).length : Int) ∧ dwC u rs = 3 ∧ dwD u rs = u.data) ∨
    (rsF rs = true ∧ ¬ u.cap < (u.data.length : Int) + ((recO rs).length : Int) ∧ dwC u rs = 0 ∧ dwD u rs = u.data ++ recO rs) := by
  cases hf : rsF rs with
  | false => exact .inl ⟨rfl, by simp [recO, hf], by simp [dwC, hf], by simp [dwD, hf]⟩
  | true =>
    by_cases c : u.cap < (u.data.length : Int) + ((recO rs).length : Int)
    · exact .inr (.inl ⟨rfl, c, by simp [dwC, hf, c], by simp [dwD, hf, c]⟩)
    · exact .inr (.inr ⟨rfl, c, by simp [dwC, hf, c], by simp [dwD, hf, c]⟩)
set_option maxHeartbeats 64000000 in
theorem lawDisk_tc (code more : List Int) (hc : ∀ n, n ∈ code → 0 ≤ n ∧ n ≤ 255) (hm : ∀ n, n ∈ more → 0 ≤ n ∧ n ≤ 255) : TC Tryd.prog 8 [ro 1 (code.map bTr), ro 1 (more.map bTr)] [] 1 (bool true) [] 1 := by
  refine tc_intro Tryd.func8 rfl 169 rfl (Nat.le_of_ble_eq_true rfl) (by decide) [4] rfl (by intro id x h; cases h) ?_
  intro w0 E0
  have kOk := kD17
  by_cases h1 : 1048576 < code.length
  · have hp := (show ((code.length : Int) > 1048576) = True from eq_true (by omega))
    refine wk1 ?_
    refine am_retP rfl ?_ rfl
    first | rfl | (refine go ?_; rfl)
  by_cases h2 : 1048576 < more.length
  · have hp := (show ((code.length : Int) > 1048576) = False ∧ ((more.length : Int) > 1048576) = True from ⟨eq_false (by omega), eq_true (by omega)⟩)
    refine wk1 ?_
    refine am_retP rfl ?_ rfl
    first | rfl | (refine go ?_; rfl)
  have oc : okS code := ⟨hc, by omega⟩
  have om : okS more := ⟨hm, by omega⟩
  have hl := wrR_len code oc
  generalize hd : wrD code = d
  generalize hr : wrR code = rs at hl
  generalize hd2 : drDk more 0 (szB more) = d2
  generalize hkp : IntKind.i64.wrap (pkX more (wrZ more) 120 - 4) = keep
  have base := (show ((code.length : Int) > 1048576) = False ∧ ((more.length : Int) > 1048576) = False ∧ okS code = True ∧ okS more = True ∧ wrD code = d ∧ wrR code = rs ∧ drDk more 0 (szB more) = d2 ∧ IntKind.i64.wrap (pkX more (wrZ more) 120 - 4) = keep ∧ (rs.length ≤ 1048576) = True from
    ⟨eq_false (by omega), eq_false (by omega), eq_true oc, eq_true om, hd, hr, hd2, hkp, eq_true (by omega)⟩)
  have hx : ∀ x : Int, (x != x) = false := fun x => by simp
  cases h : dkF d with
  | false =>
    obtain ⟨c, s, l⟩ := d
    have hp := And.intro base (show dkF ⟨c, s, l⟩ = false ∧ ((1 : Int) == 1) = true from ⟨h, by decide⟩)
    refine wk1 ?_
    refine am_retP rfl ?_ rfl
    first | rfl | (refine go ?_; rfl)
  | true =>
    generalize hq : dwC d rs = q
    have q1 : ¬ q = 1 := by rw [← hq]; unfold dwC; (repeat' split) <;> omega
    have hRl := recO_small hl
    have hf2 : (dwC ⟨1048576, 0, []⟩ rs == 0) = rsF rs := by
      rcases wr_cases ⟨1048576, 0, []⟩ rs (by decide) with ⟨a1, a2, a3, a4⟩ | ⟨a1, a2, a3, a4⟩ | ⟨a1, a2, a3, a4⟩
      · rw [a1, a3]; rfl
      · exact absurd a2 (by simp; omega)
      · rw [a1, a3]; rfl
    generalize hq2 : dwC ⟨1048576, 0, []⟩ rs = q2 at hf2
    generalize hff : rsF rs = f at hf2
    obtain ⟨c, s, l⟩ := d
    obtain ⟨c2, s2, l2⟩ := d2
    have hp := And.intro base (show dkF ⟨c, s, l⟩ = true ∧ dkF ⟨1048576, 0, []⟩ = true ∧ dwC ⟨c, s, l⟩ rs = q ∧ (q == 1) = false ∧ dwC ⟨1048576, 0, []⟩ rs = q2 ∧ (q2 == 0) = f from ⟨h, by decide, hq, by simpa using q1, hq2, hf2⟩)
    refine wk1 ?_
    refine am_tidy [(3, 1)] [0, 8, 9, 10, 12] 2 rfl ?_
    refine go1 ?_
    clear hp
    refine am_loop 4 ?_
    suffices key : ∀ (d k : Nat) (u : Dk), k + d = 3 → dkF u = true → amR Tryd.prog _ _ _ (d + 1) ⟨[(0, ro 1 (code.map bTr)), (8, int keep), (9, bool f), (10, .c (.ptr 1 0)), (12, int (k : Nat))], [(1, .cells u.cv)], 2⟩ from key 3 0 ⟨c, s, l⟩ rfl h
    clear hq q1 hq2
    intro d
    induction d with
    | zero =>
      intro k u hk hu
      obtain ⟨c, s, l⟩ := u
      simp only [Dk.cv]
      have hp := (show ((k : Int) < 3) = False from eq_false (by omega))
      refine amR_succ ?_
      refine wk1 ?_
      refine am_retP rfl ?_ rfl
      first | rfl | (refine go ?_; rfl)
    | succ d ih =>
      intro k u hk hu
      have ih2 := fun v hv => ih (k + 1) v (by omega) hv
      clear ih
      have hcs := wr_cases u rs hu
      generalize hW : dwD u rs = W at hcs
      generalize hQ : dwC u rs = z at hcs
      have hok := hu
      simp only [dkF, decide_eq_true_eq] at hok
      obtain ⟨u1, u2, ul⟩ := u
      simp only at hok hcs
      rw [hff] at hcs
      simp only [Dk.cv] at ih2 ⊢
      generalize hR : recO rs = R at hcs hRl
      have hx2 := (show (true == true) = true ∧ (false == false) = true from by decide)
      have base2 := (show (((k : Int) < 3) = True ∧ IntKind.i64.wrap ((k : Int) + 1) = ((k + 1 : Nat) : Int)) ∧ (dkF ⟨u1, u2, ul⟩ = true ∧ dwC ⟨u1, u2, ul⟩ rs = z ∧ dwD ⟨u1, u2, ul⟩ rs = W ∧ recO rs = R ∧ IntKind.i64.wrap ((ul.length : Int) + (R.length : Int)) = (ul.length : Int) + (R.length : Int)) ∧ (∀ x : Int, (x != x) = false) from
        ⟨⟨eq_true (by omega), by rw [wrapN (by omega) (by omega)]; rfl⟩, ⟨hu, hQ, hW, hR, wrapN (by omega) (by omega)⟩, hx⟩)
      rcases hcs with ⟨a1, a2, a3, a4⟩ | ⟨a1, a2, a3, a4⟩ | ⟨a1, a2, a3, a4⟩
      · subst a1
        subst a3
        have hWl : (W.length : Int) ≤ u1 ∧ u2 ≤ (W.length : Int) := by
          rw [a4]
          try rw [List.length_append]
          omega
        have hp := And.intro base (And.intro base2 (And.intro hx2 (show ((2 : Int) == 0) = false ∧ ((R.length : Int) != 0) = false ∧ ((ul.length : Int) + (R.length : Int) ≤ u1) = True from ⟨by decide, by simp [a2], eq_true (by omega)⟩)))
        refine amR_succ ?_
        refine wk1 ?_
        refine am_rs tabOk kOk rfl fun K Q1 hK => ?_
        refine go1 ?_
        refine ⟨by omega, by unfold maxLen; omega, ?_⟩
        refine hK _ ?_
        clear hK K Q1
        refine am_tidy [(1, 1), (4, 2), (6, 3), (3, 4)] [0, 8, 9, 10, 12, 15, 16, 18] 5 rfl ?_
        refine go1 ?_
        refine am_scut True ⟨[(0, ro 1 (code.map bTr)), (8, int keep), (9, bool false), (10, .c (.ptr 1 0)), (12, int (k : Nat)), (16, .c (.ptr 2 0)), (18, .c (.own 3 0 W.length))], [(1, .cells [ci u1, ci u2, .t (.sl 1 (ul.map bTr))]), (2, .cells [ci 2, ci u1, ci u2, .t (.sl 1 (W.map bTr))]), (3, .arr 5 1 (W.map bTr))], 4⟩ (fun _ => ?_) fun KC hKC => ?_
        rotate_left
        · refine wk1 ?_
          refine hKC _ [(1, 1), (2, 2), (3, 3)] [0, 8, 9, 10, 12, 16, 18] 4 True.intro rfl ?_
          rw [a4]
          first | rfl | (refine go ?_; rfl)
        clear hp hu hQ hW base2
        have hdk : dkF ⟨u1, u2, W⟩ = true := by simp only [dkF, decide_eq_true_eq]; omega
        have cr := crN_rng (keep := keep) hdk
        have eY : crD ⟨u1, u2, W⟩ keep = ⟨u1, u2, W.take (crN ⟨u1, u2, W⟩ keep)⟩ := rfl
        have hYl : (W.take (crN ⟨u1, u2, W⟩ keep)).length = crN ⟨u1, u2, W⟩ keep := by rw [List.length_take]; simp only at cr; omega
        have hYm : (W.map bTr).take (W.take (crN ⟨u1, u2, W⟩ keep)).length = (W.take (crN ⟨u1, u2, W⟩ keep)).map bTr := by rw [hYl, List.map_take]
        simp only at cr
        rw [← hYl] at cr
        generalize W.take (crN ⟨u1, u2, W⟩ keep) = Y at *
        have hdY : dkF ⟨u1, u2, Y⟩ = true := by simp only [dkF, decide_eq_true_eq]; omega
        have hdW : dkF ⟨u1, (W.length : Nat), W⟩ = true := by simp only [dkF, decide_eq_true_eq]; omega
        have eS : syD ⟨u1, u2, W⟩ = ⟨u1, (W.length : Nat), W⟩ := rfl
        have i1 := ih2 ⟨u1, u2, Y⟩ hdY
        have i2 := ih2 ⟨u1, (W.length : Nat), W⟩ hdW
        clear ih2
        refine am_frz 3 rfl (Nat.le_of_ble_eq_true rfl) (by decide) ?_
        have base3 := (show IntKind.i64.wrap ((k : Int) + 1) = ((k + 1 : Nat) : Int) ∧ (∀ x : Int, (x != x) = false) ∧ dkF ⟨u1, u2, W⟩ = true ∧ crD ⟨u1, u2, W⟩ keep = ⟨u1, u2, Y⟩ ∧ syD ⟨u1, u2, W⟩ = ⟨u1, (W.length : Nat), W⟩ ∧ (W.map bTr).take Y.length = Y.map bTr ∧ (Y.length ≤ W.length) = True ∧ (0 ≤ Y.length) = True ∧ ((Y.length : Int) < u2) = False ∧ (W.length ≤ 1073741824) = True ∧ (Y.length ≤ 1073741824) = True ∧ (W.map bTr).length = W.length from
          ⟨by rw [wrapN (by omega) (by omega)]; rfl, hx, hdk, eY, eS, hYm, eq_true cr.2, eq_true (by omega), eq_false (by omega), eq_true (by omega), eq_true (by omega), by simp⟩)
        by_cases k1 : (k : Int) = 1
        · have hp := And.intro base3 (show ((k : Int) == 1) = true from by simpa using k1)
          refine go1 ?_
          refine wk1 ?_
          refine amR_tidy [(1, 1)] [0, 8, 9, 10, 12] 2 rfl ?_
          refine go1 ?_
          exact i2
        · have hp := And.intro base3 (show ((k : Int) == 1) = false from by simpa using k1)
          refine go1 ?_
          refine wk1 ?_
          refine amR_tidy [(1, 1)] [0, 8, 9, 10, 12] 2 rfl ?_
          refine go1 ?_
          exact i1
      · subst a1
        subst a3
        have hWl : (W.length : Int) ≤ u1 ∧ u2 ≤ (W.length : Int) := by
          rw [a4]
          try rw [List.length_append]
          omega
        have hp := And.intro base (And.intro base2 (And.intro hx2 (show ((3 : Int) == 0) = false ∧ ((ul.length : Int) + (R.length : Int) ≤ u1) = False from ⟨by decide, eq_false (by omega)⟩)))
        refine amR_succ ?_
        refine wk1 ?_
        refine am_rs tabOk kOk rfl fun K Q1 hK => ?_
        refine go1 ?_
        refine ⟨by omega, by unfold maxLen; omega, ?_⟩
        refine hK _ ?_
        clear hK K Q1
        refine am_tidy [(1, 1), (4, 2), (6, 3), (3, 4)] [0, 8, 9, 10, 12, 15, 16, 18] 5 rfl ?_
        refine go1 ?_
        refine am_scut True ⟨[(0, ro 1 (code.map bTr)), (8, int keep), (9, bool true), (10, .c (.ptr 1 0)), (12, int (k : Nat)), (16, .c (.ptr 2 0)), (18, .c (.own 3 0 W.length))], [(1, .cells [ci u1, ci u2, .t (.sl 1 (ul.map bTr))]), (2, .cells [ci 3, ci u1, ci u2, .t (.sl 1 (W.map bTr))]), (3, .arr 5 1 (W.map bTr))], 4⟩ (fun _ => ?_) fun KC hKC => ?_
        rotate_left
        · refine wk1 ?_
          refine hKC _ [(1, 1), (2, 2), (3, 3)] [0, 8, 9, 10, 12, 16, 18] 4 True.intro rfl ?_
          rw [a4]
          first | rfl | (refine go ?_; rfl)
        clear hp hu hQ hW base2
        have hdk : dkF ⟨u1, u2, W⟩ = true := by simp only [dkF, decide_eq_true_eq]; omega
        have cr := crN_rng (keep := keep) hdk
        have eY : crD ⟨u1, u2, W⟩ keep = ⟨u1, u2, W.take (crN ⟨u1, u2, W⟩ keep)⟩ := rfl
        have hYl : (W.take (crN ⟨u1, u2, W⟩ keep)).length = crN ⟨u1, u2, W⟩ keep := by rw [List.length_take]; simp only at cr; omega
        have hYm : (W.map bTr).take (W.take (crN ⟨u1, u2, W⟩ keep)).length = (W.take (crN ⟨u1, u2, W⟩ keep)).map bTr := by rw [hYl, List.map_take]
        simp only at cr
        rw [← hYl] at cr
        generalize W.take (crN ⟨u1, u2, W⟩ keep) = Y at *
        have hdY : dkF ⟨u1, u2, Y⟩ = true := by simp only [dkF, decide_eq_true_eq]; omega
        have hdW : dkF ⟨u1, (W.length : Nat), W⟩ = true := by simp only [dkF, decide_eq_true_eq]; omega
        have eS : syD ⟨u1, u2, W⟩ = ⟨u1, (W.length : Nat), W⟩ := rfl
        have i1 := ih2 ⟨u1, u2, Y⟩ hdY
        have i2 := ih2 ⟨u1, (W.length : Nat), W⟩ hdW
        clear ih2
        refine am_frz 3 rfl (Nat.le_of_ble_eq_true rfl) (by decide) ?_
        have base3 := (show IntKind.i64.wrap ((k : Int) + 1) = ((k + 1 : Nat) : Int) ∧ (∀ x : Int, (x != x) = false) ∧ dkF ⟨u1, u2, W⟩ = true ∧ crD ⟨u1, u2, W⟩ keep = ⟨u1, u2, Y⟩ ∧ syD ⟨u1, u2, W⟩ = ⟨u1, (W.length : Nat), W⟩ ∧ (W.map bTr).take Y.length = Y.map bTr ∧ (Y.length ≤ W.length) = True ∧ (0 ≤ Y.length) = True ∧ ((Y.length : Int) < u2) = False ∧ (W.length ≤ 1073741824) = True ∧ (Y.length ≤ 1073741824) = True ∧ (W.map bTr).length = W.length from
          ⟨by rw [wrapN (by omega) (by omega)]; rfl, hx, hdk, eY, eS, hYm, eq_true cr.2, eq_true (by omega), eq_false (by omega), eq_true (by omega), eq_true (by omega), by simp⟩)
        by_cases k1 : (k : Int) = 1
        · have hp := And.intro base3 (show ((k : Int) == 1) = true from by simpa using k1)
          refine go1 ?_
          refine wk1 ?_
          refine amR_tidy [(1, 1)] [0, 8, 9, 10, 12] 2 rfl ?_
          refine go1 ?_
          exact i2
        · have hp := And.intro base3 (show ((k : Int) == 1) = false from by simpa using k1)
          refine go1 ?_
          refine wk1 ?_
          refine amR_tidy [(1, 1)] [0, 8, 9, 10, 12] 2 rfl ?_
          refine go1 ?_
          exact i1
      · subst a1
        subst a3
        have hWl : (W.length : Int) ≤ u1 ∧ u2 ≤ (W.length : Int) := by
          rw [a4]
          try rw [List.length_append]
          omega
        have hp := And.intro base (And.intro base2 (And.intro hx2 (show ((0 : Int) == 0) = true ∧ ((ul.length : Int) + (R.length : Int) ≤ u1) = True from ⟨by decide, eq_true (by omega)⟩)))
        refine amR_succ ?_
        refine wk1 ?_
        refine am_rs tabOk kOk rfl fun K Q1 hK => ?_
        refine go1 ?_
        refine ⟨by omega, by unfold maxLen; omega, ?_⟩
        refine hK _ ?_
        clear hK K Q1
        refine am_tidy [(1, 1), (4, 2), (6, 3), (3, 4)] [0, 8, 9, 10, 12, 15, 16, 18] 5 rfl ?_
        refine go1 ?_
        refine am_scut True ⟨[(0, ro 1 (code.map bTr)), (8, int keep), (9, bool true), (10, .c (.ptr 1 0)), (12, int (k : Nat)), (16, .c (.ptr 2 0)), (18, .c (.own 3 0 W.length))], [(1, .cells [ci u1, ci u2, .t (.sl 1 (ul.map bTr))]), (2, .cells [ci 0, ci u1, ci u2, .t (.sl 1 (W.map bTr))]), (3, .arr 5 1 (W.map bTr))], 4⟩ (fun _ => ?_) fun KC hKC => ?_
        rotate_left
        · have hWe : W.length = ul.length + R.length := by rw [a4, List.length_append]
          have hp := And.intro hp (show ((ul ++ R).length ≤ maxLen) = True ∧ ((ul ++ R).length * 1 ≤ 140737488355328) = True from ⟨eq_true (by unfold maxLen; rw [List.length_append]; omega), eq_true (by rw [List.length_append]; omega)⟩)
          refine wk1 ?_
          refine hKC _ [(1, 1), (2, 2), (5, 3)] [0, 8, 9, 10, 12, 16, 18] 4 True.intro rfl ?_
          rw [a4]
          first | rfl | (refine go ?_; rfl) | (refine go ?_; simp)
        clear hp hu hQ hW base2
        have hdk : dkF ⟨u1, u2, W⟩ = true := by simp only [dkF, decide_eq_true_eq]; omega
        have cr := crN_rng (keep := keep) hdk
        have eY : crD ⟨u1, u2, W⟩ keep = ⟨u1, u2, W.take (crN ⟨u1, u2, W⟩ keep)⟩ := rfl
        have hYl : (W.take (crN ⟨u1, u2, W⟩ keep)).length = crN ⟨u1, u2, W⟩ keep := by rw [List.length_take]; simp only at cr; omega
        have hYm : (W.map bTr).take (W.take (crN ⟨u1, u2, W⟩ keep)).length = (W.take (crN ⟨u1, u2, W⟩ keep)).map bTr := by rw [hYl, List.map_take]
        simp only at cr
        rw [← hYl] at cr
        generalize W.take (crN ⟨u1, u2, W⟩ keep) = Y at *
        have hdY : dkF ⟨u1, u2, Y⟩ = true := by simp only [dkF, decide_eq_true_eq]; omega
        have hdW : dkF ⟨u1, (W.length : Nat), W⟩ = true := by simp only [dkF, decide_eq_true_eq]; omega
        have eS : syD ⟨u1, u2, W⟩ = ⟨u1, (W.length : Nat), W⟩ := rfl
        have i1 := ih2 ⟨u1, u2, Y⟩ hdY
        have i2 := ih2 ⟨u1, (W.length : Nat), W⟩ hdW
        clear ih2
        refine am_frz 3 rfl (Nat.le_of_ble_eq_true rfl) (by decide) ?_
        have base3 := (show IntKind.i64.wrap ((k : Int) + 1) = ((k + 1 : Nat) : Int) ∧ (∀ x : Int, (x != x) = false) ∧ dkF ⟨u1, u2, W⟩ = true ∧ crD ⟨u1, u2, W⟩ keep = ⟨u1, u2, Y⟩ ∧ syD ⟨u1, u2, W⟩ = ⟨u1, (W.length : Nat), W⟩ ∧ (W.map bTr).take Y.length = Y.map bTr ∧ (Y.length ≤ W.length) = True ∧ (0 ≤ Y.length) = True ∧ ((Y.length : Int) < u2) = False ∧ (W.length ≤ 1073741824) = True ∧ (Y.length ≤ 1073741824) = True ∧ (W.map bTr).length = W.length from
          ⟨by rw [wrapN (by omega) (by omega)]; rfl, hx, hdk, eY, eS, hYm, eq_true cr.2, eq_true (by omega), eq_false (by omega), eq_true (by omega), eq_true (by omega), by simp⟩)
        by_cases k1 : (k : Int) = 1
        · have hp := And.intro base3 (show ((k : Int) == 1) = true from by simpa using k1)
          refine go1 ?_
          refine wk1 ?_
          refine amR_tidy [(1, 1)] [0, 8, 9, 10, 12] 2 rfl ?_
          refine go1 ?_
          exact i2
        · have hp := And.intro base3 (show ((k : Int) == 1) = false from by simpa using k1)
          refine go1 ?_
          refine wk1 ?_
          refine amR_tidy [(1, 1)] [0, 8, 9, 10, 12] 2 rfl ?_
          refine go1 ?_
          exact i1
end Go.Proofs.YtaolgdpkcbfocaaDoorA
/- Disks: what the law reads, told as bytes. -/
namespace Go.Proofs.YtaolgdpkcbfocaaDoorA
open Go.Proofs
set_option autoImplicit false
set_option linter.unusedVariables false
theorem rowsOkD {X : Type} {tr : X → List Tree} {ok : X → Prop} {sz : Nat} : ∀ {l : List (List Tree)}, (∀ x, x ∈ l → x.length = sz ∧ ∃ c : X, x = tr c ∧ ok c) → ∃ cs : List X, l = cs.map tr ∧ ∀ c, c ∈ cs → ok c
  | [], _ => ⟨[], rfl, fun c hc => by cases hc⟩
  | x :: l, h => by
    obtain ⟨c, rfl, hc⟩ := (h x List.mem_cons_self).2
    obtain ⟨cs, rfl, hcs⟩ := rowsOkD (tr := tr) (ok := ok) (sz := sz) (l := l) fun y hy => h y (List.mem_cons_of_mem _ hy)
    exact ⟨c :: cs, rfl, fun d hd => (List.mem_cons.1 hd).elim (fun e => e ▸ hc) (hcs d)⟩
theorem opT_bytesF {P : Program} {t e : TypeId} (ht : P.underlying t = some (.slice e)) (he : P.underlying e = some (.int .u8)) (hc : P.cellsOf e = 1) : OpT P (fun xs => ∃ cs : List Int, xs = [.sl 1 (cs.map bTr)] ∧ (∀ n, n ∈ cs → 0 ≤ n ∧ n ≤ 255) ∧ cs.length ≤ maxLen) t := by
  refine opT_weak (opT_slice ht hc (by decide) (opT_weak (opT_int he) (W' := fun xs => ∃ c : Int, xs = bTr c ∧ (0 ≤ c ∧ c ≤ 255)) ?_)) ?_
  · rintro xs ⟨n, rfl, hw⟩
    refine ⟨n, rfl, ?_⟩
    simp [Lit.wf] at hw
    exact hw
  · rintro xs ⟨l, rfl, h1, h2⟩
    obtain ⟨cs, rfl, hcs⟩ := rowsOkD h2
    exact ⟨cs, rfl, hcs, by simpa using h1⟩
theorem op_Byss : OpT Tryd.prog (fun xs => ∃ cs : List Int, xs = [.sl 1 (cs.map bTr)] ∧ (∀ n, n ∈ cs → 0 ≤ n ∧ n ≤ 255) ∧ cs.length ≤ maxLen) 25 :=
  opT_bytesF Tryd.underlying25 Tryd.underlying5 (by kernel_rfl)
theorem lawDsk_tc (code more : List Int) (h1 : (∀ n, n ∈ code → 0 ≤ n ∧ n ≤ 255) ∧ code.length ≤ maxLen) (h2 : (∀ n, n ∈ more → 0 ≤ n ∧ n ≤ 255) ∧ more.length ≤ maxLen) : TC Tryd.prog 8 [ro 1 (code.map bTr), ro 1 (more.map bTr)] [] 1 (bool true) [] 1 :=
  lawDisk_tc code more h1.1 h2.1
end Go.Proofs.YtaolgdpkcbfocaaDoorA
