/- Draws: words. -/
import Derived.Test.YtgalnkilcajgcaaFDraw2
namespace Go.Proofs.YtgalnkilcajgcaaA
open Go.Proofs
set_option autoImplicit false
set_option linter.unusedVariables false
set_option linter.unusedSimpArgs false
set_option maxRecDepth 4000
def kd3_0_1 (l : List Int) : Option TV := some (int (if (l.length : Int) < 400 then (l.length : Int) else 400))
def kd3_0_0 (r0 : List (List Tree)) : Option TV := (unBys r0).bind (kd3_0_1)
def kd3_0 : List TV → Option TV
  | [.c (.t (.sl 1 r0))] => kd3_0_0 r0
  | _ => none
def kd3_1_0 (n : Int) (c : Int) : Option TV := if 0 ≤ n ∧ n ≤ 1000 then some (str (longF n c)) else none
def kd3_1 : List TV → Option TV
  | [.c (.t (.v (.int .i64 n))), .c (.t (.v (.int .u8 c)))] => kd3_1_0 n c
  | _ => none
def kd3_call (f : FuncId) (args : List TV) : Option TV := if f = 87 then orO (kd3_0 args) (kd2.call f args) else if f = 136 then orO (kd3_1 args) (kd2.call f args) else kd2.call f args
def kd3 : Kn := { call := kd3_call, eqs := eqTys, callB := kd2.callB }
attribute [go_sem] kd3_0_0 kd3_0_1 kd3_0 kd3_1_0 kd3_1 kd3_call kd3
theorem kd3_ok : ∀ f args res, kd3_call f args = some res → TC Try.prog f args [] 1 res [] 1 := by
  intro f args res h
  unfold kd3_call at h
  split at h
  · rename_i e; subst e
    have hh := orO_elim h
    clear h
    rcases hh with h | h
    rotate_left
    · exact kD2.call _ _ _ h
    unfold kd3_0 at h
    split at h
    · rename_i r0; unfold kd3_0_0 at h
      obtain ⟨l, e0, h⟩ := Option.bind_eq_some_iff.1 h
      unfold kd3_0_1 at h
      cases h; rw [unBys_ok e0]; exact size_tc l
    · cases h
  split at h
  · rename_i e; subst e
    have hh := orO_elim h
    clear h
    rcases hh with h | h
    rotate_left
    · exact kD2.call _ _ _ h
    unfold kd3_1 at h
    split at h
    · rename_i n c; unfold kd3_1_0 at h
      split at h
      · rename_i hc; cases h; exact long_tc n c hc.1 hc.2
      · cases h
    · cases h
  · exact kD2.call f args res h
theorem kD3 : KnOk Try.prog kd3 := ⟨kd3_ok, eqTysOk, kD2.callB⟩
def kd4_0_1 (n : Int) (a : Int) (bs : List Int) : CB := if okA a ∧ 1 ≤ n ∧ n ≤ 256 then some (int (pkF bs a n), [(1, .cells [.t (.sl 1 (bs.map bTr)), ci (a + 1)])], 2) else none
def kd4_0_0 (n : Int) (a : Int) (r0 : List (List Tree)) : CB := (unBys r0).bind (kd4_0_1 n a)
def kd4_0 : List TV → List (Nat × AObj) → CB
  | [.c (.ptr 1 0), .c (.t (.v (.int .i64 n)))], [(1, .cells [.t (.sl 1 r0), .t (.v (.int .i64 a))])] => kd4_0_0 n a r0
  | _, _ => none
def kd4_call (f : FuncId) (args : List TV) (o : List (Nat × AObj)) : CB := if f = 86 then orO (kd4_0 args o) (kd3.callB f args o) else kd3.callB f args o
def kd4 : Kn := { call := kd3.call, eqs := eqTys, callB := kd4_call }
attribute [go_sem] kd4_0_0 kd4_0_1 kd4_0 kd4_call kd4
theorem kd4_ok : ∀ f args o res o1 n1, kd4_call f args o = some (res, o1, n1) → TC Try.prog f args o (o.length + 1) res o1 n1 := by
  intro f args o res o1 n1 h
  unfold kd4_call at h
  split at h
  · rename_i e; subst e
    have hh := orO_elim h
    clear h
    rcases hh with h | h
    rotate_left
    · exact kD3.callB _ _ _ _ _ _ h
    unfold kd4_0 at h
    split at h
    · rename_i n r0 a; unfold kd4_0_0 at h
      have hb0 := Option.bind_eq_some_iff.1 h
      clear h
      obtain ⟨bs, e0, h⟩ := hb0
      unfold kd4_0_1 at h
      split at h
      · rename_i hc; cases h; rw [unBys_ok e0]; exact pk_tc bs a n hc.1 hc.2.1 hc.2.2
      · cases h
    · cases h
  · exact kD3.callB f args o res o1 n1 h
theorem kD4 : KnOk Try.prog kd4 := ⟨kD3.call, eqTysOk, kd4_ok⟩
def okS (bs : List Int) : Prop := (∀ n, n ∈ bs → 0 ≤ n ∧ n ≤ 255) ∧ bs.length ≤ 1048576
theorem nx_rng {bs : List Int} {a : Int} (hb : okS bs) (ha : okA a) : 0 ≤ nxF bs a ∧ nxF bs a ≤ 255 := by
  obtain ⟨h1, h2⟩ := hb
  obtain ⟨h3, h4⟩ := ha
  unfold nxF
  split
  · rename_i h
    have hlt : a.toNat < bs.length := by omega
    have hg : bs.getD a.toNat 0 = bs[a.toNat] := by simp [List.getD, List.getElem?_eq_getElem hlt]
    have := h1 _ (List.getElem_mem hlt)
    rw [hg, wrapN (by omega) (by omega)]
    exact this
  · have ht : Int.tdiv a 3 = a / 3 := Int.tdiv_eq_ediv_of_nonneg h3
    rw [ht]
    have w1 : IntKind.i64.wrap (a * 167) = a * 167 := wrapN (by omega) (by omega)
    have w2 : IntKind.i64.wrap (a / 3) = a / 3 := wrapN (by omega) (by omega)
    rw [w1, w2]
    have w3 : IntKind.i64.wrap (a / 3 * 41) = a / 3 * 41 := wrapN (by omega) (by omega)
    rw [w3]
    have w4 : IntKind.i64.wrap (a * 167 + a / 3 * 41) = a * 167 + a / 3 * 41 := wrapN (by omega) (by omega)
    have w5 : IntKind.i64.wrap ((bs.length : Int) * 29) = (bs.length : Int) * 29 := wrapN (by omega) (by omega)
    rw [w4, w5]
    have w6 : IntKind.i64.wrap (a * 167 + a / 3 * 41 + (bs.length : Int) * 29) = a * 167 + a / 3 * 41 + (bs.length : Int) * 29 := wrapN (by omega) (by omega)
    rw [w6, Int.tmod_eq_emod_of_nonneg (by omega)]
    omega
theorem pk_rng {bs : List Int} {a n : Int} (hb : okS bs) (ha : okA a) (hn : 1 ≤ n) : 0 ≤ pkF bs a n ∧ pkF bs a n < n := by
  have h := nx_rng hb ha
  unfold pkF
  rw [Int.tmod_eq_emod_of_nonneg h.1]
  exact ⟨Int.emod_nonneg _ (by omega), Int.emod_lt_of_pos _ (by omega)⟩
def bWr (n : Int) : Int := IntKind.u8.wrap (IntKind.i64.wrap n)
def wordF (bs : List Int) (a : Int) (e : Bool) : ByteArray :=
  if pkF bs a 16 = 0 ∧ e = true then ⟨#[]⟩
  else if pkF bs a 16 = 1 then longF (IntKind.i64.wrap (64 - pkF bs (a + 1) 2)) (IntKind.u8.wrap (IntKind.i64.wrap (97 + pkF bs (a + 1 + 1) 3)))
  else if pkF bs a 16 = 2 then strOfNums [IntKind.u8.wrap (nxF bs (a + 1)), IntKind.u8.wrap (nxF bs (a + 1 + 1))]
  else if pkF bs a 16 < 11 then strOfNums [IntKind.u8.wrap (IntKind.i64.wrap (97 + pkF bs (a + 1) 4))]
  else strOfNums [IntKind.u8.wrap (IntKind.i64.wrap (97 + pkF bs (a + 1) 3)), IntKind.u8.wrap (IntKind.i64.wrap (48 + pkF bs (a + 1 + 1) 10))]
def wordN (bs : List Int) (a : Int) (e : Bool) : Int :=
  if pkF bs a 16 = 0 ∧ e = true then a + 1 else if pkF bs a 16 = 1 then a + 1 + 1 + 1 else if pkF bs a 16 = 2 then a + 1 + 1 + 1 else if pkF bs a 16 < 11 then a + 1 + 1 else a + 1 + 1 + 1
theorem wordN_le (bs : List Int) (a : Int) (e : Bool) : a + 1 ≤ wordN bs a e ∧ wordN bs a e ≤ a + 3 := by
  unfold wordN
  (repeat' split) <;> omega
set_option maxHeartbeats 16000000 in
theorem word_tc (bs : List Int) (a : Int) (e : Bool) (hb : okS bs) (h0 : 0 ≤ a) (h1 : a ≤ 1099511627000) : TC Try.prog 190 [.c (.ptr 1 0), bool e] [(1, .cells [.t (.sl 1 (bs.map bTr)), ci a])] 2 (str (wordF bs a e)) [(1, .cells [.t (.sl 1 (bs.map bTr)), ci (wordN bs a e)])] 2 := by
  have ha : okA a := ⟨h0, by omega⟩
  have ha1 : okA (a + 1) := ⟨by omega, by omega⟩
  have ha2 : okA (a + 1 + 1) := ⟨by omega, by omega⟩
  have r1 := pk_rng (n := 2) hb ha1 (by omega)
  have hw : IntKind.i64.wrap (64 - pkF bs (a + 1) 2) = 64 - pkF bs (a + 1) 2 := wrapN (by omega) (by omega)
  refine tc_intro Try.func190 rfl 51 rfl (Nat.le_of_ble_eq_true rfl) (by decide) [4] rfl dom1 ?_
  intro w0 E0
  have kOk := kD4
  have hp := (show okA a = True ∧ okA (a + 1) = True ∧ okA (a + 1 + 1) = True ∧ (0 ≤ IntKind.i64.wrap (64 - pkF bs (a + 1) 2)) = True ∧ (IntKind.i64.wrap (64 - pkF bs (a + 1) 2) ≤ 1000) = True from ⟨eq_true ha, eq_true ha1, eq_true ha2, eq_true (by omega), eq_true (by omega)⟩)
  cases e
  all_goals
    repeat' (fail_if_success (with_reducible apply amR_id)); first
      | (refine guardP_mk (fun h => ?_) (fun h => ?_) <;> (refine go1 ?_; try simp only [decide_eq_true_eq, decide_eq_false_iff_not, Bool.not_true, Bool.not_false, Bool.not_eq_true', Bool.not_eq_false', beq_iff_eq, bne_iff_ne, beq_eq_false_iff_ne, bne_eq_false_iff_eq, ne_eq, Bool.false_eq_true, reduceCtorEq] at h))
      | (refine hK _ ?_; clear hK K Q1)
      | (refine hK _ _ rfl ?_; clear hK K; try refine go1 ?_)
      | (refine am_retC [(1, 1)] rfl ?_ rfl rfl; first | refine go ?_ | rfl)
      | (refine am_retB [(1, 1)] rfl ?_ ?_ rfl <;> first | refine go ?_ | rfl)
      | (refine wkq ?_)
      | (refine am_rs tabOk kOk rfl fun K Q1 hK => ?_; refine go1 ?_)
      | (refine am_ds mixed tabOk kOk rfl rfl fun K hK => ?_; refine go1 ?_)
      | (refine am_dreg mixed tabOk kOk rfl rfl fun K hK => ?_; refine go1 ?_)
  all_goals first | (exfalso; omega) | (clear hp; simp only [wordF, wordN, Bool.false_eq_true, and_false, and_true, if_false]; simp (disch := omega) only [if_pos, if_neg])
end Go.Proofs.YtgalnkilcajgcaaA
