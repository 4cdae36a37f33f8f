/- The calculus: answers that lie in blocks of the call's own when it returns. -/
import Derived.Test.YthnpbfljoghbmaaB3
namespace Go.Proofs.YthnpbfljoghbmaaA
set_option autoImplicit false
set_option linter.unusedVariables false
section
variable {P : Program} {Γ : Nat → Option Row} {C : Ctx} {Q : Exit → St → Prop} {st : St} {E : Env} {a : Act} {w : World}
theorem load_ok (hΓ : TabOk P Γ) (h : RelE E C st a w) {t : TypeId} {v : Value} {x : TV} {r : Row} {cs : List CV} {y : TV} (hx : RT E w v x) (ht : Γ t = some r) (hb : behindO st.obj x = some cs) (hy : loadTV r cs = some y) :
    ∃ g off u, v = .pointer (some ⟨g, off, none⟩) ∧ (loadVar t ⟨g, off, none⟩).run P w = .ok u w ∧ RT E w u y := by
  rw [behindO_eq] at hb
  obtain ⟨g, off, h1, h2⟩ := behind_ok h hx hb
  have hrow := hΓ t r ht
  obtain ⟨D, hD, hDr⟩ := row_isAgg hrow
  obtain ⟨i, hi, hsz, _⟩ := hrow.info
  unfold loadTV at hy
  split at hy
  · rename_i hisr
    split at hy
    · rename_i hle
      cases hy
      obtain ⟨vs, hv⟩ := reads_of (g := g) (off := off) (cs := cs.take r.size) fun j c hc => by
        rw [List.getElem?_take] at hc
        split at hc
        · exact h2 j c hc
        · cases hc
      have hl := hv.len
      rw [List.length_take, Nat.min_eq_left hle] at hl
      have := run_loadAt_mid (P := P) w g off t vs D hv.range hD (by rw [hDr]; exact hisr) (by simp [hi, hl, hsz])
      exact ⟨g, off, .agg vs.toArray, h1, by simpa [Instr.loadAt, Instr.sureAddr] using this, vs, rfl, hv.rc⟩
    · cases hy
  · rename_i hisr
    split at hy
    · rename_i c cs'
      cases hy
      obtain ⟨u, h3, h4⟩ := h2 0 c rfl
      refine ⟨g, off, u, h1, ?_, h4⟩
      have hagg : (isAgg t).run P w = .ok false w := by
        rw [run_isAgg hD, hDr, Bool.eq_false_iff.mpr hisr]
      have h3' : w.cell? ⟨g, off, none⟩ = some u := h3
      simp [loadVar, hagg, h3']
    · cases hy
def readC (Γ : Nat → Option Row) (st : St) (t : Nat) (x : TV) : Option TV :=
  match Γ t, behindO st.obj x with
  | some r, some cs => loadTV r cs
  | _, _ => none
/-- One answer: a slot, or the block that a slot points to. -/
def retOne (Γ : Nat → Option Row) (st : St) : Tmp × Option Nat → Option TV
  | (t, none) => some (st.get t)
  | (t, some ty) => readC Γ st ty (st.get t)
def retAll (Γ : Nat → Option Row) (st : St) : List (Tmp × Option Nat) → Option (List TV)
  | [] => some []
  | p :: l => (retOne Γ st p).bind fun x => (retAll Γ st l).map (oneTV x :: ·)
def retC (Γ : Nat → Option Row) (st : St) : List (Tmp × Option Nat) → Option TV
  | [p] => retOne Γ st p
  | ps => (retAll Γ st ps).map .tup
def toRV : Tmp × Option Nat → ResultVar
  | (t, none) => .tmp t
  | (t, some ty) => .cell t ty
def kRet (ρ : List (Nat × Nat)) (res y : TV) : Prop := renTV (look · ρ) y = res
def RetC (Γ : Nat → Option Row) (C : Ctx) (rs : List (Tmp × Option Nat)) (res : TV) (objs1 : List (Nat × AObj)) (n1 : Nat) : Exit → St → Prop := fun e st =>
  (e = .ret ∨ e = .normal) ∧ ∃ ρ y, tidyOk C.n0 ρ n1 = true ∧ retC Γ st rs = some y ∧ renTV (look · ρ) y = res ∧ (st.tidy ρ [] n1).objs = objs1
theorem am_retC {rs : List (Tmp × Option Nat)} {res : TV} {objs1 : List (Nat × AObj)} {n1 : Nat} (ρ : List (Nat × Nat)) (hok : tidyOk C.n0 ρ n1 = true) (h : optCase (retC Γ st rs) (kRet ρ res) fls) (h2 : (st.tidy ρ [] n1).objs = objs1) (hQ : Q .ret = RetC Γ C rs res objs1 n1 .ret) : am P C .ret Q st :=
  am_ret (by rw [hQ]; exact optCase_elim h (fun y hy h => ⟨.inl rfl, ρ, y, hok, hy, h, h2⟩) fun _ h => h.elim)
theorem retOne_ok (hΓ : TabOk P Γ) (h : RelE E C st a w) {p : Tmp × Option Nat} {x : TV} (hx : retOne Γ st p = some x) (F : ResultVar → Sem Value) (hF1 : ∀ t, F (.tmp t) = pure (a.tmps.getD t undef)) (hF2 : ∀ b t, F (.cell b t) = do loadVar t (← asAddr (a.tmps.getD b undef))) :
    ∃ v, (F (toRV p)).run P w = .ok v w ∧ RT E w v x := by
  obtain ⟨t, o⟩ := p
  cases o with
  | none => cases hx; exact ⟨_, by rw [toRV, hF1]; rfl, h.eval (.tmp t)⟩
  | some ty =>
    simp only [retOne, readC] at hx
    split at hx
    · rename_i r cs hr hb
      obtain ⟨g, off, u, h1, h2, h3⟩ := load_ok hΓ h (h.eval (.tmp t)) hr hb hx
      refine ⟨u, ?_, h3⟩
      have h1' : a.tmps.getD t undef = .pointer (some ⟨g, off, none⟩) := h1
      simp only [toRV]
      rw [hF2, h1', Sem.run_bind]
      exact h2
    · cases hx
theorem retAll_ok (hΓ : TabOk P Γ) (h : RelE E C st a w) (F : ResultVar → Sem Value) (hF1 : ∀ t, F (.tmp t) = pure (a.tmps.getD t undef)) (hF2 : ∀ b t, F (.cell b t) = do loadVar t (← asAddr (a.tmps.getD b undef))) :
    ∀ {ps : List (Tmp × Option Nat)} {xs : List TV}, retAll Γ st ps = some xs → ∃ vs, ((ps.map toRV).mapM F).run P w = .ok vs w ∧ All2 (RT1 E w) vs xs
  | [], xs, hx => by cases hx; exact ⟨[], rfl, trivial⟩
  | p :: l, xs, hx => by
    simp only [retAll] at hx
    cases h1 : retOne Γ st p with
    | none => rw [h1] at hx; cases hx
    | some x =>
      rw [h1] at hx
      simp only [Option.bind_some] at hx
      cases h2 : retAll Γ st l with
      | none => rw [h2] at hx; cases hx
      | some xs' =>
        rw [h2] at hx
        cases hx
        obtain ⟨v, h3, h4⟩ := retOne_ok hΓ h h1 F hF1 hF2
        obtain ⟨vs, h5, h6⟩ := retAll_ok hΓ h F hF1 hF2 h2
        refine ⟨v :: vs, ?_, ?_, h6⟩
        · rw [List.map_cons, List.mapM_cons, Sem.run_bind, h3, Result.andThen_ok, Sem.run_bind, h5]
          rfl
        · show RT1 E w v (oneTV x)
          cases x with
          | c x => exact h4
          | agg x => exact h4
          | tup x => exact trivial
theorem ret_run (hΓ : TabOk P Γ) (h : RelE E C st a w) {rs : List (Tmp × Option Nat)} {y : TV} (hy : retC Γ st rs = some y) (F : ResultVar → Sem Value) (hF1 : ∀ t, F (.tmp t) = pure (a.tmps.getD t undef)) (hF2 : ∀ b t, F (.cell b t) = do loadVar t (← asAddr (a.tmps.getD b undef))) :
    ∃ v, (do let vs ← List.toArray <$> (rs.map toRV).mapM F; pure (if h : vs.size = 1 then vs[0] else .tuple vs) : Sem Value).run P w = .ok v w ∧ RT E w v y := by
  match rs, hy with
  | [p], hy =>
    obtain ⟨v, h1, h2⟩ := retOne_ok hΓ h (show retOne Γ st p = some y from hy) F hF1 hF2
    refine ⟨v, ?_, h2⟩
    rw [Sem.run_bind, map_eq_pure_bind, Sem.run_bind, List.map_cons, List.mapM_cons, Sem.run_bind, h1]
    rfl
  | [], hy => cases hy; exact ⟨.tuple #[], rfl, [], rfl, trivial⟩
  | p :: q :: l, hy =>
    have hy' : (retAll Γ st (p :: q :: l)).map TV.tup = some y := hy
    cases h1 : retAll Γ st (p :: q :: l) with
    | none => rw [h1] at hy'; cases hy'
    | some xs =>
      rw [h1] at hy'
      cases hy'
      obtain ⟨vs, h2, h3⟩ := retAll_ok hΓ h F hF1 hF2 h1
      have hl := h3.length
      have hxl : xs.length = l.length + 2 := by
        have : ∀ (ps : List (Tmp × Option Nat)) (xs : List TV), retAll Γ st ps = some xs → xs.length = ps.length := by
          intro ps
          induction ps with
          | nil => intro xs h; cases h; rfl
          | cons p ps ih =>
            intro xs h
            simp only [retAll] at h
            cases h1 : retOne Γ st p with
            | none => rw [h1] at h; cases h
            | some x =>
              rw [h1] at h
              simp only [Option.bind_some] at h
              cases h2 : retAll Γ st ps with
              | none => rw [h2] at h; cases h
              | some xs' => rw [h2] at h; cases h; simp [ih _ h2]
        have := this _ _ h1
        simpa using this
      refine ⟨.tuple vs.toArray, ?_, vs, by simp, h3⟩
      rw [Sem.run_bind, map_eq_pure_bind, Sem.run_bind, h2]
      have hne : ¬ vs.toArray.size = 1 := by simp; omega
      show (pure (if h : vs.toArray.size = 1 then vs.toArray[0] else .tuple vs.toArray) : Sem Value).run P w = _
      rw [dif_neg hne]
      rfl
theorem retC_ok (hΓ : TabOk P Γ) (h : RelE E C st a w) {fn : Func} {rs : List (Tmp × Option Nat)} (hrs : fn.results = (rs.map toRV).toArray) {y : TV} (hy : retC Γ st rs = some y) : ∃ v, (results fn a.tmps).run P w = .ok v w ∧ RT E w v y := by
  unfold results
  rw [hrs, List.mapM_toArray]
  exact ret_run hΓ h hy _ (fun _ => rfl) (fun _ _ => rfl)
theorem tc_cell (hΓ : TabOk P Γ) {f : FuncId} {fn : Func} {c : Code} {args : List TV} {objs0 objs1 : List (Nat × AObj)} {n0 n1 : Nat} {res : TV} (hf : P.funcs[f]? = some fn) (hb : fn.body = some c) (N : Nat) (hN : fn.ntmps = N) (hl : args.length ≤ N) (h0 : 0 < n0)
    (rs : List (Tmp × Option Nat)) (hrs : fn.results = (rs.map toRV).toArray) (hdom : ∀ id x, look id objs0 = some x → id < n0)
    (h : ∀ w0 E0, am P ⟨w0, E0, N, n0⟩ c (RetC Γ ⟨w0, E0, N, n0⟩ rs res objs1 n1) ⟨argSlots 0 args, objs0, n0⟩) (hname : (fn.name == "runtime.NumGoroutine") = false := by kernel_rfl) : TC P f args objs0 n0 res objs1 n1 := by
  refine ⟨⟨fn, hf, hname, by rw [hb]; rfl⟩, ?_⟩
  intro E w vs hvs hobjs hnext hzero hfresh hown hpre
  refine calls_of_wp hf hb ?_
  have hlen := hvs.length
  have hrel : Rel ⟨w, E, N, n0⟩ ⟨argSlots 0 args, objs0, n0⟩ { tmps := vs.toArray ++ Array.replicate (fn.ntmps - vs.toArray.size) undef, defers := [] } w := by
    refine ⟨E, fun t x hx => ?_, ?_, rfl, hobjs, hnext, hzero, h0, hnext, ⟨hpre, rfl, rfl, rfl, Nat.le_refl _, fun _ _ h => h, fun b hb => ⟨fun _ => rfl, fun cur ty fr hx => ⟨cur, hx, rfl, fun _ _ => rfl⟩⟩, fun _ _ _ _ => rfl, hfresh, fun b o he => he⟩⟩
    · obtain ⟨_, h2⟩ := argSlots_look hx
      rw [Nat.sub_zero] at h2
      obtain ⟨v, h3, h4⟩ := hvs.get h2
      have ht : t < vs.length := (List.getElem?_eq_some_iff.1 h3).1
      have : (vs.toArray ++ Array.replicate (fn.ntmps - vs.toArray.size) undef).getD t undef = v := by
        rw [Array.getD_eq_getD_getElem?, Array.getElem?_append_left (by simpa using ht)]
        simp [h3]
      show RT E w ((vs.toArray ++ Array.replicate (fn.ntmps - vs.toArray.size) undef).getD t undef) x
      rw [this]
      exact h4
    · simp [hN]; omega
  refine wp_mono (h w E _ w hrel) ?_
  rintro e a w' ⟨st, ⟨he, ρ, y, hok, hy, hres, hobj⟩, E1, hr⟩
  obtain ⟨E', hr', hren⟩ := hr.tidy hok (ts := [])
  have hend : a.defers = [] ∧ ∃ v, (results fn a.tmps).run P w' = .ok v w' ∧ ∃ v' E', Ending.returned v = .returned v' ∧ RT E' w' v' res ∧ FC w E E' w' ∧ (∀ id x, look id objs1 = some x → RObj E' w' id x) ∧ (∀ id, n1 ≤ id → E'.at_ id = none) ∧ E'.at_ 0 = none := by
    obtain ⟨v, h1, h2⟩ := retC_ok hΓ hr hrs hy
    refine ⟨hr'.defers, v, h1, v, E', rfl, ?_, hr'.fc, fun id x hx => hr'.objs _ _ (by rw [← hobj] at hx; exact hx), fun id hid => hr'.next id hid, hr'.zero⟩
    rw [← hres]
    exact hren.rt h2
  rcases he with rfl | rfl
  · exact hend
  · exact hend
end
attribute [go_sem] kRet retC retOne retAll readC
end Go.Proofs.YthnpbfljoghbmaaA
