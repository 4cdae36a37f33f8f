/- The calculus: arrays of one-cell elements, by value and behind an address. -/
import Derived.Test.YtaolgdpkcbfocaaDoorAmMore
namespace Go.Proofs.YtaolgdpkcbfocaaDoorA
set_option autoImplicit false
set_option linter.unusedVariables false
/-- An array's places, one a cell. -/
def idxFs (e : Nat) : List Value → Nat → List (Nat × Nat)
  | [], _ => []
  | _ :: l, k => (k, e) :: idxFs e l (k + 1)
theorem idxFs_get {e : Nat} : ∀ {l : List Value} {k j : Nat} {p : Nat × Nat}, (idxFs e l k)[j]? = some p → p = (k + j, e) ∧ j < l.length
  | [], _, _, _, h => by simp [idxFs] at h
  | v :: l, k, 0, p, h => by simp [idxFs] at h; subst h; simp
  | v :: l, k, j + 1, p, h => by
    simp only [idxFs, List.getElem?_cons_succ] at h
    obtain ⟨h1, h2⟩ := idxFs_get h
    subst h1
    exact ⟨by rw [show k + 1 + j = k + (j + 1) by omega], by simp; omega⟩
section
variable {P : Program} {C : Ctx} {Q : Exit → St → Prop} {st : St} {E : Env} {a : Act} {w : World} {Γ : Nat → Option Row} {K : St → Prop} {o : Oper}
theorem amOp_buildArr (hΓ : TabOk P Γ) {t n e : Nat} {parts : Array (Nat × Operand)} {r q : Row} {cs : List CV} (ho : o.op = .build t parts) (ht : Γ t = some r) (hk : r.k = .arr n e) (hq : Γ e = some q) (hq1 : q.size = 1)
    (hc : fillC Γ (idxFs e r.zero 0) (r.zero.map fun v => .t (.v v)) (parts.toList.map fun p => (p.1, st.eval p.2)) = some cs) (hd : dstOk C.n o = true) (hK : K (st.put o.dst (.agg cs))) : amOp P C o Q K st := by
  refine amOp_pure hd hK fun E a w hr => ?_
  have hrow := hΓ t r ht
  have hu := hrow.k
  rw [hk] at hu
  obtain ⟨i, hi, hsz, _, ⟨z, hz, hzc, hzz⟩, hzl, hall, _⟩ := hrow.info
  have hvs : All2 (fun (v : Nat × Value) (p : Nat × TV) => v.1 = p.1 ∧ RT E w v.2 p.2) (parts.toList.map fun p => (p.1, a.eval p.2)) (parts.toList.map fun p => (p.1, st.eval p.2)) := by
    generalize parts.toList = l
    induction l with
    | nil => trivial
    | cons p l ih => exact ⟨⟨rfl, hr.eval p.2⟩, ih⟩
  obtain ⟨cells', h1, h2⟩ := fillC_ok (place := fun i => some (i * 1, 1)) (fs := idxFs e r.zero 0) (fun k off sz hp => by
    unfold placeT at hp
    cases hf : (idxFs e r.zero 0)[k]? with
    | none => rw [hf] at hp; cases hp
    | some p =>
      rw [hf] at hp
      obtain ⟨rfl, _⟩ := idxFs_get hf
      simp only [hq, Option.map_some] at hp
      cases hp
      simp [hq1]) hvs (cells := z.cells) (by rw [hzc]; exact all2_zero hall) hc
  refine ⟨.agg cells', ?_, cells'.toList, by simp, h2⟩
  have hb : (Instr.build t (parts.map fun (i, x) => (i, a.eval x))).run P w = .ok (.agg cells') w := by
    unfold Instr.build
    have hz' : (zeroValue t).run P w = .ok z w := by simp [zeroValue, typeInfo, hi, hz]
    have hs1 := run_sizeOf (w := w) hΓ hq
    rw [hq1] at hs1
    have h3 : (parts.map fun (i, x) => (i, a.eval x)).toList = parts.toList.map fun p => (p.1, a.eval p.2) := by simp
    rw [Sem.run_bind, hz', Result.andThen_ok, Sem.run_bind, run_underlying hu, Result.andThen_ok]
    simp only [Sem.run_bind, hs1, Result.andThen_ok, h3, h1]
    rfl
  unfold execOp
  simp only [ho]
  rw [Sem.run_bind, hb]
  rfl
theorem amOp_indexArr (hΓ : TabOk P Γ) {t n e : Nat} {x ix : Operand} {r q : Row} {xs : List CV} {c : CV} {k : IntKind} {i : Int} (ho : o.op = .index t x ix) (ht : Γ t = some r) (hk : r.k = .arr n e) (hq : Γ e = some q) (hrow0 : q.k.isRow = false)
    (hx : st.eval x = .agg xs) (hi : st.eval ix = lit (.int k i)) (h0 : 0 ≤ i) (hn : i < n) (hc : xs[i.toNat]? = some c) (hd : dstOk C.n o = true) (hK : K (st.put o.dst (.c c))) : amOp P C o Q K st := by
  refine amOp_pure hd hK fun E a w hr => ?_
  have hu := (hΓ t r ht).k
  rw [hk] at hu
  obtain ⟨_, hi', hsz, _, _, _, _, hs1⟩ := (hΓ e q hq).info
  have hq1 := hs1 hrow0
  obtain ⟨D, hD, hDr⟩ := row_isAgg (hΓ e q hq)
  have h1 := hr.eval x
  rw [hx] at h1
  obtain ⟨vs, h2, h3⟩ := h1
  obtain ⟨v, h4, h5⟩ := h3.get hc
  refine ⟨v, ?_, h5⟩
  have hs2 := run_sizeOf (w := w) hΓ hq
  rw [hq1] at hs2
  have hpart : (part e vs.toArray (i.toNat * 1)).run P w = .ok v w := by
    have hagg : (isAgg e).run P w = .ok false w := by rw [run_isAgg hD, hDr, hrow0]
    simp [part, hagg, h4]
  have h9 : 0 ≤ i ∧ i < (n : Int) := ⟨h0, hn⟩
  have hb : (Instr.index t (a.eval x) (a.eval ix)).run P w = .ok v w := by
    rw [h2, hr.lit hi]
    unfold Instr.index
    simp only [asIntOf, Sem.run_bind, Sem.run_pure, Result.andThen_ok, run_underlying hu]
    rw [if_pos h9]
    simp only [Sem.run_bind, hs2, Result.andThen_ok, hpart]
  unfold execOp
  simp only [ho]
  rw [Sem.run_bind, hb]
  rfl
theorem amOp_indexPtr (hΓ : TabOk P Γ) {t n e : Nat} {x ix : Operand} {r q : Row} {id off : Nat} {k : IntKind} {i : Int} (ho : o.op = .indexAddr t x ix) (ht : Γ t = some r) (hk : r.k = .arr n e) (hq : Γ e = some q)
    (hx : st.eval x = .c (.ptr id off)) (hi : st.eval ix = lit (.int k i)) (h0 : 0 ≤ i) (hn : i < n) (hd : dstOk C.n o = true) (hK : K (st.put o.dst (.c (.ptr id (off + i.toNat * q.size))))) : amOp P C o Q K st := by
  refine amOp_pure hd hK fun E a w hr => ?_
  have hu := (hΓ t r ht).k
  rw [hk] at hu
  have h1 := hr.eval x
  rw [hx] at h1
  obtain ⟨g, base, h2, h3⟩ := rtC h1
  refine ⟨.pointer (some ⟨g, base + (off + i.toNat * q.size), none⟩), ?_, g, base, h2, rfl⟩
  have h9 : 0 ≤ i ∧ i < (n : Int) := ⟨h0, hn⟩
  have hii := hr.lit hi
  simp [execOp, ho, h3, hii, Instr.indexAt, Instr.sureAddr, asIntOf, run_underlying hu, h9, run_sizeOf hΓ hq, Addr.add_mid, Nat.add_assoc]
end
end Go.Proofs.YtaolgdpkcbfocaaDoorA
