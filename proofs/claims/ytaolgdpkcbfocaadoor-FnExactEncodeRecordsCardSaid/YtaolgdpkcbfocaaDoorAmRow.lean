/- The calculus: rows made, elements of rows written. -/
import Derived.Test.YtaolgdpkcbfocaaDoorAmEq
import Derived.Laws.MakeOwn
namespace Go.Proofs.YtaolgdpkcbfocaaDoorA
set_option autoImplicit false
set_option linter.unusedVariables false
section
variable {P : Program} {C : Ctx} {Q : Exit → St → Prop} {st : St} {E : Env} {a : Act} {w : World} {Γ : Nat → Option Row} {K : St → Prop} {o : Oper}
theorem mul_lt_row {i n sz : Nat} (h : i < n) : i * sz + sz ≤ n * sz := by
  have := Nat.mul_le_mul_right sz (show i + 1 ≤ n from h)
  rwa [Nat.add_mul, Nat.one_mul] at this
theorem amOp_storeEp (hΓ : TabOk P Γ) {t : TypeId} {x y : Operand} {r : Row} {id i j ty sz : Nat} {xs : List (List Tree)} {row ts : List Tree} (ho : o.op = .store t x y) (ht : Γ t = some r) (hx : st.eval x = .c (.ep id i j)) (hob : st.obj id = some (.arr ty sz xs))
    (hrow : xs[i]? = some row) (hc : tvCells (st.eval y) = some (ts.map .t)) (hl : ts.length = r.size) (hfit : j + ts.length ≤ row.length) (hd : dstOk C.n o = true) (hk : K ((st.setObj id (.arr ty sz (xs.set i (splice row j ts)))).put o.dst (.c .junk))) : amOp P C o Q K st := by
  refine amOp_do hd hk fun E a w h => ?_
  obtain ⟨vs, h1, h2, h3⟩ := tvCells_ok (h.eval y) hc
  have hxx := h.eval x
  rw [hx] at hxx
  obtain ⟨g, sz', cap, h4, h5⟩ := rtC hxx
  rcases h.objs _ _ hob with ⟨h6, _⟩ | ⟨g', cap', cur, h6, h7, h8, h9, h10, h11, h12, h13⟩
  · rw [h4] at h6; cases h6
  rw [h4] at h6; cases h6
  have hrl : row.length = sz := h12 row (List.mem_of_getElem? hrow)
  have hi : i < xs.length := (List.getElem?_eq_some_iff.1 hrow).1
  have hvl : vs.length = ts.length := by have := h2.length; simpa using this
  have hcap : i * sz + sz ≤ cap * sz := mul_lt_row (by omega)
  have hs := step_store h (vs := vs) (g := g) (o := i * sz + j) (obj_pos h hob) (fun k _ => h11 _)
  refine ⟨E, w.setCells g (i * sz + j) vs, ?_, h.step hs rfl h.next h.zero h.npos fun k z hz => ?_⟩
  · obtain ⟨inf, hinf, hsz, _⟩ := (hΓ t r ht).info
    have hx' : a.eval x = .pointer (some ⟨g, i * sz + j, none⟩) := h5
    have hthere : w.there g (i * sz + j) vs.length := fun k hk => by
      refine ⟨?_, frozen_of_row w g _ cur ty h7⟩
      rw [cur_cell h7, Array.getElem?_eq_getElem (by omega)]
      rfl
    have hrun := run_storeAt_any (P := P) (t := t) h1 hthere (by simp [hinf, hsz]; omega) h3
    unfold execOp
    simp only [ho, hx']
    rw [Sem.run_bind, hrun]
    rfl
  · simp only [St.setObj, St.obj, look_upd] at hz
    split at hz
    · rename_i e
      subst e
      cases hz
      right
      obtain ⟨cur', h14, h15, h16⟩ := setCells_cur g vs (i * sz + j) w cur ty (0, 0) h7
      refine .inr ⟨g, cap, cur', h4, h14, by rw [h15]; exact h8, by simpa using h9, h10, h11, fun x' hx' => ?_, fun i' x' hx' j' t' ht' => ?_⟩
      · rcases List.mem_or_eq_of_mem_set hx' with hm | rfl
        · exact h12 _ hm
        · rw [splice_length hfit, hrl]
      · by_cases hii : i' = i
        · subst hii
          rw [List.getElem?_set_self hi] at hx'
          cases hx'
          rw [splice_get hfit] at ht'
          have hj' : j' < sz := by
            split at ht'
            · omega
            · have := (List.getElem?_eq_some_iff.1 ht').1; omega
          rw [h16 (i' * sz + j') (by omega)]
          split at ht'
          · rename_i hin
            rw [if_pos (by omega), show i' * sz + j' - (i' * sz + j) = j' - j by omega]
            have h17 : (ts.map CV.t)[j' - j]? = some (.t t') := by rw [List.getElem?_map, ht']; rfl
            obtain ⟨v, h18, h19⟩ := h2.get h17
            exact ⟨v, h18, hs.rc (x := .t t') h19⟩
          · rename_i hin
            rw [if_neg (by omega)]
            obtain ⟨v, h18, h19⟩ := h13 i' row hrow j' t' ht'
            exact ⟨v, h18, hs.rc (x := .t t') h19⟩
        · rw [List.getElem?_set_ne (Ne.symm hii)] at hx'
          have hi' : i' < xs.length := (List.getElem?_eq_some_iff.1 hx').1
          have hj' : j' < sz := by
            have := (List.getElem?_eq_some_iff.1 ht').1
            rwa [h12 _ (List.mem_of_getElem? hx')] at this
          have hcap' : i' * sz + sz ≤ cap * sz := mul_lt_row (by omega)
          have hout : ¬ (i * sz + j ≤ i' * sz + j' ∧ i' * sz + j' < i * sz + j + vs.length) := by
            rcases Nat.lt_or_gt_of_ne hii with hlt | hlt
            · have : i' * sz + sz ≤ i * sz := mul_lt_row hlt
              omega
            · have : i * sz + sz ≤ i' * sz := mul_lt_row hlt
              omega
          rw [h16 (i' * sz + j') (by omega), if_neg hout]
          obtain ⟨v, h18, h19⟩ := h13 i' x' hx' j' t' ht'
          exact ⟨v, h18, hs.rc (x := .t t') h19⟩
    · rename_i e
      exact .inl ⟨hz, fun e' => e e'⟩
theorem amOp_makeSlice (hΓ : TabOk P Γ) {t e : TypeId} {x y : Operand} {r : Row} {n : Nat} (ho : o.op = .makeSlice t x y) (ht : P.underlying t = some (.slice e)) (he : Γ e = some r) (hx : st.eval x = lit (.int .i64 n)) (hy : st.eval y = lit (.int .i64 n))
    (hb : r.bytes * n ≤ 281474976710656) (hm : n ≤ maxLen) (hd : dstOk C.n o = true) (hK : K ((st.new (.arr e r.size (List.replicate n (r.zero.map .v)))).put o.dst (.c (.own st.next 0 n)))) : amOp P C o Q K st := by
  refine amOp_step hd hK fun E a w hr => ?_
  obtain ⟨i, hi, hsz, hby, ⟨z, hz, hzc, _⟩, hzl, hall, _⟩ := (hΓ e r he).info
  have hzs : z.cells.size = r.size := by rw [← hzl, ← hzc]; simp
  have hf : Flat w (roE E) r.size (List.replicate n (r.zero.map .v)) (madeCells z.cells (n * r.size)).toList := by
    refine ⟨by simp [size_madeCells], fun x hx => ?_, fun i x hx j t htt => ?_⟩
    · obtain ⟨_, rfl⟩ := List.mem_replicate.1 hx
      simp [hzl]
    · rw [List.getElem?_replicate] at hx
      split at hx
      · rename_i hin
        cases hx
        rw [List.getElem?_map] at htt
        cases hzj : r.zero[j]? with
        | none => rw [hzj] at htt; cases htt
        | some u =>
          rw [hzj] at htt
          cases htt
          have hj : j < r.size := by rw [← hzl]; exact (List.getElem?_eq_some_iff.1 hzj).1
          have hcap : i * r.size + r.size ≤ n * r.size := mul_lt_row hin
          refine ⟨u, ?_, .v u (List.all_eq_true.1 hall u (List.mem_of_getElem? hzj))⟩
          have h3 : z.cells[j]? = some u := by rw [← hzc] at hzj; simpa using hzj
          rw [Array.getElem?_toList]
          unfold madeCells
          rw [Array.getElem?_map, Array.getElem?_range]
          rw [if_pos (show i * r.size + j < n * r.size by omega)]
          simp only [Option.map_some, Option.some.injEq]
          rw [hzs, Nat.mul_comm i, Nat.mul_add_mod, Nat.mod_eq_of_lt hj, getElem!_def, h3]
      · cases hx
  have hst := step_new hr (.arr w.heap.size r.size n) (.cells (madeCells z.cells (n * r.size)) e)
  refine ⟨_, .slice (some ⟨w.heap.size, 0, none⟩) n n, w.alloc (.cells (madeCells z.cells (n * r.size)) e), ?_, hr.new (.arr w.heap.size r.size n) _ _ (robj_of_flat (g := w.heap.size) (cap := n) (by simp [Env.new]) (Go.heap_alloc_new w _) (by simp [size_madeCells]) (by simp) hm (fun o => by simp [Env.new]) (hf.mono fun v t h => hst.ro h) (fun k v hv => by simpa using hv)), .inr ⟨w.heap.size, r.size, n, 0, by simp [Env.new], rfl, by omega, fun _ => by omega⟩⟩
  have hxe : a.eval x = .int .i64 n := ro_v (rtT (by have := hr.eval x; rw [hx] at this; exact this))
  have hye : a.eval y = .int .i64 n := ro_v (rtT (by have := hr.eval y; rw [hy] at this; exact this))
  have hrun := run_make (P := P) w t e i z ht hi hz .i64 .i64 n n (by omega) (by omega) (by rw [hby]; omega) (by unfold maxLen at hm; omega)
  unfold execOp
  simp only [ho, hxe, hye]
  rw [Sem.run_bind, hrun]
  simp [hsz]
end
def cvTrees : List CV → Option (List Tree)
  | [] => some []
  | .t x :: l => (cvTrees l).map (x :: ·)
  | _ :: _ => none
theorem cvTrees_ok : ∀ {l : List CV} {ts : List Tree}, cvTrees l = some ts → l = ts.map .t
  | [], ts, h => by cases h; rfl
  | x :: l, ts, h => by
    cases x with
    | t y =>
      simp only [cvTrees] at h
      cases hl : cvTrees l with
      | none => rw [hl] at h; cases h
      | some us => rw [hl] at h; cases h; rw [cvTrees_ok hl]; rfl
    | _ => cases h
end Go.Proofs.YtaolgdpkcbfocaaDoorA
