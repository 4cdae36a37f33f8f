/- The calculus: a region that draws its order, walked in the order of the text. -/
import Derived.Test.YthnpbfljoghbmaaAmCong
namespace Go.Proofs.YthnpbfljoghbmaaA
set_option autoImplicit false
set_option linter.unusedVariables false

def idOf : TV → List Nat
  | .c (.ptr id _) => [id]
  | .c (.ep id _ _) => [id]
  | .c (.own id _ _) => [id]
  | _ => []
def readIds (ev : Operand → TV) : Op → List Nat
  | .load _ x => idOf (ev x)
  | .indexAddr _ x _ => idOf (ev x)
  | .slice _ x _ _ _ => idOf (ev x)
  | .convert _ _ x => idOf (ev x)
  | _ => []
theorem behindO_congr {obj obj' : Nat → Option AObj} {x : TV} (h : ∀ id, id ∈ idOf x → obj id = obj' id) : behindO obj x = behindO obj' x := by
  unfold behindO
  split <;> first | rfl | (rw [h _ (by simp [idOf])])
theorem pureStr_congr {obj obj' : Nat → Option AObj} {x : TV} (h : ∀ id, id ∈ idOf x → obj id = obj' id) : pureStr obj x = pureStr obj' x := by
  unfold pureStr
  split <;> first | rfl | (rw [h _ (by simp [idOf])])
theorem cutSize_congr {obj obj' : Nat → Option AObj} {r : Row} {x : TV} (h : ∀ id, id ∈ idOf x → obj id = obj' id) : cutSize obj r x = cutSize obj' r x := by
  unfold cutSize
  split <;> first | rfl | (rw [h _ (by simp [idOf])])
theorem pureIndexAddr_congr {Γ : Nat → Option Row} {obj obj' : Nat → Option AObj} {t : Nat} {x i : TV} (h : ∀ id, id ∈ idOf x → obj id = obj' id) : pureIndexAddr Γ obj t x i = pureIndexAddr Γ obj' t x i := by
  unfold pureIndexAddr
  split
  · rfl
  · unfold pureIndexSl
    split
    · split
      · split <;> first | rfl | (rw [h _ (by simp [idOf])])
      · rfl
    · rfl
theorem cutB_congr {ev ev' : Operand → TV} {lo hi : Option Operand} {n : Nat} (h1 : ∀ x, lo = some x → ev x = ev' x) (h2 : ∀ x, hi = some x → ev x = ev' x) : cutB ev lo hi n = cutB ev' lo hi n := by
  cases lo with
  | none => cases hi with
    | none => rfl
    | some y => simp only [cutB, h2 y rfl]
  | some x => cases hi with
    | none => simp only [cutB, h1 x rfl]
    | some y => simp only [cutB, h1 x rfl, h2 y rfl]
theorem pureVal_congr {Γ : Nat → Option Row} {ev ev' : Operand → TV} {obj obj' : Nat → Option AObj} {op : Op} (h : ∀ x, x ∈ op.operands.toList → ev x = ev' x) (h2 : ∀ id, id ∈ readIds ev op → obj id = obj' id) : pureVal Γ ev obj op = pureVal Γ ev' obj' op := by
  cases op
  case load t x =>
    have h1 : ev x = ev' x := h x (by simp [Op.operands])
    simp only [pureVal]
    rw [behindO_congr h2, h1]
  case indexAddr t x i =>
    have h1 : ev x = ev' x := h x (by simp [Op.operands])
    have h3 : ev i = ev' i := h i (by simp [Op.operands])
    simp only [pureVal]
    rw [pureIndexAddr_congr h2, h1, h3]
  case convert t d x =>
    have h1 : ev x = ev' x := h x (by simp [Op.operands])
    simp only [pureVal, pureConvB]
    rw [pureStr_congr h2, h1]
  case slice t x lo hi mx =>
    have h1 : ev x = ev' x := h x (by simp [Op.operands])
    cases mx with
    | some _ => rfl
    | none =>
      simp only [pureVal, pureCut]
      have h3 : ∀ n, cutB ev lo hi n = cutB ev' lo hi n := fun n => cutB_congr (fun y hy => h y (by simp [Op.operands, hy])) (fun y hy => h y (by simp [Op.operands, hy]))
      have h4 : ∀ r, cutSize obj r (ev' x) = cutSize obj' r (ev' x) := fun r => by rw [← h1]; exact cutSize_congr h2
      simp only [h3, h4, h1]
  case build t parts =>
    have h3 : (parts.toList.map fun p => (p.1, ev p.2)) = parts.toList.map fun p => (p.1, ev' p.2) := List.map_congr_left fun p hp => by
      rw [h p.2 (by simp only [Op.operands]; simp; exact ⟨p.1, by simpa using hp⟩)]
    simp only [pureVal, pureBuild, evMap, h3]
  case call c =>
    simp only [pureVal]
    split
    · rename_i x t h3 h4 h5
      rw [h x (by simp [Op.operands, Call.operands, h4])]
    · rename_i b x y h3 h4
      rw [h x (by simp [Op.operands, Call.operands, h4]), h y (by simp [Op.operands, Call.operands, h4])]
    · rfl
  all_goals
    simp only [pureVal]
    try simp only [Op.operands, List.mem_cons, List.not_mem_nil, or_false, forall_eq_or_imp, forall_eq] at h
    try simp only [h]

section
variable {P : Program} {Γ : Nat → Option Row} {kn : Kn} {C : Ctx} {ops : Array Oper} {o : Oper} {s0 : St}
theorem eval_agree {st s0 : St} {x : Operand} (h : ∀ t, t ∈ tmpOf x → look t st.tmps = look t s0.tmps) : st.eval x = s0.eval x := by
  cases x with
  | tmp t => simp only [St.eval, St.get]; rw [h t (by simp [tmpOf])]
  | const v => rfl
  | global g => rfl
  | func f => rfl
theorem uses_op {x : Operand} (hx : x ∈ o.op.operands.toList) {t : Nat} (ht : t ∈ tmpOf x) : t ∈ uses ops.toList o := by
  unfold uses
  exact List.mem_append_left _ (List.mem_flatMap.2 ⟨x, hx, ht⟩)
/-- The operation is carried out. -/
def Goes (ops : Array Oper) (o : Oper) (s0 : St) : Prop :=
  match o.guard with
  | none => True
  | some (j, want) => ∃ d, dstAt ops.toList j = some d ∧ look d s0.tmps = some (lit (.bool want))
theorem opOK_of {it : Item} (hg : Goes ops o s0) (h : ∀ st : St, (∀ x, x ∈ o.op.operands.toList → st.eval x = s0.eval x) → (∀ id, id ∈ it.rd → st.obj id = s0.obj id) → (it.al ≠ 0 → st.next = s0.next) → ∀ (Q : Exit → St → Prop) (K : St → Prop), (∀ st', EqV st' (app o it st) → K st') → amOp P C o Q K st) :
    OpOK P C ops o it s0 := by
  intro st h1 h2 h3 Q a w hr next hn
  have hgo := h st (fun x hx => eval_agree fun t ht => h1 t (uses_op hx ht)) h2 h3 Q (fun st' => EqV st' (app o it st)) (fun _ h => h) a w hr next fun a' w' ⟨st', he, hr'⟩ => hn a' w' (he.rel hr')
  have hw : Region.wanted o (yielded ops a.tmps) = true := by
    unfold Goes at hg
    split at hg
    · rename_i hgu; simp [Region.wanted, hgu]
    · rename_i j want hgu
      obtain ⟨d, hd, hl⟩ := hg
      have hl' : look d st.tmps = some (lit (.bool want)) := by
        rw [h1 d (List.mem_append_right _ (by rw [hgu]; simp [hd]))]; exact hl
      obtain ⟨E, hr⟩ := hr
      have := (yielded_ok (ops := ops) (j := j) hr (by rw [dstAt_eq, Array.getElem?_toList] at hd; exact hd) hl').1
      simp [Region.wanted, hgu, this]
  rw [if_pos hw]
  exact hgo
/-- It is passed over. -/
def skipIt : Item := ⟨.tup [], [], [], [], 0⟩
theorem opOK_skip (hd : dstOk C.n o = true) {j d : Nat} {want : Bool} (hgu : o.guard = some (j, want)) (hdst : dstAt ops.toList j = some d) (hl : look d s0.tmps = some (lit (.bool (!want))) ∨ look d s0.tmps = some (.tup [])) : OpOK P C ops o skipIt s0 := by
  intro st h1 h2 h3 Q a w ⟨E, hr⟩ next hn
  have hl' : look d st.tmps = look d s0.tmps := h1 d (List.mem_append_right _ (by rw [hgu]; simp [hdst]))
  have hdst' : (ops[j]?).bind (·.dst) = some d := by rw [dstAt_eq, Array.getElem?_toList] at hdst; exact hdst
  have hw : Region.wanted o (yielded ops a.tmps) = false := by
    rcases hl with hl | hl
    · have := (yielded_ok (ops := ops) (j := j) hr hdst' (hl'.trans hl)).1
      simp [Region.wanted, hgu, this]
    · have := yielded_none (ops := ops) (j := j) hr hdst' (hl'.trans hl)
      simp [Region.wanted, hgu, this]
  rw [if_neg (by rw [hw]; simp)]
  refine hn _ _ ((EqV.rel (s := st.put o.dst (.tup [])) ?_) ⟨E, hr.put (x := .tup []) rt_undef (dstOk_lt hd)⟩)
  unfold app skipIt St.put
  cases o.dst <;> exact EqV.refl _
theorem put_app {st : St} {X : TV} {rd : List Nat} : EqV (st.put o.dst X) (app o ⟨X, rd, [], [], 0⟩ st) := by
  unfold app St.put
  cases o.dst <;> exact EqV.refl _
theorem opOK_pure (hΓ : TabOk P Γ) (hd : dstOk C.n o = true) (hg : Goes ops o s0) {X : TV} (h : pureVal Γ s0.eval s0.obj o.op = some X) : OpOK P C ops o ⟨X, readIds s0.eval o.op, [], [], 0⟩ s0 := by
  refine opOK_of hg fun st h1 h2 h3 Q K hK => ?_
  have he := pureVal_congr (Γ := Γ) (ev := s0.eval) (ev' := st.eval) (obj := s0.obj) (obj' := st.obj) (op := o.op) (fun x hx => (h1 x hx).symm) fun id hid => (h2 id hid).symm
  exact pureVal_ok hΓ hd (by rw [← he]; exact h) (hK _ put_app)
theorem opOK_box (hd : dstOk C.n o = true) (hg : Goes ops o s0) {t : TypeId} {x : Operand} {cs : List CV} (ho : o.op = .box t x) (hc : tvCells (s0.eval x) = some cs) : OpOK P C ops o ⟨.c (.ptr s0.next 0), [], [(s0.next, .cells cs)], [], 1⟩ s0 := by
  refine opOK_of hg fun st h1 h2 h3 Q K hK => ?_
  have hn : st.next = s0.next := h3 (by simp)
  refine amOp_box ho (by rw [h1 x (by rw [ho]; simp [Op.operands])]; exact hc) hd (hK _ ?_)
  rw [hn]
  unfold app St.put St.new
  rw [hn]
  cases o.dst <;> exact EqV.refl _
theorem opOK_alloc (hΓ : TabOk P Γ) (hd : dstOk C.n o = true) (hg : Goes ops o s0) {t : TypeId} {r : Row} (ho : o.op = .alloc t) (ht : Γ t = some r) : OpOK P C ops o ⟨.c (.ptr s0.next 0), [], [(s0.next, .cells (r.zero.map fun v => .t (.v v)))], [], 1⟩ s0 := by
  refine opOK_of hg fun st h1 h2 h3 Q K hK => ?_
  have hn : st.next = s0.next := h3 (by simp)
  refine amOp_alloc hΓ ho ht hd (hK _ ?_)
  rw [hn]
  unfold app St.put St.new
  rw [hn]
  cases o.dst <;> exact EqV.refl _
theorem opOK_store (hΓ : TabOk P Γ) (hd : dstOk C.n o = true) (hg : Goes ops o s0) {t : TypeId} {x y : Operand} {r : Row} {id off : Nat} {xs cs : List CV} (ho : o.op = .store t x y) (ht : Γ t = some r) (hx : s0.eval x = .c (.ptr id off)) (hob : s0.obj id = some (.cells xs))
    (hc : tvCells (s0.eval y) = some cs) (hl : cs.length = r.size) (hfit : off + cs.length ≤ xs.length) : OpOK P C ops o ⟨.c .junk, [id], [(id, .cells (splice xs off cs))], [], 0⟩ s0 := by
  refine opOK_of hg fun st h1 h2 h3 Q K hK => ?_
  refine amOp_storePtr hΓ ho ht (by rw [h1 x (by rw [ho]; simp [Op.operands])]; exact hx) (by rw [h2 id (by simp)]; exact hob) (by rw [h1 y (by rw [ho]; simp [Op.operands])]; exact hc) hl hfit hd (hK _ ?_)
  unfold app St.put St.setObj
  cases o.dst <;> exact EqV.refl _

theorem opOK_storeN (hΓ : TabOk P Γ) (hd : dstOk C.n o = true) (hg : Goes ops o s0) {t : TypeId} {x y : Operand} {p : Nat × Nat × Nat × List (List NC)} (ho : o.op = .store t x y) (h : epN Γ s0 t x y = some p) : OpOK P C ops o ⟨.c .junk, [p.1], [(p.1, .nest p.2.1 p.2.2.1 p.2.2.2)], [], 0⟩ s0 := by
  refine opOK_of hg fun st h1 h2 h3 Q K hK => ?_
  refine epN_ok hΓ ho (p := p) ?_ hd (show kStoreN K st o.dst p from hK _ (by unfold app St.put St.setObj; cases o.dst <;> exact EqV.refl _))
  unfold epN at h ⊢
  rw [h1 x (by rw [ho]; simp [Op.operands]), h1 y (by rw [ho]; simp [Op.operands])]
  split at h
  · rename_i r id i j ts hr hx hts
    split at h
    · rename_i ty sz xs hob
      split at h
      · rename_i row hrow
        split at h
        · rename_i hl
          cases h
          simp only [h2 id (by simp), hob, hrow, if_pos hl]
        · cases h
      · cases h
    · cases h
  · cases h
def idsTV : TV → List Nat
  | .c x => idOf (.c x)
  | .agg xs => xs.flatMap fun x => idOf (.c x)
  | .tup _ => []
theorem convCV_congr {m : Bool} {st s0 : St} {ρ : List Nat} {x : CV} (h : ∀ id, id ∈ idOf (.c x) → st.obj id = s0.obj id) : convCV m st ρ x = convCV m s0 ρ x := by
  cases x with
  | own id lo len => simp only [convCV]; rw [h id (by simp [idOf])]
  | _ => rfl
theorem convTV_congr {m : Bool} {st s0 : St} {ρ : List Nat} {x : TV} (h : ∀ id, id ∈ idsTV x → st.obj id = s0.obj id) : convTV m st ρ x = convTV m s0 ρ x := by
  cases x with
  | c x => simp only [convTV]; rw [convCV_congr h]
  | agg xs =>
    simp only [convTV]
    congr 2
    refine List.map_congr_left fun x hx => convCV_congr fun id hid => h id (List.mem_flatMap.2 ⟨x, hx, hid⟩)
  | tup xs => rfl
theorem opOK_eq (hΓ : TabOk P Γ) {eqs : List Nat} (he : ∀ t, t ∈ eqs → EqTyOk P t) (hd : dstOk C.n o = true) (hg : Goes ops o s0) {op : BinOp} {t yt : TypeId} {x y : Operand} {X : TV} (ho : o.op = .binOp op t x y yt) (h : eqVal Γ eqs op t (s0.eval x) (s0.eval y) = some X) : OpOK P C ops o ⟨X, [], [], [], 0⟩ s0 :=
  opOK_of hg fun st h1 h2 h3 Q K hK => eqVal_ok hΓ he ho (by rw [h1 x (by rw [ho]; simp [Op.operands]), h1 y (by rw [ho]; simp [Op.operands])]; exact h) hd (hK _ put_app)
/-- A call that is handed no block and hands back none, in whatever order. -/
theorem opOK_q (hd : dstOk C.n o = true) (hg : Goes ops o s0) (m : Bool) {f : FuncId} {xs : Array Operand} {ts : Array TypeId} {args : List TV} {res : TV} (ho : o.op = .call { callee := .value (.func f), args := xs, argTypes := ts }) (htc : TC P f args [] 1 res [] 1)
    (hargs : allSome (xs.toList.map fun x => convTV m s0 [] (s0.eval x)) = some args) (hflat : m = true → flatTV res) (hres : ∀ f, renTV f res = res) : OpOK P C ops o ⟨res, xs.toList.flatMap fun x => idsTV (s0.eval x), [], [], 0⟩ s0 := by
  refine opOK_of hg fun st h1 h2 h3 Q K hK => ?_
  refine amOp_q hd m ho htc ?_ hflat hres (hK _ put_app)
  rw [← hargs]
  congr 1
  refine List.map_congr_left fun x hx => ?_
  rw [h1 x (by rw [ho]; simp only [Op.operands, Call.operands]; simp; right; simpa using hx)]
  exact convTV_congr fun id hid => h2 id (List.mem_flatMap.2 ⟨x, hx, hid⟩)

theorem opOK_callB (hkn : KnOk P kn) (hd : dstOk C.n o = true) (hg : Goes ops o s0) {c : Call} (ho : o.op = .call c) {p : BRes} (h : callBL kn s0 c = some p) : OpOK P C ops o (itemB s0.next p) s0 := by
  refine opOK_of hg fun st h1 h2 h3 Q K hK => ?_
  have he : ∀ x, x ∈ c.args.toList → st.eval x = s0.eval x := fun x hx => h1 x (by rw [ho]; simp only [Op.operands, Call.operands]; simp; right; simpa using hx)
  have h4 : callBV kn st c = some p := by
    rw [callBV_congr he fun j hj => h2 j (by show j ∈ p.1; rw [callBV_ids (callBL_some h).1]; exact hj)]
    exact (callBL_some h).1
  refine callBV_ok hkn hd ho h4 (hK _ ?_)
  rw [item_eq h h3]
  exact back_eqv
theorem opOK_buildSlice (hΓ : TabOk P Γ) (hd : dstOk C.n o = true) (hg : Goes ops o s0) {t e : TypeId} {len : Nat} {parts : Array (Nat × Operand)} {r : Row} {xs : List (List Tree)} (ho : o.op = .buildSlice t len parts) (ht : P.underlying t = some (.slice e)) (he : Γ e = some r)
    (hc : rowsFrom r.size 0 (parts.toList.map fun p => (p.1, s0.eval p.2)) = some xs) (hl : parts.size = len) (hn : len * r.size ≤ 16777216) (hpos : 0 < r.size) : OpOK P C ops o ⟨.c (.own s0.next 0 len), [], [(s0.next, .arr e r.size xs)], [], 1⟩ s0 := by
  refine opOK_of hg fun st h1 h2 h3 Q K hK => ?_
  have hnx : st.next = s0.next := h3 (by simp)
  have h4 : (parts.toList.map fun p => (p.1, st.eval p.2)) = parts.toList.map fun p => (p.1, s0.eval p.2) := List.map_congr_left fun p hp => by
    rw [h1 p.2 (by rw [ho]; simp only [Op.operands]; simp; exact ⟨p.1, by simpa using hp⟩)]
  refine amOp_buildSlice hΓ ho ht he (by rw [h4]; exact hc) hl hn hpos hd (hK _ ?_)
  rw [hnx]
  unfold app St.put St.new
  rw [hnx]
  cases o.dst <;> exact EqV.refl _

theorem dstOf_congr {st s0 : St} {e sz : Nat} {x : TV} (h : ∀ id, id ∈ idsTV x → st.obj id = s0.obj id) : dstOf st e sz x = dstOf s0 e sz x := by
  unfold dstOf
  split <;> first | rfl | (rw [h _ (by simp [idsTV, idOf])])
theorem srcOf_congr {st s0 : St} {sz : Nat} {x : TV} (h : ∀ id, id ∈ idsTV x → st.obj id = s0.obj id) : srcOf st sz x = srcOf s0 sz x := by
  unfold srcOf
  split <;> first | rfl | (rw [h _ (by simp [idsTV, idOf])])
theorem appPrep_congr {st s0 : St} {c : Call} (he : ∀ x, x ∈ c.args.toList → st.eval x = s0.eval x) (h : ∀ id, id ∈ c.args.toList.flatMap (fun x => idsTV (s0.eval x)) → st.obj id = s0.obj id) : appPrep Γ st c = appPrep Γ s0 c := by
  unfold appPrep
  split
  · rename_i x y t tx h1 h2 h3
    rw [h2] at he h
    rw [he x (by simp), he y (by simp)]
    have g1 : ∀ e sz, dstOf st e sz (s0.eval x) = dstOf s0 e sz (s0.eval x) := fun e sz => dstOf_congr fun id hid => h id (List.mem_flatMap.2 ⟨x, by simp, hid⟩)
    have g2 : ∀ sz, srcOf st sz (s0.eval y) = srcOf s0 sz (s0.eval y) := fun sz => srcOf_congr fun id hid => h id (List.mem_flatMap.2 ⟨y, by simp, hid⟩)
    simp only [g1, g2]
  · rfl
def itemApp (nx : Nat) (ids : List Nat) (p : Nat × Row × Option Nat × List (List Tree) × List (List Tree)) : Item := ⟨.c (.own nx 0 (p.2.2.2.1.length + p.2.2.2.2.length)), ids, [(nx, .arr p.1 p.2.1.size (p.2.2.2.1 ++ p.2.2.2.2))], p.2.2.1.toList, 1⟩
theorem opOK_app (hΓ : TabOk P Γ) (hkn : KnOk P kn) (hd : dstOk C.n o = true) (hg : Goes ops o s0) {c : Call} (ho : o.op = .call c) {p : Nat × Row × Option Nat × List (List Tree) × List (List Tree)} (h : appPrep Γ s0 c = some p)
    (hb : (p.2.2.2.1.length + p.2.2.2.2.length) * p.2.1.bytes ≤ 140737488355328) (hm : p.2.2.2.1.length + p.2.2.2.2.length ≤ maxLen) : OpOK P C ops o (itemApp s0.next (c.args.toList.flatMap fun x => idsTV (s0.eval x)) p) s0 := by
  refine opOK_of hg fun st h1 h2 h3 Q K hK => ?_
  have hnx : st.next = s0.next := h3 (by simp [itemApp])
  have he : ∀ x, x ∈ c.args.toList → st.eval x = s0.eval x := fun x hx => h1 x (by rw [ho]; simp only [Op.operands, Call.operands]; simp; right; simpa using hx)
  have h4 : appPrep Γ st c = some p := by rw [appPrep_congr he h2]; exact h
  refine heavyOp_ok hΓ hkn hd ?_
  unfold heavyOp
  rw [ho]
  simp only
  rw [h4]
  refine ⟨hb, hm, hK _ ?_⟩
  obtain ⟨e, r, old, xs, ys⟩ := p
  cases old with
  | none =>
    simp only [itemApp, St.delOpt, hnx]
    unfold app St.put St.new
    rw [hnx]
    cases o.dst <;> exact EqV.refl _
  | some id =>
    simp only [itemApp, St.delOpt, hnx]
    unfold app St.put St.new St.delObj
    simp only [hnx]
    cases o.dst <;> exact EqV.refl _

/-! ### Maps -/
def mid : TV → List Nat
  | .c (.mp id) => [id]
  | _ => []
theorem mapOf_congr {st s0 : St} {d : Option IntKind} {m : Operand} (h1 : st.eval m = s0.eval m) (h2 : ∀ id, id ∈ mid (s0.eval m) → st.obj id = s0.obj id) : mapOf st d m = mapOf s0 d m := by
  unfold mapOf
  rw [h1]
  split
  · rename_i id hm
    rw [h2 id (by rw [hm]; simp [mid])]
  · rfl
theorem keyOf_congr {st s0 : St} {d : Option IntKind} {k : Operand} (h1 : st.eval k = s0.eval k) : keyOf st d k = keyOf s0 d k := by
  unfold keyOf
  rw [h1]
theorem opOK_get (hΓ : TabOk P Γ) (hd : dstOk C.n o = true) (hg : Goes ops o s0) {t : Nat} {m k : Operand} {c : Bool} {p : Option (Nat × Value) × Row} (ho : o.op = .lookup t m k c) (hp : getPrep Γ s0 t m k = some p) : OpOK P C ops o ⟨getTV c p.1 p.2, mid (s0.eval m), [], [], 0⟩ s0 := by
  refine opOK_of hg fun st h1 h2 h3 Q K hK => ?_
  have e1 : st.eval m = s0.eval m := h1 m (by rw [ho]; simp [Op.operands])
  have e2 : st.eval k = s0.eval k := h1 k (by rw [ho]; simp [Op.operands])
  have hp' : getPrep Γ st t m k = some p := by
    rw [← hp]
    unfold getPrep
    simp only [mapOf_congr e1 h2, keyOf_congr e2]
  exact getPrep_ok hΓ ho hp' hd (hK _ put_app)
def setItem (x : TV) (rd : List Nat) (q : Nat × Option IntKind × List (Value × Value)) : Item := ⟨x, rd, [(q.1, .mp q.2.1 q.2.2)], [], 0⟩
theorem set_app {st : St} {X : TV} {rd : List Nat} {q : Nat × Option IntKind × List (Value × Value)} : EqV ((st.setObj q.1 (.mp q.2.1 q.2.2)).put o.dst X) (app o (setItem X rd q) st) := by
  unfold app setItem St.put St.setObj
  cases o.dst <;> exact EqV.refl _
theorem opOK_upd (hΓ : TabOk P Γ) (hd : dstOk C.n o = true) (hg : Goes ops o s0) {t : Nat} {m k v : Operand} {p : Nat × Option IntKind × List (Value × Value)} (ho : o.op = .mapUpdate t m k v) (hp : updPrep Γ s0 t m k v = some p) : OpOK P C ops o (setItem (.c .junk) (mid (s0.eval m)) p) s0 := by
  refine opOK_of hg fun st h1 h2 h3 Q K hK => ?_
  have e1 : st.eval m = s0.eval m := h1 m (by rw [ho]; simp [Op.operands])
  have e2 : st.eval k = s0.eval k := h1 k (by rw [ho]; simp [Op.operands])
  have e3 : st.eval v = s0.eval v := h1 v (by rw [ho]; simp [Op.operands])
  have hp' : updPrep Γ st t m k v = some p := by
    rw [← hp]
    unfold updPrep
    simp only [mapOf_congr e1 h2, keyOf_congr e2, e3]
  exact updPrep_ok hΓ ho hp' hd (hK _ set_app)
def midArgs (st : St) : List Operand → List Nat
  | [] => []
  | x :: l => mid (st.eval x) ++ midArgs st l
theorem midArgs_mem {st : St} {x : Operand} {id : Nat} (h : id ∈ mid (st.eval x)) : ∀ {l : List Operand}, x ∈ l → id ∈ midArgs st l
  | [], hx => by cases hx
  | y :: l, hx => by
    simp only [midArgs, List.mem_append]
    rcases List.mem_cons.1 hx with rfl | hx
    · exact .inl h
    · exact .inr (midArgs_mem h hx)
def mapItem (rd : List Nat) (p : Option (Nat × Option IntKind × List (Value × Value)) × TV) : Item :=
  match p.1 with
  | some q => setItem p.2 rd q
  | none => ⟨p.2, rd, [], [], 0⟩
theorem opOK_mapCall (hΓ : TabOk P Γ) (hd : dstOk C.n o = true) (hg : Goes ops o s0) {c : Call} {p : Option (Nat × Option IntKind × List (Value × Value)) × TV} (ho : o.op = .call c) (hp : mapCall Γ s0 c = some p) : OpOK P C ops o (mapItem (midArgs s0 c.args.toList) p) s0 := by
  refine opOK_of hg fun st h1 h2 h3 Q K hK => ?_
  have he : ∀ x, x ∈ c.args.toList → st.eval x = s0.eval x := fun x hx => h1 x (by rw [ho]; simp only [Op.operands, Call.operands]; simp; right; simpa using hx)
  have hr : (mapItem (midArgs s0 c.args.toList) p).rd = midArgs s0 c.args.toList := by
    unfold mapItem
    cases p.1 <;> rfl
  rw [hr] at h2
  have hp' : mapCall Γ st c = some p := by
    rw [← hp]
    unfold mapCall
    split
    · rename_i m t g1 g2 g3
      have e1 := he m (by rw [g2]; simp)
      have e3 : ∀ d, mapOf st d m = mapOf s0 d m := fun d => mapOf_congr e1 fun id hid => h2 id (midArgs_mem hid (by rw [g2]; simp))
      simp only [e3]
    · rename_i m k t t' g1 g2 g3
      have e1 := he m (by rw [g2]; simp)
      have e2 := he k (by rw [g2]; simp)
      have e3 : ∀ d, mapOf st d m = mapOf s0 d m := fun d => mapOf_congr e1 fun id hid => h2 id (midArgs_mem hid (by rw [g2]; simp))
      simp only [e3, keyOf_congr e2]
    · rfl
  refine mapCall_ok hΓ ho hp' hd ?_
  obtain ⟨p1, p2⟩ := p
  unfold kMapC
  refine hK _ ?_
  cases p1 with
  | none => exact put_app
  | some q => exact set_app

/-! ### The walk -/
def kGetI (K : St → Item → Prop) (st : St) (d : Option Tmp) (c : Bool) (ids : List Nat) (p : Option (Nat × Value) × Row) : Prop := K (st.put d (getTV c p.1 p.2)) ⟨getTV c p.1 p.2, ids, [], [], 0⟩
def kUpdI (K : St → Item → Prop) (st : St) (d : Option Tmp) (ids : List Nat) (p : Nat × Option IntKind × List (Value × Value)) : Prop := K ((st.setObj p.1 (.mp p.2.1 p.2.2)).put d (.c .junk)) (setItem (.c .junk) ids p)
def kMapCI (K : St → Item → Prop) (st : St) (d : Option Tmp) (ids : List Nat) (p : Option (Nat × Option IntKind × List (Value × Value)) × TV) : Prop :=
  match p.1 with
  | some q => K ((st.setObj q.1 (.mp q.2.1 q.2.2)).put d p.2) (setItem p.2 ids q)
  | none => K (st.put d p.2) ⟨p.2, ids, [], [], 0⟩
def goesB (ops : List Oper) (o : Oper) (st : St) : Prop :=
  match o.guard with
  | none => True
  | some (j, want) => ∃ d, dstAt ops j = some d ∧ look d st.tmps = some (lit (.bool want))
def kPutI (K : St → Item → Prop) (st : St) (ids : List Nat) (d : Option Tmp) (X : TV) : Prop := K (st.put d X) ⟨X, ids, [], [], 0⟩
def kBoxI (K : St → Item → Prop) (st : St) (d : Option Tmp) (cs : List CV) : Prop := K ((st.new (.cells cs)).put d (.c (.ptr st.next 0))) ⟨.c (.ptr st.next 0), [], [(st.next, .cells cs)], [], 1⟩
def kAllocI (K : St → Item → Prop) (st : St) (d : Option Tmp) (r : Row) : Prop := K ((st.new (.cells (r.zero.map fun v => .t (.v v)))).put d (.c (.ptr st.next 0))) ⟨.c (.ptr st.next 0), [], [(st.next, .cells (r.zero.map fun v => .t (.v v)))], [], 1⟩
def kRowsI (K : St → Item → Prop) (st : St) (d : Option Tmp) (len : Nat) (p : Nat × Row × List (List Tree)) : Prop := K ((st.new (.arr p.1 p.2.1.size p.2.2)).put d (.c (.own st.next 0 len))) ⟨.c (.own st.next 0 len), [], [(st.next, .arr p.1 p.2.1.size p.2.2)], [], 1⟩
def kStoreI (K : St → Item → Prop) (st : St) (d : Option Tmp) (p : Nat × List CV) : Prop := K ((st.setObj p.1 (.cells p.2)).put d (.c .junk)) ⟨.c .junk, [p.1], [(p.1, .cells p.2)], [], 0⟩
def kStoreNI (K : St → Item → Prop) (st : St) (d : Option Tmp) (p : Nat × Nat × Nat × List (List NC)) : Prop := K ((st.setObj p.1 (.nest p.2.1 p.2.2.1 p.2.2.2)).put d (.c .junk)) ⟨.c .junk, [p.1], [(p.1, .nest p.2.1 p.2.2.1 p.2.2.2)], [], 0⟩
def kStoreGI (Γ : Nat → Option Row) (K : St → Item → Prop) (st : St) (d : Option Tmp) (t : TypeId) (x y : Operand) (_ : Unit) : Prop := optCase (epN Γ st t x y) (kStoreNI K st d) fls
def idsArgs (st : St) : List Operand → List Nat
  | [] => []
  | x :: l => idsTV (st.eval x) ++ idsArgs st l
theorem idsArgs_eq {st : St} : ∀ l : List Operand, idsArgs st l = l.flatMap fun x => idsTV (st.eval x)
  | [] => rfl
  | x :: l => by simp [idsArgs, idsArgs_eq l]
def kCallI (K : St → Item → Prop) (st : St) (xs : List Operand) (d : Option Tmp) (X : TV) : Prop := K (st.put d X) ⟨X, idsArgs st xs, [], [], 0⟩
def kOK (P : Program) (C : Ctx) (ops : Array Oper) (o : Oper) (K : St → Item → Prop) (st : St) (_ : Unit) : Prop := ∃ it, OpOK P C ops o it st ∧ K (app o it st) it
def kBackI (K : St → Item → Prop) (st : St) (d : Option Tmp) (p : BRes) : Prop := K ((st.back p.1 p.2.2.1 (p.1.length + 1) p.2.2.2).put d (renTV (bwdO p.1 (p.1.length + 1) st.next) p.2.1)) (itemB st.next p)
def kCallBI (P : Program) (kn : Kn) (C : Ctx) (ops : Array Oper) (o : Oper) (K : St → Item → Prop) (st : St) (c : Call) (_ : Unit) : Prop := optCase (callBL kn st c) (kBackI K st o.dst) (kOK P C ops o K st)
def kAppI (K : St → Item → Prop) (st : St) (xs : List Operand) (d : Option Tmp) (p : Nat × Row × Option Nat × List (List Tree) × List (List Tree)) : Prop :=
  (p.2.2.2.1.length + p.2.2.2.2.length) * p.2.1.bytes ≤ 140737488355328 ∧ p.2.2.2.1.length + p.2.2.2.2.length ≤ maxLen ∧
    K (((st.delOpt p.2.2.1).new (.arr p.1 p.2.1.size (p.2.2.2.1 ++ p.2.2.2.2))).put d (.c (.own st.next 0 (p.2.2.2.1.length + p.2.2.2.2.length)))) (itemApp st.next (idsArgs st xs) p)
def kCallVI (P : Program) (kn : Kn) (C : Ctx) (ops : Array Oper) (o : Oper) (K : St → Item → Prop) (st : St) (c : Call) (_ : Unit) : Prop := optCase (callVal kn st c) (kCallI K st c.args.toList o.dst) (kCallBI P kn C ops o K st c)
def kMapVI (P : Program) (Γ : Nat → Option Row) (kn : Kn) (C : Ctx) (ops : Array Oper) (o : Oper) (K : St → Item → Prop) (st : St) (c : Call) (_ : Unit) : Prop := optCase (mapCall Γ st c) (kMapCI K st o.dst (midArgs st c.args.toList)) (kCallVI P kn C ops o K st c)
def heavyI (P : Program) (Γ : Nat → Option Row) (kn : Kn) (C : Ctx) (ops : Array Oper) (o : Oper) (K : St → Item → Prop) (st : St) (_ : Unit) : Prop :=
  match o.op with
    | .box _ x => optCase (tvCells (st.eval x)) (kBoxI K st o.dst) fls
    | .alloc t => optCase (Γ t) (kAllocI K st o.dst) fls
    | .buildSlice t len parts => optCase (rowsPrep Γ st t len parts.toList) (kRowsI K st o.dst len) (kOK P C ops o K st)
    | .store t x y => optCase (storePrep Γ st t x y) (kStoreI K st o.dst) (kStoreGI Γ K st o.dst t x y)
    | .binOp op ty x y _ => optCase (eqVal Γ kn.eqs.tys op ty (st.eval x) (st.eval y)) (kPutI K st [] o.dst) (kOK P C ops o K st)
    | .call c => optCase (appPrep Γ st c) (kAppI K st c.args.toList o.dst) (kMapVI P Γ kn C ops o K st c)
    | .lookup t m k c => optCase (getPrep Γ st t m k) (kGetI K st o.dst c (mid (st.eval m))) fls
    | .mapUpdate t m k v => optCase (updPrep Γ st t m k v) (kUpdI K st o.dst (mid (st.eval m))) fls
    | _ => ∃ it, OpOK P C ops o it st ∧ K (app o it st) it
def drawOp (P : Program) (Γ : Nat → Option Row) (kn : Kn) (C : Ctx) (ops : Array Oper) (o : Oper) (K : St → Item → Prop) (st : St) : Prop :=
  optCase (pureVal Γ st.eval st.obj o.op) (kPutI K st (readIds st.eval o.op) o.dst) (heavyI P Γ kn C ops o K st)
def kAcc (R : List Item → St → Prop) (acc : List Item) (st : St) (it : Item) : Prop := R (it :: acc) st
def gDraw (P : Program) (Γ : Nat → Option Row) (kn : Kn) (C : Ctx) (ops : Array Oper) (o : Oper) (K : St → Item → Prop) (st : St) (_ : Unit) : Prop := drawOp P Γ kn C ops o K st
def gPass (o : Oper) (K : List Item → St → Prop) (acc : List Item) (st : St) (_ : Unit) : Prop := K (skipIt :: acc) (st.put o.dst (.tup []))
def kGuardI (P : Program) (Γ : Nat → Option Row) (kn : Kn) (C : Ctx) (ops : Array Oper) (o : Oper) (K : List Item → St → Prop) (acc : List Item) (st : St) (d : Tmp) (want : Bool) (b : Bool) : Prop :=
  guardP b want (gDraw P Γ kn C ops o (kAcc K acc) (st.put (some d) (lit (.bool want)))) (gPass o K acc (st.put (some d) (lit (.bool (!want)))))
def kNoneI (o : Oper) (K : List Item → St → Prop) (acc : List Item) (st : St) (d : Tmp) (_ : Unit) : Prop := look d st.tmps = some (.tup []) ∧ K (skipIt :: acc) (st.put o.dst (.tup []))
def drawRun (P : Program) (Γ : Nat → Option Row) (kn : Kn) (C : Ctx) (ops : Array Oper) (K : St → List Item → Prop) : List Oper → List Item → St → Prop
  | [], acc, st => K st acc
  | o :: l, acc, st => match o.guard with
    | none => drawOp P Γ kn C ops o (kAcc (drawRun P Γ kn C ops K l) acc) st
    | some (j, want) => match dstAt ops.toList j with
      | some d => optCase (boolAt d st) (kGuardI P Γ kn C ops o (drawRun P Γ kn C ops K l) acc st d want) (kNoneI o (drawRun P Γ kn C ops K l) acc st d)
      | none => False
def seg : Nat → List Oper → List Item → Seg
  | k, o :: l, it :: r => (k, o, it) :: seg (k + 1) l r
  | _, _, _ => []
theorem drawOp_ok (hΓ : TabOk P Γ) (hkn : KnOk P kn) (hd : dstOk C.n o = true) (hg : Goes ops o s0) {K : St → Item → Prop} (h : drawOp P Γ kn C ops o K s0) : ∃ it s1, OpOK P C ops o it s0 ∧ EqV (app o it s0) s1 ∧ K s1 it := by
  unfold drawOp at h
  refine optCase_elim h (fun X hX h => ⟨_, _, opOK_pure hΓ hd hg hX, put_app.symm, h⟩) fun _ h => ?_
  unfold heavyI at h
  split at h
  · rename_i t x ho
    refine optCase_elim h (fun cs hc h => ⟨_, _, opOK_box hd hg ho hc, ?_, h⟩) fun _ h => h.elim
    unfold app St.put St.new
    cases o.dst <;> exact EqV.refl _
  · rename_i t ho
    refine optCase_elim h (fun r hr h => ⟨_, _, opOK_alloc hΓ hd hg ho hr, ?_, h⟩) fun _ h => h.elim
    unfold app St.put St.new
    cases o.dst <;> exact EqV.refl _
  · rename_i t len parts ho
    refine optCase_elim h (fun p hp h => ?_) fun _ h => ?_
    · obtain ⟨h1, h2, h3, h4, h5⟩ := rowsPrep_ok hp
      obtain ⟨h6, h7⟩ := elemT_ok hΓ h1
      refine ⟨_, _, opOK_buildSlice hΓ hd hg ho h6 h7 h2 (by simpa using h3) h4 h5, ?_, h⟩
      unfold app St.put St.new
      cases o.dst <;> exact EqV.refl _
    · obtain ⟨it, h1, h2⟩ := h
      exact ⟨it, _, h1, EqV.refl _, h2⟩
  · rename_i t x y ho
    refine optCase_elim h (fun p hp h => ?_) fun _ h => ?_
    · obtain ⟨r, off, xs, cs, h1, h2, h3, h4, h5, h6, h7⟩ := storePrep_ok hp
      unfold kStoreI at h
      rw [h7] at h
      refine ⟨_, _, opOK_store hΓ hd hg ho h1 h2 h3 h4 h5 h6, ?_, h⟩
      unfold app St.put St.setObj
      cases o.dst <;> exact EqV.refl _
    · refine optCase_elim h (fun p hp h => ?_) fun _ h => h.elim
      refine ⟨_, _, opOK_storeN hΓ hd hg ho hp, ?_, h⟩
      unfold app St.put St.setObj
      cases o.dst <;> exact EqV.refl _
  · rename_i op ty x y yt ho
    refine optCase_elim h (fun X hX h => ⟨_, _, opOK_eq hΓ hkn.eqs.tys hd hg ho hX, put_app.symm, h⟩) fun _ h => ?_
    obtain ⟨it, h1, h2⟩ := h
    exact ⟨it, _, h1, EqV.refl _, h2⟩
  · rename_i c ho
    refine optCase_elim h (fun p hp h => ?_) fun _ h => ?_
    · obtain ⟨h1, h2, h3⟩ := h
      rw [idsArgs_eq] at h3
      refine ⟨_, _, opOK_app hΓ hkn hd hg ho hp h1 h2, ?_, h3⟩
      obtain ⟨e, r, old, xs, ys⟩ := p
      cases old with
      | none =>
        simp only [itemApp, St.delOpt]
        unfold app St.put St.new
        cases o.dst <;> exact EqV.refl _
      | some id =>
        simp only [itemApp, St.delOpt]
        unfold app St.put St.new St.delObj
        cases o.dst <;> exact EqV.refl _
    refine optCase_elim h (fun p hp h => ?_) fun _ h => ?_
    · refine ⟨_, (match p.1 with | some q => (s0.setObj q.1 (.mp q.2.1 q.2.2)) | none => s0).put o.dst p.2, opOK_mapCall hΓ hd hg ho hp, ?_, ?_⟩
      · unfold mapItem
        cases p.1 with
        | none => exact put_app.symm
        | some q => exact set_app.symm
      · unfold kMapCI at h
        unfold mapItem
        cases hp1 : p.1 with
        | none => rw [hp1] at h; exact h
        | some q => rw [hp1] at h; exact h
    refine optCase_elim h (fun X hX h => ?_) fun _ h => ?_
    · obtain ⟨ce, as, ts⟩ := c
      unfold callVal at hX
      split at hX
      · rename_i f hf
        simp only at hf
        subst hf
        unfold kCallI at h
        rw [idsArgs_eq] at h
        unfold optOr at hX
        split at hX
        · rename_i a ha
          cases hX
          obtain ⟨args, h1, h2⟩ := Option.bind_eq_some_iff.1 ha
          obtain ⟨r, h3, h4⟩ := Option.bind_eq_some_iff.1 h2
          obtain ⟨h5, rfl⟩ := guardO_some h4
          exact ⟨_, _, opOK_q hd hg false ho (hkn.call _ _ _ h3) (convArgs_eq h1) (fun h => by cases h) (plain_ren h5), put_app.symm, h⟩
        · obtain ⟨args, h1, h2⟩ := Option.bind_eq_some_iff.1 hX
          obtain ⟨r, h3, h4⟩ := Option.bind_eq_some_iff.1 h2
          obtain ⟨h5, rfl⟩ := guardO_some h4
          exact ⟨_, _, opOK_q hd hg true ho (hkn.call _ _ _ h3) (convArgs_eq h1) (fun _ => (lit_flat h5).1) (plain_ren (lit_flat h5).2), put_app.symm, h⟩
      · cases hX
    · refine optCase_elim h (fun p hp h => ⟨_, _, opOK_callB hkn hd hg ho hp, back_eqv.symm, h⟩) fun _ h => ?_
      obtain ⟨it, h1, h2⟩ := h
      exact ⟨it, _, h1, EqV.refl _, h2⟩
  · rename_i t m k c ho
    exact optCase_elim h (fun p hp h => ⟨_, _, opOK_get hΓ hd hg ho hp, put_app.symm, h⟩) fun _ h => h.elim
  · rename_i t m k v ho
    exact optCase_elim h (fun p hp h => ⟨_, _, opOK_upd hΓ hd hg ho hp, set_app.symm, h⟩) fun _ h => h.elim
  · obtain ⟨it, h1, h2⟩ := h
    exact ⟨it, _, h1, EqV.refl _, h2⟩
theorem drawRun_ok (hΓ : TabOk P Γ) (hkn : KnOk P kn) : ∀ (l : List Oper) (k : Nat) (acc : List Item) (K : St → List Item → Prop) (st : St), l.all (dstOk C.n) = true → drawRun P Γ kn C ops K l acc st →
    ∃ items s1, items.length = l.length ∧ TextOK P C ops (seg k l items) st ∧ EqV (fin (seg k l items) st) s1 ∧ K s1 (items.reverse ++ acc)
  | [], k, acc, K, st, _, h => ⟨[], st, rfl, trivial, EqV.refl _, h⟩
  | o :: l, k, acc, K, st, hd, h => by
    simp only [List.all_cons, Bool.and_eq_true] at hd
    have step : ∀ st0, EqV st st0 → Goes ops o st0 → drawOp P Γ kn C ops o (kAcc (drawRun P Γ kn C ops K l) acc) st0 → ∃ items s1, items.length = (o :: l).length ∧ TextOK P C ops (seg k (o :: l) items) st ∧ EqV (fin (seg k (o :: l) items) st) s1 ∧ K s1 (items.reverse ++ acc) := by
      intro st0 he hg hh
      obtain ⟨it, s1, h1, h2, h3⟩ := drawOp_ok hΓ hkn hd.1 hg hh
      obtain ⟨items, s2, h4, h5, h6, h7⟩ := drawRun_ok hΓ hkn l (k + 1) (it :: acc) K s1 hd.2 h3
      have he1 : EqV s1 (app o it st) := h2.symm.trans (app_eqv he.symm)
      obtain ⟨h8, h9⟩ := TextOK.eqv h5 he1
      refine ⟨it :: items, s2, by simp [h4], ⟨h1.eqv he.symm, h8⟩, h9.symm.trans h6, ?_⟩
      simpa using h7
    have skip : ∀ st0, EqV st st0 → OpOK P C ops o skipIt st → drawRun P Γ kn C ops K l (skipIt :: acc) (st0.put o.dst (.tup [])) → ∃ items s1, items.length = (o :: l).length ∧ TextOK P C ops (seg k (o :: l) items) st ∧ EqV (fin (seg k (o :: l) items) st) s1 ∧ K s1 (items.reverse ++ acc) := by
      intro st0 he hok hh
      obtain ⟨items, s2, h4, h5, h6, h7⟩ := drawRun_ok hΓ hkn l (k + 1) (skipIt :: acc) K _ hd.2 hh
      have he1 : EqV (st0.put o.dst (.tup [])) (app o skipIt st) := put_app.trans (app_eqv he.symm)
      obtain ⟨h8, h9⟩ := TextOK.eqv h5 he1
      refine ⟨skipIt :: items, s2, by simp [h4], ⟨hok, h8⟩, h9.symm.trans h6, ?_⟩
      simpa using h7
    simp only [drawRun] at h
    split at h
    · rename_i hg
      exact step st (EqV.refl _) (by simp only [Goes, hg]) h
    · rename_i j want hg
      split at h
      · rename_i d hdst
        refine optCase_elim h (fun b hb0 h => ?_) fun _ h => ?_
        · have hb := boolAt_ok hb0
          by_cases hbw : b = want
          · subst hbw
            have he : EqV st (st.put (some d) (lit (.bool b))) := ⟨fun t => by
              simp only [St.put, look_push]
              split
              · rename_i e; subst e; exact hb
              · rfl, fun _ => rfl, rfl⟩
            exact step _ he (by simp only [Goes, hg]; exact ⟨d, hdst, by simp [St.put, look_push]⟩) (h.1 rfl)
          · have hbn : b = !want := by cases b <;> cases want <;> simp_all
            subst hbn
            have he : EqV st (st.put (some d) (lit (.bool (!want)))) := ⟨fun t => by
              simp only [St.put, look_push]
              split
              · rename_i e; subst e; exact hb
              · rfl, fun _ => rfl, rfl⟩
            exact skip _ he (opOK_skip hd.1 hg hdst (.inl hb)) (h.2 rfl)
        · obtain ⟨hb, h⟩ := h
          exact skip st (EqV.refl _) (opOK_skip hd.1 hg hdst (.inr hb)) h
      · exact h.elim

def apartB (ops : List Oper) (a b : Oper × Item) : Bool :=
  (match a.1.dst, b.1.dst with | some x, some y => !(x == y) | _, _ => true) && (uses ops b.1).all (fun t => !hitD a.1.dst t) && (uses ops a.1).all (fun t => !hitD b.1.dst t) &&
    (wrIds a.2).all (fun id => !b.2.rd.contains id && !(wrIds b.2).contains id) && (wrIds b.2).all (fun id => !a.2.rd.contains id) && (a.2.al == 0 || b.2.al == 0)
theorem apartB_ok {ops : List Oper} {a b : Oper × Item} (h : apartB ops a b = true) : Apart ops a b := by
  simp only [apartB, Bool.and_eq_true, List.all_eq_true, Bool.not_eq_true', Bool.or_eq_true, beq_iff_eq] at h
  obtain ⟨⟨⟨⟨⟨h1, h2⟩, h3⟩, h4⟩, h5⟩, h6⟩ := h
  refine ⟨fun t ⟨g1, g2⟩ => ?_, h2, h3, fun id hid => ?_, fun id hid => ?_, h6⟩
  · unfold hitD at g1 g2
    cases ha : a.1.dst with
    | none => rw [ha] at g1; cases g1
    | some x => cases hb : b.1.dst with
      | none => rw [hb] at g2; cases g2
      | some y =>
        rw [ha, hb] at h1
        rw [ha] at g1; rw [hb] at g2
        simp at g1 g2 h1
        exact h1 (g1.trans g2.symm)
  · have := h4 id hid
    simpa using this
  · have := h5 id hid
    simpa using this
def reachB (ops : List Oper) (k : Nat) : Nat → Nat → Bool
  | 0, _ => false
  | f + 1, j => match ops[j]? with
    | some o => o.after.toList.any fun e => Region.binds .any e && (e.on == k || reachB ops k f e.on)
    | none => false
theorem reachB_ok {ops : Array Oper} {k : Nat} : ∀ {f j : Nat}, reachB ops.toList k f j = true → Dep ops k j
  | 0, _, h => by cases h
  | f + 1, j, h => by
    simp only [reachB] at h
    split at h
    · rename_i o ho
      simp only [List.any_eq_true, Bool.and_eq_true, Bool.or_eq_true, beq_iff_eq] at h
      obtain ⟨e, h1, h2, h3⟩ := h
      have ho' : ops[j]? = some o := by simpa using ho
      rcases h3 with h3 | h3
      · exact .one j o ho' ⟨e, by simpa using h1, h2, h3⟩
      · exact .more j o e.on ho' ⟨e, by simpa using h1, h2, rfl⟩ (reachB_ok h3)
    · cases h
def chk1 (ops : List Oper) (k : Nat) (p : Oper × Item) : Nat → List Oper → List Item → Bool
  | m, o :: l, it :: r => (apartB ops p (o, it) || reachB ops k ops.length m) && chk1 ops k p (m + 1) l r
  | _, _, _ => true
def chk (ops : List Oper) : Nat → List Oper → List Item → Bool
  | k, o :: l, it :: r => chk1 ops k (o, it) (k + 1) l r && chk ops (k + 1) l r
  | _, _, _ => true
theorem seg_mem {p : Nat × Oper × Item} : ∀ {k : Nat} {l : List Oper} {r : List Item}, p ∈ seg k l r → k ≤ p.1 ∧ l[p.1 - k]? = some p.2.1
  | k, o :: l, it :: r, h => by
    simp only [seg] at h
    rcases List.mem_cons.1 h with e | h
    · subst e; simp
    · obtain ⟨h1, h2⟩ := seg_mem h
      refine ⟨by omega, ?_⟩
      rw [show p.1 - k = (p.1 - (k + 1)) + 1 by omega]
      simpa using h2
  | _, [], _, h => by simp [seg] at h
  | _, _ :: _, [], h => by simp [seg] at h
theorem mem_seg : ∀ {k : Nat} {l : List Oper} {r : List Item} {i : Nat} {o : Oper}, r.length = l.length → l[i]? = some o → ∃ it, (k + i, o, it) ∈ seg k l r
  | k, o' :: l, it :: r, 0, o, _, h => by simp at h; subst h; exact ⟨it, by simp [seg]⟩
  | k, o' :: l, it :: r, i + 1, o, hl, h => by
    obtain ⟨it', h1⟩ := mem_seg (k := k + 1) (r := r) (by simpa using hl) (show l[i]? = some o by simpa using h)
    exact ⟨it', by simp only [seg]; rw [show k + (i + 1) = k + 1 + i by omega]; exact List.mem_cons_of_mem _ h1⟩
  | _, [], _, _, _, _, h => by simp at h
  | _, _ :: _, [], _, _, hl, _ => by simp at hl
theorem chk1_ok {ops : Array Oper} {k : Nat} {p : Oper × Item} {q : Nat × Oper × Item} : ∀ {m : Nat} {l : List Oper} {r : List Item}, chk1 ops.toList k p m l r = true → q ∈ seg m l r → ¬ Dep ops k q.1 → Apart ops.toList p q.2
  | m, o :: l, it :: r, h, hq, hn => by
    simp only [chk1, Bool.and_eq_true, Bool.or_eq_true] at h
    simp only [seg] at hq
    rcases List.mem_cons.1 hq with e | hq
    · subst e
      rcases h.1 with h1 | h1
      · exact apartB_ok h1
      · exact absurd (reachB_ok h1) hn
    · exact chk1_ok h.2 hq hn
  | _, [], _, _, hq, _ => by simp [seg] at hq
  | _, _ :: _, [], _, hq, _ => by simp [seg] at hq
theorem chk_ok {ops : Array Oper} : ∀ {k : Nat} {l : List Oper} {r : List Item}, chk ops.toList k l r = true → (seg k l r).Pairwise (fun p q => p.1 < q.1) ∧ (seg k l r).Pairwise fun p q => ¬ Dep ops p.1 q.1 → Apart ops.toList p.2 q.2
  | k, o :: l, it :: r, h => by
    simp only [chk, Bool.and_eq_true] at h
    obtain ⟨h1, h2⟩ := chk_ok h.2
    simp only [seg, List.pairwise_cons]
    refine ⟨⟨fun q hq => ?_, h1⟩, ⟨fun q hq hn => chk1_ok h.1 hq hn, h2⟩⟩
    have := (seg_mem hq).1
    omega
  | _, [], _, _ => by simp [seg]
  | _, _ :: _, [], _ => by simp [seg]
def lexB : Nat → List Oper → Bool
  | _, [] => true
  | k, o :: l => o.after.toList.all (fun e => !Region.binds .any e || decide (e.on < k)) && lexB (k + 1) l
theorem lexB_ok : ∀ {k : Nat} {l : List Oper} {i : Nat} {o : Oper}, lexB k l = true → l[i]? = some o → ∀ e, e ∈ o.after → Region.binds .any e = true → e.on < k + i
  | k, o' :: l, 0, o, h, ho, e, he, hb => by
    simp at ho; subst ho
    simp only [lexB, Bool.and_eq_true, List.all_eq_true, Bool.or_eq_true, Bool.not_eq_true', decide_eq_true_eq] at h
    have := h.1 e (by simpa using he)
    rw [hb] at this
    simpa using this
  | k, o' :: l, i + 1, o, h, ho, e, he, hb => by
    simp only [lexB, Bool.and_eq_true] at h
    have := lexB_ok h.2 (show l[i]? = some o by simpa using ho) e he hb
    omega
  | _, [], _, _, _, ho, _, _, _ => by simp at ho
theorem Rel.draw1 {st : St} {a : Act} {w : World} (h : Rel C st a w) : Rel C st a { w with drawn := w.drawn + 1 } := by
  obtain ⟨E, h⟩ := h; exact ⟨E, h.drew⟩
/-- A region that draws its order, and what stands behind it. -/
theorem am_ds (hm : P.follows .mixedOrders = true) (hΓ : TabOk P Γ) (hkn : KnOk P kn) {id : Nat} {y : Code} {Q : Exit → St → Prop} {st : St} (hd : ops.toList.all (dstOk C.n) = true) (hlex : lexB 0 ops.toList = true)
    (h : ∀ K : St → List Item → Prop, (∀ st its, chk ops.toList 0 ops.toList its.reverse = true → am P C y Q st → K st its) → drawRun P Γ kn C ops K ops.toList [] st) : am P C (.seq (.region id ops true) y) Q st := by
  refine am_seq fun a w hr => ?_
  obtain ⟨items, s1, h1, h2, h3, h4⟩ := drawRun_ok hΓ hkn ops.toList 0 [] _ st hd (h (fun st its => chk ops.toList 0 ops.toList its.reverse = true ∧ am P C y Q st) fun st its h5 h6 => ⟨h5, h6⟩)
  simp only [List.append_nil, List.reverse_reverse] at h4
  obtain ⟨h5, h6⟩ := h4
  refine wp_region_any hm (draw_any (fun i o ho e he hb => ?_) ops.size _ (seg 0 ops.toList items) st a _ ?_ (by simp) ⟨fun p hp => ?_, fun i o ho _ => ?_, (chk_ok h5).1, (chk_ok h5).2, fun j o hj hlj => by rw [Array.getD_eq_getD_getElem?, Array.getElem?_replicate] at hlj; split at hlj <;> simp at hlj⟩ h2 hr.draw1 fun st' he => ?_)
  · have := lexB_ok hlex (show ops.toList[i]? = some o by simpa using ho) e he hb
    omega
  · have : ∀ (k : Nat) (l : List Oper) (r : List Item), (seg k l r).length ≤ l.length := by
      intro k l
      induction l generalizing k with
      | nil => intro r; simp [seg]
      | cons o l ih => intro r; cases r with
        | nil => simp [seg]
        | cons it r => simpa [seg] using ih (k + 1) r
    simpa using this 0 ops.toList items
  · obtain ⟨h7, h8⟩ := seg_mem hp
    have h9 : ops[p.1]? = some p.2.1 := by simpa using h8
    refine ⟨h9, ?_⟩
    have hlt := (Array.getElem?_eq_some_iff.1 h9).1
    simp [hlt]
  · have := mem_seg (k := 0) (r := items) h1 (show ops.toList[i]? = some o by simpa using ho)
    simpa using this
  · show am P C y Q st'
    exact am_weak (fun a w hr => (he.symm.trans h3).rel hr) h6
/-- A region that draws its order, at the end of its code. -/
theorem am_dreg (hm : P.follows .mixedOrders = true) (hΓ : TabOk P Γ) (hkn : KnOk P kn) {id : Nat} {Q : Exit → St → Prop} {st : St} (hd : ops.toList.all (dstOk C.n) = true) (hlex : lexB 0 ops.toList = true)
    (h : ∀ K : St → List Item → Prop, (∀ st its, chk ops.toList 0 ops.toList its.reverse = true → Q .normal st → K st its) → drawRun P Γ kn C ops K ops.toList [] st) : am P C (.region id ops true) Q st := by
  have hm0 : am P C (.region id ops true) (fun e s => e = .normal ∧ ∃ s1, EqV s s1 ∧ Q .normal s1) st := by
    intro a w hr
    obtain ⟨items, s1, h1, h2, h3, h4⟩ := drawRun_ok hΓ hkn ops.toList 0 [] _ st hd (h (fun st its => chk ops.toList 0 ops.toList its.reverse = true ∧ Q .normal st) fun st its h5 h6 => ⟨h5, h6⟩)
    simp only [List.append_nil, List.reverse_reverse] at h4
    obtain ⟨h5, h6⟩ := h4
    refine wp_region_any hm (draw_any (fun i o ho e he hb => ?_) ops.size _ (seg 0 ops.toList items) st a _ ?_ (by simp) ⟨fun p hp => ?_, fun i o ho _ => ?_, (chk_ok h5).1, (chk_ok h5).2, fun j o hj hlj => by rw [Array.getD_eq_getD_getElem?, Array.getElem?_replicate] at hlj; split at hlj <;> simp at hlj⟩ h2 hr.draw1 fun st' he => ?_)
    · have := lexB_ok hlex (show ops.toList[i]? = some o by simpa using ho) e he hb
      omega
    · have : ∀ (k : Nat) (l : List Oper) (r : List Item), (seg k l r).length ≤ l.length := by
        intro k l
        induction l generalizing k with
        | nil => intro r; simp [seg]
        | cons o l ih => intro r; cases r with
          | nil => simp [seg]
          | cons it r => simpa [seg] using ih (k + 1) r
      simpa using this 0 ops.toList items
    · obtain ⟨h7, h8⟩ := seg_mem hp
      have h9 : ops[p.1]? = some p.2.1 := by simpa using h8
      refine ⟨h9, ?_⟩
      have hlt := (Array.getElem?_eq_some_iff.1 h9).1
      simp [hlt]
    · have := mem_seg (k := 0) (r := items) h1 (show ops.toList[i]? = some o by simpa using ho)
      simpa using this
    · exact ⟨rfl, s1, he.symm.trans h3, h6⟩
  intro a w hr
  refine wp_mono (hm0 a w hr) ?_
  rintro e a w ⟨s, ⟨rfl, s1, he, hq⟩, hr⟩
  exact ⟨s1, hq, he.rel hr⟩
end
@[go_sem] theorem drawRun_nil {P : Program} {Γ : Nat → Option Row} {kn : Kn} {C : Ctx} {ops : Array Oper} {K : St → List Item → Prop} {acc : List Item} {st : St} : drawRun P Γ kn C ops K [] acc st = K st acc := rfl
@[go_sem] theorem drawRun_cons {P : Program} {Γ : Nat → Option Row} {kn : Kn} {C : Ctx} {ops : Array Oper} {K : St → List Item → Prop} {o : Oper} {l : List Oper} {acc : List Item} {st : St} : drawRun P Γ kn C ops K (o :: l) acc st = (match o.guard with
    | none => drawOp P Γ kn C ops o (kAcc (drawRun P Γ kn C ops K l) acc) st
    | some (j, want) => match dstAt ops.toList j with
      | some d => optCase (boolAt d st) (kGuardI P Γ kn C ops o (drawRun P Γ kn C ops K l) acc st d want) (kNoneI o (drawRun P Γ kn C ops K l) acc st d)
      | none => False) := by
  conv => lhs; unfold drawRun
attribute [go_sem] kStoreNI kStoreGI mid midArgs setItem kGetI kUpdI kMapCI kMapVI lowCV lowTV1 lowTV lowObj lowObjs lowRes callBL itemB kBackI kCallBI kCallVI kAppI itemApp Option.toList_some Option.toList_none idsTV idsArgs kCallI kOK kPutI kBoxI kAllocI kRowsI kStoreI heavyI kAcc gDraw gPass kGuardI kNoneI drawOp readIds idOf app updAll delAll skipIt
end Go.Proofs.YthnpbfljoghbmaaA
