/- The calculus: structs and slices that are built; structs compared. -/
import Derived.Test.YtaolgdpkcbfocaaDoorAm11
namespace Go.Proofs.YtaolgdpkcbfocaaDoorA
set_option autoImplicit false
set_option linter.unusedVariables false

/-! ### What 'fill' does -/
theorem fold_set (off : Nat) : ∀ (cs : List Value) (k : Nat) (cells : Array Value), ((cs.zipIdx k).foldl (fun (a : Array Value) (p : Value × Nat) => a.setIfInBounds (off + p.2) p.1) cells).size = cells.size ∧
    ∀ j, j < cells.size → ((cs.zipIdx k).foldl (fun (a : Array Value) (p : Value × Nat) => a.setIfInBounds (off + p.2) p.1) cells)[j]? = if off + k ≤ j ∧ j < off + k + cs.length then cs[j - (off + k)]? else cells[j]?
  | [], k, cells => ⟨rfl, fun j hj => by rw [if_neg (by simp <;> omega)]; rfl⟩
  | c :: cs, k, cells => by
    obtain ⟨h1, h2⟩ := fold_set off cs (k + 1) (cells.setIfInBounds (off + k) c)
    simp only [List.zipIdx_cons, List.foldl_cons]
    refine ⟨by rw [h1]; simp, fun j hj => ?_⟩
    rw [h2 j (by simpa using hj)]
    by_cases e : j = off + k
    · subst e
      rw [if_neg (by omega), if_pos ⟨by omega, by simp⟩]
      simp [hj]
    · by_cases hin : off + k ≤ j ∧ j < off + k + (c :: cs).length
      · rw [if_pos (by simp at hin ⊢; omega), if_pos hin]
        obtain ⟨i, rfl⟩ : ∃ i, j = off + k + 1 + i := ⟨j - (off + k + 1), by omega⟩
        rw [show off + k + 1 + i - (off + (k + 1)) = i by omega, show off + k + 1 + i - (off + k) = i + 1 by omega]
        simp
      · rw [if_neg (by simp at hin ⊢; omega), if_neg hin, Array.getElem?_setIfInBounds, if_neg (Ne.symm e)]
theorem fold_arr (off : Nat) (v cells : Array Value) : (v.zipIdx.foldl (fun cs (c, j) => cs.setIfInBounds (off + j) c) cells) = ((v.toList.zipIdx 0).foldl (fun (a : Array Value) (p : Value × Nat) => a.setIfInBounds (off + p.2) p.1) cells) := by
  rw [← Array.foldl_toList, Array.toList_zipIdx]
theorem fill_cons {place : Nat → Option (Nat × Nat)} {cells : Array Value} {i off size : Nat} {v : Value} {rest : List (Nat × Value)} (hp : place i = some (off, size)) (hs : v.cells.size = size) (hf : off + size ≤ cells.size) :
    ∃ cells', Instr.fill place cells ((i, v) :: rest) = Instr.fill place cells' rest ∧ cells'.size = cells.size ∧ ∀ j, j < cells.size → cells'[j]? = if off ≤ j ∧ j < off + size then v.cells[j - off]? else cells[j]? := by
  refine ⟨_, by simp only [Instr.fill, hp, hs]; rw [if_neg (by simp; omega)], ?_⟩
  rw [fold_arr]
  obtain ⟨h1, h2⟩ := fold_set off v.cells.toList 0 cells
  refine ⟨h1, fun j hj => ?_⟩
  rw [h2 j hj]
  simp only [Nat.add_zero, Array.length_toList, hs]
  split
  · simp
  · rfl

section
variable {P : Program} {Γ : Nat → Option Row} {C : Ctx} {Q : Exit → St → Prop} {st : St} {o : Oper} {K : St → Prop} {E : Env} {a : Act} {w : World}

/-! ### A struct built -/
def placeT (Γ : Nat → Option Row) (fs : List (Nat × Nat)) (i : Nat) : Option (Nat × Nat) :=
  match fs[i]? with
  | some (off, ty) => (Γ ty).map fun q => (off, q.size)
  | none => none
def fillC (Γ : Nat → Option Row) (fs : List (Nat × Nat)) : List CV → List (Nat × TV) → Option (List CV)
  | cs, [] => some cs
  | cs, (i, x) :: r => match placeT Γ fs i, tvCells x with
    | some (off, sz), some us => if us.length = sz ∧ off + sz ≤ cs.length then fillC Γ fs (splice cs off us) r else none
    | _, _ => none
theorem fillC_ok {place : Nat → Option (Nat × Nat)} {fs : List (Nat × Nat)} (hpl : ∀ i off sz, placeT Γ fs i = some (off, sz) → place i = some (off, sz)) :
    ∀ {ps : List (Nat × TV)} {vs : List (Nat × Value)} {cells : Array Value} {cs cs' : List CV}, All2 (fun v p => v.1 = p.1 ∧ RT E w v.2 p.2) vs ps → All2 (RC E w) cells.toList cs → fillC Γ fs cs ps = some cs' →
      ∃ cells', Instr.fill place cells vs = some cells' ∧ All2 (RC E w) cells'.toList cs'
  | [], [], cells, cs, cs', _, hc, h => by cases h; exact ⟨cells, rfl, hc⟩
  | (i, x) :: ps, (i', v) :: vs, cells, cs, cs', hv, hc, h => by
    obtain ⟨⟨hi, hx⟩, hv⟩ := hv
    simp only at hi hx
    subst hi
    simp only [fillC] at h
    split at h
    · rename_i off sz us hp hu
      split at h
      · rename_i hcond
        obtain ⟨h1, h2⟩ := hcond
        obtain ⟨uv, h3, h4, _⟩ := tvCells_ok hx hu
        have hlen := hc.length
        have hvl := h4.length
        have hs : v.cells.size = sz := by rw [h3]; simp; omega
        have hcl : cells.size = cs.length := by rw [← hlen]; simp
        obtain ⟨cells', h5, h6, h7⟩ := fill_cons (place := place) (cells := cells) (rest := vs) (hpl _ _ _ hp) hs (by rw [hcl]; omega)
        rw [h5]
        refine fillC_ok hpl hv ?_ h
        have hsz : cells.size = cs.length := by rw [← hlen]; simp
        refine All2.mk (by rw [splice_length (by omega)]; simp [h6, hsz]) fun j u c hu' hc' => ?_
        have hj : j < cells.size := by rw [hsz, ← splice_length (off := off) (cs := us) (by omega)]; exact (List.getElem?_eq_some_iff.1 hc').1
        rw [Array.getElem?_toList, h7 j hj] at hu'
        rw [splice_get (by omega)] at hc'
        split at hc'
        · rename_i hin
          rw [if_pos (by omega), h3] at hu'
          obtain ⟨u', h8, h9⟩ := h4.get hc'
          have : u' = u := by simpa [h8] using hu'
          subst this
          exact h9
        · rename_i hin
          rw [if_neg (by omega)] at hu'
          obtain ⟨u', h8, h9⟩ := hc.get hc'
          rw [Array.getElem?_toList, hu'] at h8
          cases h8
          exact h9
      · cases h
    · cases h
  | [], _ :: _, _, _, _, h, _, _ => h.elim
  | _ :: _, [], _, _, _, h, _, _ => h.elim

theorem amOp_build (hΓ : TabOk P Γ) {t : TypeId} {parts : Array (Nat × Operand)} {r : Row} {fs : List (Nat × Nat)} {cs : List CV} (ho : o.op = .build t parts) (ht : Γ t = some r) (hk : r.k = .struct fs)
    (hc : fillC Γ fs (r.zero.map fun v => .t (.v v)) (parts.toList.map fun p => (p.1, st.eval p.2)) = some cs) (hfs : ∀ p, p ∈ fs → (Γ p.2).isSome = true) (hd : dstOk C.n o = true) (hK : K (st.put o.dst (.agg cs))) : amOp P C o Q K st := by
  refine amOp_pure hd hK fun E a w hr => ?_
  have hrow := hΓ t r ht
  have hkk := hrow.k
  rw [hk] at hkk
  obtain ⟨fa, hu, hfa⟩ := hkk
  obtain ⟨i, hi, hsz, _, ⟨z, hz, hzc, hzz⟩, hzl, hall, _⟩ := hrow.info
  have hvs : All2 (fun (v : Nat × Value) (p : Nat × TV) => v.1 = p.1 ∧ RT E w v.2 p.2) (parts.toList.map fun p => (p.1, a.eval p.2)) (parts.toList.map fun p => (p.1, st.eval p.2)) := by
    generalize parts.toList = l
    induction l with
    | nil => trivial
    | cons p l ih => exact ⟨⟨rfl, hr.eval p.2⟩, ih⟩
  have hmap : ∀ (F : Field → Sem (Nat × Nat)), (∀ f q w, Γ f.type = some q → (F f).run P w = .ok (f.offset, q.size) w) → ∀ l : List Field, (∀ f, f ∈ l → (Γ f.type).isSome = true) → (l.mapM F).run P w = .ok (l.map fun f => (f.offset, ((Γ f.type).map (·.size)).getD 0)) w := by
    intro F hF l hl
    induction l with
    | nil => rfl
    | cons f l ih =>
      obtain ⟨q, hq⟩ := Option.isSome_iff_exists.1 (hl f List.mem_cons_self)
      rw [List.mapM_cons, Sem.run_bind, hF f q w hq, Result.andThen_ok, Sem.run_bind, ih fun g hg => hl g (List.mem_cons_of_mem _ hg), Result.andThen_ok]
      simp [hq]
  have hall' : ∀ f, f ∈ fa.toList → (Γ f.type).isSome = true := fun f hf => hfs (f.offset, f.type) (by rw [← hfa]; exact List.mem_map.2 ⟨f, hf, rfl⟩)
  obtain ⟨cells', h1, h2⟩ := fillC_ok (place := ((fa.toList.map fun f => (f.offset, ((Γ f.type).map (·.size)).getD 0)).toArray[·]?)) (fs := fs) (fun k off sz hp => by
    unfold placeT at hp
    rw [← hfa] at hp
    rw [List.getElem?_map] at hp
    cases hf : fa.toList[k]? with
    | none => rw [hf] at hp; cases hp
    | some f =>
      rw [hf] at hp
      simp only [Option.map_some] at hp
      cases hq : Γ f.type with
      | none => rw [hq] at hp; cases hp
      | some q =>
        rw [hq] at hp
        cases hp
        simp [hf, hq]) hvs (cells := z.cells) (by rw [hzc]; exact all2_zero hall) hc
  refine ⟨.agg cells', ?_, cells'.toList, by simp, h2⟩
  have hF : ∀ (f : Field) (q : Row) (w : World), Γ f.type = some q → (do pure (f.offset, ← sizeOf f.type) : Sem (Nat × Nat)).run P w = .ok (f.offset, q.size) w := fun f q w hq => by simp [run_sizeOf hΓ hq]
  have hb : (Instr.build t (parts.map fun (i, x) => (i, a.eval x))).run P w = .ok (.agg cells') w := by
    unfold Instr.build
    have hz' : (zeroValue t).run P w = .ok z w := by simp [zeroValue, typeInfo, hi, hz]
    rw [Sem.run_bind, hz', Result.andThen_ok, Sem.run_bind, run_underlying hu, Result.andThen_ok]
    simp only []
    rw [Sem.run_bind, Array.mapM_eq_mapM_toList]
    have hm := hmap _ hF fa.toList hall'
    have hm2 : (List.toArray <$> (fa.toList.mapM fun f => do pure (f.offset, ← sizeOf f.type) : Sem (List (Nat × Nat)))).run P w = .ok (fa.toList.map fun f => (f.offset, ((Γ f.type).map (·.size)).getD 0)).toArray w := by
      rw [map_eq_pure_bind, Sem.run_bind, hm]
      rfl
    rw [hm2, Result.andThen_ok]
    have h1' : Instr.fill ((fa.toList.map fun f => (f.offset, ((Γ f.type).map (·.size)).getD 0)).toArray[·]?) z.cells (parts.map fun (i, x) => (i, a.eval x)).toList = some cells' := by
      rw [← h1]; congr 1; simp
    rw [h1']
    rfl
  unfold execOp
  simp only [ho]
  rw [Sem.run_bind, hb]
  rfl

/-! ### A slice built -/
def treesOf : List CV → Option (List Tree)
  | [] => some []
  | .t x :: l => (treesOf l).map (x :: ·)
  | _ :: _ => none
/-- The parts, in order from k on, each of sz cells. -/
def rowsFrom (sz : Nat) : Nat → List (Nat × TV) → Option (List (List Tree))
  | _, [] => some []
  | k, (i, x) :: l => if i = k then (match (tvCells x).bind treesOf with
    | some ts => if ts.length = sz then (rowsFrom sz (k + 1) l).map (ts :: ·) else none
    | none => none) else none
theorem treesOf_ok : ∀ {cs : List CV} {ts : List Tree} {vs : List Value}, treesOf cs = some ts → All2 (RC E w) vs cs → All2 (RO w (roE E)) vs ts
  | [], _, [], h, _ => by cases h; trivial
  | .t x :: l, ts, v :: vs, h, k => by
    simp only [treesOf] at h
    cases hl : treesOf l with
    | none => rw [hl] at h; cases h
    | some ts' => rw [hl] at h; cases h; exact ⟨k.1, treesOf_ok hl k.2⟩
  | [], _, _ :: _, _, k => k.elim
  | _ :: _, _, [], _, k => k.elim
  | .own _ _ _ :: _, _, _ :: _, h, _ => by cases h
  | .ptr _ _ :: _, _, _ :: _, h, _ => by cases h
  | .ifp _ _ _ :: _, _, _ :: _, h, _ => by cases h
  | .ep _ _ _ :: _, _, _ :: _, h, _ => by cases h
  | .rp _ :: _, _, _ :: _, h, _ => by cases h
  | .irp _ _ :: _, _, _ :: _, h, _ => by cases h
  | .junk :: _, _, _ :: _, h, _ => by cases h
theorem fill_rows {sz : Nat} : ∀ {ps : List (Nat × TV)} {vs : List (Nat × Value)} {k : Nat} {cells : Array Value} {xs : List (List Tree)}, All2 (fun (v : Nat × Value) (p : Nat × TV) => v.1 = p.1 ∧ RT E w v.2 p.2) vs ps → rowsFrom sz k ps = some xs → (k + ps.length) * sz ≤ cells.size →
    ∃ cells', Instr.fill (fun i => some (i * sz, sz)) cells vs = some cells' ∧ cells'.size = cells.size ∧ (∀ j, j < k * sz → cells'[j]? = cells[j]?) ∧ (∀ x, x ∈ xs → x.length = sz) ∧ xs.length = ps.length ∧
      ∀ (i : Nat) x, xs[i]? = some x → ∀ (j : Nat) t, x[j]? = some t → ∃ v, cells'[(k + i) * sz + j]? = some v ∧ RO w (roE E) v t
  | [], [], k, cells, xs, _, h, _ => by cases h; exact ⟨cells, rfl, rfl, fun _ _ => rfl, (fun x hx => by cases hx), rfl, (fun i x hx => by simp at hx)⟩
  | (i, x) :: ps, (i', v) :: vs, k, cells, xs, hv, h, hsz => by
    obtain ⟨⟨hi, hx⟩, hv⟩ := hv
    simp only at hi hx
    subst hi
    simp only [rowsFrom] at h
    split at h
    · rename_i hik
      subst hik
      split at h
      · rename_i ts hts
        split at h
        · rename_i htl
          cases hr : rowsFrom sz (i' + 1) ps with
          | none => rw [hr] at h; cases h
          | some xs' =>
            rw [hr] at h
            cases h
            cases hcs : tvCells x with
            | none => rw [hcs] at hts; cases hts
            | some cs =>
              rw [hcs] at hts
              obtain ⟨uv, h3, h4, _⟩ := tvCells_ok hx hcs
              have h5 := treesOf_ok (show treesOf cs = some ts from hts) h4
              have hvl := h5.length
              have hs : v.cells.size = sz := by rw [h3]; simp; omega
              simp only [List.length_cons] at hsz
              have hle : i' * sz + sz ≤ cells.size := by
                have : (i' + 1) * sz ≤ (i' + (ps.length + 1)) * sz := Nat.mul_le_mul_right _ (by omega)
                rw [Nat.add_mul, Nat.one_mul] at this
                omega
              obtain ⟨c1, h6, h7, h8⟩ := fill_cons (place := fun i => some (i * sz, sz)) (cells := cells) (rest := vs) rfl hs hle
              obtain ⟨c2, g1, g2, g3, g4, g5, g6⟩ := fill_rows (cells := c1) hv hr (by rw [h7, show i' + 1 + ps.length = i' + (ps.length + 1) by omega]; exact hsz)
              refine ⟨c2, by rw [h6]; exact g1, by rw [g2, h7], fun j hj => ?_, fun y hy => ?_, by simp [g5], fun q y hy j t ht => ?_⟩
              · rw [g3 j (by rw [Nat.add_mul]; omega), h8 j (by omega), if_neg (by omega)]
              · rcases List.mem_cons.1 hy with e | hy
                · subst e; exact htl
                · exact g4 y hy
              · cases q with
                | zero =>
                  simp at hy
                  subst hy
                  have hj : j < sz := by rw [← htl]; exact (List.getElem?_eq_some_iff.1 ht).1
                  obtain ⟨u, h9, h10⟩ := h5.get ht
                  refine ⟨u, ?_, h10⟩
                  rw [Nat.add_zero, g3 (i' * sz + j) (by rw [Nat.add_mul]; omega), h8 _ (by omega), if_pos (by omega), show i' * sz + j - i' * sz = j by omega, h3]
                  simpa using h9
                | succ q =>
                  obtain ⟨u, h9, h10⟩ := g6 q y (by simpa using hy) j t ht
                  exact ⟨u, by rw [show i' + (q + 1) = i' + 1 + q by omega]; exact h9, h10⟩
        · cases h
      · cases h
    · cases h
  | [], _ :: _, _, _, _, h, _, _ => h.elim
  | _ :: _, [], _, _, _, h, _, _ => h.elim

theorem amOp_buildSlice (hΓ : TabOk P Γ) {t e : TypeId} {len : Nat} {parts : Array (Nat × Operand)} {r : Row} {xs : List (List Tree)} (ho : o.op = .buildSlice t len parts) (ht : P.underlying t = some (.slice e)) (he : Γ e = some r)
    (hc : rowsFrom r.size 0 (parts.toList.map fun p => (p.1, st.eval p.2)) = some xs) (hl : parts.size = len) (hn : len * r.size ≤ 16777216) (hpos : 0 < r.size) (hd : dstOk C.n o = true) (hK : K ((st.new (.arr e r.size xs)).put o.dst (.c (.own st.next 0 len)))) : amOp P C o Q K st := by
  refine amOp_step hd hK fun E a w hr => ?_
  obtain ⟨i, hi, hsz, hby, ⟨z, hz, hzc, _⟩, hzl, hall, _⟩ := (hΓ e r he).info
  have hvs : All2 (fun (v : Nat × Value) (p : Nat × TV) => v.1 = p.1 ∧ RT E w v.2 p.2) (parts.toList.map fun p => (p.1, a.eval p.2)) (parts.toList.map fun p => (p.1, st.eval p.2)) := by
    generalize parts.toList = l
    induction l with
    | nil => trivial
    | cons p l ih => exact ⟨⟨rfl, hr.eval p.2⟩, ih⟩
  obtain ⟨cells', h1, h2, _, h3, h4, h5⟩ := fill_rows (sz := r.size) (k := 0) (cells := (Array.range (len * r.size)).map (z.cells[· % z.cells.size]!)) hvs hc (by simp [hl])
  have hxl : xs.length = len := by rw [h4]; simp [hl]
  have hfl : ∃ vs, Flat w (roE E) r.size xs vs ∧ ∀ (k : Nat) v, vs[k]? = some v → cells'[k]? = some v := by
    refine ⟨cells'.toList, ⟨by simp [h2, hxl], h3, fun i x hx j t htt => ?_⟩, fun k v hv => by simpa using hv⟩
    obtain ⟨v, h6, h7⟩ := h5 i x hx j t htt
    exact ⟨v, by rw [Nat.zero_add] at h6; simpa using h6, h7⟩
  obtain ⟨vs, hf, hcv⟩ := hfl
  have hst := step_new hr (.arr w.heap.size r.size len) (.cells cells' e)
  have hmx : len ≤ maxLen := by
    have := Nat.le_mul_of_pos_right len hpos
    unfold maxLen
    omega
  refine ⟨_, .slice (some ⟨w.heap.size, 0, none⟩) len len, w.alloc (.cells cells' e), ?_, hr.new (.arr w.heap.size r.size len) _ _ (robj_of_flat (g := w.heap.size) (cap := len) (vs := vs) (by simp [Env.new]) (Go.heap_alloc_new w _) (by simp [h2]) (by omega) hmx (fun o => by simp [Env.new]) (hf.mono fun v t h => hst.ro h) hcv), .inr ⟨w.heap.size, r.size, len, 0, by simp [Env.new], rfl, by omega, fun _ => by omega⟩⟩
  have hbig : ¬ (2 ^ 24 < len * r.size) := by omega
  by_cases hne : len * r.size = 0
  · have hl0 : len = 0 := by
      rcases Nat.mul_eq_zero.1 hne with h0 | h0
      · exact h0
      · omega
    subst hl0
    have hpe : parts = #[] := Array.size_eq_zero_iff.1 hl
    subst hpe
    have hce : cells' = #[] := by
      apply Array.size_eq_zero_iff.1
      rw [h2]
      simp
    subst hce
    have hr0 : Array.range 0 = #[] := rfl
    simp [execOp, ho, Instr.buildSlice, run_underlying ht, run_sizeOf hΓ he, newRow, Instr.fill, hr0]
  simp [execOp, ho, Instr.buildSlice, run_underlying ht, run_sizeOf hΓ he, hbig, hne, zeroValue, typeInfo, hi, hz, h1, newRow]

/-! ### Structs compared -/
theorem amOp_eqS {op : BinOp} {ty yt : TypeId} {x y : Operand} {us vs : List Value} {b : Bool} (ho : o.op = .binOp op ty x y yt) (hx : st.eval x = .agg (us.map fun v => .t (.v v))) (hy : st.eval y = .agg (vs.map fun v => .t (.v v)))
    (hrun : ∀ (w : World) (x y : Operand), (do eqGuard op ty x y (.agg us.toArray) (.agg vs.toArray); binOp op ty (.agg us.toArray) (.agg vs.toArray) : Sem Value).run P w = .ok (.bool b) w) (hd : dstOk C.n o = true) (hK : K (st.put o.dst (lit (.bool b)))) : amOp P C o Q K st := by
  have lits : ∀ {E : Env} {w : World} {l : List Value} {vs : List Value}, All2 (RC E w) vs (l.map fun v => .t (.v v)) → vs = l := by
    intro E w l
    induction l with
    | nil => intro vs h; cases vs with
      | nil => rfl
      | cons _ _ => exact h.elim
    | cons v l ih => intro vs h; cases vs with
      | nil => exact h.elim
      | cons u vs => obtain ⟨h1, h2⟩ := h; rw [ro_v h1, ih h2]
  refine amOp_pure hd hK fun E a w hr => ⟨.bool b, ?_, .v _ rfl⟩
  have h1 := hr.eval x
  have h2 := hr.eval y
  rw [hx] at h1
  rw [hy] at h2
  obtain ⟨us', h3, h4⟩ := rtA h1
  obtain ⟨vs', h5, h6⟩ := rtA h2
  have := lits h4; subst this
  have := lits h6; subst this
  have h7 := hrun w x y
  unfold execOp
  simp only [ho, h3, h5]
  rw [Sem.run_bind, h7]
  rfl
end
end Go.Proofs.YtaolgdpkcbfocaaDoorA
