/- The calculus, twelfth part: a region's operations, reckoned one behind the other. -/
import Derived.Test.YtaolgdpkcbfocaaDoorAmArr
import Derived.Laws.BytesArg
import Derived.Laws.Small
namespace Go.Proofs.YtaolgdpkcbfocaaDoorA
set_option autoImplicit false
set_option linter.unusedVariables false

def behindO (obj : Nat → Option AObj) : TV → Option (List CV)
  | .c (.ptr id off) => match obj id with
    | some (.cells xs) => some (xs.drop off)
    | _ => none
  | .c (.ep id i j) => match obj id with
    | some (.arr _ _ xs) => (xs[i]?).map fun x => (x.drop j).map .t
    | _ => none
  | .c (.rp xs) => some (xs.map .t)
  | _ => none
theorem behindO_eq (st : St) (x : TV) : behindO st.obj x = behind st x := by
  unfold behindO behind
  rfl
def isBoolT (Γ : Nat → Option Row) (t : Nat) : Bool :=
  match Γ t with
  | some r => match r.k with | .bool => true | _ => false
  | none => false
def isStrT (Γ : Nat → Option Row) (t : Nat) : Bool :=
  match Γ t with
  | some r => match r.k with | .str => true | _ => false
  | none => false
def elemT (Γ : Nat → Option Row) (t : Nat) : Option (Nat × Row) :=
  match Γ t with
  | some r => match r.k with | .slice e => (Γ e).map fun q => (e, q) | _ => none
  | none => none
def pureBin (Γ : Nat → Option Row) (op : BinOp) (ty : Nat) (x y : TV) : Option TV :=
  match cv1 x, cv1 y with
  | some u, some v => if isBool u = true then (if isBoolT Γ ty = true then (binLit op u v).map lit else none) else (binLit op u v).map lit
  | _, _ => none
def pureConv (Γ : Nat → Option Row) (s d : Nat) (x : TV) : Option TV :=
  match Γ s, Γ d, cv1 x with
  | some _, some r, some (.int _ n) => match r.k with | .int k' => some (lit (.int k' (k'.wrap n))) | _ => none
  | some _, some r, some (.string b) => match r.k with | .str => some (lit (.string b)) | _ => none
  | _, _, _ => none
def pureIndexSl (Γ : Nat → Option Row) (obj : Nat → Option AObj) (t : Nat) (x i : TV) : Option TV :=
  match elemT Γ t, cv1 i with
  | some (_, r), some (.int _ n) =>
    if 0 ≤ n then
      (match x with
      | .c (.t (.sl sz xs)) => if r.size = sz then (xs[n.toNat]?).map fun el => .c (.rp el) else none
      | .c (.own id lo len) => match obj id with
        | some (.arr _ sz _) => if r.size = sz ∧ n.toNat < len then some (.c (.ep id (lo + n.toNat) 0)) else none
        | _ => none
      | _ => none)
    else none
  | _, _ => none
def idxA (n : Nat) (q : Option Row) (xs : List CV) (i : Int) : Option TV :=
  match q with
  | some q => if q.k.isRow = false ∧ 0 ≤ i ∧ i < n then (xs[i.toNat]?).map .c else none
  | none => none
def arrT (Γ : Nat → Option Row) (t : Nat) : Option (Nat × Nat) :=
  match Γ t with
  | some r => match r.k with
    | .arr n e => some (n, e)
    | _ => none
  | none => none
def pureIndex (Γ : Nat → Option Row) (t : Nat) (x i : TV) : Option TV :=
  match x, cv1 i with
  | .agg xs, some (.int _ n) => match arrT Γ t with
    | some (m, e) => idxA m (Γ e) xs n
    | none => none
  | .c (.t (.v (.string s))), some (.int _ n) => if 0 ≤ n then (if isStrT Γ t = true then (s[n.toNat]?).map fun b => lit (.int .u8 b.toNat) else none) else none
  | _, _ => none
def ptrA (n : Nat) (q : Option Row) (id off : Nat) (i : Int) : Option TV :=
  match q with
  | some q => if 0 ≤ i ∧ i < n then some (.c (.ptr id (off + i.toNat * q.size))) else none
  | none => none
def cutB (ev : Operand → TV) (lo hi : Option Operand) (len : Nat) : Option (Nat × Nat) :=
  match (match lo with | none => some 0 | some x => match cv1 (ev x) with | some (.int _ n) => if 0 ≤ n then some n.toNat else none | _ => none),
        (match hi with | none => some len | some x => match cv1 (ev x) with | some (.int _ n) => if 0 ≤ n then some n.toNat else none | _ => none) with
  | some l, some h => if l ≤ h ∧ h ≤ len then some (l, h) else none
  | _, _ => none
theorem cutB_eq (st : St) (lo hi : Option Operand) (len : Nat) : cutB st.eval lo hi len = cutOf st lo hi len := rfl
def cutSize (obj : Nat → Option AObj) (r : Row) : TV → Bool
  | .c (.t (.sl sz _)) => decide (r.size = sz)
  | .c (.own id _ _) => match obj id with
    | some (.arr _ sz _) => decide (r.size = sz)
    | _ => false
  | _ => true
def pureCut (Γ : Nat → Option Row) (ev : Operand → TV) (obj : Nat → Option AObj) (t : Nat) (x : Operand) (lo hi : Option Operand) : Option TV :=
  match cv1 (ev x) with
  | some (.string s) => if isStrT Γ t = true then (cutB ev lo hi s.size).map fun p => lit (.string (s.extract p.1 p.2)) else none
  | _ => match elemT Γ t, lenTV (ev x) with
    | some (_, r), some n => if cutSize obj r (ev x) = true then (match cutB ev lo hi n with | some (l, h) => cutTV (ev x) l h | none => none) else none
    | _, _ => none
def pureLen (Γ : Nat → Option Row) (t : Nat) (x : TV) : Option TV :=
  match cv1 x with
  | some (.string s) => if isStrT Γ t = true then some (lit (.int .i64 s.size)) else none
  | _ => match elemT Γ t with
    | some _ => (lenTV x).map fun n : Nat => lit (.int .i64 (n : Int))
    | none => none
def pureMinMax (b : Builtin) (x y : TV) : Option TV :=
  match b, cv1 x, cv1 y with
  | .min, some (.int k m), some (.int _ n) => some (lit (.int k (if n < m then n else m)))
  | .max, some (.int k m), some (.int _ n) => some (lit (.int k (if n > m then n else m)))
  | _, _, _ => none
/-- The parts, each with what it yields. -/
def evMap (ev : Operand → TV) (l : List (Nat × Operand)) : List (Nat × TV) := l.map fun p => (p.1, ev p.2)
@[go_sem] theorem evMap_nil {ev : Operand → TV} : evMap ev [] = [] := rfl
@[go_sem] theorem evMap_cons {ev : Operand → TV} {p : Nat × Operand} {l : List (Nat × Operand)} : evMap ev (p :: l) = (p.1, ev p.2) :: evMap ev l := rfl
def buildA (Γ : Nat → Option Row) (e : Nat) (zero : List Value) (parts : List (Nat × TV)) : Option Row → Option TV
  | some q => if q.size = 1 then (fillC Γ (idxFs e zero 0) (zero.map fun v => .t (.v v)) parts).map .agg else none
  | none => none
def pureBuild (Γ : Nat → Option Row) (ev : Operand → TV) (t : Nat) (parts : List (Nat × Operand)) : Option TV :=
  match Γ t with
  | some r => match r.k with
    | .struct fs => if fs.all (fun p => (Γ p.2).isSome) = true then (fillC Γ fs (r.zero.map fun v => .t (.v v)) (evMap ev parts)).map .agg else none
    | .arr _ e => buildA Γ e r.zero (evMap ev parts) (Γ e)
    | _ => none
  | none => none
/-- Bytes as a text. -/
def byteRows : List (List Tree) → Option (List Int)
  | [] => some []
  | x :: l => match x, byteRows l with
    | [.v (.int .u8 n)], some ns => some (n :: ns)
    | _, _ => none
def strTV : Option (List Int) → Option TV
  | some ns => some (lit (.string (strOfNums ns)))
  | none => none
def bytesK (Γ : Nat → Option Row) (s d : Nat) : Bool :=
  match elemT Γ s, Γ d with
  | some (_, re), some rd => (match re.k with | .int .u8 => true | _ => false) && (match rd.k with | .str => true | _ => false)
  | _, _ => false
def pureStr (obj : Nat → Option AObj) (x : TV) : Option TV :=
  match x with
  | .c (.own id lo len) => match obj id with
    | some (.arr _ _ xs) => if lo + len ≤ xs.length then strTV (byteRows ((xs.drop lo).take len)) else none
    | _ => none
  | .c (.t (.sl _ xs)) => strTV (byteRows xs)
  | _ => none
def pureConvB (Γ : Nat → Option Row) (obj : Nat → Option AObj) (s d : Nat) (x : TV) : Option TV := if bytesK Γ s d = true then pureStr obj x else pureConv Γ s d x
def pureIndexAddr (Γ : Nat → Option Row) (obj : Nat → Option AObj) (t : Nat) (x i : TV) : Option TV :=
  match x, arrT Γ t, cv1 i with
  | .c (.ptr id off), some (m, e), some (.int _ n) => ptrA m (Γ e) id off n
  | _, _, _ => pureIndexSl Γ obj t x i
/-- What an operation that only reckons and reads yields. -/
def pureVal (Γ : Nat → Option Row) (ev : Operand → TV) (obj : Nat → Option AObj) (op : Op) : Option TV :=
  match op with
  | .move x | .assign x => some (ev x)
  | .pick c x y => match cv1 (ev c) with
    | some (.bool b) => some (pickTV b (ev x) (ev y))
    | _ => none
  | .binOp op ty x y _ => pureBin Γ op ty (ev x) (ev y)
  | .unOp op _ x => match cv1 (ev x) with
    | some u => (unLit op u).map lit
    | none => none
  | .convert s d x => pureConvB Γ obj s d (ev x)
  | .nilCheck x => if someTV (ev x) = true then some (ev x) else none
  | .fieldAddr s x f => match fieldOf Γ s f with
    | some (off, _, q) => if q.size = 0 then none else addrTV off (ev x)
    | none => none
  | .load t x => match Γ t, behindO obj (ev x) with
    | some r, some cs => loadTV r cs
    | _, _ => none
  | .indexAddr t x i => pureIndexAddr Γ obj t (ev x) (ev i)
  | .index t x i => pureIndex Γ t (ev x) (ev i)
  | .field t x f => match fieldOf Γ t f, ev x with
    | some (off, _, q), .agg xs => loadTV q (xs.drop off)
    | _, _ => none
  | .extract x i => match ev x with
    | .tup xs => xs[i]?
    | _ => none
  | .slice t x lo hi none => pureCut Γ ev obj t x lo hi
  | .build t parts => pureBuild Γ ev t parts.toList
  | .call c => match c.callee, c.args.toList, c.argTypes.toList with
    | .builtin .len, [x], [t] => pureLen Γ t (ev x)
    | .builtin b, [x, y], _ => pureMinMax b (ev x) (ev y)
    | _, _, _ => none
  | _ => none

section
variable {P : Program} {Γ : Nat → Option Row} {C : Ctx} {Q : Exit → St → Prop} {st : St} {o : Oper} {K : St → Prop} {E : Env} {a : Act} {w : World}
theorem binLit_one {op : BinOp} {u v r : Value} (h : binLit op u v = some r) : r.oneCell' = true := by
  cases u <;> cases v <;> simp only [binLit, reduceCtorEq] at h
  case int.int k a k' b =>
    split at h
    · cases hs : shiftInt op k a b with
      | none => rw [hs] at h; cases h
      | some c => rw [hs] at h; cases h; rfl
    · split at h
      · split at h
        · cases hs : cmpInt op a b with
          | none => rw [hs] at h; cases h
          | some c => rw [hs] at h; cases h; rfl
        · cases hs : arithInt op k a b with
          | none => rw [hs] at h; cases h
          | some c => rw [hs] at h; cases h; rfl
      · cases h
  case string.string s t =>
    cases op <;> simp [strBin] at h
    case add => obtain ⟨_, rfl⟩ := h; rfl
    all_goals subst h; rfl
  case bool.bool s t => cases op <;> simp [boolBin] at h <;> subst h <;> rfl
theorem isBoolT_ok (hΓ : TabOk P Γ) {t : Nat} (h : isBoolT Γ t = true) : P.underlying t = some .bool := by
  unfold isBoolT at h
  split at h
  · rename_i r hr
    have := (hΓ t r hr).k
    split at h
    · rename_i hk; rw [hk] at this; exact this
    · cases h
  · cases h
theorem arrT_ok {t n e : Nat} (h : arrT Γ t = some (n, e)) : ∃ r, Γ t = some r ∧ r.k = .arr n e := by
  unfold arrT at h
  split at h
  · rename_i r hr
    split at h
    · rename_i hk; cases h; exact ⟨r, hr, hk⟩
    · cases h
  · cases h
theorem isStrT_ok (hΓ : TabOk P Γ) {t : Nat} (h : isStrT Γ t = true) : P.underlying t = some .string := by
  unfold isStrT at h
  split at h
  · rename_i r hr
    have := (hΓ t r hr).k
    split at h
    · rename_i hk; rw [hk] at this; exact this
    · cases h
  · cases h
theorem elemT_ok (hΓ : TabOk P Γ) {t e : Nat} {q : Row} (h : elemT Γ t = some (e, q)) : P.underlying t = some (.slice e) ∧ Γ e = some q := by
  unfold elemT at h
  split at h
  · rename_i r hr
    have := (hΓ t r hr).k
    split at h
    · rename_i e' hk
      rw [hk] at this
      cases hq : Γ e' with
      | none => rw [hq] at h; cases h
      | some q' => rw [hq] at h; cases h; exact ⟨this, hq⟩
    · cases h
  · cases h
theorem und_some (hΓ : TabOk P Γ) {t : Nat} {r : Row} (h : Γ t = some r) : ∃ D, P.underlying t = some D := by
  obtain ⟨D, hD, _⟩ := row_isAgg (hΓ t r h); exact ⟨D, hD⟩

theorem byteRows_ok : ∀ {l : List (List Tree)} {ns : List Int}, byteRows l = some ns → l = ns.map fun n => [Tree.v (.int .u8 n)]
  | [], ns, h => by cases h; rfl
  | x :: l, ns, h => by
    unfold byteRows at h
    split at h
    · rename_i n ns' hl
      cases h
      rw [byteRows_ok hl]
      rfl
    · cases h
theorem strTV_some {x : Option (List Int)} {X : TV} (h : strTV x = some X) : ∃ ns, x = some ns ∧ X = lit (.string (strOfNums ns)) := by
  cases x with
  | none => cases h
  | some ns => cases h; exact ⟨ns, rfl, rfl⟩
theorem run_bytesStr {e sd dd : TypeId} (w : World) (hs : P.underlying sd = some (.slice e)) (he : P.underlying e = some (.int .u8)) (hdd : P.underlying dd = some .string) {a : Option Addr} {len cap : Nat} {ns : List Int} (hlen : ns.length = len) (ha : ns ≠ [] → ∃ g o, a = some ⟨g, o, none⟩ ∧ ∀ i, i < len → w.cell? ⟨g, o + i, none⟩ = some (.int .u8 (ns.getD i 0))) :
    (convert sd dd (.slice a len cap)).run P w = .ok (.string (strOfNums ns)) w := by
  cases ns with
  | nil =>
    simp at hlen
    subst hlen
    cases a with
    | none => exact run_convert_bytes_nil w sd e hs he 0 cap dd hdd
    | some a =>
      rw [run_convert_bytes_string w sd dd e _ 0 cap hs he hdd, run_bytesToString w a 0 cap [] (by simpa using run_loadCells_list (P := P) w a [] (fun j v hj => by simp at hj))]
      rfl
  | cons n ns =>
    obtain ⟨g, o, rfl, hc⟩ := ha (by simp)
    exact run_convert_bytes_arg w sd e hs he g o len cap _ hlen hc dd hdd
theorem amOp_convB (hΓ : TabOk P Γ) {s d : TypeId} {x : Operand} {X : TV} (ho : o.op = .convert s d x) (hb : bytesK Γ s d = true) (h : pureStr st.obj (st.eval x) = some X) (hd : dstOk C.n o = true) (hk : K (st.put o.dst X)) : amOp P C o Q K st := by
  unfold bytesK at hb
  split at hb
  · rename_i e re rd hel hrd
    simp only [Bool.and_eq_true] at hb
    obtain ⟨hu, hre⟩ := elemT_ok hΓ hel
    have hke := (hΓ e re hre).k
    have hkd := (hΓ d rd hrd).k
    have h1 : re.k = .int .u8 := by
      have := hb.1
      split at this
      · assumption
      · cases this
    have h2 : rd.k = .str := by
      have := hb.2
      split at this
      · assumption
      · cases this
    rw [h1] at hke
    rw [h2] at hkd
    unfold pureStr at h
    split at h
    · rename_i id lo len hx
      split at h
      · rename_i ty sz xs hob
        split at h
        · rename_i hle
          obtain ⟨ns, h3, rfl⟩ := strTV_some h
          have h4 := byteRows_ok h3
          have hnl : ns.length = len := by
            have := congrArg List.length h4
            simp at this
            omega
          refine amOp_pure hd hk fun E a w hr => ?_
          have hxx := hr.eval x
          rw [hx] at hxx
          refine ⟨.string (strOfNums ns), ?_, .v _ rfl⟩
          have hat : ∀ i, i < len → xs[lo + i]? = some [Tree.v (.int .u8 (ns.getD i 0))] := fun i hi => by
            have h5 : ((xs.drop lo).take len)[i]? = (ns.map fun n => [Tree.v (.int .u8 n)])[i]? := by rw [h4]
            rw [List.getElem?_take, if_pos hi, List.getElem?_drop, List.getElem?_map, List.getElem?_eq_getElem (show i < ns.length by omega)] at h5
            rw [h5]
            simp [List.getD, List.getElem?_eq_getElem (show i < ns.length by omega)]
          have hrun : (convert s d (a.eval x)).run P w = .ok (.string (strOfNums ns)) w := by
            rcases rtC hxx with ⟨h5, h6, h7, h8⟩ | ⟨g, sz', cap, o', h5, h6, h7, h8⟩
            · rw [h6]
              subst h8
              exact run_bytesStr w hu hke hkd hnl (fun hne => absurd (List.eq_nil_of_length_eq_zero hnl) hne)
            · rw [h6]
              rcases hr.objs _ _ hob with ⟨h9, _⟩ | ⟨g', cap', cur, h9, h10, h11, h12, h13, h14, h15, h16⟩
              · rw [h5] at h9; cases h9
              rw [h5] at h9; cases h9
              refine run_bytesStr w hu hke hkd hnl (fun hne => ⟨g, o', rfl, fun i hi => ?_⟩)
              have h17 := hat i hi
              have hsz : sz = 1 := (h15 _ (List.mem_of_getElem? h17)).symm
              subst hsz
              obtain ⟨v, h18, h19⟩ := h16 _ _ h17 0 _ rfl
              have := ro_v h19
              subst this
              rw [cur_cell h10, h8 (by omega), Nat.mul_one]
              simpa using h18
          unfold execOp
          simp only [ho]
          rw [Sem.run_bind, hrun]
          rfl
        · cases h
      · cases h
    · rename_i sz xs hx
      obtain ⟨ns, h3, rfl⟩ := strTV_some h
      have h4 := byteRows_ok h3
      refine amOp_pure hd hk fun E a w hr => ?_
      have hxx := hr.eval x
      rw [hx] at hxx
      refine ⟨.string (strOfNums ns), ?_, .v _ rfl⟩
      have hrun : (convert s d (a.eval x)).run P w = .ok (.string (strOfNums ns)) w := by
        have hro := rtT hxx
        generalize a.eval x = v at hro
        cases hro with
        | sl a cap sz xs g off f hcap hmax hsz ha hc ht =>
          have hnl : ns.length = xs.length := by rw [h4]; simp
          refine run_bytesStr w hu hke hkd hnl (fun hne => ?_)
          have hxne : xs ≠ [] := fun e => hne (List.eq_nil_of_length_eq_zero (by rw [hnl, e]; rfl))
          refine ⟨g, off, ha hxne, fun i hi => ?_⟩
          have h5 : xs[i]? = some [Tree.v (.int .u8 (ns.getD i 0))] := by
            rw [h4, List.getElem?_map, List.getElem?_eq_getElem (show i < ns.length by omega)]
            simp [List.getD, List.getElem?_eq_getElem (show i < ns.length by omega)]
          have hs1 : sz = 1 := (hsz _ (List.mem_of_getElem? h5)).symm
          subst hs1
          have h6 := (hc i 0 hi (by omega)).2
          have h7 := ro_v (ht i _ h5 0 _ rfl)
          rw [h7, Nat.mul_one] at h6
          simpa using h6
      unfold execOp
      simp only [ho]
      rw [Sem.run_bind, hrun]
      rfl
    · cases h
  · cases hb
theorem pureVal_ok (hΓ : TabOk P Γ) {X : TV} (hd : dstOk C.n o = true) (h : pureVal Γ st.eval st.obj o.op = some X) (hk : K (st.put o.dst X)) : amOp P C o Q K st := by
  generalize ho : o.op = op at h
  cases op <;> simp only [pureVal, reduceCtorEq] at h
  case move x => cases h; exact amOp_move (.inl ho) hd hk
  case assign x => cases h; exact amOp_move (.inr ho) hd hk
  case pick c x y =>
    split at h
    · rename_i b hc; cases h; exact amOp_pick ho (cv1_some hc) hd hk
    · cases h
  case binOp op ty x y yt =>
    unfold pureBin at h
    split at h
    · rename_i u v hu hv
      have hgo : (binLit op u v).map lit = some X → (isBool u = true → P.underlying ty = some .bool) → amOp P C o Q K st := fun h1 h2 => by
        cases hr : binLit op u v with
        | none => rw [hr] at h1; cases h1
        | some r => rw [hr] at h1; cases h1; exact amOp_bin ho (cv1_some hu) (cv1_some hv) hr (binLit_one hr) h2 hd hk
      split at h
      · split at h
        · rename_i hb; exact hgo h fun _ => isBoolT_ok hΓ hb
        · cases h
      · rename_i hb; exact hgo h fun h0 => absurd h0 hb
    · cases h
  case build t parts =>
    unfold pureBuild at h
    split at h
    · rename_i r hr
      split at h
      · rename_i fs hfs
        split at h
        · rename_i hall
          cases hc : fillC Γ fs (r.zero.map fun v => .t (.v v)) (evMap st.eval parts.toList) with
          | none => rw [hc] at h; cases h
          | some cs => rw [hc] at h; cases h; exact amOp_build hΓ ho hr hfs hc (fun p hp => List.all_eq_true.1 hall p hp) hd hk
        · cases h
      · rename_i n e hfs
        unfold buildA at h
        split at h
        · rename_i q hq
          split at h
          · rename_i hq1
            cases hc : fillC Γ (idxFs e r.zero 0) (r.zero.map fun v => .t (.v v)) (evMap st.eval parts.toList) with
            | none => rw [hc] at h; cases h
            | some cs => rw [hc] at h; cases h; exact amOp_buildArr hΓ ho hr hfs hq hq1 hc hd hk
          · cases h
        · cases h
      · cases h
    · cases h
  case unOp op ty x =>
    split at h
    · rename_i u hu
      cases hr : unLit op u with
      | none => rw [hr] at h; cases h
      | some r => rw [hr] at h; cases h; exact amOp_un ho (cv1_some hu) hr hd hk
    · cases h
  case convert s d x =>
    unfold pureConvB at h
    split at h
    · rename_i hb
      exact amOp_convB hΓ ho hb h hd hk
    unfold pureConv at h
    split at h
    · rename_i r1 r k n hs hdd hx
      split at h
      · rename_i k' hk'
        cases h
        obtain ⟨D, hD⟩ := und_some hΓ hs
        have h2 := (hΓ d r hdd).k
        rw [hk'] at h2
        exact amOp_conv ho hD h2 (cv1_some hx) hd hk
      · cases h
    · rename_i r1 r b hs hdd hx
      split at h
      · rename_i hk'
        cases h
        obtain ⟨D, hD⟩ := und_some hΓ hs
        have h2 := (hΓ d r hdd).k
        rw [hk'] at h2
        exact amOp_convStr ho hD h2 (cv1_some hx) hd hk
      · cases h
    · cases h
  case nilCheck x =>
    split at h
    · rename_i hx; cases h; exact amOp_nilCheck ho hx hd hk
    · cases h
  case fieldAddr s x f =>
    split at h
    · rename_i off ty q hf
      split at h
      · cases h
      · rename_i hq; exact amOp_fieldAddr hΓ ho hf hq h hd hk
    · cases h
  case load t x =>
    split at h
    · rename_i r cs hr hb
      rw [behindO_eq] at hb
      exact amOp_load hΓ ho hr hb h hd hk
    · cases h
  case indexAddr t x i =>
    unfold pureIndexAddr at h
    split at h
    · rename_i id off m e k n hx har hi
      obtain ⟨r, hr, hrk⟩ := arrT_ok har
      unfold ptrA at h
      split at h
      · rename_i q hq
        split at h
        · rename_i hc; cases h; exact amOp_indexPtr hΓ ho hr hrk hq hx (cv1_some hi) hc.1 hc.2 hd hk
        · cases h
      · cases h
    unfold pureIndexSl at h
    split at h
    · rename_i e r k n he hi
      obtain ⟨h1, h2⟩ := elemT_ok hΓ he
      split at h
      · rename_i h0
        split at h
        · rename_i sz xs hx
          split at h
          · rename_i hsz
            cases hel : xs[n.toNat]? with
            | none => rw [hel] at h; cases h
            | some el => rw [hel] at h; cases h; exact amOp_indexRo hΓ ho h1 h2 hx hsz (cv1_some hi) h0 hel hd hk
          · cases h
        · rename_i id lo len hx
          split at h
          · rename_i ty sz xs hob
            split at h
            · rename_i hc; cases h; exact amOp_indexOwn hΓ ho h1 h2 hx hob hc.1 (cv1_some hi) h0 hc.2 hd hk
            · cases h
          · cases h
        · cases h
      · cases h
    · cases h
  case index t x i =>
    unfold pureIndex at h
    split at h
    · rename_i xs k n hx hi
      split at h
      · rename_i m e har
        obtain ⟨r, hr, hrk⟩ := arrT_ok har
        unfold idxA at h
        split at h
        · rename_i q hq
          split at h
          · rename_i hc
            cases hx' : xs[n.toNat]? with
            | none => rw [hx'] at h; cases h
            | some c => rw [hx'] at h; cases h; exact amOp_indexArr hΓ ho hr hrk hq hc.1 hx (cv1_some hi) hc.2.1 hc.2.2 hx' hd hk
          · cases h
        · cases h
      · cases h
    · rename_i s k n hs hi
      split at h
      · rename_i h0
        split at h
        · rename_i ht
          cases hb : s[n.toNat]? with
          | none => rw [hb] at h; cases h
          | some b => rw [hb] at h; cases h; exact amOp_indexStr ho (isStrT_ok hΓ ht) hs (cv1_some hi) h0 hb hd hk
        · cases h
      · cases h
    · cases h
  case field t x f =>
    split at h
    · rename_i off ty q xs hf hx
      exact amOp_field hΓ ho hf hx h hd hk
    · cases h
  case extract x i =>
    split at h
    · rename_i xs hx; exact amOp_extract ho hx h hd hk
    · cases h
  case slice t x lo hi mx =>
    cases mx with
    | some _ => cases h
    | none =>
      simp only [pureCut] at h
      split at h
      · rename_i s hs
        split at h
        · rename_i ht
          rw [cutB_eq] at h
          cases hc : cutOf st lo hi s.size with
          | none => rw [hc] at h; cases h
          | some p => rw [hc] at h; cases h; exact amOp_cutStr ho (isStrT_ok hΓ ht) (cv1_some hs) hc hd hk
        · cases h
      · split at h
        · rename_i e r n he hn
          obtain ⟨h1, h2⟩ := elemT_ok hΓ he
          split at h
          · rename_i hsz
            rw [cutB_eq] at h
            split at h
            · rename_i l' h' hc
              refine amOp_cut hΓ ho h1 h2 hn hc h (fun sz xs hx => ?_) (fun id l0 len hx => ?_) hd hk
              · rw [hx] at hsz; simpa [cutSize] using hsz
              · rw [hx] at hsz
                simp only [cutSize] at hsz
                split at hsz
                · rename_i ty sz xs hob
                  have : r.size = sz := by simpa using hsz
                  subst this
                  exact ⟨ty, xs, hob⟩
                · cases hsz
            · cases h
          · cases h
        · cases h
  case call c =>
    split at h
    · rename_i x t h1 h2 h3
      have hc : c = { callee := .builtin .len, args := #[x], argTypes := #[t] } := by
        cases c
        simp only at h1 h2 h3
        subst h1
        congr 1
        · apply Array.toList_inj.1; rw [h2]
        · apply Array.toList_inj.1; rw [h3]
      subst hc
      unfold pureLen at h
      split at h
      · rename_i s hs
        split at h
        · rename_i ht; cases h; exact amOp_lenStr ho (isStrT_ok hΓ ht) (cv1_some hs) hd hk
        · cases h
      · split at h
        · rename_i e he
          obtain ⟨e', q⟩ := e
          obtain ⟨h1, h2⟩ := elemT_ok hΓ he
          cases hn : lenTV (st.eval x) with
          | none => rw [hn] at h; cases h
          | some n => rw [hn] at h; cases h; exact amOp_lenSlice (rt := 0) ho h1 hn hd hk
        · cases h
    · rename_i b x y h1 h2
      obtain ⟨ce, as, ts⟩ := c
      simp only at h1 h2
      subst h1
      have has : as = #[x, y] := by apply Array.toList_inj.1; rw [h2]
      subst has
      unfold pureMinMax at h
      split at h
      · rename_i k m k' n hx hy
        cases h
        refine amOp_pure hd hk fun E a w hr => ⟨.int k (if n < m then n else m), ?_, .v _ rfl⟩
        have e1 : a.eval x = .int k m := hr.lit (cv1_some hx)
        have e2 : a.eval y = .int k' n := hr.lit (cv1_some hy)
        have hrun := run_min_int2 (P := P) (w := w) ts o.type k k' m n
        simp [execOp, ho, resolve, invoke, builtin, e1, e2, hrun]
      · rename_i k m k' n hx hy
        cases h
        refine amOp_pure hd hk fun E a w hr => ⟨.int k (if n > m then n else m), ?_, .v _ rfl⟩
        have e1 : a.eval x = .int k m := hr.lit (cv1_some hx)
        have e2 : a.eval y = .int k' n := hr.lit (cv1_some hy)
        have hrun := run_max_int2 (P := P) (w := w) ts o.type k k' m n
        simp [execOp, ho, resolve, invoke, builtin, e1, e2, hrun]
      · cases h
    · cases h
end
end Go.Proofs.YtaolgdpkcbfocaaDoorA
