/- (Two variables laid: the table, the error.) What the condition 'the table is laid' gives a walk; a heap that meets it. -/
import Derived.Test.YtaolgdpkcbfocaaDoorRows
import Derived.Test.YtaolgdpkcbfocaaDoorFOpen
import Derived.Stop.LaidErr
import Derived.ProofKit
import Derived.LaidMore
import Derived.LaidLaws
import Derived.MakeChecks
import Derived.OpenShut
import Derived.ChangeArms
namespace Go.Proofs.YtaolgdpkcbfocaaDoorA
open Go.ChangeShapes Go.WideShapes Go.ChangeAt Go.WideMaps Go.WideElems Go.RowKit
abbrev laidL : List (String × DataW Unit) := [("loop.example/s01586/impl.nibbles", Go.Proofs.YtaolgdpkcbfocaaDoor.Rows.laid_loop_example_s01586_impl_nibbles), ("loop.example/s01586/impl.errFull", Go.Proofs.YtaolgdpkcbfocaaDoor.Rows.laid_loop_example_s01586_impl_errFull)]
theorem gNib : Tryd.prog.globalNamed "loop.example/s01586/impl.nibbles" = some 1 := by kernel_rfl
theorem tNib : (Tryd.prog.globals[1]?).map (·.type) = some 163 := by kernel_rfl
theorem nib_data : ∀ i, i < 16 → ([.lit (.int .u32 0), .lit (.int .u32 498536548), .lit (.int .u32 997073096), .lit (.int .u32 651767980), .lit (.int .u32 1994146192), .lit (.int .u32 1802195444), .lit (.int .u32 1303535960), .lit (.int .u32 1342533948), .lit (.int .u32 3988292384), .lit (.int .u32 4027552580), .lit (.int .u32 3604390888), .lit (.int .u32 3412177804), .lit (.int .u32 2607071920), .lit (.int .u32 2262029012), .lit (.int .u32 2685067896), .lit (.int .u32 3183342108)] : List (DataW Unit))[i]? = some (.lit (.int .u32 (nibL.getD i 0)))
  | 0, _ => rfl | 1, _ => rfl | 2, _ => rfl | 3, _ => rfl | 4, _ => rfl | 5, _ => rfl | 6, _ => rfl | 7, _ => rfl | 8, _ => rfl | 9, _ => rfl | 10, _ => rfl | 11, _ => rfl | 12, _ => rfl | 13, _ => rfl | 14, _ => rfl | 15, _ => rfl
  | n + 16, h => absurd h (by omega)
theorem gErr : Tryd.prog.globalNamed "loop.example/s01586/impl.errFull" = some 0 := by kernel_rfl
theorem tErr : (Tryd.prog.globals[0]?).map (·.type) = some 119 := by kernel_rfl
theorem cellsES : Tryd.prog.cellsOf 216 = 1 := by kernel_rfl
theorem cellsStr : Tryd.prog.cellsOf 9 = 1 := by kernel_rfl
theorem starES : "*" ++ "errors.errorString" = "*errors.errorString" := by decide
theorem rowES (u : TypeId) (h : Tryd.prog.typeName? 3 u = some "*errors.errorString") : u = 186 :=
  typeName_ptr_named (nm := "errors.errorString") (by rw [starES]; kernel_rfl) (by kernel_rfl) (by decide) u (by rw [starES]; exact h)
set_option maxRecDepth 100000 in
theorem pre_of_laid {W : World} (h : laidMetH Tryd.prog laidL W) : Pre W noE := by
  rw [MakeChecks.laidMetH_plain _ _ _ (by kernel_rfl)] at h
  obtain ⟨ps, ⟨g0, t0, cs0, f0, p0, q0, hg0, ht0, hv0, hd0, ⟨g1, t1, cs1, f1, p1, q1, hg1, ht1, hv1, hd1, _, e1⟩, e0⟩, hnd, hrows⟩ := h
  subst e1
  subst e0
  obtain rfl := Option.some.inj (gErr.symm.trans hg1)
  obtain rfl := Option.some.inj (tErr.symm.trans ht1)
  obtain ⟨l1⟩ := cs1
  have ok1 : ∀ u v, l1 = [.iface u v] → Value.okWide Tryd.prog W .any 0 u v := fun u v e => by
    subst e
    exact (hrows 0 0 (by simp [MemPlace.row])).2 u v (by simpa using World.var?_cell hg1 hv1 0)
  simp only [Go.Proofs.YtaolgdpkcbfocaaDoor.Rows.laid_loop_example_s01586_impl_errFull] at hd1
  obtain ⟨a1, s1, rfl, _, _, _, _⟩ := errorString_of_trod Tryd.underlying119 rowES Tryd.underlying186 Tryd.underlying216 rfl rfl Tryd.underlying9 cellsES cellsStr hd1 ok1
  have hcell : W.cell? ⟨0, 0, none⟩ = some (.iface 186 (.pointer (some a1))) := by simpa using World.var?_cell hg1 hv1 0
  obtain rfl := Option.some.inj (gNib.symm.trans hg0)
  obtain rfl := Option.some.inj (tNib.symm.trans ht0)
  obtain ⟨xs, m1, rfl, hx1, hlen, hn, hel⟩ := DataW.trod_array Tryd.underlying163 hd0
  have c3 : Tryd.prog.cellsOf 131 = 1 := by kernel_rfl
  rw [c3] at hel
  simp only [Go.Proofs.YtaolgdpkcbfocaaDoor.Rows.laid_loop_example_s01586_impl_nibbles, Prod.mk.injEq, DataW.agg.injEq] at hx1
  refine ⟨fun i hi => ?_, fun _ => rfl, ⟨a1, hcell⟩, rfl, fun _ => rfl⟩
  have hi' : i < xs.length := by omega
  have h1 := hel i hi
  rw [List.getElem?_eq_getElem hi'] at h1
  obtain ⟨k, e1, e2, _⟩ := DataW.trod_int Tryd.underlying131 h1
  have h2 := nib_data i hi
  rw [hx1.1, List.getElem?_map, List.getElem?_eq_getElem hi', Option.map_some, e2] at h2
  have h3 : k = nibL.getD i 0 := by simpa using h2
  rw [World.var?_cell hg0 hv0 i, ← Array.getElem?_toList]
  have h4 : (cs0.toList.drop (i * 1)).take 1 = [Value.int .u32 k] := e1
  have h5 := congrArg (fun l => l[0]?) h4
  simp only [List.getElem?_take_of_lt (show 0 < 1 by decide), List.getElem?_drop, List.getElem?_cons_zero] at h5
  rw [Nat.mul_one, Nat.add_zero] at h5
  rw [← h3]
  exact h5
set_option maxRecDepth 100000 in
/-- The door's own heap meets the condition. -/
theorem door_met (os : Os) (args : Array Value) : laidMetH Tryd.prog laidL ((World.doorLaid Tryd.prog 400 os).forCall (fun _ _ => 0) ⟨#[], args, []⟩).memory :=
  by
  refine laidMetH_of_parts ?_ ?_
  · refine laidMet_of_run' 8 ?_ ?_
    · kernel_rfl
    · kernel_rfl
  · kernel_rfl
end Go.Proofs.YtaolgdpkcbfocaaDoorA
