/- For every message the program's MsgFault is the reference's: both tell the first broken of the six rules. -/
import Derived.Test.YtnbcpiaajckoaaaMsg
import Derived.Test.YtnbcpiaajckoaaaPx1
import Derived.Test.YtnbcpiaajckoaaaPx6
import Derived.Test.YtnbcpiaajckoaaaPx12
import Derived.Test.YtnbcpiaajckoaaaPx13
namespace Go.Proofs.Ytnbcpiaajckoaaa.Pure
open Go.RowKit Go.Proofs.Ytnbcpiaajckoaaa.P Go.Proofs.Ytnbcpiaajckoaaa.Mth

theorem FnExactMsgFault : laws_FnExactMsgFault.Pure := by
  intro a0 a1 a2 a3 a4 a5 a6 a7 a8 l _ _ _ _ _ _ _ _ _ hl
  refine ⟨4000000, ?_⟩
  unfold laws_FnExactMsgFault.f laws_szMsg.f laws_toMsg.f
  obtain ⟨r, hr, hor⟩ := szEntryS_tot l 1048576 hl.1 (by omega) (by omega) (k := 4000000) (by omega)
  rw [hr]
  simp only [Option.bind_some]
  by_cases h0 : r < 0
  · simp [h0]
  · have hlen : l.length ≤ 1048576 := by omega
    have hlen' : (l.map cvE).length ≤ 1048576 := by rw [List.length_map]; exact hlen
    simp only [h0, if_false, Option.bind_some]
    rw [toEntryS_ok l hlen (by omega)]
    simp only [Option.bind_some]
    rw [spec_MsgFault_eq _ _ _ _ _ _ _ _ _ _ _ (by omega) hlen', impl_MsgFault_eq _ _ _ _ _ _ _ _ _ _ _ (by omega) hlen']
    simp only [Option.bind_some, if_true, laws_eqMsg.f, eqEntryS_ok _ hlen' (show (l.map cvE).length < 4000000 by omega)]
end Go.Proofs.Ytnbcpiaajckoaaa.Pure
