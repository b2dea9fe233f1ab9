/-
  The network's arguments, read as data.
-/
import Derived.Test.YtmaaniogcmlfbaaNetL
import Derived.Test.YtmaaniogcmlfbaaRead
namespace Go.Proofs.Ytmaaniogcmlfbaa
open Go.RowKit

theorem ev_reads : Reads Try.prog 29 evE :=
  Reads.via (fun x => ⟨x.1, x.2.1, x.2.2⟩) (fun _ => rfl) (Reads.struct Try.underlying29 (by kernel_rfl)
    (.cons rfl (Reads.i64 Try.underlying3) (by kernel_rfl) (.cons rfl (Reads.i64 Try.underlying3) (by kernel_rfl) (.last rfl (Reads.i64 Try.underlying3) (by kernel_rfl)))))
theorem u8s_reads : Reads Try.prog 30 Enc.u8.slice := Reads.slice Try.underlying30 (by kernel_rfl) (Reads.u8 Try.underlying5)
theorem pk_reads : Reads Try.prog 32 pkE :=
  Reads.via (fun x => ⟨x.1, x.2.1, x.2.2.1, x.2.2.2⟩) (fun _ => rfl) (Reads.struct Try.underlying32 (by kernel_rfl)
    (.cons rfl (Reads.i64 Try.underlying3) (by kernel_rfl) (.cons rfl (Reads.i64 Try.underlying3) (by kernel_rfl) (.cons rfl (Reads.i64 Try.underlying3) (by kernel_rfl) (.last rfl u8s_reads (by kernel_rfl))))))
theorem op_reads : Reads Try.prog 34 opE :=
  Reads.via (fun x => ⟨x.1.kd, x.1.at_, x.1.by_, x.2.1, x.2.2⟩) (fun _ => rfl) (Reads.struct Try.underlying34 (by kernel_rfl)
    (.cons rfl ev_reads (by kernel_rfl) (.cons rfl pk_reads (by kernel_rfl) (.last rfl (Reads.bool Try.underlying4) (by kernel_rfl)))))
theorem ops_reads : Reads Try.prog 22 opE.slice := Reads.slice Try.underlying22 (by kernel_rfl) op_reads
theorem evs_reads : Reads Try.prog 44 evE.slice := Reads.slice Try.underlying44 (by kernel_rfl) ev_reads
end Go.Proofs.Ytmaaniogcmlfbaa
