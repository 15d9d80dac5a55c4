/- part of a proof; what it has no use for was struck out -/
import Derived.Test.YtnikfeaggppmpaaLwS
import Derived.Test.YtnikfeaggppmpaaMk
namespace Go.Proofs.Ytnikfeaggppmpaa.Rdr
open Go.RowKit Go.Proofs.Ytnikfeaggppmpaa.PM Go.Proofs.YtnikfeaggppmpaaW Go.Proofs.YtnikfeaggppmpaaW.PrintWords Go.Proofs.YtnikfeaggppmpaaW.PrintLast Go.Proofs.YtnikfeaggppmpaaW.PrintMore Go.Proofs.Ytnikfeaggppmpaa.Base Go.Proofs.Ytnikfeaggppmpaa.Trn Go.Proofs.Ytnikfeaggppmpaa.QM Go.Proofs.Ytnikfeaggppmpaa.Nam Go.Proofs.Ytnikfeaggppmpaa.Rd Go.Proofs.Ytnikfeaggppmpaa.Wr Go.Proofs.Ytnikfeaggppmpaa.MapS Go.Proofs.Ytnikfeaggppmpaa.Heap
set_option linter.unusedVariables false
set_option linter.unusedSimpArgs false
set_option maxRecDepth 100000
theorem namW_len2 (n : List Int) (s : St) : (namW n s).1.length ≤ s.1.length + n.length + 2 := by
  unfold namW
  split
  · rename_i ls hls
    split at hls
    · have h := lay_labs _ _ _ hls
      have := wN_len ls s.1 s.2
      rw [← h.1] at this
      omega
    · cases hls
  · omega
end Go.Proofs.Ytnikfeaggppmpaa.Rdr
