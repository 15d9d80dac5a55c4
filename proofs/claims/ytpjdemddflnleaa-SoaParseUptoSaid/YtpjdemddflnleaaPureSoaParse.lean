/-
  The law SoaParse about numbers and lists alone.
-/
import Derived.Test.YtpjdemddflnleaaPureSaidSoaParse
namespace Go.Proofs.Ytpjdemddflnleaa.Pure
open Go.RowKit Go.Proofs.Ytpjdemddflnleaa.PA Go.Proofs.YtpjdemddflnleaaW.PrintWords Go.Proofs.YtpjdemddflnleaaW.PrintLast

theorem SoaParse : PureSaid.SoaParse := by
  intro a0 hw hb
  have hb2 : a0.size + 1 ≤ 1048576 := hb
  unfold bolterlaw07_SoaParse.f
  exact if_pos (by omega)

end Go.Proofs.Ytpjdemddflnleaa.Pure
