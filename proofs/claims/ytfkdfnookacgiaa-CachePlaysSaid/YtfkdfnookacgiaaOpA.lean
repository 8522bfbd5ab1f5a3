/- How an address that comes in is read. No statement of the seat is proved here. -/
import Derived.Test.YtfkdfnookacgiaaAd
import Derived.Test.YtfkdfnookacgiaaRow
namespace Go.Proofs.Ytfkdfnookacgiaa
open Go
def adOf (x : Int × {l : List UInt8 // l.length = 16}) : Ad := ⟨x.1, fun i => x.2.1[i.val]'(by rw [x.2.2]; exact i.isLt)⟩
theorem opens_ad : Opens Try.prog 51 El.ad (fun _ _ _ => True) := by
  apply Opens.as (E := El.pair El.int (El.arr El.u8 16 (by decide))) (f := adOf)
  case hsz => rfl
  case h =>
    apply opens_struct (P := Try.prog) (t := 51)
    case hc => kernel_rfl
    apply opensF_cons
    case ho => rfl
    case h => exact opens_i64 (by kernel_rfl)
    case ho' => rfl
    apply opensF_one
    case ho => rfl
    case h => exact opens_array (e := 5) (opens_u8 (by kernel_rfl)) (by decide) (by kernel_rfl)
  case he =>
    intro w y n _
    obtain ⟨f, l, hl⟩ := y
    match l, hl with
    | [b0, b1, b2, b3, b4, b5, b6, b7, b8, b9, b10, b11, b12, b13, b14, b15], _ => rfl
  case hR =>
    exact fun _ _ _ _ => trivial

end Go.Proofs.Ytfkdfnookacgiaa
