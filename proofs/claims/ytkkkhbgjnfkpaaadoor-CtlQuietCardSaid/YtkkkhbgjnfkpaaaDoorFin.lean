/- The ends of a walk that answers a Bool. Nothing of the program's text. -/
import Derived.Test.YtkkkhbgjnfkpaaaDoorMem
namespace Go.Proofs.YtkkkhbgjnfkpaaaDoor
theorem r_true {r : Bool} {p : Prop} (h : r = true ↔ p) (hp : p) : true = r := (h.2 hp).symm
theorem r_false {r : Bool} {p : Prop} (h : r = true ↔ p) (hp : ¬ p) : false = r := by
  cases hr : r with
  | false => rfl
  | true => exact absurd (h.1 hr) hp
theorem r_dec {r : Bool} {p q : Prop} [Decidable q] (h : r = true ↔ p) (hq : p ↔ q) : decide q = r := by
  cases hr : r with
  | false => exact decide_eq_false (fun hq2 => by rw [h.2 (hq.2 hq2)] at hr; cases hr)
  | true => exact decide_eq_true (hq.1 (h.1 hr))
end Go.Proofs.YtkkkhbgjnfkpaaaDoor
