/- '==' of a slice and nil. -/
import Derived.Test.YtcjbmbljmmakfaaBase
import Derived.LaidEqlPtr
namespace Go.Bz
open Go.RowKit
theorem run_sl_nil {P : Program} {t e : TypeId} (ht : P.underlying t = some (.slice e)) (w : World) (n c : Nat) :
    (binOp .eql t (.slice none n c) (.slice none 0 0)).run P w = .ok (.bool true) w := by
  have h : ∀ d : Nat, (Op.equalIn (d + 1) t (.slice none n c) (.slice none 0 0)).run P w = .ok true w := fun d => by
    simp [Op.equalIn, run_underlying ht]
  simp only [binOp]
  simp [Op.equal, Op.maxDepth, h 9999]
theorem run_sl_some {P : Program} {t e : TypeId} (ht : P.underlying t = some (.slice e)) (w : World) (a : Addr) (n c : Nat) :
    (binOp .eql t (.slice (some a) n c) (.slice none 0 0)).run P w = .ok (.bool false) w := by
  have h : ∀ d : Nat, (Op.equalIn (d + 1) t (.slice (some a) n c) (.slice none 0 0)).run P w = .ok false w := fun d => by
    simp [Op.equalIn, run_underlying ht]
  simp only [binOp]
  simp [Op.equal, Op.maxDepth, h 9999]
end Go.Bz
