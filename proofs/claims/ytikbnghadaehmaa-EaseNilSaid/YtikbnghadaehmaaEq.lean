/- TWO VALUES OF A FLAT TYPE (structs and arrays of numbers and bools) COMPARED: they are equal if their cells are. The kit's law on deep keys, turned to '=='. Own work. -/
import Derived.Test.YtikbnghadaehmaaBase
import Derived.DeepKeys
namespace Go.Proofs.Ytikbnghadaehmaa
open Go.RowKit
set_option linter.unusedVariables false

theorem eqIn_flat {P : Program} {t : TypeId} {m D : Nat} {xs ys : Array Value} {la lb : List Lit} (r : Bool) (hr : r = true ↔ la = lb) (hm : P.keyTypeAt m t = true) (hle : m ≤ 10000)
    (fx : (Value.agg xs).formed P t = true) (fy : (Value.agg ys).formed P t = true) (ha : P.keyLits D t xs.toList = some la) (hb : P.keyLits D t ys.toList = some lb) (w : World) :
    (Op.equalIn 10000 t (.agg xs) (.agg ys)).run P w = .ok r w := by
  obtain ⟨q, h, k⟩ := run_equalIn_deep (P := P) (10000 - m) m t hm w D D (.agg xs) (.agg ys) la lb fx fy ha hb
  rw [show 10000 - m + m = 10000 by omega] at h
  rw [h, Bool.eq_iff_iff.2 (k.trans hr.symm)]

theorem eqIn_same {P : Program} {t : TypeId} {m D : Nat} {xs : Array Value} {la : List Lit} (hm : P.keyTypeAt m t = true) (hle : m ≤ 10000)
    (fx : (Value.agg xs).formed P t = true) (ha : P.keyLits D t xs.toList = some la) (w : World) :
    (Op.equalIn 10000 t (.agg xs) (.agg xs)).run P w = .ok true w :=
  eqIn_flat true ⟨fun _ => rfl, fun _ => rfl⟩ hm hle fx fx ha ha w

end Go.Proofs.Ytikbnghadaehmaa
