/-
  PLAIN: what item.Get and the reference's Get compute.
-/
import Derived.Test.YtgpifbdjcoiilaaItemW19
namespace Go.Proofs.Ytgpifbdjcoiilaa
open Go.RowKit

/-- The fields of an item of kind k, read one behind the other from state (a, b). -/
def fillP (s : ByteArray) (k a b : Int) : It × Int × Int :=
  if k = 1 then
    match txtP s a b with
    | (ek, a, b) => match numP s a b with
      | (ea, a, b) => match sgnP s a b with
        | (ev, a, b) => ({ itZ with kind := 1, ek := ek, ea := ea, ev := ev }, a, b)
  else if k = 2 then
    match numP s a b with
    | (ma, a, b) => ({ itZ with kind := 2, ma := ma }, a, b)
  else if k = 4 then
    match numP s a b with
    | (n, a, b) => ({ itZ with kind := 4, n := n }, a, b)
  else if k = 5 then
    match txtP s a b with
    | (rk, a, b) => match numP s a b with
      | (lo, a, b) => match numP s a b with
        | (hi, a, b) => match numP s a b with
          | (rn, a, b) => match sgnP s a b with
            | (rv, a, b) => ({ itZ with kind := 5, lo := lo, hi := hi, rk := rk, rn := rn, rv := rv }, a, b)
  else ({ itZ with kind := k }, a, b)
/-- An item of bytes, or why there is none. -/
def getP (s : ByteArray) : It × Int :=
  match numP s 0 0 with
  | (k, a, b) =>
    if b = 0 ∧ (k < 1 ∨ 5 < k) then (itZ, 40)
    else match fillP s k a b with
      | (i, a, b) => if b ≠ 0 then (itZ, b) else if a < (s.size : Int) then (itZ, 21) else if rightI i = false then (itZ, 1) else (i, 0)
end Go.Proofs.Ytgpifbdjcoiilaa
