/-
  PLAIN: which keys, events, results and items may be.
-/
import Derived.Test.YtenpgkkefielfaaProg
namespace Go.Proofs.Ytenpgkkefielfaa

def keyB (s : ByteArray) : Bool := decide (0 < s.size) && decide (s.size ≤ 16)
def evB (k : ByteArray) (a : Int) : Bool := keyB k && (decide (0 ≤ a) && decide (a < 1099511627776))
def resB (lo hi : Int) (k : ByteArray) (n : Int) : Bool :=
  keyB k && (decide (0 ≤ lo) && (decide (lo < hi) && (decide (hi ≤ 1099511627776) && (decide (1 ≤ n) && decide (n ≤ 1073741824)))))
/-- The cells of an item. -/
structure It where
  kind : Int
  ek : ByteArray
  ea : Int
  ev : Int
  ma : Int
  n : Int
  lo : Int
  hi : Int
  rk : ByteArray
  rn : Int
  rv : Int
def itZ : It := ⟨0, ⟨#[]⟩, 0, 0, 0, 0, 0, 0, ⟨#[]⟩, 0, 0⟩
def bareI (i : It) : It :=
  if i.kind = 1 then { itZ with kind := 1, ek := i.ek, ea := i.ea, ev := i.ev }
  else if i.kind = 2 then { itZ with kind := 2, ma := i.ma }
  else if i.kind = 3 then { itZ with kind := 3 }
  else if i.kind = 4 then { itZ with kind := 4, n := i.n }
  else if i.kind = 5 then { itZ with kind := 5, lo := i.lo, hi := i.hi, rk := i.rk, rn := i.rn, rv := i.rv }
  else { itZ with kind := i.kind }
def bareB (i : It) : Bool :=
  if i.kind = 1 then evB i.ek i.ea
  else if i.kind = 2 then decide (0 ≤ i.ma) && decide (i.ma ≤ 1099511627776)
  else if i.kind = 3 then true
  else if i.kind = 4 then decide (1 ≤ i.n) && decide (i.n ≤ 1073741824)
  else if i.kind = 5 then resB i.lo i.hi i.rk i.rn
  else false
def sameI (a b : It) : Bool :=
  a.kind == b.kind && ((a.ek.toList == b.ek.toList && (a.ea == b.ea && a.ev == b.ev)) && (a.ma == b.ma && (a.n == b.n && ((a.lo == b.lo && a.hi == b.hi) && (a.rk.toList == b.rk.toList && (a.rn == b.rn && a.rv == b.rv))))))
/-- An item's value. -/
def itV (i : It) : Value := .agg #[.int .i64 i.kind, .string i.ek, .int .i64 i.ea, .int .i64 i.ev, .int .i64 i.ma, .int .i64 i.n, .int .i64 i.lo, .int .i64 i.hi, .string i.rk, .int .i64 i.rn, .int .i64 i.rv]
def rightI (i : It) : Bool := bareB i && sameI (bareI i) i
end Go.Proofs.Ytenpgkkefielfaa
