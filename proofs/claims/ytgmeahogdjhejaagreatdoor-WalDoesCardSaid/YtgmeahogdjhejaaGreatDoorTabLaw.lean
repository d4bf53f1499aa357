/- Tables: the plain law. What a table is, its bytes, and the table of bytes. No program in sight. -/
import Derived.Test.YtgmeahogdjhejaaGreatDoorSlice
namespace Go.Proofs.YtgmeahogdjhejaaGreatDoor
set_option linter.unusedVariables false
set_option linter.unusedSimpArgs false
open Go.RowKit

structure Blk where
  id : Int
  gen : Int
  at_ : Int
  size : Int
  epoch : Int
  wrap : List Int
structure Tab where
  epoch : Int
  old : Int
  phase : Int
  mode : Int
  next : Int
  gen : Int
  bs : List Blk
def zeroT : Tab := ⟨0, 0, 0, 0, 0, 0, []⟩
def needP (n : Int) : Int := if n ≤ 0 then 0 else (n - 1) / 32 + 1

/-- The eight bytes of a number, the highest first. -/
def be8 (n : Int) : List Int := [n / 72057594037927936 % 256, n / 281474976710656 % 256, n / 1099511627776 % 256, n / 4294967296 % 256, n / 16777216 % 256, n / 65536 % 256, n / 256 % 256, n % 256]
theorem be8_len (n : Int) : (be8 n).length = 8 := rfl
def be2 (n : Int) : List Int := [n / 256 % 256, n % 256]
def encBlk (b : Blk) : List Int := be8 b.id ++ (be8 b.gen ++ (be8 b.at_ ++ (be8 b.size ++ (be8 b.epoch ++ (be2 b.wrap.length ++ b.wrap)))))
def encHead (t : Tab) : List Int := be8 t.epoch ++ (be8 t.old ++ (be8 t.phase ++ (be8 t.mode ++ (be8 t.next ++ (be8 t.gen ++ be8 t.bs.length)))))
def encTab (t : Tab) : List Int := encHead t ++ (t.bs.map encBlk).flatten

/-- What is left of the bytes; none: lost. -/
abbrev Rd := Option (List Int)
/-- The number of eight bytes. -/
def num8 (l : List Int) : Int := IntKind.i64.wrap (l.foldl (fun a x => a * 256 + x) 0)
def rdN : Rd → Int × Rd
  | none => (0, none)
  | some l => if l.length < 8 then (0, none) else (num8 (l.take 8), some (l.drop 8))
def rdW (most : Int) : Rd → List Int × Rd
  | none => ([], none)
  | some l =>
    if l.length < 2 then ([], none)
    else if l.getD 0 0 * 256 + l.getD 1 0 > most ∨ ((l.length - 2 : Nat) : Int) < l.getD 0 0 * 256 + l.getD 1 0 then ([], none)
    else ((l.drop 2).take (l.getD 0 0 * 256 + l.getD 1 0).toNat, some ((l.drop 2).drop (l.getD 0 0 * 256 + l.getD 1 0).toNat))
def rdBlk (r : Rd) : Blk × Rd :=
  let a := rdN r
  let b := rdN a.2
  let c := rdN b.2
  let d := rdN c.2
  let e := rdN d.2
  let f := rdW 72 e.2
  (⟨a.1, b.1, c.1, d.1, e.1, f.1⟩, f.2)
def rdBlks : Nat → Rd → List Blk × Rd
  | 0, r => ([], r)
  | n + 1, r => let a := rdBlks n r; let b := rdBlk a.2; (a.1 ++ [b.1], b.2)
/-- The table of bytes; none: there is none. -/
def decTab (l : List Int) : Option Tab :=
  let a := rdN (some l)
  let b := rdN a.2
  let c := rdN b.2
  let d := rdN c.2
  let e := rdN d.2
  let f := rdN e.2
  let n := rdN f.2
  if n.1 < 0 ∨ 12 < n.1 then none
  else
    let g := rdBlks n.1.toNat n.2
    let t : Tab := ⟨a.1, b.1, c.1, d.1, e.1, f.1, g.1⟩
    if g.2 = some [] ∧ encTab t = l then some t else none
end Go.Proofs.YtgmeahogdjhejaaGreatDoor
