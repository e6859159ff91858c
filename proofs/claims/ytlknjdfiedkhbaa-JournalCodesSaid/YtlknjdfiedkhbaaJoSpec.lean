/- Records of a journal as plain data, and what Check says of them. No program is in sight here. -/
import Derived.WalkKit
namespace Go.Proofs.Ytlknjdfiedkhbaa.Jo
open Go

structure RId where
  src : Int
  cre : Int
  seq : Int
  off : Int
  tot : Int
  deriving DecidableEq
structure Itm where
  tick : Int
  id : RId
  dest : Int
  exp : Int
  prio : Int
  cust : Bool
  data : ByteArray
  deriving DecidableEq
structure Rec where
  kind : Int
  item : Itm
  id : RId
  tick : Int
  time : Int
  deriving DecidableEq

def wi (n lo hi : Int) : Bool := decide (lo ≤ n) && decide (n ≤ hi)
def vId (x : RId) : Bool :=
  wi x.src 0 15 && wi x.cre 0 1099511627776 && wi x.seq 0 1099511627776 && ((decide (x.off = 0) && decide (x.tot = 0)) || (wi x.tot 1 4096 && wi x.off 0 (x.tot - 1)))
def ckI (x : Itm) : Int :=
  if vId x.id && wi x.tick 0 1152921504606846976 && wi x.dest 0 15 && wi x.exp 1 1099511627776 && wi x.prio 0 2 then (if wi x.data.size 1 65536 then 0 else 4) else 2
def zId : RId := ⟨0, 0, 0, 0, 0⟩
def zIt : Itm := ⟨0, zId, 0, 0, 0, false, ⟨#[]⟩⟩
def ck (r : Rec) : Int :=
  if wi r.kind 1 4 then
    if wi r.time 0 1099511627776 then
      if r.kind = 1 ∨ r.kind = 3 then
        if ckI r.item = 0 then (if r.id = zId ∧ r.tick = 0 then 0 else 1) else ckI r.item
      else if vId r.id && (!decide (r.kind = 4) || wi r.tick 0 1152921504606846976) then
        if r.item = zIt ∧ ¬ (r.kind = 2 ∧ r.tick ≠ 0) then 0 else 1
      else 2
    else 2
  else 8

/-- the cells of an id, an item, a record -/
def idL (x : RId) : List Value := [.int .i64 x.src, .int .i64 x.cre, .int .i64 x.seq, .int .i64 x.off, .int .i64 x.tot]
def itL (x : Itm) : List Value :=
  [.int .i64 x.tick, .int .i64 x.id.src, .int .i64 x.id.cre, .int .i64 x.id.seq, .int .i64 x.id.off, .int .i64 x.id.tot, .int .i64 x.dest, .int .i64 x.exp, .int .i64 x.prio, .bool x.cust, .string x.data]
def rcL (r : Rec) : List Value :=
  [.int .i64 r.kind, .int .i64 r.item.tick, .int .i64 r.item.id.src, .int .i64 r.item.id.cre, .int .i64 r.item.id.seq, .int .i64 r.item.id.off, .int .i64 r.item.id.tot, .int .i64 r.item.dest, .int .i64 r.item.exp, .int .i64 r.item.prio, .bool r.item.cust, .string r.item.data,
   .int .i64 r.id.src, .int .i64 r.id.cre, .int .i64 r.id.seq, .int .i64 r.id.off, .int .i64 r.id.tot, .int .i64 r.tick, .int .i64 r.time]
def idA (x : RId) : Array Value := (idL x).toArray
def itA (x : Itm) : Array Value := (itL x).toArray
def rcA (r : Rec) : Array Value := (rcL r).toArray
theorem idA_size (x : RId) : (idA x).size = 5 := rfl
theorem itA_size (x : Itm) : (itA x).size = 11 := rfl
theorem rcA_size (r : Rec) : (rcA r).size = 19 := rfl
/-- the parts of an item's and a record's cells -/
theorem itA_id (x : Itm) : (itA x).extract 1 6 = idA x.id := by simp [itA, itL, idA, idL]
theorem rcA_id (r : Rec) : (rcA r).extract 12 17 = idA r.id := by simp [rcA, rcL, idA, idL]
theorem rcA_item (r : Rec) : (rcA r).extract 1 12 = itA r.item := by simp [rcA, rcL, itA, itL]
theorem rcA_iid (r : Rec) : (rcA r).extract 2 7 = idA r.item.id := by simp [rcA, rcL, idA, idL]
theorem id_eta (x : RId) : idA x = #[.int .i64 x.src, .int .i64 x.cre, .int .i64 x.seq, .int .i64 x.off, .int .i64 x.tot] := rfl
theorem idA_one (x : RId) : (idA x).all (·.oneCell') = true := by simp [idA, idL, Value.oneCell']
theorem itA_one (x : Itm) : (itA x).all (·.oneCell') = true := by simp [itA, itL, Value.oneCell']
theorem rcA_one (r : Rec) : (rcA r).all (·.oneCell') = true := by simp [rcA, rcL, Value.oneCell']
theorem idA_inj {x y : RId} (h : idA x = idA y) : x = y := by
  cases x; cases y
  simpa [idA, idL] using h
end Go.Proofs.Ytlknjdfiedkhbaa.Jo
