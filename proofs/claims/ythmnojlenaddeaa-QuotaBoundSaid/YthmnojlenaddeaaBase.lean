/- The plain functions of layer 20 (quota): what each function answers, as numbers; no program in sight. -/
namespace Go.Proofs.Ythmnojlenaddeaa
namespace Q

/-- May a rate be, whose Who has n bytes? -/
def okR (n : Nat) (rate burst : Int) : Bool :=
  decide (n ≤ 64) && (decide (1 ≤ rate) && decide (rate ≤ 1048576)) && (decide (1 ≤ burst) && decide (burst ≤ 1048576))
/-- May a bucket be? -/
def okB (n : Nat) (rate burst level at_ : Int) : Bool :=
  okR n rate burst && (decide (-1099511627776 ≤ level) && decide (level ≤ burst)) && (decide (0 ≤ at_) && decide (at_ ≤ 1099511627776))
def chk (n : Nat) (rate burst level at_ : Int) : Int := if okB n rate burst level at_ then 0 else 1

def newE (n : Nat) (rate burst now : Int) : Int := if okR n rate burst && (decide (0 ≤ now) && decide (now ≤ 1099511627776)) then 0 else 1

/-- Zero, unless all is well. -/
def z (e x : Int) : Int := if e = 0 then x else 0
def zw (e : Int) (s : ByteArray) : ByteArray := if e = 0 then s else ByteArray.empty

def fillE (n : Nat) (rate burst level at_ now : Int) : Int :=
  if okB n rate burst level at_ then (if now > 1099511627776 then 1 else if now < at_ then 71 else 0) else 1
def fillL (rate burst level at_ now : Int) : Int := min (level + rate * (now - at_)) burst

def takeE (n : Nat) (rate burst level at_ now m : Int) : Int :=
  if okB n rate burst level at_ then
    (if 0 ≤ m ∧ m ≤ 1099511627776 then
      (if fillE n rate burst level at_ now = 0 then (if fillL rate burst level at_ now - m < -1099511627776 then 2 else 0)
       else fillE n rate burst level at_ now)
     else 1)
  else 1
def takeL (rate burst level at_ now m : Int) : Int := fillL rate burst level at_ now - m
def waitOf (rate level : Int) : Int := if 0 ≤ level then 0 else (rate - 1 - level) / rate

def setE (n : Nat) (same : Bool) (rate burst level at_ : Int) (n' : Nat) (rate' burst' now : Int) : Int :=
  if okB n rate burst level at_ then
    (if same && okR n' rate' burst' then fillE n rate burst level at_ now else 1)
  else 1
def setL (rate burst level at_ burst' now : Int) : Int := min (fillL rate burst level at_ now) burst'

end Q
end Go.Proofs.Ythmnojlenaddeaa
