/- Texts of this claim, joined (the program, its functions in plain words, and what they compute). -/
import Derived.Test.YtnolcogncjijpaaGreatDoorGC1
import Derived.Test.YtnolcogncjijpaaGreatDoorGA2
import Derived.Test.YtnolcogncjijpaaGreatDoorGC5
import Derived.Test.YtnolcogncjijpaaGreatDoorGC7
import Derived.Test.YtnolcogncjijpaaGreatDoorGC6
import Derived.Test.YtnolcogncjijpaaGreatDoorGC3
import Derived.Test.YtnolcogncjijpaaGreatDoorGC4
set_option autoImplicit false
set_option linter.unusedVariables false
set_option linter.unusedSectionVars false
set_option linter.unusedSimpArgs false
set_option maxRecDepth 1000000
set_option maxHeartbeats 0
noncomputable section
namespace Go.Proofs.YtnolcogncjijpaaGreatDoor
open Go Go.Ab
abbrev zAm:=List Term×Unit×Int×Unit
abbrev ttTref05Put1:=List Term×Int×Term
def zrI (a:List Term) (i:Int) (t:Term):Wy zAm (Term×Unit) ttTref05Put1:=.i (decide (i<Int.ofNat a.length)) (.i (decide (0≤i)&&decide (i<Int.ofNat a.length)) (.bn (zlY (a.getD i.toNat default).Factors t.Factors) fun r0=>.i (decide (r0<0)) (.h (a,(),(IntKind.i64.wrap (i+1)),()) (t,())) (.k (a,i,t))) .d) (.k (a,i,t))
def zFa (x:zAm) (y:Term×Unit):Wy zAm (Term×Unit) ttTref05Put1:=zrI x.1 x.2.2.1 y.1
def zFd (n:Nat) (a:List Term) (i:Int) (t:Term):Bool×ttTref05Put1:=zN (zFa) default n (a,(),i,()) (t,())
def zGm (a:List Term) (t:Term):Wy0 (List Term):=.bn (zFd ((a.length+Int.toNat 0+1)+t.Factors.length) a 0 t) fun r3=>.i (decide ((0:Int)≤(0:Int))&&decide (0≤r3.2.1)&&decide (r3.2.1≤Int.ofNat r3.1.length)) (.i (decide ((0+(List.take (r3.2.1.toNat - Int.toNat 0) (List.drop (Int.toNat 0) r3.1)).length)*32≤zT)) (.i (decide (r3.2.1<Int.ofNat r3.1.length)) (.i (decide (0≤r3.2.1)&&decide (r3.2.1<Int.ofNat r3.1.length)) (.bn (zlY (r3.1.getD r3.2.1.toNat default).Factors r3.2.2.Factors) fun r2=>.i (r2==0) (.i (decide (0≤r3.2.1)&&decide (r3.2.1<Int.ofNat r3.1.length)) (.i (decide ((([]++List.take (r3.2.1.toNat - Int.toNat 0) (List.drop (Int.toNat 0) r3.1)).length+[TermOf.mk (zvi (r3.1.getD r3.2.1.toNat default).Coeff r3.2.2.Coeff).2 r3.2.2.Factors].length)*32≤zT)) (.i (decide (0≤IntKind.i64.wrap (r3.2.1+1))&&decide (IntKind.i64.wrap (r3.2.1+1)≤Int.ofNat r3.1.length)&&decide (Int.ofNat r3.1.length≤Int.ofNat r3.1.length)) (.i (decide ((([]++List.take (r3.2.1.toNat - Int.toNat 0) (List.drop (Int.toNat 0) r3.1)++[TermOf.mk (zvi (r3.1.getD r3.2.1.toNat default).Coeff r3.2.2.Coeff).2 r3.2.2.Factors]).length+(List.take ((Int.ofNat r3.1.length).toNat - (IntKind.i64.wrap (r3.2.1+1)).toNat) (List.drop (IntKind.i64.wrap (r3.2.1+1)).toNat r3.1)).length)*32≤zT)) (.k ([]++List.take (r3.2.1.toNat - Int.toNat 0) (List.drop (Int.toNat 0) r3.1)++[TermOf.mk (zvi (r3.1.getD r3.2.1.toNat default).Coeff r3.2.2.Coeff).2 r3.2.2.Factors]++List.take ((Int.ofNat r3.1.length).toNat - (IntKind.i64.wrap (r3.2.1+1)).toNat) (List.drop (IntKind.i64.wrap (r3.2.1+1)).toNat r3.1))) .d) .d) .d) .d) (.i (decide ((([]++List.take (r3.2.1.toNat - Int.toNat 0) (List.drop (Int.toNat 0) r3.1)).length+[r3.2.2].length)*32≤zT)) (.i (decide (0≤r3.2.1)&&decide (r3.2.1≤Int.ofNat r3.1.length)&&decide (Int.ofNat r3.1.length≤Int.ofNat r3.1.length)) (.i (decide ((([]++List.take (r3.2.1.toNat - Int.toNat 0) (List.drop (Int.toNat 0) r3.1)++[r3.2.2]).length+(List.take ((Int.ofNat r3.1.length).toNat - r3.2.1.toNat) (List.drop r3.2.1.toNat r3.1)).length)*32≤zT)) (.k ([]++List.take (r3.2.1.toNat - Int.toNat 0) (List.drop (Int.toNat 0) r3.1)++[r3.2.2]++List.take ((Int.ofNat r3.1.length).toNat - r3.2.1.toNat) (List.drop r3.2.1.toNat r3.1))) .d) .d) .d)) .d) (.i (decide ((([]++List.take (r3.2.1.toNat - Int.toNat 0) (List.drop (Int.toNat 0) r3.1)).length+[r3.2.2].length)*32≤zT)) (.i (decide (0≤r3.2.1)&&decide (r3.2.1≤Int.ofNat r3.1.length)&&decide (Int.ofNat r3.1.length≤Int.ofNat r3.1.length)) (.i (decide ((([]++List.take (r3.2.1.toNat - Int.toNat 0) (List.drop (Int.toNat 0) r3.1)++[r3.2.2]).length+(List.take ((Int.ofNat r3.1.length).toNat - r3.2.1.toNat) (List.drop r3.2.1.toNat r3.1)).length)*32≤zT)) (.k ([]++List.take (r3.2.1.toNat - Int.toNat 0) (List.drop (Int.toNat 0) r3.1)++[r3.2.2]++List.take ((Int.ofNat r3.1.length).toNat - r3.2.1.toNat) (List.drop r3.2.1.toNat r3.1))) .d) .d) .d)) .d) .d
def zFK (a:List Term) (t:Term):Bool×List Term:=(zGm a t).fin default
abbrev zvn:=List Factor×Unit×Int×Unit
abbrev ttTref05factor1:=List Factor×Int×Factor
def znz (l:List Factor) (i:Int) (f:Factor):Wy zvn (Factor×Unit) ttTref05factor1:=.i (decide (i<Int.ofNat l.length)) (.i (decide (0≤i)&&decide (i<Int.ofNat l.length)) (.bn (zly (Atom.mk (l.getD i.toNat default).Atom.Kind (l.getD i.toNat default).Atom.Row (l.getD i.toNat default).Atom.Args (l.getD i.toNat default).Atom.Func (l.getD i.toNat default).Atom.Items (l.getD i.toNat default).Atom.Op (l.getD i.toNat default).Atom.Bound) (Atom.mk f.Atom.Kind f.Atom.Row f.Atom.Args f.Atom.Func f.Atom.Items f.Atom.Op f.Atom.Bound)) fun r0=>.i (decide (r0<0)) (.h (l,(),(IntKind.i64.wrap (i+1)),()) (f,())) (.k (l,i,f))) .d) (.k (l,i,f))
def zBq (x:zvn) (y:Factor×Unit):Wy zvn (Factor×Unit) ttTref05factor1:=znz x.1 x.2.2.1 y.1
def zBz (n:Nat) (l:List Factor) (i:Int) (f:Factor):Bool×ttTref05factor1:=zN (zBq) default n (l,(),i,()) (f,())
def zC2 (l:List Factor) (f:Factor):Wy0 (List Factor):=.bn (zBz (l.length+Int.toNat 0+f.Atom.Args.length+f.Atom.Items.length+1) l 0 (FactorOf.mk (Atom.mk f.Atom.Kind f.Atom.Row f.Atom.Args f.Atom.Func f.Atom.Items f.Atom.Op f.Atom.Bound) f.Exp)) fun r3=>.i (decide ((0:Int)≤(0:Int))&&decide (0≤r3.2.1)&&decide (r3.2.1≤Int.ofNat r3.1.length)) (.i (decide ((0+(List.take (r3.2.1.toNat - Int.toNat 0) (List.drop (Int.toNat 0) r3.1)).length)*128≤zT)) (.i (decide (r3.2.1<Int.ofNat r3.1.length)) (.i (decide (0≤r3.2.1)&&decide (r3.2.1<Int.ofNat r3.1.length)) (.bn (zly (Atom.mk (r3.1.getD r3.2.1.toNat default).Atom.Kind (r3.1.getD r3.2.1.toNat default).Atom.Row (r3.1.getD r3.2.1.toNat default).Atom.Args (r3.1.getD r3.2.1.toNat default).Atom.Func (r3.1.getD r3.2.1.toNat default).Atom.Items (r3.1.getD r3.2.1.toNat default).Atom.Op (r3.1.getD r3.2.1.toNat default).Atom.Bound) (Atom.mk r3.2.2.Atom.Kind r3.2.2.Atom.Row r3.2.2.Atom.Args r3.2.2.Atom.Func r3.2.2.Atom.Items r3.2.2.Atom.Op r3.2.2.Atom.Bound)) fun r2=>.i (r2==0) (.i (decide (r3.2.2.Atom.Kind<3)) (.i (decide (0≤r3.2.1)&&decide (r3.2.1<Int.ofNat r3.1.length)) (.i (decide ((([]++List.take (r3.2.1.toNat - Int.toNat 0) (List.drop (Int.toNat 0) r3.1)).length+[FactorOf.mk (Atom.mk r3.2.2.Atom.Kind r3.2.2.Atom.Row r3.2.2.Atom.Args r3.2.2.Atom.Func r3.2.2.Atom.Items r3.2.2.Atom.Op r3.2.2.Atom.Bound) (IntKind.i64.wrap ((r3.1.getD r3.2.1.toNat default).Exp+r3.2.2.Exp))].length)*128≤zT)) (.i (decide (0≤IntKind.i64.wrap (r3.2.1+1))&&decide (IntKind.i64.wrap (r3.2.1+1)≤Int.ofNat r3.1.length)&&decide (Int.ofNat r3.1.length≤Int.ofNat r3.1.length)) (.i (decide ((([]++List.take (r3.2.1.toNat - Int.toNat 0) (List.drop (Int.toNat 0) r3.1)++[FactorOf.mk (Atom.mk r3.2.2.Atom.Kind r3.2.2.Atom.Row r3.2.2.Atom.Args r3.2.2.Atom.Func r3.2.2.Atom.Items r3.2.2.Atom.Op r3.2.2.Atom.Bound) (IntKind.i64.wrap ((r3.1.getD r3.2.1.toNat default).Exp+r3.2.2.Exp))]).length+(List.take ((Int.ofNat r3.1.length).toNat - (IntKind.i64.wrap (r3.2.1+1)).toNat) (List.drop (IntKind.i64.wrap (r3.2.1+1)).toNat r3.1)).length)*128≤zT)) (.k ([]++List.take (r3.2.1.toNat - Int.toNat 0) (List.drop (Int.toNat 0) r3.1)++[FactorOf.mk (Atom.mk r3.2.2.Atom.Kind r3.2.2.Atom.Row r3.2.2.Atom.Args r3.2.2.Atom.Func r3.2.2.Atom.Items r3.2.2.Atom.Op r3.2.2.Atom.Bound) (IntKind.i64.wrap ((r3.1.getD r3.2.1.toNat default).Exp+r3.2.2.Exp))]++List.take ((Int.ofNat r3.1.length).toNat - (IntKind.i64.wrap (r3.2.1+1)).toNat) (List.drop (IntKind.i64.wrap (r3.2.1+1)).toNat r3.1))) .d) .d) .d) .d) (.i (decide ((([]++List.take (r3.2.1.toNat - Int.toNat 0) (List.drop (Int.toNat 0) r3.1)).length+[FactorOf.mk (Atom.mk r3.2.2.Atom.Kind r3.2.2.Atom.Row r3.2.2.Atom.Args r3.2.2.Atom.Func r3.2.2.Atom.Items r3.2.2.Atom.Op r3.2.2.Atom.Bound) r3.2.2.Exp].length)*128≤zT)) (.i (decide (0≤IntKind.i64.wrap (r3.2.1+1))&&decide (IntKind.i64.wrap (r3.2.1+1)≤Int.ofNat r3.1.length)&&decide (Int.ofNat r3.1.length≤Int.ofNat r3.1.length)) (.i (decide ((([]++List.take (r3.2.1.toNat - Int.toNat 0) (List.drop (Int.toNat 0) r3.1)++[FactorOf.mk (Atom.mk r3.2.2.Atom.Kind r3.2.2.Atom.Row r3.2.2.Atom.Args r3.2.2.Atom.Func r3.2.2.Atom.Items r3.2.2.Atom.Op r3.2.2.Atom.Bound) r3.2.2.Exp]).length+(List.take ((Int.ofNat r3.1.length).toNat - (IntKind.i64.wrap (r3.2.1+1)).toNat) (List.drop (IntKind.i64.wrap (r3.2.1+1)).toNat r3.1)).length)*128≤zT)) (.k ([]++List.take (r3.2.1.toNat - Int.toNat 0) (List.drop (Int.toNat 0) r3.1)++[FactorOf.mk (Atom.mk r3.2.2.Atom.Kind r3.2.2.Atom.Row r3.2.2.Atom.Args r3.2.2.Atom.Func r3.2.2.Atom.Items r3.2.2.Atom.Op r3.2.2.Atom.Bound) r3.2.2.Exp]++List.take ((Int.ofNat r3.1.length).toNat - (IntKind.i64.wrap (r3.2.1+1)).toNat) (List.drop (IntKind.i64.wrap (r3.2.1+1)).toNat r3.1))) .d) .d) .d)) (.i (decide ((([]++List.take (r3.2.1.toNat - Int.toNat 0) (List.drop (Int.toNat 0) r3.1)).length+[FactorOf.mk (Atom.mk r3.2.2.Atom.Kind r3.2.2.Atom.Row r3.2.2.Atom.Args r3.2.2.Atom.Func r3.2.2.Atom.Items r3.2.2.Atom.Op r3.2.2.Atom.Bound) r3.2.2.Exp].length)*128≤zT)) (.i (decide (0≤r3.2.1)&&decide (r3.2.1≤Int.ofNat r3.1.length)&&decide (Int.ofNat r3.1.length≤Int.ofNat r3.1.length)) (.i (decide ((([]++List.take (r3.2.1.toNat - Int.toNat 0) (List.drop (Int.toNat 0) r3.1)++[FactorOf.mk (Atom.mk r3.2.2.Atom.Kind r3.2.2.Atom.Row r3.2.2.Atom.Args r3.2.2.Atom.Func r3.2.2.Atom.Items r3.2.2.Atom.Op r3.2.2.Atom.Bound) r3.2.2.Exp]).length+(List.take ((Int.ofNat r3.1.length).toNat - r3.2.1.toNat) (List.drop r3.2.1.toNat r3.1)).length)*128≤zT)) (.k ([]++List.take (r3.2.1.toNat - Int.toNat 0) (List.drop (Int.toNat 0) r3.1)++[FactorOf.mk (Atom.mk r3.2.2.Atom.Kind r3.2.2.Atom.Row r3.2.2.Atom.Args r3.2.2.Atom.Func r3.2.2.Atom.Items r3.2.2.Atom.Op r3.2.2.Atom.Bound) r3.2.2.Exp]++List.take ((Int.ofNat r3.1.length).toNat - r3.2.1.toNat) (List.drop r3.2.1.toNat r3.1))) .d) .d) .d)) .d) (.i (decide ((([]++List.take (r3.2.1.toNat - Int.toNat 0) (List.drop (Int.toNat 0) r3.1)).length+[FactorOf.mk (Atom.mk r3.2.2.Atom.Kind r3.2.2.Atom.Row r3.2.2.Atom.Args r3.2.2.Atom.Func r3.2.2.Atom.Items r3.2.2.Atom.Op r3.2.2.Atom.Bound) r3.2.2.Exp].length)*128≤zT)) (.i (decide (0≤r3.2.1)&&decide (r3.2.1≤Int.ofNat r3.1.length)&&decide (Int.ofNat r3.1.length≤Int.ofNat r3.1.length)) (.i (decide ((([]++List.take (r3.2.1.toNat - Int.toNat 0) (List.drop (Int.toNat 0) r3.1)++[FactorOf.mk (Atom.mk r3.2.2.Atom.Kind r3.2.2.Atom.Row r3.2.2.Atom.Args r3.2.2.Atom.Func r3.2.2.Atom.Items r3.2.2.Atom.Op r3.2.2.Atom.Bound) r3.2.2.Exp]).length+(List.take ((Int.ofNat r3.1.length).toNat - r3.2.1.toNat) (List.drop r3.2.1.toNat r3.1)).length)*128≤zT)) (.k ([]++List.take (r3.2.1.toNat - Int.toNat 0) (List.drop (Int.toNat 0) r3.1)++[FactorOf.mk (Atom.mk r3.2.2.Atom.Kind r3.2.2.Atom.Row r3.2.2.Atom.Args r3.2.2.Atom.Func r3.2.2.Atom.Items r3.2.2.Atom.Op r3.2.2.Atom.Bound) r3.2.2.Exp]++List.take ((Int.ofNat r3.1.length).toNat - r3.2.1.toNat) (List.drop r3.2.1.toNat r3.1))) .d) .d) .d)) .d) .d
def zAx (l:List Factor) (f:Factor):Bool×List Factor:=(zC2 l f).fin default
def zDX (a:Int) (b:Int):Wy0 (Int):=.i (!decide (b=0)) (.i (decide (a>IntKind.i64.wrap (Int.tdiv 1152921504606846976 b))) (.k 1152921504606846976) (.k (IntKind.i64.wrap (a*b)))) .d
def zCb (a:Int) (b:Int):Bool×Int:=(zDX a b).fin default
abbrev ztO:=List Term×List Term×Unit×Int×Int×Unit×Int×Unit
abbrev ztN:=List Term×(Int×List Factor×Unit)×Unit
abbrev ttTref05Product2:=List Term×List Term×Int×Int×List Term×Int×List Factor
abbrev ztT:=List Term×List Term×Unit×Int×Int×Unit
abbrev zj7:=List Term×Unit
abbrev ttTref05Product5:=List Term×List Term×Int×List Term
abbrev ztK:=List Term×List Term×Unit×Int×Unit
def zln (a:List Term) (b:List Term) (i:Int) (k:Int) (j:Int) (out_:List Term) (t_0:Int) (t_1:List Factor):Wy ztO ztN ttTref05Product2:=.i (decide (0≤k)&&decide (k<Int.ofNat b.length)) (.i (decide (j<Int.ofNat (b.getD k.toNat default).Factors.length)) (.i (decide (0≤k)&&decide (k<Int.ofNat b.length)) (.i (decide (0≤j)&&decide (j<Int.ofNat (b.getD k.toNat default).Factors.length)) (.bn (zAx t_1 (FactorOf.mk (Atom.mk ((b.getD k.toNat default).Factors.getD j.toNat default).Atom.Kind ((b.getD k.toNat default).Factors.getD j.toNat default).Atom.Row ((b.getD k.toNat default).Factors.getD j.toNat default).Atom.Args ((b.getD k.toNat default).Factors.getD j.toNat default).Atom.Func ((b.getD k.toNat default).Factors.getD j.toNat default).Atom.Items ((b.getD k.toNat default).Factors.getD j.toNat default).Atom.Op ((b.getD k.toNat default).Factors.getD j.toNat default).Atom.Bound) ((b.getD k.toNat default).Factors.getD j.toNat default).Exp)) fun r0=>.h (a,b,(),i,k,(),(IntKind.i64.wrap (j+1)),()) (out_,(t_0,(r0),()),())) .d) .d) (.k (a,b,i,k,out_,t_0,t_1))) .d
def zyV (x:ztO) (y:ztN):Wy ztO ztN ttTref05Product2:=zln x.1 x.2.1 x.2.2.2.1 x.2.2.2.2.1 x.2.2.2.2.2.2.1 y.1 y.2.1.1 y.2.1.2.1
def zze (n:Nat) (a:List Term) (b:List Term) (i:Int) (k:Int) (j:Int) (out_:List Term) (t_0:Int) (t_1:List Factor):Bool×ttTref05Product2:=zN (zyV) default n (a,b,(),i,k,(),j,()) (out_,(t_0,t_1,()),())
def zmK (a:List Term) (b:List Term) (i:Int) (k:Int) (out_:List Term):Wy ztT zj7 ttTref05Product5:=.i (decide (k<Int.ofNat b.length)) (.i (decide (0≤i)&&decide (i<Int.ofNat a.length)) (.i (decide (0≤k)&&decide (k<Int.ofNat b.length)) (.bn (zCb (a.getD i.toNat default).Coeff (b.getD k.toNat default).Coeff) fun r4=>.i (decide (0≤i)&&decide (i<Int.ofNat a.length)) (.bn (zze ((a.length+b.length+i.toNat +k.toNat +Int.toNat 0+out_.length+r4.toNat +(a.getD i.toNat default).Factors.length+1)+szTs a+szTs b+szTs out_+szFs (a.getD i.toNat default).Factors) a b i k 0 out_ r4 (a.getD i.toNat default).Factors) fun r3=>.bn (zFK r3.2.2.2.2.1 (TermOf.mk r3.2.2.2.2.2.1 r3.2.2.2.2.2.2)) fun r2=>.h ((r3.1),(r3.2.1),(),(r3.2.2.1),(IntKind.i64.wrap (r3.2.2.2.1+1)),()) ((r2),())) .d) .d) .d) (.k (a,b,i,out_))
def zAq (x:ztT) (y:zj7):Wy ztT zj7 ttTref05Product5:=zmK x.1 x.2.1 x.2.2.2.1 x.2.2.2.2.1 y.1
def zAB (n:Nat) (a:List Term) (b:List Term) (i:Int) (k:Int) (out_:List Term):Bool×ttTref05Product5:=zN (zAq) default n (a,b,(),i,k,()) (out_,())
def zmU (a:List Term) (b:List Term) (i:Int) (out_:List Term):Wy ztK zj7 (List Term):=.i (decide (i<Int.ofNat a.length)) (.bn (zAB ((a.length+b.length+i.toNat +Int.toNat 0+out_.length+1)+szTs a+szTs b+szTs out_) a b i 0 out_) fun r8=>.h ((r8.1),(r8.2.1),(),(IntKind.i64.wrap (r8.2.2.1+1)),()) ((r8.2.2.2),())) (.k out_)
def zA2 (x:ztK) (y:zj7):Wy ztK zj7 (List Term):=zmU x.1 x.2.1 x.2.2.2.1 y.1
def zz5 (n:Nat) (a:List Term) (b:List Term) (i:Int) (out_:List Term):Bool×List Term:=zN (zA2) default n (a,b,(),i,()) (out_,())
def zBM (a:List Term) (b:List Term):Wy0 (List Term):=.bn (zz5 ((a.length+b.length+Int.toNat 0+0+1)+szTs a+szTs b+szTs []) a b 0 []) fun r10=>.k r10
def zyK (a:List Term) (b:List Term):Bool×List Term:=(zBM a b).fin default
def zGp (a:List Term) (b:List Term):Wy0 (List Term×Int):=.bn (zmj a) fun r3=>.i (!r3) (.k ([],1)) (.bn (zmj b) fun r2=>.i (!r2) (.k ([],1)) (.bn (zyK a b) fun r1=>.bn (zq8 r1) fun r0=>.k (r0.1,r0.2)))
def zJx (a:List Term) (b:List Term):Bool×(List Term×Int):=(zGp a b).fin default
def insT (t:Term):List Term→List Term
 | []=>[t]
 | x::r=>if cT x t=0 then ⟨zsa x.Coeff t.Coeff,t.Factors⟩::r else t::x::r
def insF (f:Factor):List Factor→List Factor
 | []=>[f]
 | x::r=>if cF x f=0 then (if f.Atom.Kind<3 then ⟨f.Atom,x.Exp+f.Exp⟩ else f)::r else f::x::r
theorem zP3 {t:Term} {l:List Term} {k:Nat} (hk:k<l.length):insT t (l.drop k)=if cT (l.getD k default) t=0 then ⟨zsa (l.getD k default).Coeff t.Coeff,t.Factors⟩::l.drop (k+1) else t::l.drop k:=by
 rw [zbF hk]; rfl
theorem zP7 {f:Factor} {l:List Factor} {k:Nat} (hk:k<l.length):insF f (l.drop k)=if cF (l.getD k default) f=0 then (if f.Atom.Kind<3 then ⟨f.Atom,(l.getD k default).Exp+f.Exp⟩ else f)::l.drop (k+1) else f::l.drop k:=by
 rw [zbF hk]; rfl
theorem zL9 (t:Term):∀ l:List Term,putA t l=l.takeWhile (fun x=>decide (cT x t<0))++insT t (l.dropWhile (fun x=>decide (cT x t<0)))
 | []=>rfl
 | x::r=>by
  rw [List.takeWhile_cons,List.dropWhile_cons]
  unfold putA
  by_cases h:cT x t<0
  ·simp only [h,if_true,decide_true,List.cons_append]
   rw [zL9 t r]
  ·simp only [h,if_false,decide_false,Bool.false_eq_true,List.nil_append]; rfl
theorem zL7 (f:Factor):∀ l:List Factor,facA f l=l.takeWhile (fun x=>decide (cF x f<0))++insF f (l.dropWhile (fun x=>decide (cF x f<0)))
 | []=>rfl
 | x::r=>by
  rw [List.takeWhile_cons,List.dropWhile_cons]
  unfold facA
  by_cases h:cF x f<0
  ·simp only [h,if_true,decide_true,List.cons_append]
   rw [zL7 f r]
  ·simp only [h,if_false,decide_false,Bool.false_eq_true,List.nil_append]; rfl
theorem zL1 {a b:Int} (ha:0≤a∧a≤1152921504606846976) (hb:0≤b∧b≤1152921504606846976):IntKind.i64.wrap (a+b)=a+b:=ziC (by omega) (by omega)
theorem zOg {τ:Type} (l:List τ) (p:τ→Bool):(l.takeWhile p).length≤l.length:=(List.takeWhile_prefix p).length_le
theorem beq0 (z:Int):(z==0)=decide (z=0):=beqd z 0
theorem zPM {d:Nat} (l:List Term) (t:Term) (hl:l.length≤1000000) (h:∀ x∈l,zfm (zy d) x.Factors) (hd:d≤99) (hc:∀ x∈l,cOK x) (ht:cOK t):zFK l t=(true,putA t l):=by
 have hreach:zT=70368744177664:=rfl
 unfold zFK zGm
 have hL:=zHd (W:=zFa) (z:=default) l (fun x=>decide (cT x t<0)) (fun k=>(l,(),(k:Int),())) (fun _=>(t,())) (fun k=>(l,(k:Int),t))
  (fun k hk H K D=>by
   show (zrI l k t).ev H K D=_
   unfold zrI
   simp only [Wy.ev_i,Wy.ev_k,Wy.ev_h,Wy.ev_bn,Wy.ev_d,tT,hk,znb (h _ (zH hk)) hd]
   rw [zbb (by omega)]; rfl)
  (fun H K D=>by
   show (zrI l l.length t).ev H K D=_
   unfold zrI
   simp only [Wy.ev_i,Wy.ev_k,tT,Nat.lt_irrefl]) ((l.length+Int.toNat (0:Int)+(1:Nat))+t.Factors.length) (by omega)
 have hL:zFd ((l.length+Int.toNat (0:Int)+(1:Nat))+t.Factors.length) l 0 t=_:=hL
 rw [hL,zFZ,zL9]
 have q1:=zOg l (fun x=>decide (cT x t<0))
 have q2:=zIE (fun x=>decide (cT x t<0)) l
 have q3:=zIL (fun x=>decide (cT x t<0)) l
 generalize (l.takeWhile fun x=>decide (cT x t<0)).length=k at q1 q2 q3 ⊢
 rw [← q2, ← q3]
 have g1:(decide ((0:Int)≤(0:Int))&&decide ((0:Int)≤(k:Int))&&decide ((k:Int)≤Int.ofNat l.length))=true:=by simp only [Bool.and_eq_true,decide_eq_true_eq,Int.ofNat_eq_natCast]; omega
 have g2:decide ((0+(l.take k).length)*32≤zT)=true:=by simp only [decide_eq_true_eq,List.length_take]; omega
 have g4:∀ m:Nat,decide (((l.take k).length+[(⟨0,[]⟩:Term)].length)*32≤zT)=true:=fun m=>by simp only [decide_eq_true_eq,List.length_take,List.length_singleton]; omega
 simp only [Wy.fin_i,Wy.fin_k,Wy.fin_bn,List.nil_append,Int.toNat_natCast,zMv,zw2,g1,g2,cond_true]
 by_cases hk:k<l.length
 ·have g3:decide ((k:Int)<Int.ofNat l.length)=true:=by simp [hk]
  have g5:(decide ((0:Int)≤(k:Int))&&decide ((k:Int)<Int.ofNat l.length))=true:=by rw [g3]; simp
  have hm:=zH hk
  simp only [g3,zfj,Bool.and_self,cond_true,znb (h _ hm) hd]
  rw [beq0,zP3 hk]
  have gw:IntKind.i64.wrap ((k:Int)+1)=((k+1:Nat):Int):=zbb (by omega)
  have gp:(zvi (l.getD k default).Coeff t.Coeff).2=zsa (l.getD k default).Coeff t.Coeff:=by
   unfold zvi zFP zsa
   rw [Wy.fin_k,zL1 ⟨by have:=(hc _ hm).1; omega,(hc _ hm).2⟩ ⟨by have:=ht.1; omega,ht.2⟩]
  have gk:(decide ((0:Int)≤(k:Int))&&decide ((k:Int)≤Int.ofNat l.length)&&decide (Int.ofNat l.length≤Int.ofNat l.length))=true:=by simp only [Bool.and_eq_true,decide_eq_true_eq,Int.ofNat_eq_natCast]; omega
  have gk':decide ((k:Int)≤Int.ofNat l.length)=true:=by simp only [decide_eq_true_eq,Int.ofNat_eq_natCast]; omega
  have gk1':decide (((k+1:Nat):Int)≤Int.ofNat l.length)=true:=by simp only [decide_eq_true_eq,Int.ofNat_eq_natCast]; omega
  have gk1:(decide ((0:Int)≤((k+1:Nat):Int))&&decide (((k+1:Nat):Int)≤Int.ofNat l.length)&&decide (Int.ofNat l.length≤Int.ofNat l.length))=true:=by simp only [Bool.and_eq_true,decide_eq_true_eq,Int.ofNat_eq_natCast]; omega
  have gb:∀ x:Term,decide (((l.take k).length+[x].length)*32≤zT)=true:=fun x=>by simp only [decide_eq_true_eq,List.length_take,List.length_singleton]; omega
  have gc:∀ (x:Term) (m:Nat),decide (((l.take k++[x]).length+(l.drop m).length)*32≤zT)=true:=fun x m=>by simp only [decide_eq_true_eq,List.length_take,List.length_drop,List.length_append,List.length_singleton]; omega
  by_cases hz:cT (l.getD k default) t=0
  ·have hz':cmpL (zbo (l.getD k default).Factors) (zbo t.Factors)=0:=hz
   simp only [hz,hz',if_true,decide_true,cond_true,gw,gp,zfj,Bool.true_and,gk1',Int.le_refl,decide_true,cond_true,Bool.and_self,gb,gc,Int.toNat_natCast,zw2,List.append_assoc,List.singleton_append]
  ·have hz':¬ cmpL (zbo (l.getD k default).Factors) (zbo t.Factors)=0:=hz
   simp only [hz,hz',if_false,decide_false,cond_false,cond_true,zfj,Bool.true_and,gk',Int.le_refl,decide_true,cond_true,Bool.and_self,gb,gc,List.append_assoc,List.singleton_append]
 ·have hk':k=l.length:=by omega
  have g3:decide ((k:Int)<Int.ofNat l.length)=false:=by simp [hk]
  have gk:(decide ((0:Int)≤(k:Int))&&decide ((k:Int)≤Int.ofNat l.length)&&decide (Int.ofNat l.length≤Int.ofNat l.length))=true:=by simp only [Bool.and_eq_true,decide_eq_true_eq,Int.ofNat_eq_natCast]; omega
  have gb:∀ x:Term,decide (((l.take k).length+[x].length)*32≤zT)=true:=fun x=>by simp only [decide_eq_true_eq,List.length_take,List.length_singleton]; omega
  have gc:∀ (x:Term) (m:Nat),decide (((l.take k++[x]).length+(l.drop m).length)*32≤zT)=true:=fun x m=>by simp only [decide_eq_true_eq,List.length_take,List.length_drop,List.length_append,List.length_singleton]; omega
  have gk':decide ((k:Int)≤Int.ofNat l.length)=true:=by simp only [decide_eq_true_eq,Int.ofNat_eq_natCast]; omega
  simp only [g3,zfj,Bool.true_and,gk',Int.le_refl,decide_true,Bool.and_self,gb,gc,cond_true,cond_false]
  rw [zeR hk]
  simp [insT,insF]
theorem zQb {d:Nat} (l:List Factor) (f:Factor) (hl:l.length≤1000000) (h:∀ x∈l,zc8 (zy d) x.Atom) (hd:d≤99) (hc:∀ x∈l,0≤x.Exp∧x.Exp≤1000000) (ht:0≤f.Exp∧f.Exp≤1000000):zAx l f=(true,facA f l):=by
 have hreach:zT=70368744177664:=rfl
 unfold zAx zC2
 have hL:=zHd (W:=zBq) (z:=default) l (fun x=>decide (cF x f<0)) (fun k=>(l,(),(k:Int),())) (fun _=>(f,())) (fun k=>(l,(k:Int),f))
  (fun k hk H K D=>by
   show (znz l k f).ev H K D=_
   unfold znz
   simp only [Atom.eta,Wy.ev_i,Wy.ev_k,Wy.ev_h,Wy.ev_bn,Wy.ev_d,tT,hk,zpr (h _ (zH hk)) hd]
   rw [zbb (by omega)]; rfl)
  (fun H K D=>by
   show (znz l l.length f).ev H K D=_
   unfold znz
   simp only [Wy.ev_i,Wy.ev_k,tT,Nat.lt_irrefl]) (l.length+Int.toNat (0:Int)+f.Atom.Args.length+f.Atom.Items.length+(1:Nat)) (by omega)
 have hL:zBz (l.length+Int.toNat (0:Int)+f.Atom.Args.length+f.Atom.Items.length+(1:Nat)) l 0 f=_:=hL
 rw [Atom.eta,show (FactorOf.mk f.Atom f.Exp:Factor)=f from rfl,hL,zFZ,zL7]
 have q1:=zOg l (fun x=>decide (cF x f<0))
 have q2:=zIE (fun x=>decide (cF x f<0)) l
 have q3:=zIL (fun x=>decide (cF x f<0)) l
 generalize (l.takeWhile fun x=>decide (cF x f<0)).length=k at q1 q2 q3 ⊢
 rw [← q2, ← q3]
 have g1:(decide ((0:Int)≤(0:Int))&&decide ((0:Int)≤(k:Int))&&decide ((k:Int)≤Int.ofNat l.length))=true:=by simp only [Bool.and_eq_true,decide_eq_true_eq,Int.ofNat_eq_natCast]; omega
 have g2:decide ((0+(l.take k).length)*128≤zT)=true:=by simp only [decide_eq_true_eq,List.length_take]; omega
 have gb:∀ x:Factor,decide (((l.take k).length+[x].length)*128≤zT)=true:=fun x=>by simp only [decide_eq_true_eq,List.length_take,List.length_singleton]; omega
 have gc:∀ (x:Factor) (m:Nat),decide (((l.take k++[x]).length+(l.drop m).length)*128≤zT)=true:=fun x m=>by simp only [decide_eq_true_eq,List.length_take,List.length_drop,List.length_append,List.length_singleton]; omega
 have gk:(decide ((0:Int)≤(k:Int))&&decide ((k:Int)≤Int.ofNat l.length)&&decide (Int.ofNat l.length≤Int.ofNat l.length))=true:=by simp only [Bool.and_eq_true,decide_eq_true_eq,Int.ofNat_eq_natCast]; omega
 have ef:(FactorOf.mk f.Atom f.Exp:Factor)=f:=rfl
 simp only [Atom.eta,ef,Wy.fin_i,Wy.fin_k,Wy.fin_bn,List.nil_append,Int.toNat_natCast,zMv,zw2,g1,g2,cond_true]
 by_cases hk:k<l.length
 ·have g3:decide ((k:Int)<Int.ofNat l.length)=true:=by simp [hk]
  have g5:(decide ((0:Int)≤(k:Int))&&decide ((k:Int)<Int.ofNat l.length))=true:=by rw [g3]; simp
  have hm:=zH hk
  simp only [g3,zfj,Bool.and_self,cond_true,zpr (h _ hm) hd]
  rw [beq0,zP7 hk]
  have gw:IntKind.i64.wrap ((k:Int)+1)=((k+1:Nat):Int):=zbb (by omega)
  have gp:IntKind.i64.wrap ((l.getD k default).Exp+f.Exp)=(l.getD k default).Exp+f.Exp:=by have:=hc _ hm; exact ziC (by omega) (by omega)
  have gk':decide ((k:Int)≤Int.ofNat l.length)=true:=by simp only [decide_eq_true_eq,Int.ofNat_eq_natCast]; omega
  have gk1':decide (((k+1:Nat):Int)≤Int.ofNat l.length)=true:=by simp only [decide_eq_true_eq,Int.ofNat_eq_natCast]; omega
  have gk1:(decide ((0:Int)≤((k+1:Nat):Int))&&decide (((k+1:Nat):Int)≤Int.ofNat l.length)&&decide (Int.ofNat l.length≤Int.ofNat l.length))=true:=by simp only [Bool.and_eq_true,decide_eq_true_eq,Int.ofNat_eq_natCast]; omega
  by_cases hz:cF (l.getD k default) f=0
  ·have hz':cmpT (zds (l.getD k default).Atom) (zds f.Atom)=0:=hz
   by_cases hk3:f.Atom.Kind<3
   ·simp only [hz,hz',hk3,if_true,decide_true,cond_true,gw,gp,zfj,Bool.true_and,gk1',Int.le_refl,decide_true,cond_true,Bool.and_self,gb,gc,Int.toNat_natCast,zw2,List.append_assoc,List.singleton_append]
   ·simp only [hz,hz',hk3,if_true,if_false,decide_true,decide_false,cond_true,cond_false,gw,gp,zfj,Bool.true_and,gk1',Int.le_refl,decide_true,cond_true,Bool.and_self,gb,gc,Int.toNat_natCast,zw2,List.append_assoc,List.singleton_append]
  ·have hz':¬ cmpT (zds (l.getD k default).Atom) (zds f.Atom)=0:=hz
   simp only [hz,hz',if_false,decide_false,cond_false,cond_true,zfj,Bool.true_and,gk',Int.le_refl,decide_true,cond_true,Bool.and_self,gb,gc,List.append_assoc,List.singleton_append]
 ·have g3:decide ((k:Int)<Int.ofNat l.length)=false:=by simp [hk]
  have gk':decide ((k:Int)≤Int.ofNat l.length)=true:=by simp only [decide_eq_true_eq,Int.ofNat_eq_natCast]; omega
  simp only [g3,zfj,Bool.true_and,gk',Int.le_refl,decide_true,Bool.and_self,gb,gc,cond_true,cond_false]
  rw [zeR hk]
  simp [insT,insF]
theorem zQ5 (n:Nat) (h:n≤4000000):zdl (n:Int)=(true,[]):=by
 have hreach:zT=70368744177664:=rfl
 unfold zdl zgJ
 have e0:IntKind.i64.wrap ((0:Int) - 0)=0:=rfl
 have e1:IntKind.i64.wrap ((n:Int) - 0)=(n:Int):=by rw [ziC (by omega) (by omega)]; omega
 have e2:decide ((n:Int)<0)=false:=decide_eq_false (by omega)
 rw [Wy.fin_i,e2,cond_false,e0,e1]
 by_cases hn:(n:Int)>0
 ·have e3:(true&&(decide ((n:Int)*Int.ofNat (128:Nat)≤Int.ofNat zT)&&(decide ((n:Int)≤Int.ofNat zT)&& !Nat.beq (11:Nat) (0:Nat))))=true:=by
   simp only [Bool.and_eq_true,decide_eq_true_eq,Int.ofNat_eq_natCast]
   exact ⟨trivial,by rw [hreach]; omega,by rw [hreach]; omega,rfl⟩
  rw [Wy.fin_i,decide_eq_true hn,cond_true,Wy.fin_i,e3,cond_true,Wy.fin_k]
  simp
 ·rw [Wy.fin_i,decide_eq_false hn]; rfl
theorem zPg (ls:List (List Factor)) (hn:ls.length≤10) (h:∀ l∈ls,l.length≤300000):zcR ls=(true,ls.flatten):=by
 have hreach:zT=70368744177664:=rfl
 unfold zcR zfD
 have e:∀ l:List Factor,l∈ls→l.length≤300000:=h
 have h1:=zda (W:=zdB) (z:=default) (l:=ls) (fun i (n:Nat)=>(ls,(n:Int),ls,(ls.length:Int),(i:Int),())) (fun _ _=>()) (fun y n=>.inl (n+y.length)) (fun n=>(ls,(n:Int))) (fun i n=>n≤i*300000)
  (fun i n hi hI=>.inl ⟨_,rfl,by have:=e _ (zH hi); omega,fun H K D=>by
   show (zcr ls n ls ls.length i).ev H K D=_
   unfold zcr
   have hle:=e _ (zH hi)
   have hw:IntKind.i64.wrap ((n:Int)+((ls.getD i default).length:Int))=((n+(ls.getD i default).length:Nat):Int):=zmS (by omega)
   simp only [Wy.ev_i,Wy.ev_k,Wy.ev_h,Wy.ev_bn,Wy.ev_d,tT,hi,hw]
   have h0:decide (((n+(ls.getD i default).length:Nat):Int)<0)=false:=decide_eq_false (by omega)
   rw [h0,zbb (by omega)]; rfl⟩)
  (fun n hI H K D=>by
   show (zcr ls n ls ls.length ls.length).ev H K D=_
   unfold zcr
   simp only [Wy.ev_i,Wy.ev_k,tT,Nat.lt_irrefl]) (ls.length+Int.toNat (0:Int)+ls.length+(Int.ofNat ls.length).toNat +Int.toNat (0:Int)+(1:Nat)) 0 0 (by omega) (by omega) (by omega)
 rw [List.drop_zero,zdd] at h1
 have h1:zjr (ls.length+Int.toNat (0:Int)+ls.length+(Int.ofNat ls.length).toNat +Int.toNat (0:Int)+(1:Nat)) ls 0 ls (Int.ofNat ls.length) 0=_:=h1
 have hb:∀ (r:List (List Factor)) (n:Nat),(∀ l∈r,l.length≤300000)→r.foldl (fun n (y:List Factor)=>n+y.length) n≤n+r.length*300000:=fun r=>by
  induction r with
  | nil=>intro n _; simp
  | cons y r ih=>
   intro n hr
   have q1:=ih (n+y.length) fun l hl=>hr l (by simp [hl])
   have q2:=hr y (by simp)
   rw [List.foldl_cons,List.length_cons]; omega
 have hsz:=hb ls 0 h
 have h2:=zda (W:=zdm) (z:=default) (l:=ls) (fun i (out:List Factor)=>((),ls,(ls.length:Int),(i:Int),())) (fun _ out=>(out,())) (fun y out=>.inl (out++y)) (fun out=>out) (fun i out=>out.length≤i*300000)
  (fun i out hi hI=>.inl ⟨_,rfl,by have:=e _ (zH hi); simp only [List.length_append]; omega,fun H K D=>by
   show (zco ls ls.length i out).ev H K D=_
   unfold zco
   have hle:=e _ (zH hi)
   have hr:decide ((out.length+(ls.getD i default).length)*128≤zT)=true:=by simp only [decide_eq_true_eq]; omega
   simp only [Wy.ev_i,Wy.ev_k,Wy.ev_h,Wy.ev_bn,Wy.ev_d,tT,hi,hr]
   rw [zbb (by omega)]⟩)
  (fun out hI H K D=>by
   show (zco ls ls.length ls.length out).ev H K D=_
   unfold zco
   simp only [Wy.ev_i,Wy.ev_k,tT,Nat.lt_irrefl]) (ls.length+(Int.ofNat ls.length).toNat +Int.toNat (0:Int)+([]:List Factor).length+(1:Nat)) 0 [] (by omega) (by omega) (by simp)
 rw [List.drop_zero,zdd] at h2
 have h2:zjf (ls.length+(Int.ofNat ls.length).toNat +Int.toNat (0:Int)+([]:List Factor).length+(1:Nat)) ls (Int.ofNat ls.length) 0 []=_:=h2
 have hf:∀ (r:List (List Factor)) (out:List Factor),r.foldl (fun out y=>out++y) out=out++r.flatten:=fun r=>by
  induction r with
  | nil=>intro out; simp
  | cons y r ih=>intro out; rw [List.foldl_cons,ih,List.flatten_cons,List.append_assoc]
 rw [Wy.fin_bn,h1,cond_true]
 simp only [Wy.fin_bn,zQ5 _ (show ls.foldl (fun n (y:List Factor)=>n+y.length) 0≤4000000 by have:=Nat.mul_le_mul hn (Nat.le_refl 300000); omega),cond_true,h2,Wy.fin_k]
 rw [hf]; simp
theorem zxj {d:Nat} (hd:d≤99):∀ (n:Nat) (a b out:List Factor),a.length+b.length<n→a.length+b.length+out.length≤1000000→(∀ x∈a,zc8 (zy d) x.Atom∧0≤x.Exp∧x.Exp≤1000000)→(∀ x∈b,0≤x.Exp∧x.Exp≤1000000)→
  ∃ a' b' out',zrQ n a b out=(true,(a',b',out'))∧out'++(a'++b')=out++zby a b∧a'.length≤a.length∧b'.length≤b.length∧out'.length≤out.length+a.length+b.length
 | 0,a,b,out,h,_,_,_=>by omega
 | n+1,a,b,out,h,hl,ha,hb=>by
  have hreach:zT=70368744177664:=rfl
  show ∃ a' b' out',(zrh a b out).ev (fun x y=>zrQ n x.1 x.2.1 y.1) (fun r=>(true,r)) (false,default)=_∧_
  unfold zrh
  match a,b,h,hl,ha,hb with
  | [],b,h,hl,ha,hb=>exact ⟨[],b,out,rfl,by rw [zby]; simp,Nat.le_refl _,Nat.le_refl _,by omega⟩
  | x::a,[],h,hl,ha,hb=>
   have e1:decide (Int.ofNat (x::a).length>0)=true:=by simp
   refine ⟨x::a,[],out, ?_,by rw [zby]; simp,Nat.le_refl _,Nat.le_refl _,by omega⟩
   rw [Wy.ev_i,e1,cond_true]; rfl
  | x::a,y::b,h,hl,ha,hb=>
   have hx:=ha x (by simp)
   have hy:=hb y (by simp)
   simp only [List.length_cons] at h hl
   have e1:decide (Int.ofNat (x::a).length>0)=true:=by simp
   have e2:decide (Int.ofNat (y::b).length>0)=true:=by simp
   have e3:(decide ((0:Int)≤0)&&decide ((0:Int)<Int.ofNat (x::a).length))=true:=by simp
   have e4:(decide ((0:Int)≤0)&&decide ((0:Int)<Int.ofNat (y::b).length))=true:=by simp
   have e5:(x::a).getD (Int.toNat 0) default=x:=rfl
   have e6:(y::b).getD (Int.toNat 0) default=y:=rfl
   have e7:∀ z:Factor,decide ((out.length+[z].length)*128≤zT)=true:=fun z=>by simp only [decide_eq_true_eq,List.length_singleton]; omega
   have e8:(decide ((0:Int)≤1)&&decide ((1:Int)≤Int.ofNat (x::a).length)&&decide (Int.ofNat (x::a).length≤Int.ofNat (x::a).length))=true:=by simp; omega
   have e9:(decide ((0:Int)≤1)&&decide ((1:Int)≤Int.ofNat (y::b).length)&&decide (Int.ofNat (y::b).length≤Int.ofNat (y::b).length))=true:=by simp; omega
   have e10:List.take ((Int.ofNat (x::a).length).toNat - Int.toNat 1) (List.drop (Int.toNat 1) (x::a))=a:=by rw [show Int.toNat 1=1 from rfl,zw2]; rfl
   have e11:List.take ((Int.ofNat (y::b).length).toNat - Int.toNat 1) (List.drop (Int.toNat 1) (y::b))=b:=by rw [show Int.toNat 1=1 from rfl,zw2]; rfl
   have ea:∀ z∈a,zc8 (zy d) z.Atom∧0≤z.Exp∧z.Exp≤1000000:=fun z hz=>ha z (by simp [hz])
   have eb:∀ z∈b,0≤z.Exp∧z.Exp≤1000000:=fun z hz=>hb z (by simp [hz])
   have ex:(FactorOf.mk x.Atom x.Exp:Factor)=x:=rfl
   have ey:(FactorOf.mk y.Atom y.Exp:Factor)=y:=rfl
   simp only [Wy.ev_i,Wy.ev_k,Wy.ev_h,Wy.ev_bn,Wy.ev_d,e1,e2,e3,e4,e5,e6,e7,e8,e9,e10,e11,cond_true,Atom.eta,zpV hx.1 hd,zIh,ex,ey]
   rw [zby]
   have hcf:cF x y=cmpT (zds x.Atom) (zds y.Atom):=rfl
   rw [← hcf]
   by_cases h1:cF x y<0
   ·simp only [h1,decide_true,cond_true,if_true]
    obtain ⟨a',b',out',r1,r2,r3,r4,r5⟩:=zxj hd n a (y::b) (out++[x]) (by simp only [List.length_cons]; omega) (by simp only [List.length_cons,List.length_append,List.length_nil]; omega) ea hb
    refine ⟨a',b',out',r1,by rw [r2]; simp,by simp only [List.length_cons]; omega,by simpa using r4,by simp only [List.length_cons,List.length_append,List.length_nil] at r5 ⊢; omega⟩
   ·by_cases h2:0<cF x y
    ·have h2':cF x y>0:=h2
     simp only [h1,h2,h2',decide_true,decide_false,cond_true,cond_false,if_true,if_false]
     obtain ⟨a',b',out',r1,r2,r3,r4,r5⟩:=zxj hd n (x::a) b (out++[y]) (by simp only [List.length_cons]; omega) (by simp only [List.length_cons,List.length_append,List.length_nil]; omega) ha eb
     refine ⟨a',b',out',r1,by rw [r2]; simp,by simpa using r3,by simp only [List.length_cons]; omega,by simp only [List.length_cons,List.length_append,List.length_nil] at r5 ⊢; omega⟩
    ·have h2':¬ cF x y>0:=h2
     have hw:IntKind.i64.wrap (x.Exp+y.Exp)=x.Exp+y.Exp:=ziC (by omega) (by omega)
     simp only [h1,h2,h2',decide_false,cond_false,if_false,hw]
     have hk:(x.Atom.Kind==3||x.Atom.Kind==4)=decide (x.Atom.Kind=3∨x.Atom.Kind=4):=by rw [beqd,beqd, ← Bool.decide_or]
     rw [hk]
     by_cases h3:x.Atom.Kind=3∨x.Atom.Kind=4
     ·simp only [h3,decide_true,Bool.not_true,cond_false,if_true]
      obtain ⟨a',b',out',r1,r2,r3,r4,r5⟩:=zxj hd n a b (out++[x]) (by omega) (by simp only [List.length_append,List.length_cons,List.length_nil]; omega) ea eb
      refine ⟨a',b',out',r1,by rw [r2]; simp,by simp only [List.length_cons]; omega,by simp only [List.length_cons]; omega,by simp only [List.length_cons,List.length_append,List.length_nil] at r5 ⊢; omega⟩
     ·simp only [h3,decide_false,Bool.not_false,cond_true,if_false]
      obtain ⟨a',b',out',r1,r2,r3,r4,r5⟩:=zxj hd n a b (out++[⟨x.Atom,x.Exp+y.Exp⟩]) (by omega) (by simp only [List.length_append,List.length_cons,List.length_nil]; omega) ea eb
      refine ⟨a',b',out',r1,by rw [r2]; simp,by simp only [List.length_cons]; omega,by simp only [List.length_cons]; omega,by simp only [List.length_cons,List.length_append,List.length_nil] at r5 ⊢; omega⟩
theorem zQe {d:Nat} (hd:d≤99) (a b:List Factor) (hl:a.length+b.length≤100000) (ha:∀ x∈a,zc8 (zy d) x.Atom∧0≤x.Exp∧x.Exp≤1000000) (hb:∀ x∈b,0≤x.Exp∧x.Exp≤1000000):zkX a b=(true,zby a b):=by
 unfold zkX zsQ
 obtain ⟨a',b',out',r1,r2,r3,r4,r5⟩:=zxj hd (a.length+b.length+(0:Nat)+(1:Nat)) a b [] (by omega) (by simp; omega) ha hb
 rw [Wy.fin_bn,r1,cond_true]
 have hc:=zPg [out',a',b'] (by simp) (fun l hl'=>by
  simp only [List.mem_cons,List.not_mem_nil,or_false] at hl'
  simp only [List.length_nil] at r5
  rcases hl' with rfl | rfl | rfl <;>omega)
 simp only [Wy.fin_bn,hc,cond_true,Wy.fin_k]
 congr 1
 simpa using r2
theorem zKj {a b:Int} (ha:1≤a∧a≤1152921504606846976) (hb:1≤b∧b≤1152921504606846976):zmQ a b=(true,zrg a b)∧zCb a b=(true,zrg a b):=by
 obtain ⟨h1,h2⟩:=zH8 ha hb
 have h0:(!decide (b=(0:Int)))=true:=by rw [decide_eq_false (by omega)]; rfl
 have hq:0≤Int.tdiv 1152921504606846976 b∧Int.tdiv 1152921504606846976 b≤1152921504606846976:=by
  rw [Int.tdiv_eq_ediv_of_nonneg (by omega)]
  exact ⟨Int.ediv_nonneg (by omega) (by omega),Int.ediv_le_self _ (by omega)⟩
 have hw:IntKind.i64.wrap (Int.tdiv 1152921504606846976 b)=Int.tdiv 1152921504606846976 b:=ziC (by omega) (by omega)
 have key:∀ w:Int,(w=if Int.tdiv 1152921504606846976 b<a then 1152921504606846976 else IntKind.i64.wrap (a*b))→w=zrg a b:=fun w e=>by
  rw [e]; unfold zrg
  split
  ·rfl
  ·rename_i hn
   have h3:=h2 hn
   have h4:=Int.mul_nonneg (show 0≤a by omega) (show 0≤b by omega)
   exact ziC (by omega) (by omega)
 constructor
 ·unfold zmQ zq0
  rw [Wy.fin_i,h0,cond_true,Wy.fin_i,hw,Wy.fin_k,Wy.fin_k]
  by_cases hc:Int.tdiv 1152921504606846976 b<a
  ·rw [decide_eq_true hc,cond_true]; exact congrArg (Prod.mk true) (key _ (by rw [if_pos hc]))
  ·rw [decide_eq_false hc,cond_false]; exact congrArg (Prod.mk true) (key _ (by rw [if_neg hc]))
 ·unfold zCb zDX
  rw [Wy.fin_i,h0,cond_true,Wy.fin_i,hw,Wy.fin_k,Wy.fin_k]
  by_cases hc:Int.tdiv 1152921504606846976 b<a
  ·rw [decide_eq_true hc,cond_true]; exact congrArg (Prod.mk true) (key _ (by rw [if_pos hc]))
  ·rw [decide_eq_false hc,cond_false]; exact congrArg (Prod.mk true) (key _ (by rw [if_neg hc]))
theorem zrj {τ:Type} [Inhabited τ] {R:τ→τ→Prop} (ht:∀ x y z,R x y→R y z→R x z):∀ l:List τ,(∀ k,0<k→k<l.length→R (l.getD (k - 1) default) (l.getD k default))→l.Pairwise R
 | [],_=>.nil
 | [x],_=>by simp
 | x::y::r,h=>by
  have h1:R x y:=h 1 (by omega) (by simp)
  have h2:=zrj ht (y::r) fun k hk hl=>by
   have:=h (k+1) (by omega) (by simpa using hl)
   obtain ⟨j,rfl⟩:∃ j,k=j+1:=⟨k - 1,by omega⟩
   exact this
  refine List.pairwise_cons.2 ⟨fun z hz=> ?_,h2⟩
  rcases List.mem_cons.1 hz with rfl | hz
  ·exact h1
  ·exact ht x y z h1 ((List.pairwise_cons.1 h2).1 z hz)
def GF (f:Factor):Prop:=(zeF (zbP 9) f.Atom=true∧zjY f.Atom∧f.Atom.Items.length≤1024)∧1≤f.Exp∧f.Exp≤1000000
def GT (t:Term):Prop:=cOK t∧t.Factors.length≤1000∧∀ f∈t.Factors,GF f
def VT (t:Term):Prop:=GT t∧Srf t.Factors∧t.Factors.length≤64∧∀ f∈t.Factors,eOK f∧f.Exp≤64
theorem zLd {a:List Term} (h:zbD a=true) (hw:zid a):Srs a∧a.length≤512∧∀ t∈a,VT t:=by
 have h9:=zKq h (Nat.le_refl 9)
 rw [zHi] at h
 obtain ⟨w1,w2,w3,w4⟩:=zzl (zBy h)
 have hall:=h
 simp only [vAnn,Bool.and_eq_true] at hall
 refine ⟨zrj (R:=fun x y=>cT x y<0) (fun x y z h1 h2=>zAc h1 h2) a fun k hk hl=> ?_,w1,fun t ht=> ?_⟩
 ·have:=zd1.1 hall.2 k (by omega) (by omega)
  simp only [chkT,Bool.and_eq_true,Bool.or_eq_true,decide_eq_true_eq] at this
  rcases this.1.2 with e | e
  ·omega
  ·exact e
 ·obtain ⟨hc,hok⟩:=zqW h ht
  obtain ⟨l1,l2⟩:=w4 t ht
  have hwt:=zpN (zvA (zuC hw t ht)).2.1
  refine ⟨⟨hc,by omega,fun f hf=> ?_⟩,zrj (R:=fun x y=>cF x y<0) (fun x y z h1 h2=>zw6 h1 h2) _ fun k hk hl=> ?_,l1,fun f hf=> ?_⟩
  ·obtain ⟨⟨e1,_⟩,hv⟩:=znE hok hf
   exact ⟨⟨by rw [zNP (Nat.le_refl 9)]; exact hv,(zrd (hwt f hf)).1,(l2 f hf).2⟩,e1,by have:=(l2 f hf).1; omega⟩
  ·have:=zd1.1 hok k (by omega) (by omega)
   simp only [chkF,Bool.and_eq_true,Bool.or_eq_true,decide_eq_true_eq] at this
   rcases this.1.2 with e | e
   ·omega
   ·exact e
  ·obtain ⟨⟨_,e2⟩,hv⟩:=znE hok hf
   exact ⟨⟨zu0 hv,e2⟩,(l2 f hf).1⟩
theorem zzs {m:Nat} {x:Atom} (h:zeF (zbP m) x=true) (hi:x.Items.length≤1024):zc8 (zy 9) x:=by
 cases zeQ.1 h with
 | var r h=>exact ⟨⟨by simp,by simp,by show (ByteArray.mk #[]).size≤_; decide⟩,fun a ha=>(by cases ha),fun w hw=>(by cases hw)⟩
 | mon b c hb hc _ _ _=>
  refine ⟨⟨by simp,by simp,by show (ByteArray.mk #[]).size≤_; decide⟩,fun y hy=> ?_,fun w hw=>(by cases hw)⟩
  simp only [List.mem_cons,List.not_mem_nil,or_false] at hy
  rcases hy with rfl | rfl
  ·exact (zfE hb).1
  ·exact (zfE hc).1
 | del b hb _ _ _=>
  refine ⟨⟨by simp,by simp,by show (ByteArray.mk #[]).size≤_; decide⟩,fun y hy=> ?_,fun w hw=>(by cases hw)⟩
  rw [List.mem_singleton] at hy; subst hy; exact (zfE hb).1
 | abs b hb _ _=>
  refine ⟨⟨by simp,by simp,by show (ByteArray.mk #[]).size≤_; decide⟩,fun y hy=> ?_,fun w hw=>(by cases hw)⟩
  rw [List.mem_singleton] at hy; subst hy; exact (zfE hb).1
 | tst f l o b hl hv hs hf=>
  obtain ⟨_,hb,hit⟩:=zr8 hf
  simp only at hi
  exact ⟨⟨by simp,by simp only; omega,by have:=zun hb; simp only; omega⟩,fun a ha=>(by cases ha),fun w hw=>⟨by have:=zun (hit w hw).1; omega,(zfE (hv w hw).1).1⟩⟩
theorem GT.fine {t:Term} (h:GT t):zfm (zy 9) t.Factors:=⟨by have:=h.2.1; omega,fun f hf=>zzs (h.2.2 f hf).1.1 (h.2.2 f hf).1.2.2⟩
theorem GF.gF {f:Factor} (h:GF f):gF (zbP 9) f:=⟨h.1.1,h.1.2.1,by constructor <;>(have:=h.2; omega)⟩
theorem GT.text {t:Term} (h:GT t):zmF t.Factors=(true,bs (txL t.Factors)):=
 (zKM 1000).2.2 9 t.Factors h.2.1 (fun f hf=>⟨(h.2.2 f hf).1.1,(h.2.2 f hf).1.2.1,(h.2.2 f hf).1.2.2,(h.2.2 f hf).gF.2.2⟩) (by omega)
theorem GT.inj {s t:Term} (hs:GT s) (ht:GT t) (h:bs (txL s.Factors)=bs (txL t.Factors)):s.Factors=t.Factors:=
 zPY (fun f hf=>(hs.2.2 f hf).gF) (fun f hf=>(ht.2.2 f hf).gF) (zQ4 h)
def zlW:Int→List Term→List (Go.Value×Int)
 | _,[]=>[]
 | i,t::r=>(.string (bs (txL t.Factors)),i)::zlW (i+1) r
def posA (k:ByteArray):List Term→Option Nat
 | []=>none
 | t::r=>if k=bs (txL t.Factors) then some 0 else (posA k r).map (· +1)
theorem zBC (k:ByteArray) (t:Term) (r:List Term):posA k (t::r)=if k=bs (txL t.Factors) then some 0 else (posA k r).map (· +1):=rfl
theorem keyS (a b:ByteArray):zok (.string a) (.string b)=decide (a=b):=by
 cases a with | mk x=>cases b with | mk y=>
 show (x==y)=_
 by_cases h:x=y
 ·subst h; simp
 ·have:(x==y)=false:=by rw [beq_eq_false_iff_ne]; exact h
  rw [this]; simp [h]
theorem zLe (k:ByteArray):∀ (o:List Term) (i:Int),zNn (.string k) (zlW i o)=(posA k o).isSome
 | [],i=>rfl
 | t::r,i=>by
  show (bif zok (.string k) (.string (bs (txL t.Factors))) then true else zNn (.string k) (zlW (i+1) r))=_
  rw [keyS,zLe k r,zBC]
  by_cases h:k=bs (txL t.Factors)
  ·rw [decide_eq_true h,if_pos h]; rfl
  ·rw [decide_eq_false h,if_neg h]; cases posA k r <;>rfl
theorem zK9 (k:ByteArray):∀ (o:List Term) (i:Int),zuY (.string k) (zlW i o)=(posA k o).map fun j:Nat=>i+(j:Int)
 | [],i=>rfl
 | t::r,i=>by
  show (bif zok (.string k) (.string (bs (txL t.Factors))) then some i else zuY (.string k) (zlW (i+1) r))=_
  rw [keyS,zK9 k r,zBC]
  by_cases h:k=bs (txL t.Factors)
  ·rw [decide_eq_true h,if_pos h]; simp
  ·rw [decide_eq_false h,if_neg h]
   cases posA k r with
   | none=>rfl
   | some j=>
    have e:i+1+(j:Int)=i+((j+1:Nat):Int):=by omega
    simp only [cond_false,Option.map_some,e]
theorem zKV (k:ByteArray) (x:Int):∀ (o:List Term) (i:Int),posA k o=none→zNb (.string k) x (zlW i o)=zlW i o++[(.string k,x)]
 | [],i,_=>rfl
 | t::r,i,h=>by
  rw [zBC] at h
  by_cases hk:k=bs (txL t.Factors)
  ·rw [if_pos hk] at h; cases h
  ·rw [if_neg hk] at h
   show (bif zok (.string k) (.string (bs (txL t.Factors))) then _ else (.string (bs (txL t.Factors)),i)::zNb (.string k) x (zlW (i+1) r))=_
   rw [keyS,decide_eq_false hk,zKV k x r (i+1) (by cases hp:posA k r with | none=>rfl | some j=>rw [hp] at h; cases h)]
   rfl
theorem zJc (t:Term):∀ (o:List Term) (i:Int),zlW i (o++[t])=zlW i o++[(.string (bs (txL t.Factors)),i+(o.length:Int))]
 | [],i=>by simp [zlW]
 | x::r,i=>by
  have e:i+1+(r.length:Int)=i+((r.length+1:Nat):Int):=by omega
  simp only [List.cons_append,zlW,List.length_cons,zJc t r,e]
theorem zJi (y:Term):∀ (o:List Term) (j:Nat) (i:Int),(o.getD j default).Factors=y.Factors→zlW i (o.set j y)=zlW i o
 | [],j,i,_=>rfl
 | x::r,0,i,h=>by simp only [List.set_cons_zero,zlW]; rw [show x.Factors=y.Factors from h]
 | x::r,j+1,i,h=>by simp only [List.set_cons_succ,zlW]; rw [zJi y r j (i+1) h]
theorem zLM {t:Term} (ht:GT t):∀ {o:List Term},(∀ x∈o,GT x)→(match posA (bs (txL t.Factors)) o with
  | some j=>j<o.length∧(o.getD j default).Factors=t.Factors∧updA t o=o.set j ⟨zsa (o.getD j default).Coeff t.Coeff,(o.getD j default).Factors⟩
  | none=>updA t o=o++[t])
 | [],_=>rfl
 | x::r,h=>by
  have ih:=zLM ht (o:=r) fun y hy=>h y (by simp [hy])
  rw [zBC]
  unfold updA
  by_cases hk:bs (txL t.Factors)=bs (txL x.Factors)
  ·have e:=GT.inj ht (h x (by simp)) hk
   rw [if_pos hk,if_pos e.symm]
   exact ⟨by simp,e.symm,rfl⟩
  ·have e:¬ x.Factors=t.Factors:=fun e=>hk (by rw [e])
   rw [if_neg hk,if_neg e]
   cases hp:posA (bs (txL t.Factors)) r with
   | none=>rw [hp] at ih; simp only [Option.map_none]; rw [ih]; rfl
   | some j=>
    rw [hp] at ih
    obtain ⟨i1,i2,i3⟩:=ih
    simp only [Option.map_some]
    exact ⟨by simp; exact i1,i2,by rw [i3]; rfl⟩
theorem zOk {t:Term} (ht:GT t) {o:List Term} (ho:∀ x∈o,GT x):∀ x∈updA t o,GT x:=by
 induction o with
 | nil=>intro x hx; simp only [updA,List.mem_singleton] at hx; subst hx; exact ht
 | cons y r ih=>
  intro x hx
  unfold updA at hx
  split at hx
  ·rcases List.mem_cons.1 hx with rfl | hx
   ·have:=ho y (by simp)
    exact ⟨zJC this.1.1 ht.1.1,this.2⟩
   ·exact ho x (by simp [hx])
  ·rcases List.mem_cons.1 hx with rfl | hx
   ·exact ho x (by simp)
   ·exact ih (fun z hz=>ho z (by simp [hz])) x hx
theorem zIz (t:Term):∀ o:List Term,(updA t o).length≤o.length+1
 | []=>by simp [updA]
 | y::r=>by
  have:=zIz t r
  unfold updA
  split
  ·simp
  ·simp only [List.length_cons]; omega
theorem zN1 (ts:List Term) (hl:ts.length≤1000000) (h:∀ t∈ts,GT t) (n:Nat) (hn:ts.length<n):zoq n ts ts.length 0 [] []=(true,zBp ts):=by
 have hreach:zT=70368744177664:=rfl
 have h2:=zda (W:=zk7) (z:=default) (l:=ts) (fun i (out:List Term)=>((),(),ts,(ts.length:Int),(i:Int),())) (fun _ out=>(zlW 0 out,out,())) (fun t out=>.inl (updA t out)) (fun out=>out) (fun i out=>out.length≤i∧∀ t∈out,GT t)
  (fun i out hi hI=>.inl ⟨_,rfl,⟨by have:=zIz (ts.getD i default) out; omega,zOk (h _ (zH hi)) hI.2⟩,fun H K D=>by
   show (zis ts ts.length i (zlW 0 out) out).ev H K D=_
   unfold zis
   have ht:=h _ (zH hi)
   have hp:=zLM ht hI.2
   have hhas:=zLe (bs (txL (ts.getD i default).Factors)) out 0
   have hget:=zK9 (bs (txL (ts.getD i default).Factors)) out 0
   simp only [Wy.ev_i,Wy.ev_k,Wy.ev_h,Wy.ev_bn,Wy.ev_d,tT,hi,ht.text]
   rw [hhas,hget,zbb (by omega)]
   cases hpos:posA (bs (txL (ts.getD i default).Factors)) out with
   | none=>
    rw [hpos] at hp
    have hb:decide ((out.length+[ts.getD i default].length)*32≤zT)=true:=by simp only [decide_eq_true_eq,List.length_singleton]; omega
    simp only [Option.isSome_none,cond_false,hb,cond_true]
    rw [zKV _ _ _ _ hpos,hp,zJc]
    simp
   | some j=>
    rw [hpos] at hp
    obtain ⟨p1,p2,p3⟩:=hp
    have hj:=hI.2 _ (zH p1)
    have hw:IntKind.i64.wrap ((out.getD j default).Coeff+(ts.getD i default).Coeff)=(out.getD j default).Coeff+(ts.getD i default).Coeff:=zL1 ⟨by have:=hj.1.1; omega,hj.1.2⟩ ⟨by have:=ht.1.1; omega,ht.1.2⟩
    have e1:(0:Int)+(j:Int)=(j:Int):=by omega
    have e2:decide (j<out.length)=true:=decide_eq_true p1
    simp only [Option.isSome_some,Option.map_some,Option.getD_some,e1,cond_true,tT,e2,hw]
    rw [p3,zJi ⟨zsa (out.getD j default).Coeff (ts.getD i default).Coeff,(out.getD j default).Factors⟩ out j 0 rfl]
    rfl⟩)
  (fun out hI H K D=>by
   show (zis ts ts.length ts.length (zlW 0 out) out).ev H K D=_
   unfold zis
   simp only [Wy.ev_i,Wy.ev_k,tT,Nat.lt_irrefl]) n 0 [] (by omega) (by omega) ⟨by simp,fun t ht=>by cases ht⟩
 rw [List.drop_zero,zdd] at h2
 exact h2
theorem zMu:∀ (ts o:List Term),(∀ t∈ts,GT t)→(∀ t∈o,GT t)→∀ x∈ts.foldl (fun a t=>updA t a) o,GT x
 | [],o,_,ho=>ho
 | t::r,o,h,ho=>zMu r (updA t o) (fun x hx=>h x (by simp [hx])) (zOk (h t (by simp)) ho)
theorem zI9:∀ (ts o:List Term),(ts.foldl (fun a t=>updA t a) o).length≤o.length+ts.length
 | [],o=>by simp
 | t::r,o=>by
  have h1:=zI9 r (updA t o)
  have h2:=zIz t o
  rw [List.foldl_cons,List.length_cons]; omega
theorem zM9 (ts:List Term) (hl:ts.length≤1000000) (h:∀ t∈ts,GT t):zgL ts=(true,sumA [] ts):=by
 unfold zgL zpp
 have hL:=zN1 ts hl h (ts.length+(Int.ofNat ts.length).toNat +Int.toNat (0:Int)+(0:Nat)+(0:Nat)+(1:Nat)) (by omega)
 have hL:zoq (ts.length+(Int.ofNat ts.length).toNat +Int.toNat (0:Int)+(0:Nat)+(0:Nat)+(1:Nat)) ts (Int.ofNat ts.length) 0 [] []=_:=hL
 rw [Wy.fin_bn,hL,cond_true]
 obtain ⟨hp,hd⟩:=zJo ts [] [] .nil .nil .nil
 have hs:=zIR ts [] .nil
 have hg:∀ x∈zBp ts,GT x:=zMu ts [] h fun x hx=>by cases hx
 have hlen:(zBp ts).length≤1000000:=by have:=zI9 ts []; simp at this; exact Nat.le_trans this hl
 have e:∀ x∈zBp ts,∀ y,zbz x y=(true,cT x y):=fun x hx y=>zpW (hg x hx).fine (by omega) y
 have ok:SortOK zbz (zBp ts):=by
  refine ⟨by omega,fun x hx y _=>by rw [e x hx],fun x hx=> ?_,fun x hx y hy z hz h1 h2=> ?_,fun x hx y hy z hz h1 h2=> ?_,fun x hx y hy h1 h2=> ?_⟩
  ·rw [e x hx]; have:=zzK (x:=x) (y:=x) rfl; simp only; omega
  ·rw [e x hx] at h1 ⊢; rw [e y hy] at h2
   exact zAc h1 h2
  ·rw [e x hx] at h1 ⊢; rw [e y hy] at h2
   simp only at h1 h2 ⊢
   have a1:=zws x y
   have a2:=zws y z
   have a3:=zws x z
   have:=zzC (zbo z.Factors) (zbo y.Factors) (zbo x.Factors) (show cT z y≤0 by omega) (show cT y x≤0 by omega)
   have:cT z x≤0:=this
   omega
  ·rw [e x hx] at h1; rw [e y hy] at h2
   simp only at h1 h2
   have a1:=zws x y
   have hz:x.Factors=y.Factors:=zFX (by omega)
   by_cases hxy:x=y
   ·exact hxy
   ·exfalso
    -- two terms with the same factors are one
    have hdd:Dst (zBp ts):=hd
    have:=List.pairwise_iff_getElem.1 hdd
    obtain ⟨i,hi,ei⟩:=List.mem_iff_getElem.1 hx
    obtain ⟨j,hj,ej⟩:=List.mem_iff_getElem.1 hy
    rcases Nat.lt_trichotomy i j with hij | hij | hij
    ·exact this i j hi hj hij (by rw [ei,ej]; exact hz)
    ·subst hij; exact hxy (ei.symm.trans ej)
    ·exact this j i hj hi hij (by rw [ei,ej]; exact hz.symm)
 unfold zbm zJ7
 simp only [Wy.fin_bn,Wy.fin_k,decide_eq_true ok,cond_true]
 congr 1
 refine (ok.unique (hp:(sumA [] ts).Perm (zBp ts)) ?_).symm
 refine hs.imp_of_mem fun {x y} hx hy hxy=> ?_
 rw [e y ((hp:(sumA [] ts).Perm (zBp ts)).mem_iff.1 hy)]
 have:=zws x y
 simp only; omega
def zFQ (a:List Term) (e:Int) (b:List Term) (f:Int):Wy0 (Bool):=.i (e==f) (.bn (zr7 a b) fun r0=>.i (r0) (.i (e==0) (.k true) (.k (Int.ofNat a.length==0))) (.k false)) (.k false)
def zDE (a:List Term) (e:Int) (b:List Term) (f:Int):Bool×Bool:=(zFQ a e b f).fin default
mutual
theorem zLq:∀ x:Atom,zeq x≤zzO x
 | ⟨_,_,a,_,i,_,_⟩=>by
  rw [zeq,zzO]
  have h1:=zGt a
  have h2:=zEU i
  omega
theorem zCI:∀ l:List Factor,zbA l≤zia l
 | []=>by rw [zbA,zia]; exact Nat.le_refl _
 | ⟨x,_⟩::r=>by
  rw [zbA,zia]
  have h1:=zLq x
  have h2:=zCI r
  omega
theorem zzr:∀ l:List Term,zJ l≤zf1 l
 | []=>by rw [zJ,zf1]; exact Nat.le_refl _
 | ⟨_,fs⟩::r=>by
  rw [zJ,zf1]
  have h1:=zCI fs
  have h2:=zzr r
  omega
theorem zGt:∀ l:List (List Term),zes l≤zns l
 | []=>by rw [zes,zns]; exact Nat.le_refl _
 | a::r=>by
  rw [zes,zns]
  have h1:=zzr a
  have h2:=zGt r
  omega
theorem zEU:∀ l:List Weighted,zc9 l≤l.length+zlb l
 | []=>by rw [zc9,zlb]; exact Nat.zero_le _
 | ⟨_,a⟩::r=>by
  rw [zc9,zlb]
  have h1:=zzr a
  have h2:=zEU r
  simp only [List.length_cons]
  omega
end
theorem zOP (d:Nat):zy (d+1) []:=⟨by simp,fun t ht=>by cases ht⟩
theorem zQf {d:Nat} {a:List Term} {e:Int} (h:zy d a) (hd:d≤100) (he:e=0∨a=[]):zDE a e a e=(true,true):=by
 unfold zDE zFQ
 simp only [Wy.fin_i,Wy.fin_bn,Wy.fin_k,zyN h hd,beqd,decide_true,cond_true]
 rcases he with rfl | rfl
 ·simp
 ·cases decide (e=0) <;>simp
def zDY (a:List Term) (b:List Term):Wy0 (List Term×Int):=.bn (zmj a) fun r3=>.i (!r3) (.k ([],1)) (.bn (zmj b) fun r2=>.i (!r2) (.k ([],1)) (.i (Int.ofNat b.length==0) (.k (a,0)) (.i (Int.ofNat a.length==0) (.k ([],0)) (.bn (zr7 a b) fun r1=>.i (r1) (.k ([],0)) (.bn (zq8 (zr4 (Atom.mk 1 (RowID.mk 0 0) [a,b] 0 [] 0 (Value.mk 0 0 (ByteArray.mk #[])))).2) fun r0=>.k (r0.1,r0.2))))))
def zGv (a:List Term) (b:List Term):Bool×(List Term×Int):=(zDY a b).fin default
def zD1 (a:List Term):Wy0 (List Term×Int):=.bn (zmj a) fun r4=>.i (!r4) (.k ([],1)) (.i (Int.ofNat a.length==0) (.k (a,0)) (.bn (zrF a) fun r3=>.i (r3) (.k (a,0)) (.i (Int.ofNat a.length==1) (.bn (zkc a) fun r1=>.i (r1) (.k (zJh.2,0)) (.bn (zq8 (zr4 (Atom.mk 2 (RowID.mk 0 0) [a] 0 [] 0 (Value.mk 0 0 (ByteArray.mk #[])))).2) fun r0=>.k (r0.1,r0.2))) (.bn (zq8 (zr4 (Atom.mk 2 (RowID.mk 0 0) [a] 0 [] 0 (Value.mk 0 0 (ByteArray.mk #[])))).2) fun r2=>.k (r2.1,r2.2)))))
def zGA (a:List Term):Bool×(List Term×Int):=(zD1 a).fin default
def zCY (a:List Term):Wy0 (List Term×Int):=.bn (zmj a) fun r2=>.i (!r2) (.k ([],1)) (.i (Int.ofNat a.length==0) (.k (zJh.2,0)) (.bn (zkc a) fun r1=>.i (r1) (.k ([],0)) (.bn (zq8 (zr4 (Atom.mk 3 (RowID.mk 0 0) [a] 0 [] 0 (Value.mk 0 0 (ByteArray.mk #[])))).2) fun r0=>.k (r0.1,r0.2))))
def zFN (a:List Term):Bool×(List Term×Int):=(zCY a).fin default
theorem zC1 {B:Nat}:∀ l:List Factor,(∀ f∈l,zeq f.Atom≤B)→zbA l≤l.length*B
 | [],_=>by rw [zmq]; simp
 | f::r,h=>by
  have h1:=h f (by simp)
  have h2:=zC1 r fun g hg=>h g (by simp [hg])
  rw [zeE,List.length_cons,Nat.add_mul]; omega
theorem zH0 {B:Nat}:∀ l:List Term,(∀ t∈l,1+t.Factors.length+zbA t.Factors≤B)→zJ l≤l.length*B
 | [],_=>by rw [zr3]; simp
 | f::r,h=>by
  have h1:=h f (by simp)
  have h2:=zH0 r fun g hg=>h g (by simp [hg])
  rw [zh1,List.length_cons,Nat.add_mul]; omega
theorem zNU {l:List Term} (hl:l.length≤1000000) (h:∀ t∈l,GT t):zy 10 l∧zJ l≤4611686018427387904:=by
 refine ⟨⟨hl,fun t ht=>(h t ht).fine⟩, ?_⟩
 refine Nat.le_trans (zH0 (B:=4195330000) l fun t ht=> ?_) (by have:=Nat.mul_le_mul hl (Nat.le_refl 4195330000); omega)
 have hg:=h t ht
 have h1:=zC1 (B:=4195328) t.Factors fun f hf=>zGC (hg.2.2 f hf).1.1 (hg.2.2 f hf).1.2.2
 have:=Nat.mul_le_mul hg.2.1 (Nat.le_refl 4195328)
 have:=hg.2.1
 omega
theorem zNK {t:Term} (ht:GT t) {l:List Term} (hs:Srs l) (h:∀ x∈l,GT x):∀ x∈putA t l,GT x:=fun x hx=>by
 have hc:=zPr ht.1 (fun y hy=>(h y hy).1) x hx
 rcases (zF2 hs).1 hx with ⟨h1,_⟩ | ⟨h1,_⟩
 ·exact h x h1
 ·exact ⟨hc,by rw [h1]; exact ht.2⟩
theorem zK0:∀ (b a:List Term),Srs a→(∀ x∈a,GT x)→(∀ x∈b,GT x)→∀ x∈sumA a b,GT x
 | [],_,_,ha,_=>ha
 | t::r,a,hs,ha,hb=>zK0 r (putA t a) (zzP hs) (zNK (hb t (by simp)) hs ha) fun x hx=>hb x (by simp [hx])
theorem zDs {x y:Term} (hx:VT x) (hy:VT y):GT (ziF x y):=by
 obtain ⟨gx,sx,lx,ex⟩:=hx
 obtain ⟨gy,sy,ly,ey⟩:=hy
 refine ⟨(zH8 gx.1 gy.1).1,by have:=zz9 x.Factors y.Factors; show (zby x.Factors y.Factors).length≤1000; omega,fun f hf=> ?_⟩
 obtain ⟨g,hg,e⟩:=zpq hf
 have hb:=zAa (B:=64) (fun z hz=>⟨(gx.2.2 z hz).2.1,(ex z hz).2⟩) (fun z hz=>⟨(gy.2.2 z hz).2.1,(ey z hz).2⟩) hf
 have hv:(zeF (zbP 9) g.Atom=true∧zjY g.Atom∧g.Atom.Items.length≤1024):=by
  rcases hg with hg | hg
  ·exact (gx.2.2 g hg).1
  ·exact (gy.2.2 g hg).1
 exact ⟨by rw [e]; exact hv,hb.1,by omega⟩
theorem zKm {a b:List Term} (ha:∀ t∈a,VT t) (hb:∀ t∈b,VT t):∀ t∈zfW a b,GT t:=fun t ht=>by
 obtain ⟨x,hx,y,hy,rfl⟩:=zNE ht
 exact zDs (ha x hx) (hb y hy)
theorem zQp {x y:Term} (hx:VT x) (hy:VT y):zkX x.Factors y.Factors=(true,zby x.Factors y.Factors):=by
 obtain ⟨gx,sx,lx,ex⟩:=hx
 obtain ⟨gy,sy,ly,ey⟩:=hy
 exact zQe (d:=9) (by omega) _ _ (by omega) (fun f hf=>⟨zzs (gx.2.2 f hf).1.1 (gx.2.2 f hf).1.2.2,by have:=(gx.2.2 f hf).2; omega⟩) fun f hf=>by have:=(gy.2.2 f hf).2; omega
theorem zRe (a b:List Term) (i:Int) (x:Term) (hx:VT x) (hb:∀ t∈b,VT t) (hbl:b.length≤512) (terms:List Term) (hl:terms.length≤1000000) (n:Nat) (hn:b.length<n):
  zzg n b a a.length i b b.length 0 terms x=(true,(b,a,(a.length:Int),i,terms++b.map (ziF x))):=by
 have hreach:zT=70368744177664:=rfl
 have:=zdK (W:=zoh) (z:=default) b.length (fun j=>(b,(),(),a,(a.length:Int),i,b,(b.length:Int),(j:Int),())) (fun j=>(terms++(b.take j).map (ziF x),x,())) (fun _=>true) default (b,a,(a.length:Int),i,terms++b.map (ziF x))
  (fun j hj H K D=>by
   show (zlo b a a.length i b b.length j (terms++(b.take j).map (ziF x)) x).ev H K D=_
   unfold zlo
   have hy:=hb _ (zH hj)
   have hr:decide (((terms++(b.take j).map (ziF x)).length+1)*32≤zT)=true:=by simp only [decide_eq_true_eq,List.length_append,List.length_map,List.length_take]; omega
   simp only [Wy.ev_i,Wy.ev_k,Wy.ev_h,Wy.ev_bn,Wy.ev_d,tT,hj,(zKj hx.1.1 hy.1.1).1,zQp hx hy,List.length_singleton,hr]
   rw [zbb (by omega),zj4 hj,List.map_append, ← List.append_assoc]
   rfl)
  (fun H K D=>by
   show (zlo b a a.length i b b.length b.length (terms++(b.take b.length).map (ziF x)) x).ev H K D=_
   unfold zlo
   simp only [Wy.ev_i,Wy.ev_k,tT,Nat.lt_irrefl,List.take_length]) n hn
 rw [show allN (fun _=>true) b.length 0=true from zd1.2 fun _ _ _=>rfl] at this
 simp only [List.take_zero,List.map_nil,List.append_nil] at this
 exact this
theorem zRn (a b:List Term) (ha:∀ t∈a,VT t) (hb:∀ t∈b,VT t) (hal:a.length≤512) (hbl:b.length≤512) (n:Nat) (hn:a.length<n):
  zsV n b a a.length 0 []=(true,zfW a b):=by
 have:=zdK (W:=zoj) (z:=default) a.length (fun i=>(b,(),a,(a.length:Int),(i:Int),())) (fun i=>(zfW (a.take i) b,())) (fun _=>true) default (zfW a b)
  (fun i hi H K D=>by
   show (zlE b a a.length i (zfW (a.take i) b)).ev H K D=_
   unfold zlE
   have hx:=ha _ (zH hi)
   have hlen:(zfW (a.take i) b).length≤1000000:=by
    rw [zJd,List.length_take]
    have:=Nat.mul_le_mul (show min i a.length≤512 by omega) hbl
    omega
   simp only [Wy.ev_i,Wy.ev_k,Wy.ev_h,Wy.ev_bn,Wy.ev_d,tT,hi]
   rw [zRe a b i _ hx hb hbl _ hlen _ (by omega)]
   simp only [cond_true]
   rw [zbb (by omega),zj4 hi]
   have e:zfW (a.take i++[a.getD i default]) b=zfW (a.take i) b++b.map (ziF (a.getD i default)):=by
    unfold zfW; rw [List.flatMap_append]; simp
   rw [e])
  (fun H K D=>by
   show (zlE b a a.length a.length (zfW (a.take a.length) b)).ev H K D=_
   unfold zlE
   simp only [Wy.ev_i,Wy.ev_k,tT,Nat.lt_irrefl,List.take_length]) n hn
 rw [show allN (fun _=>true) a.length 0=true from zd1.2 fun _ _ _=>rfl] at this
 exact this
theorem szTs_get' (a:List Term) (i:Nat) (h:i<a.length):(a.getD i default).Factors.length≤szTs a:=zAo a i h
theorem zOF (a b:List Term) (i:Int) (k:Nat) (hk:k<b.length) (out:List Term) (c:Int) (x:Term) (hx:VT x) (hy:VT (b.getD k default)) (n:Nat) (hn:(b.getD k default).Factors.length<n):
  zze n a b i k 0 out c x.Factors=(true,(a,b,i,(k:Int),out,c,zby x.Factors (b.getD k default).Factors)):=by
 obtain ⟨gx,sx,lx,ex⟩:=hx
 obtain ⟨gy0,sy,ly,ey⟩:=hy
 have gy:∀ f∈(b.getD k default).Factors,GF f:=gy0.2.2
 have sy:Srf (b.getD k default).Factors:=sy
 clear gy0
 generalize hF:(b.getD k default).Factors=F at *
 have key:∀ j,j<F.length→facA (F.getD j default) (zby x.Factors (F.take j))=zby x.Factors (F.take (j+1)):=fun j hj=>by
  have e1:=zDM (F.take j) x.Factors (sy.sublist (List.take_sublist _ _)) (fun z hz=>(ex z hz).1) fun z hz=>(ey z (List.mem_of_mem_take hz)).1
  have e2:=zDM (F.take (j+1)) x.Factors (sy.sublist (List.take_sublist _ _)) (fun z hz=>(ex z hz).1) fun z hz=>(ey z (List.mem_of_mem_take hz)).1
  rw [← e1, ← e2,zj4 hj,List.foldl_append]; rfl
 have:=zdK (W:=zyV) (z:=default) F.length (fun j=>(a,b,(),i,(k:Int),(),(j:Int),())) (fun j=>(out,(c,zby x.Factors (F.take j),()),())) (fun _=>true) default (a,b,i,(k:Int),out,c,zby x.Factors F)
  (fun j hj H K D=>by
   show (zln a b i k j out c (zby x.Factors (F.take j))).ev H K D=_
   unfold zln
   have hlen:=zz9 x.Factors (F.take j)
   rw [List.length_take] at hlen
   have hex:=fun z (hz:z∈zby x.Factors (F.take j))=>zAa (B:=64) (fun z hz=>⟨(gx.2.2 z hz).2.1,(ex z hz).2⟩) (fun z hz=>⟨(gy z (List.mem_of_mem_take hz)).2.1,(ey z (List.mem_of_mem_take hz)).2⟩) hz
   have hfine:∀ z∈zby x.Factors (F.take j),zc8 (zy 9) z.Atom:=fun z hz=>by
    obtain ⟨w,hw,e⟩:=zpq hz
    rw [e]
    rcases hw with hw | hw
    ·exact zzs (gx.2.2 w hw).1.1 (gx.2.2 w hw).1.2.2
    ·exact zzs (gy w (List.mem_of_mem_take hw)).1.1 (gy w (List.mem_of_mem_take hw)).1.2.2
   have hm:=zH hj
   have e1:decide ((k:Int)<Int.ofNat b.length)=true:=by simp [hk]
   have e2:decide ((j:Int)<Int.ofNat F.length)=true:=by simp [hj]
   have efx:(FactorOf.mk (F.getD j default).Atom (F.getD j default).Exp:Factor)=F.getD j default:=rfl
   simp only [Atom.eta,Wy.ev_i,Wy.ev_k,Wy.ev_h,Wy.ev_bn,Wy.ev_d,zfj,Bool.and_self,cond_true,Int.toNat_natCast,hF,e1,e2,efx]
   rw [zQb (d:=9) _ _ (by omega) hfine (by omega) (fun z hz=>by have:=hex z hz; omega) (by have:=(gy _ hm).2; omega),cond_true,zbb (by omega),key j hj])
  (fun H K D=>by
   show (zln a b i k F.length out c (zby x.Factors (F.take F.length))).ev H K D=_
   unfold zln
   have e1:decide ((k:Int)<Int.ofNat b.length)=true:=by simp [hk]
   have e2:decide ((F.length:Int)<Int.ofNat F.length)=false:=by simp
   simp only [Wy.ev_i,Wy.ev_k,zfj,Bool.and_self,cond_true,cond_false,Int.toNat_natCast,hF,e1,e2,List.take_length]) n hn
 rw [show allN (fun _=>true) F.length 0=true from zd1.2 fun _ _ _=>rfl] at this
 simp only [List.take_zero,zxO] at this
 exact this
theorem zP8 (a b:List Term) (i:Nat) (hi:i<a.length) (hal:a.length≤512) (hbl:b.length≤512) (hx:VT (a.getD i default)) (hb:∀ t∈b,VT t) (out:List Term) (ho:out.length≤i*512) (hs:Srs out) (hg:∀ t∈out,GT t) (n:Nat) (hn:b.length<n):
  zAB n a b i 0 out=(true,(a,b,(i:Int),sumA out (b.map (ziF (a.getD i default))))):=by
 have:=zda (W:=zAq) (z:=default) (l:=b) (fun k (o:List Term)=>(a,b,(),(i:Int),(k:Int),())) (fun _ o=>(o,())) (fun y o=>.inl (putA (ziF (a.getD i default) y) o)) (fun o=>(a,b,(i:Int),o)) (fun k o=>(o.length≤i*512+k∧Srs o)∧∀ t∈o,GT t)
  (fun k o hk hI=>.inl ⟨_,rfl,⟨⟨by have:=zIg (t:=ziF (a.getD i default) (b.getD k default)) o; omega,zzP hI.1.2⟩,zNK (zDs hx (hb _ (zH hk))) hI.1.2 hI.2⟩,fun H K D=>by
   show (zmK a b i k o).ev H K D=_
   unfold zmK
   have hy:=hb _ (zH hk)
   have hsz:=szTs_get' b k hk
   simp only [Wy.ev_i,Wy.ev_k,Wy.ev_h,Wy.ev_bn,Wy.ev_d,tT,hk,hi,(zKj hx.1.1 hy.1.1).2]
   rw [zOF a b i k hk o _ _ hx hy _ (by omega)]
   simp only [cond_true]
   have e:(TermOf.mk (zrg (a.getD i default).Coeff (b.getD k default).Coeff) (zby (a.getD i default).Factors (b.getD k default).Factors):Term)=ziF (a.getD i default) (b.getD k default):=rfl
   have hg:=zDs hx hy
   rw [e,zPM (d:=9) o _ (by omega) (fun z hz=>(hI.2 z hz).fine) (by omega) (fun z hz=>(hI.2 z hz).1) hg.1]
   simp only [cond_true]
   rw [zbb (by omega)]⟩)
  (fun o hI H K D=>by
   show (zmK a b i b.length o).ev H K D=_
   unfold zmK
   simp only [Wy.ev_i,Wy.ev_k,tT,Nat.lt_irrefl]) n 0 out (by omega) (by omega) (show (out.length≤i*512+0∧Srs out)∧∀ t∈out,GT t from ⟨⟨Nat.le_trans ho (Nat.le_add_right _ _),hs⟩,hg⟩)
 rw [List.drop_zero,zdd] at this
 have e:∀ (l:List Term) (o:List Term),l.foldl (fun s t=>putA (ziF (a.getD i default) t) s) o=sumA o (l.map (ziF (a.getD i default))):=fun l=>by
  induction l with
  | nil=>intro o; rfl
  | cons y r ih=>intro o; rw [List.foldl_cons,ih]; rfl
 rw [e] at this
 exact this
theorem zLu (o:List Term) (b:List Term) (x:Term):(sumA o (b.map (ziF x))).length≤o.length+b.length:=by
 have:=zIB (b.map (ziF x)) o
 rwa [List.length_map] at this
theorem zOr (a b:List Term) (ha:∀ t∈a,VT t) (hb:∀ t∈b,VT t) (hal:a.length≤512) (hbl:b.length≤512):zyK a b=(true,ztz a b):=by
 unfold zyK zBM
 have:=zda (W:=zA2) (z:=default) (l:=a) (fun i (o:List Term)=>(a,b,(),(i:Int),())) (fun _ o=>(o,())) (fun x o=>.inl (sumA o (b.map (ziF x)))) (fun o=>o) (fun i o=>(o.length≤i*512∧Srs o)∧∀ t∈o,GT t)
  (fun i o hi hI=>.inl ⟨_,rfl,⟨⟨by have:=zLu o b (a.getD i default); omega,zIR _ _ hI.1.2⟩,zK0 _ _ hI.1.2 hI.2 fun t ht=>by
    obtain ⟨y,hy,rfl⟩:=List.mem_map.1 ht
    exact zDs (ha _ (zH hi)) (hb y hy)⟩,fun H K D=>by
   show (zmU a b i o).ev H K D=_
   unfold zmU
   have e1:decide ((i:Int)<Int.ofNat a.length)=true:=by simp [hi]
   simp only [Wy.ev_i,Wy.ev_k,Wy.ev_h,Wy.ev_bn,Wy.ev_d,e1,cond_true]
   rw [zP8 a b i hi hal hbl (ha _ (zH hi)) hb o hI.1.1 hI.1.2 hI.2 _ (by omega)]
   simp only [cond_true]
   rw [zbb (by omega)]⟩)
  (fun o hI H K D=>by
   show (zmU a b a.length o).ev H K D=_
   unfold zmU
   have e1:decide ((a.length:Int)<Int.ofNat a.length)=false:=by simp
   simp only [Wy.ev_i,Wy.ev_k,e1,cond_false]) ((a.length+b.length+Int.toNat (0:Int)+(0:Nat)+(1:Nat))+szTs a+szTs b+szTs []) 0 [] (by omega) (by omega) ⟨⟨by simp,.nil⟩,fun t ht=>by cases ht⟩
 rw [List.drop_zero,zdd] at this
 have e:∀ (l:List Term) (o:List Term),l.foldl (fun s x=>sumA s (b.map (ziF x))) o=sumA o (zfW l b):=fun l=>by
  induction l with
  | nil=>intro o; rfl
  | cons y r ih=>
   intro o
   rw [List.foldl_cons,ih]
   show _=(zfW (y::r) b).foldl (fun a t=>putA t a) o
   unfold zfW
   rw [List.flatMap_cons,List.foldl_append]; rfl
 rw [e] at this
 have this:zz5 ((a.length+b.length+Int.toNat (0:Int)+(0:Nat)+(1:Nat))+szTs a+szTs b+szTs []) a b 0 []=(true,ztz a b):=this
 rw [Wy.fin_bn,this]; rfl
def okA (a:List Term):Prop:=(zy 12 a∧zJ a≤4611686018427387904)∧zid a∧a.length≤roomLen
def opR (ok:Bool) (r:List Term×Int):List Term×Int:=bif ok then r else ([],1)
def mulR (a b:List Term):List Term×Int:=opR (zbD a&&zbD b) (fitR (ztz a b))
def monA (a b:List Term):Atom:=⟨1,⟨0,0⟩,[a,b],0,[],0,⟨0,0,ByteArray.mk #[]⟩⟩
def delA (a:List Term):Atom:=⟨2,⟨0,0⟩,[a],0,[],0,⟨0,0,ByteArray.mk #[]⟩⟩
def absA (a:List Term):Atom:=⟨3,⟨0,0⟩,[a],0,[],0,⟨0,0,ByteArray.mk #[]⟩⟩
def monR (a b:List Term):List Term×Int:=opR (zbD a&&zbD b) (if b=[] then (a,0) else if a=[]∨a=b then ([],0) else fitR (oneA (monA a b)))
def delR (a:List Term):List Term×Int:=opR (zbD a) (if a=[]∨isU a=true then (a,0) else if isC a=true then ([⟨1,[]⟩],0) else fitR (oneA (delA a)))
def absR (a:List Term):List Term×Int:=opR (zbD a) (if a=[] then ([⟨1,[]⟩],0) else if hasC a=true then ([],0) else fitR (oneA (absA a)))
theorem okA.valid {a:List Term} (h:okA a):zbK a=(true,zbD a):=zNC h.1.1 (by omega) h.1.2
theorem okA.rvalid {a:List Term} (h:okA a):zmj a=(true,zbD a):=zM6 h.1.1 (by omega) h.1.2
theorem zQ1 {a b:List Term} (ha:okA a) (hb:okA b):zmr a b=(true,mulR a b)∧zJx a b=(true,mulR a b):=by
 unfold zmr ztL zJx zGp mulR
 simp only [Wy.fin_bn,Wy.fin_i,Wy.fin_k,ha.valid,hb.valid,ha.rvalid,hb.rvalid,cond_true]
 cases va:zbD a with
 | false=>first | exact ⟨trivial,trivial⟩ | exact ⟨rfl,rfl⟩ | exact ⟨trivial,rfl⟩ | exact ⟨rfl,trivial⟩
 | true=>
  cases vb:zbD b with
  | false=>first | exact ⟨trivial,trivial⟩ | exact ⟨rfl,rfl⟩ | exact ⟨trivial,rfl⟩ | exact ⟨rfl,trivial⟩
  | true=>
   obtain ⟨sa,la,ta⟩:=zLd va ha.2.1
   obtain ⟨sb,lb,tb⟩:=zLd vb hb.2.1
   have hm:=zRn a b ta tb la lb (b.length+a.length+(Int.ofNat a.length).toNat +Int.toNat (0:Int)+(0:Nat)+(1:Nat)) (by omega)
   have hm:zsV (b.length+a.length+(Int.ofNat a.length).toNat +Int.toNat (0:Int)+(0:Nat)+(1:Nat)) b a (Int.ofNat a.length) 0 []=_:=hm
   have hpl:(zfW a b).length≤1000000:=by rw [zJd]; have:=Nat.mul_le_mul la lb; omega
   have hcol:=zM9 (zfW a b) hpl (zKm ta tb)
   have hsl:(ztz a b).length≤1000000:=by have:=zIB (zfW a b) []; simp at this; exact Nat.le_trans this hpl
   obtain ⟨f1,f2⟩:=zNU hsl (zK0 (zfW a b) [] .nil (fun t ht=>by cases ht) (zKm ta tb))
   have f1:zy 10 (ztz a b):=f1
   have f2:zJ (ztz a b)≤4611686018427387904:=f2
   have hcol:zgL (zfW a b)=(true,ztz a b):=hcol
   simp only [Bool.not_true,cond_false,Bool.and_self,hm,hcol,zzt f1 (by omega:10≤100) f2,zOr a b ta tb la lb,zIb f1 (by omega:10≤100) f2,cond_true]
   first | exact ⟨trivial,trivial⟩ | exact ⟨rfl,rfl⟩ | exact ⟨trivial,rfl⟩ | exact ⟨rfl,trivial⟩
theorem zDU {l:List (List Term)} {k:Int} (hl:l.length≤2) (h:∀ a∈l,zbD a=true):zy 10 (oneA ⟨k,⟨0,0⟩,l,0,[],0,⟨0,0,ByteArray.mk #[]⟩⟩)∧zJ (oneA ⟨k,⟨0,0⟩,l,0,[],0,⟨0,0,ByteArray.mk #[]⟩⟩)≤4611686018427387904:=by
 constructor
 ·exact zIV ⟨⟨by simp only; omega,by simp,by show (ByteArray.mk #[]).size≤_; decide⟩,fun a ha=>(zfE (h a ha)).1,fun w hw=>(by cases hw)⟩
 ·rw [zOU,zif]
  have hb:∀ l:List (List Term),(∀ a∈l,zbD a=true)→zes l≤l.length*4096:=fun l=>by
   induction l with
   | nil=>intro _; rw [zhY]; simp
   | cons a r ih=>
    intro h
    have h1:=(zfE (h a (by simp))).2.1
    have h2:=ih fun b hb=>h b (by simp [hb])
    rw [zdX,List.length_cons,Nat.add_mul]; omega
  have:=hb l h
  show 2+(zes l+zc9 [])≤_
  rw [zgD]
  have:=Nat.mul_le_mul hl (Nat.le_refl 4096)
  omega
theorem zw3 (a:List Term):(Int.ofNat a.length==(0:Int))=decide (a=[]):=by
 rw [show (Int.ofNat a.length==(0:Int))=(a.length==0) from zr9 _ 0,beqn]
 congr 1
 rw [List.length_eq_zero_iff]
theorem zDN {a b:List Term} (ha:okA a) (hb:okA b):ze1 a b=(true,monR a b)∧zGv a b=(true,monR a b):=by
 unfold ze1 zq9 zGv zDY monR
 simp only [Wy.fin_bn,Wy.fin_i,Wy.fin_k,ha.valid,hb.valid,ha.rvalid,hb.rvalid,cond_true]
 cases va:zbD a with
 | false=>first | exact ⟨trivial,trivial⟩ | exact ⟨rfl,rfl⟩ | exact ⟨trivial,rfl⟩ | exact ⟨rfl,trivial⟩
 | true=>
  cases vb:zbD b with
  | false=>first | exact ⟨trivial,trivial⟩ | exact ⟨rfl,rfl⟩ | exact ⟨trivial,rfl⟩ | exact ⟨rfl,trivial⟩
  | true=>
   obtain ⟨f1,f2⟩:=zDU (l:=[a,b]) (k:=1) (by simp) (fun x hx=>by
    simp only [List.mem_cons,List.not_mem_nil,or_false] at hx
    rcases hx with rfl | rfl
    ·exact va
    ·exact vb)
   simp only [Bool.not_true,cond_false,Bool.and_self,zw3,zEN ha.1.1 (by omega:12≤100),zqh ha.1.1 (by omega:12≤100),zyN ha.1.1 (by omega:12≤100),zFJ,zIQ,zzt f1 (by omega:10≤100) f2,zIb f1 (by omega:10≤100) f2,cond_true,opR]
   by_cases hb0:b=[]
   ·simp only [hb0,decide_true,cond_true,if_true]; exact ⟨trivial,trivial⟩
   ·by_cases ha0:a=[]
    ·simp only [hb0,ha0,decide_true,decide_false,cond_true,cond_false,if_true,if_false,true_or]; exact ⟨trivial,trivial⟩
    ·by_cases hab:a=b
     ·simp only [hb0,ha0,hab,decide_true,decide_false,cond_true,cond_false,if_true,if_false,or_true]; exact ⟨trivial,trivial⟩
     ·simp only [hb0,ha0,hab,decide_false,cond_false,if_false,or_self]; first | exact ⟨trivial,trivial⟩ | exact ⟨rfl,rfl⟩ | exact ⟨trivial,rfl⟩ | exact ⟨rfl,trivial⟩
theorem zKo {a:List Term} (ha:okA a):zik a=(true,delR a)∧zGA a=(true,delR a):=by
 unfold zik zrt zGA zD1 delR
 simp only [Wy.fin_bn,Wy.fin_i,Wy.fin_k,ha.valid,ha.rvalid,cond_true]
 cases va:zbD a with
 | false=>first | exact ⟨trivial,trivial⟩ | exact ⟨rfl,rfl⟩ | exact ⟨trivial,rfl⟩ | exact ⟨rfl,trivial⟩
 | true=>
  obtain ⟨f1,f2⟩:=zDU (l:=[a]) (k:=2) (by simp) (fun x hx=>by rw [List.mem_singleton] at hx; subst hx; exact va)
  have hla:a.length≤1000000000:=by have:=(zfE va).2.2; omega
  have hbu:isB a=isU a:=zFL va
  simp only [Bool.not_true,cond_false,zw3,zEN ha.1.1 (by omega:12≤100),zJB,zEc,zBw,zsI a hla,zFJ,zIQ,zzt f1 (by omega:10≤100) f2,zIb f1 (by omega:10≤100) f2,cond_true,opR,hbu]
  rw [show fitR (oneA ⟨2,⟨0,0⟩,[a],0,[],0,⟨0,0,ByteArray.mk #[]⟩⟩)=fitR (oneA (delA a)) from rfl]
  clear f1 f2
  generalize fitR (oneA (delA a))=R
  by_cases h0:a=[]
  ·simp only [h0,decide_true,cond_true,if_true,true_or]; exact ⟨trivial,trivial⟩
  ·cases hu:isU a with
   | true=>simp only [h0,decide_false,cond_false,cond_true,if_true,or_true]; exact ⟨trivial,trivial⟩
   | false=>
    simp only [h0,decide_false,cond_false,if_false,or_self,Bool.false_eq_true]
    match a,h0 with
    | [t],_=>
     have e1:hasC [t]=(t.Factors.length==0):=by simp [hasC]
     have e2:isC [t]=(t.Factors.length==0):=rfl
     rw [e1,e2]
     cases (t.Factors.length==0) with
     | true=>simp only [cond_true,if_true]; first | exact ⟨trivial,trivial⟩ | exact ⟨rfl,rfl⟩ | exact ⟨trivial,rfl⟩ | exact ⟨rfl,trivial⟩
     | false=>simp only [cond_false,cond_true,Bool.false_eq_true,if_false]; first | exact ⟨trivial,trivial⟩ | exact ⟨rfl,rfl⟩ | exact ⟨trivial,rfl⟩ | exact ⟨rfl,trivial⟩
    | t::s::r,_=>
     have e2:isC (t::s::r)=false:=rfl
     simp only [len2,e2,cond_false,cond_true,Bool.false_eq_true,if_false]
     first | exact ⟨trivial,trivial⟩ | exact ⟨rfl,rfl⟩ | exact ⟨trivial,rfl⟩ | exact ⟨rfl,trivial⟩
theorem zNS {a:List Term} (ha:okA a):zjo a=(true,absR a)∧zFN a=(true,absR a):=by
 unfold zjo zqn zFN zCY absR
 simp only [Wy.fin_bn,Wy.fin_i,Wy.fin_k,ha.valid,ha.rvalid,cond_true]
 cases va:zbD a with
 | false=>first | exact ⟨trivial,trivial⟩ | exact ⟨rfl,rfl⟩ | exact ⟨trivial,rfl⟩ | exact ⟨rfl,trivial⟩
 | true=>
  obtain ⟨f1,f2⟩:=zDU (l:=[a]) (k:=3) (by simp) (fun x hx=>by rw [List.mem_singleton] at hx; subst hx; exact va)
  have hla:a.length≤1000000000:=by have:=(zfE va).2.2; omega
  simp only [Bool.not_true,cond_false,zw3,zC6 a hla,zsI a hla,zFJ,zIQ,zzt f1 (by omega:10≤100) f2,zIb f1 (by omega:10≤100) f2,cond_true,opR]
  by_cases h0:a=[]
  ·simp only [h0,decide_true,cond_true,if_true]; first | exact ⟨trivial,trivial⟩ | exact ⟨rfl,rfl⟩ | exact ⟨trivial,rfl⟩ | exact ⟨rfl,trivial⟩
  ·cases hu:hasC a with
   | true=>simp only [h0,decide_false,cond_false,cond_true,if_true,if_false]; exact ⟨trivial,trivial⟩
   | false=>simp only [h0,decide_false,cond_false,if_false,Bool.false_eq_true]; first | exact ⟨trivial,trivial⟩ | exact ⟨rfl,rfl⟩ | exact ⟨trivial,rfl⟩ | exact ⟨rfl,trivial⟩
theorem zHb {n:Int} (h:rng n):wf3 n:=by
 show (Lit.int .i64 n).wf=true
 have:IntKind.i64.min≤n∧n≤IntKind.i64.max:=⟨h.1,h.2⟩
 simpa [Lit.wf] using this
theorem zJs {t:Term} (hc:rng t.Coeff) (hf:∀ f∈t.Factors,zjY f.Atom∧rng f.Exp) (hl:t.Factors.length≤1000000):zs6 t:=by
 obtain ⟨c,fs⟩:=t
 unfold zs6
 refine ⟨zHb hc,zAw fs fun f h=> ?_,by have:roomLen=140737488351232:=rfl; simp only at hl; omega⟩
 obtain ⟨x,e⟩:=f
 unfold zpo
 exact ⟨(hf _ h).1,zHb (hf _ h).2⟩
def okR (r:List Term×Int):Prop:=okA r.1∧(r.2=0∨r.1=[])
theorem zCx:okA []:=⟨⟨zOP 11,by rw [zr3]; omega⟩,by unfold zid; trivial,by simp⟩
theorem zL2 {a:List Term} (h:okA a):okR (fitR a):=by
 unfold fitR
 cases zhL a with
 | true=>exact ⟨h,.inl rfl⟩
 | false=>exact ⟨zCx,.inr rfl⟩
theorem zNz {ok:Bool} {r:List Term×Int} (h:ok=true→okR r):okR (opR ok r):=by
 unfold opR
 cases ok with
 | true=>exact h rfl
 | false=>exact ⟨zCx,.inr rfl⟩
theorem zPx {l:List Term} (hl:l.length≤1000000) (h:∀ t∈l,GT t):okA l:=by
 obtain ⟨h1,h2⟩:=zNU hl h
 refine ⟨⟨h1.mono (by omega),h2⟩,zDf l fun t ht=> ?_,by have:roomLen=140737488351232:=rfl; omega⟩
 have hg:=h t ht
 exact zJs ⟨by have:=hg.1.1; omega,by have:=hg.1.2; omega⟩ (fun f hf=>⟨(hg.2.2 f hf).1.2.1,(hg.2.2 f hf).gF.2.2⟩) (by have:=hg.2.1; omega)
theorem zOE {x:Atom} (hf:zc8 (zy 9) x) (hs:zJ (oneA x)≤4611686018427387904) (hw:zjY x):okA (oneA x):=by
 refine ⟨⟨(zIV hf).mono (by omega),hs⟩,zDf _ fun t ht=> ?_,by simp [oneA,roomLen]⟩
 simp only [oneA,List.mem_singleton] at ht
 subst ht
 refine zJs ⟨by simp,by simp⟩ (fun f hf=> ?_) (by simp)
 simp only [List.mem_singleton] at hf
 subst hf
 exact ⟨hw,⟨by simp,by simp⟩⟩
theorem zI3 {n:Int} (h: -1000≤n∧n≤1000):rng n:=⟨by omega,by omega⟩
theorem zzL:wf3 0:=zHb (zI3 (by omega))
theorem zJg {l:List (List Term)} {k:Int} (hk:0≤k∧k≤4) (hl:l.length≤2) (h:∀ a∈l,zbD a=true) (hw:∀ a∈l,okA a):okA (oneA ⟨k,⟨0,0⟩,l,0,[],0,⟨0,0,ByteArray.mk #[]⟩⟩):=by
 refine zOE ⟨⟨by simp only; omega,by simp,by show (ByteArray.mk #[]).size≤_; decide⟩,fun a ha=>(zfE (h a ha)).1,fun w hw=>(by cases hw)⟩ (zDU hl h).2 ?_
 unfold zjY
 have hr:roomLen=140737488351232:=rfl
 refine ⟨zHb (zI3 (by omega)),⟨zzL,zzL⟩,⟨zFg l fun a ha=>⟨(hw a ha).2.1,(hw a ha).2.2⟩,by omega⟩,zzL,⟨by unfold zqa; trivial,by simp⟩,zzL,⟨zzL,zzL, ?_⟩⟩
 show (ByteArray.mk #[]).size≤roomLen
 rw [hr]; decide
theorem zMe (c:Int) (hc:1≤c∧c≤1152921504606846976):okA [⟨c,[]⟩]:=zPx (by simp) fun t ht=>by
 rw [List.mem_singleton] at ht; subst ht
 exact ⟨hc,by simp,fun f hf=>by cases hf⟩
theorem zPX {a:List Term} (ha:okA a):okR (delR a):=zNz fun hv=>by
 split
 ·exact ⟨ha,.inl rfl⟩
 ·split
  ·exact ⟨zMe 1 (by omega),.inl rfl⟩
  ·exact zL2 (zJg (by omega) (by simp) (fun x hx=>by rw [List.mem_singleton] at hx; subst hx; exact hv) fun x hx=>by rw [List.mem_singleton] at hx; subst hx; exact ha)
theorem zMh {a:List Term} (ha:okA a):okR (absR a):=zNz fun hv=>by
 split
 ·exact ⟨zMe 1 (by omega),.inl rfl⟩
 ·split
  ·exact ⟨zCx,.inl rfl⟩
  ·exact zL2 (zJg (by omega) (by simp) (fun x hx=>by rw [List.mem_singleton] at hx; subst hx; exact hv) fun x hx=>by rw [List.mem_singleton] at hx; subst hx; exact ha)
theorem okR.same {r:List Term×Int} (h:okR r):zDE r.1 r.2 r.1 r.2=(true,true):=zQf h.1.1.1 (by omega) h.2
theorem zLZ {a:List Term} {n:Nat} (hn:n≤1000) (h:zy 12 a∧zf1 a≤n) (hw:wf23 a):okA a:=⟨⟨h.1,by have:=zzr a; omega⟩,hw.1,hw.2⟩
end Go.Proofs.YtnolcogncjijpaaGreatDoor
end
