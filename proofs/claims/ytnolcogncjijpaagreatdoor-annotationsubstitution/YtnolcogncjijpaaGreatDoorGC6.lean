/- Texts of this claim, joined (the program, its functions in plain words, and what they compute). -/
import Derived.Test.YtnolcogncjijpaaGreatDoorGC1
import Derived.Test.YtnolcogncjijpaaGreatDoorGC5
import Derived.Test.YtnolcogncjijpaaGreatDoorGA2
import Derived.Test.YtnolcogncjijpaaGreatDoorGC4
import Derived.Test.YtnolcogncjijpaaGreatDoorGA3
import Derived.Test.YtnolcogncjijpaaGreatDoorGB1
import Derived.Test.YtnolcogncjijpaaGreatDoorGC2
set_option autoImplicit false
set_option linter.unusedVariables false
set_option linter.unusedSectionVars false
set_option linter.unusedSimpArgs false
set_option maxRecDepth 1000000
set_option maxHeartbeats 0
noncomputable section
namespace Go.Proofs.YtnolcogncjijpaaGreatDoor
open Go Go.Ab
abbrev ttTref05Product0:=List Term×List Term×Unit×Int×Int×Unit×Int×Unit
abbrev ttTref05Product1:=List Term×(Int×List Factor×Unit)×Unit
abbrev ttTref05Product2:=List Term×List Term×Int×Int×List Term×Int×List Factor
abbrev ttTref05Product3:=List Term×List Term×Unit×Int×Int×Unit
abbrev ttTref05Product4:=List Term×Unit
abbrev ttTref05Product5:=List Term×List Term×Int×List Term
abbrev ttTref05Product6:=List Term×List Term×Unit×Int×Unit
def zlZ (a:List Term) (b:List Term) (i:Int) (k:Int) (j:Int) (out_:List Term) (t_0:Int) (t_1:List Factor):Wy ttTref05Product0 ttTref05Product1 ttTref05Product2:=.i (decide (0≤k)&&decide (k<Int.ofNat b.length)) (.i (decide (j<Int.ofNat (b.getD k.toNat default).Factors.length)) (.i (decide (0≤k)&&decide (k<Int.ofNat b.length)) (.i (decide (0≤j)&&decide (j<Int.ofNat (b.getD k.toNat default).Factors.length)) (.bn (zsC t_1 (FactorOf.mk (Atom.mk ((b.getD k.toNat default).Factors.getD j.toNat default).Atom.Kind ((b.getD k.toNat default).Factors.getD j.toNat default).Atom.Row ((b.getD k.toNat default).Factors.getD j.toNat default).Atom.Args ((b.getD k.toNat default).Factors.getD j.toNat default).Atom.Func ((b.getD k.toNat default).Factors.getD j.toNat default).Atom.Items ((b.getD k.toNat default).Factors.getD j.toNat default).Atom.Op ((b.getD k.toNat default).Factors.getD j.toNat default).Atom.Bound) ((b.getD k.toNat default).Factors.getD j.toNat default).Exp)) fun r0=>.h (a,b,(),i,k,(),(IntKind.i64.wrap (j+1)),()) (out_,(t_0,(r0),()),())) .d) .d) (.k (a,b,i,k,out_,t_0,t_1))) .d
def zo0 (x:ttTref05Product0) (y:ttTref05Product1):Wy ttTref05Product0 ttTref05Product1 ttTref05Product2:=zlZ x.1 x.2.1 x.2.2.2.1 x.2.2.2.2.1 x.2.2.2.2.2.2.1 y.1 y.2.1.1 y.2.1.2.1
def zCf (n:Nat) (a:List Term) (b:List Term) (i:Int) (k:Int) (j:Int) (out_:List Term) (t_0:Int) (t_1:List Factor):Bool×ttTref05Product2:=zX (zo0) default n (a,b,(),i,k,(),j,()) (out_,(t_0,t_1,()),())
def zAE (r:ttTref05Product2):LTree ty:=.done (.exit 4) [.sl 42 r.1,.sl 42 r.2.1,.own 264,.lit (.int .i64 r.2.2.1),.lit (.int .i64 r.2.2.2.1),.ptr 265 0] [.arr 42 r.2.2.2.2.1 false,.box ([.lit (.int .i64 r.2.2.2.2.2.1),.sl 50 r.2.2.2.2.2.2]) false]
def zCj:LL ty ttTref05Product0:=za (lSl 42) (za (lSl 42) (za (lOwn 264) (za (lInt .i64) (za (lInt .i64) (za (ze9 265 0) (za (lInt .i64) zH))))))
def zCY:BL ty ttTref05Product1:=bArr 42 false (bBox (za (lInt .i64) (za (lSl 50) zH)) false (bNil))
def zm6 (a:List Term) (b:List Term) (i:Int) (k:Int) (out_:List Term):Wy ttTref05Product3 ttTref05Product4 ttTref05Product5:=.i (decide (k<Int.ofNat b.length)) (.i (decide (0≤i)&&decide (i<Int.ofNat a.length)) (.i (decide (0≤k)&&decide (k<Int.ofNat b.length)) (.bn (zu7 (a.getD i.toNat default).Coeff (b.getD k.toNat default).Coeff) fun r4=>.i (decide (0≤i)&&decide (i<Int.ofNat a.length)) (.bn (zCf ((a.length+b.length+i.toNat +k.toNat +Int.toNat 0+out_.length+r4.toNat +(a.getD i.toNat default).Factors.length+1)+szTs a+szTs b+szTs out_+szFs (a.getD i.toNat default).Factors) a b i k 0 out_ r4 (a.getD i.toNat default).Factors) fun r3=>.bn (zwE r3.2.2.2.2.1 (TermOf.mk r3.2.2.2.2.2.1 r3.2.2.2.2.2.2)) fun r2=>.h ((r3.1),(r3.2.1),(),(r3.2.2.1),(IntKind.i64.wrap (r3.2.2.2.1+1)),()) ((r2),())) .d) .d) .d) (.k (a,b,i,out_))
def zqE (x:ttTref05Product3) (y:ttTref05Product4):Wy ttTref05Product3 ttTref05Product4 ttTref05Product5:=zm6 x.1 x.2.1 x.2.2.2.1 x.2.2.2.2.1 y.1
def zEe (n:Nat) (a:List Term) (b:List Term) (i:Int) (k:Int) (out_:List Term):Bool×ttTref05Product5:=zX (zqE) default n (a,b,(),i,k,()) (out_,())
def zCl (r:ttTref05Product5):LTree ty:=.done (.exit 2) [.sl 42 r.1,.sl 42 r.2.1,.own 264,.lit (.int .i64 r.2.2.1)] [.arr 42 r.2.2.2 false]
def zDP:LL ty ttTref05Product3:=za (lSl 42) (za (lSl 42) (za (lOwn 264) (za (lInt .i64) (za (lInt .i64) zH))))
def zDE:BL ty ttTref05Product4:=bArr 42 false (bNil)
def zmU (a:List Term) (b:List Term) (i:Int) (out_:List Term):Wy ttTref05Product6 ttTref05Product4 (List Term):=.i (decide (i<Int.ofNat a.length)) (.bn (zEe ((a.length+b.length+i.toNat +Int.toNat 0+out_.length+1)+szTs a+szTs b+szTs out_) a b i 0 out_) fun r8=>.h ((r8.1),(r8.2.1),(),(IntKind.i64.wrap (r8.2.2.1+1)),()) ((r8.2.2.2),())) (.k out_)
def zqs (x:ttTref05Product6) (y:ttTref05Product4):Wy ttTref05Product6 ttTref05Product4 (List Term):=zmU x.1 x.2.1 x.2.2.2.1 y.1
def zEv (n:Nat) (a:List Term) (b:List Term) (i:Int) (out_:List Term):Bool×List Term:=zX (zqs) default n (a,b,(),i,()) (out_,())
def zCD (r:List Term):LTree ty:=.done (.exit 0) [.own 264] [.arr 42 r false]
def zFd:LL ty ttTref05Product6:=za (lSl 42) (za (lSl 42) (za (lOwn 264) (za (lInt .i64) zH)))
def zDD:BL ty ttTref05Product4:=bArr 42 false (bNil)
def zAZ (x:ttTref05Product0) (y:ttTref05Product1):Nat:=((x.1.length+x.2.1.length+Int.toNat x.2.2.2.1+Int.toNat x.2.2.2.2.1+Int.toNat x.2.2.2.2.2.2.1+y.1.length+Int.toNat y.2.1.1+y.2.1.2.1.length+1)+szTs x.1+szTs x.2.1+szTs y.1+szFs y.2.1.2.1)
def zCK (x:ttTref05Product3) (y:ttTref05Product4):Nat:=((x.1.length+x.2.1.length+Int.toNat x.2.2.2.1+Int.toNat x.2.2.2.2.1+y.1.length+1)+szTs x.1+szTs x.2.1+szTs y.1)
def zCZ (x:ttTref05Product6) (y:ttTref05Product4):Nat:=((x.1.length+x.2.1.length+Int.toNat x.2.2.2.1+y.1.length+1)+szTs x.1+szTs x.2.1+szTs y.1)
def zqL:Cx ty:=mkCx base 66 [(113,zzN),(115,zD7),(116,zCA)] [] [(3,[(0,.keep),(1,.keep),(5,.keep),(6,.keep)]),(6,[(0,.keep),(1,.keep),(5,.keep),(6,.keep),(7,.keep)]),(10,[(0,.keep),(1,.keep),(5,.keep),(6,.keep),(7,.keep),(8,.keep),(9,.keep)])] [(3,1,[(5,.keep)]),(6,3,[(0,.keep),(1,.keep),(5,.keep),(6,.keep)]),(10,5,[(0,.keep),(1,.keep),(5,.keep),(6,.keep),(7,.keep),(8,.keep)])] [(10,spW zCj zCY (zo0) default zAE zAZ),(6,spW zDP zDE (zqE) default zCl zCK),(3,spW zFd zDD (zqs) default zCD zCZ)] []
theorem zK9:zW zqL (lp (body Tryz.f60) 2):=zK (id:=10) (V:=zCj) (B:=zCY) (W:=zo0) (z:=default) (tr:=zAE) (m:=zAZ)
theorem zNc:zW zqL (lp (body Tryz.f60) 1):=zK (id:=6) (V:=zDP) (B:=zDE) (W:=zqE) (z:=default) (tr:=zCl) (m:=zCK)
theorem zM0:zW zqL (lp (body Tryz.f60) 0):=zK (id:=3) (V:=zFd) (B:=zDD) (W:=zqs) (z:=default) (tr:=zCD) (m:=zCZ)
def zw1 (a:List Term) (b:List Term):Wy0 (List Term):=.bn (zEv ((a.length+b.length+Int.toNat 0+0+1)+szTs a+szTs b+szTs []) a b 0 []) fun r10=>.k r10
def zqW (a:List Term) (b:List Term):Bool×List Term:=(zw1 a b).fin default
def zC0 (r:List Term):ARes ty:=⟨[.own 42 r],[]⟩
def zGa:AL base (List Term×List Term×Unit):=zf (zg (vSl 42)) (zf (zg (vSl 42)) aNil)
def zAR:Ab.Spec ty:=zk zGa fun x=>((zqW x.1 x.2.1).1,zC0 (zqW x.1 x.2.1).2)
theorem zKW:Sound Tryz.prog base 60 zAR:=
 zn (cx':=zqL) zJ zl zw (zm ⟨zGu,zNa,zLT,trivial⟩) Tryz.call60 Tryz.func60 (c:=body Tryz.f60) (by kernel_rfl) (zh (l:=[lp (body Tryz.f60) 0,lp (body Tryz.f60) 1,lp (body Tryz.f60) 2]) (by kernel_rfl) ⟨zM0,zNc,zK9,trivial⟩) (sg:=⟨[.own 42],[]⟩) (A:=zGa) (res:=zC0) (W:=fun x=>zw1 x.1 x.2.1) (z:=default)
def zTy:Cx ty:=mkCx base 20 [(46,ref05_Valid_spec),(56,zkx),(60,zAR)] [] [] [] [] []
def zHd (a:List Term) (b:List Term):Wy0 (List Term×Int):=.bn (zeL a) fun r3=>.i (!r3) (.k ([],1)) (.bn (zeL b) fun r2=>.i (!r2) (.k ([],1)) (.bn (zqW a b) fun r1=>.bn (zkT r1) fun r0=>.k (r0.1,r0.2)))
def zBo (a:List Term) (b:List Term):Bool×(List Term×Int):=(zHd a b).fin default
def zJF (r:List Term×Int):ARes ty:=⟨[.pure (.sl 42 r.1),.pure (.lit (.int .i64 r.2))],[]⟩
def zNO:AL base (List Term×List Term×Unit):=zf (zg (vSl 42)) (zf (zg (vSl 42)) aNil)
def zIb:Ab.Spec ty:=zk zNO fun x=>((zBo x.1 x.2.1).1,zJF (zBo x.1 x.2.1).2)
theorem zPc:Sound Tryz.prog base 17 zIb:=
 zn (cx':=zTy) zJ zl zw (zm ⟨zhV,zln,zKW,trivial⟩) Tryz.call17 Tryz.func17 (c:=body Tryz.f17) (by kernel_rfl) (zh (l:=[]) (by kernel_rfl) trivial) (sg:=⟨[.pure,.pure],[]⟩) (A:=zNO) (res:=zJF) (W:=fun x=>zHd x.1 x.2.1) (z:=default)
abbrev ttTref05replace0:=List Term×List Binding×List Term×Int×List Term×Int×List Term×Int×Int×Unit
abbrev ttTref05replace1:=List Term×List Binding×List Term×Int×List Term×Int×Int
abbrev ttTref05replace2:=List Term×List Binding×List Term×Int×List Term×Int×Unit
abbrev ttTref05replace3:=Int⊕(List Term×List Binding×List Term×Int×List Term)
abbrev ttTref05replace4:=List Term×List Binding×List Term×Int×Unit
abbrev ttTref05replace5:=Int⊕List Term
def zry (zY:Atom→List Binding→Bool×(List Term×Int)) (a:List Term) (l:List Binding) (out_:List Term) (i:Int) (t:List Term) (k:Int) (x_:List Term) (e:Int) (n_:Int):Wy ttTref05replace0 (Unit) ttTref05replace1:=.i (decide (0≤i)&&decide (i<Int.ofNat a.length)) (.i (decide (0≤k)&&decide (k<Int.ofNat (a.getD i.toNat default).Factors.length)) (.i (decide (n_<((a.getD i.toNat default).Factors.getD k.toNat default).Exp)) (.i (e==0) (.bn (zBo t x_) fun r8=>.h (a,l,out_,i,(r8.1),k,x_,(r8.2),(IntKind.i64.wrap (n_+1)),()) ()) (.k (a,l,out_,i,t,k,e))) (.k (a,l,out_,i,t,k,e))) .d) .d
def zrA (zY:Atom→List Binding→Bool×(List Term×Int)) (x:ttTref05replace0) (y:Unit):Wy ttTref05replace0 (Unit) ttTref05replace1:=zry zY x.1 x.2.1 x.2.2.1 x.2.2.2.1 x.2.2.2.2.1 x.2.2.2.2.2.1 x.2.2.2.2.2.2.1 x.2.2.2.2.2.2.2.1 x.2.2.2.2.2.2.2.2.1
def zrD (zY:Atom→List Binding→Bool×(List Term×Int)) (n:Nat) (a:List Term) (l:List Binding) (out_:List Term) (i:Int) (t:List Term) (k:Int) (x_:List Term) (e:Int) (n_:Int):Bool×ttTref05replace1:=zX (zrA zY) default n (a,l,out_,i,t,k,x_,e,n_,()) ()
def zxr (r:ttTref05replace1):LTree ty:=.done (.exit 4) [.sl 42 r.1,.sl 69 r.2.1,.sl 42 r.2.2.1,.lit (.int .i64 r.2.2.2.1),.sl 42 r.2.2.2.2.1,.lit (.int .i64 r.2.2.2.2.2.1),.lit (.int .i64 r.2.2.2.2.2.2)] []
def zyU:LL ty ttTref05replace0:=za (lSl 42) (za (lSl 69) (za (lSl 42) (za (lInt .i64) (za (lSl 42) (za (lInt .i64) (za (lSl 42) (za (lInt .i64) (za (lInt .i64) zH))))))))
def zyW:BL ty (Unit):=bNil
def ztd (zY:Atom→List Binding→Bool×(List Term×Int)) (a:List Term) (l:List Binding) (out_:List Term) (i:Int) (t:List Term) (k:Int):Wy ttTref05replace2 (Unit) ttTref05replace3:=.i (decide (0≤i)&&decide (i<Int.ofNat a.length)) (.i (decide (k<Int.ofNat (a.getD i.toNat default).Factors.length)) (.i (decide (0≤i)&&decide (i<Int.ofNat a.length)) (.i (decide (0≤k)&&decide (k<Int.ofNat (a.getD i.toNat default).Factors.length)) (.bn (zY (Atom.mk ((a.getD i.toNat default).Factors.getD k.toNat default).Atom.Kind ((a.getD i.toNat default).Factors.getD k.toNat default).Atom.Row ((a.getD i.toNat default).Factors.getD k.toNat default).Atom.Args ((a.getD i.toNat default).Factors.getD k.toNat default).Atom.Func ((a.getD i.toNat default).Factors.getD k.toNat default).Atom.Items ((a.getD i.toNat default).Factors.getD k.toNat default).Atom.Op ((a.getD i.toNat default).Factors.getD k.toNat default).Atom.Bound) l) fun r11=>.bn (zrD zY ((a.length+l.length+out_.length+i.toNat +t.length+k.toNat +r11.1.length+r11.2.toNat +Int.toNat 0+1)+szTs a+szTs out_+szTs t+szTs r11.1) a l out_ i t k r11.1 r11.2 0) fun r10=>.i (r10.2.2.2.2.2.2 != 0) (.k (.inl (r10.2.2.2.2.2.2))) (.h ((r10.1),(r10.2.1),(r10.2.2.1),(r10.2.2.2.1),(r10.2.2.2.2.1),(IntKind.i64.wrap (r10.2.2.2.2.2.1+1)),()) ())) .d) .d) (.k (.inr (a,l,out_,i,t)))) .d
def zs5 (zY:Atom→List Binding→Bool×(List Term×Int)) (x:ttTref05replace2) (y:Unit):Wy ttTref05replace2 (Unit) ttTref05replace3:=ztd zY x.1 x.2.1 x.2.2.1 x.2.2.2.1 x.2.2.2.2.1 x.2.2.2.2.2.1
def zsp (zY:Atom→List Binding→Bool×(List Term×Int)) (n:Nat) (a:List Term) (l:List Binding) (out_:List Term) (i:Int) (t:List Term) (k:Int):Bool×ttTref05replace3:=zX (zs5 zY) (.inl default) n (a,l,out_,i,t,k,()) ()
def zy5 (r:ttTref05replace3):LTree ty:=.ite (isL r) (.done .ret [.lit (.slice none 0 0),.lit (.int .i64 (getL r))] []) (.done (.exit 2) [.sl 42 (getR r).1,.sl 69 (getR r).2.1,.sl 42 (getR r).2.2.1,.lit (.int .i64 (getR r).2.2.2.1),.sl 42 (getR r).2.2.2.2] [])
def zBt:LL ty ttTref05replace2:=za (lSl 42) (za (lSl 69) (za (lSl 42) (za (lInt .i64) (za (lSl 42) (za (lInt .i64) zH)))))
def zAs:BL ty (Unit):=bNil
def zsD (zY:Atom→List Binding→Bool×(List Term×Int)) (a:List Term) (l:List Binding) (out_:List Term) (i:Int):Wy ttTref05replace4 (Unit) ttTref05replace5:=.i (decide (i<Int.ofNat a.length)) (.i (decide (0≤i)&&decide (i<Int.ofNat a.length)) (.bn (zvl (a.getD i.toNat default).Coeff) fun r16=>.bn (zsp zY ((a.length+l.length+out_.length+i.toNat +r16.length+Int.toNat 0+1)+szTs a+szTs out_+szTs r16) a l out_ i r16 0) fun r15=>.i (isL r15) (.k (.inl (getL r15))) (.bn (zBh (getR r15).2.2.1 (getR r15).2.2.2.2) fun r14=>.i (r14.2 != 0) (.k (.inl (r14.2))) (.h ((getR r15).1,(getR r15).2.1,(r14.1),(IntKind.i64.wrap ((getR r15).2.2.2.1+1)),()) ()))) .d) (.k (.inr out_))
def zsj (zY:Atom→List Binding→Bool×(List Term×Int)) (x:ttTref05replace4) (y:Unit):Wy ttTref05replace4 (Unit) ttTref05replace5:=zsD zY x.1 x.2.1 x.2.2.1 x.2.2.2.1
def zs4 (zY:Atom→List Binding→Bool×(List Term×Int)) (n:Nat) (a:List Term) (l:List Binding) (out_:List Term) (i:Int):Bool×ttTref05replace5:=zX (zsj zY) (.inl default) n (a,l,out_,i,()) ()
def zyM (r:ttTref05replace5):LTree ty:=.ite (isL r) (.done .ret [.lit (.slice none 0 0),.lit (.int .i64 (getL r))] []) (.done (.exit 0) [.sl 42 (getR r)] [])
def zAh:LL ty ttTref05replace4:=za (lSl 42) (za (lSl 69) (za (lSl 42) (za (lInt .i64) zH)))
def zAT:BL ty (Unit):=bNil
def zwV (x:ttTref05replace0) (y:Unit):Nat:=((x.1.length+x.2.1.length+x.2.2.1.length+Int.toNat x.2.2.2.1+x.2.2.2.2.1.length+Int.toNat x.2.2.2.2.2.1+x.2.2.2.2.2.2.1.length+Int.toNat x.2.2.2.2.2.2.2.1+Int.toNat x.2.2.2.2.2.2.2.2.1+1)+szTs x.1+szTs x.2.2.1+szTs x.2.2.2.2.1+szTs x.2.2.2.2.2.2.1)
def zyE (x:ttTref05replace2) (y:Unit):Nat:=((x.1.length+x.2.1.length+x.2.2.1.length+Int.toNat x.2.2.2.1+x.2.2.2.2.1.length+Int.toNat x.2.2.2.2.2.1+1)+szTs x.1+szTs x.2.2.1+szTs x.2.2.2.2.1)
def zyD (x:ttTref05replace4) (y:Unit):Nat:=((x.1.length+x.2.1.length+x.2.2.1.length+Int.toNat x.2.2.2.1+1)+szTs x.1+szTs x.2.2.1)
def zn3 (zY:Atom→List Binding→Bool×(List Term×Int)):Cx ty:=mkCx base 89 [(14,zIl),(17,zIb),(26,zEs),(141,(zya zY))] [] [(3,[(0,.keep),(1,.keep),(6,.sl 42),(7,.keep)]),(7,[(0,.keep),(1,.keep),(6,.keep),(7,.keep),(8,.sl 42),(9,.keep)]),(11,[(0,.keep),(1,.keep),(6,.keep),(7,.keep),(8,.sl 42),(9,.keep),(10,.keep),(11,.keep),(12,.keep)])] [(3,1,[(6,.keep)]),(3,0,[(4,.keep),(5,.keep)]),(7,3,[(0,.keep),(1,.keep),(6,.keep),(7,.keep),(8,.keep)]),(7,0,[(4,.keep),(5,.keep)]),(11,5,[(0,.keep),(1,.keep),(6,.keep),(7,.keep),(8,.keep),(9,.keep),(11,.keep)])] [(11,spW zyU zyW (zrA zY) default zxr zwV),(7,spW zBt zAs (zs5 zY) (.inl default) zy5 zyE),(3,spW zAh zAT (zsj zY) (.inl default) zyM zyD)] []
theorem zJk (zY:Atom→List Binding→Bool×(List Term×Int)):zW (zn3 zY) (lp (body Tryz.f96) 2):=zK (id:=11) (V:=zyU) (B:=zyW) (W:=zrA zY) (z:=default) (tr:=zxr) (m:=zwV)
theorem zKV (zY:Atom→List Binding→Bool×(List Term×Int)):zW (zn3 zY) (lp (body Tryz.f96) 1):=zK (id:=7) (V:=zBt) (B:=zAs) (W:=zs5 zY) (z:=.inl default) (tr:=zy5) (m:=zyE)
theorem zKB (zY:Atom→List Binding→Bool×(List Term×Int)):zW (zn3 zY) (lp (body Tryz.f96) 0):=zK (id:=3) (V:=zAh) (B:=zAT) (W:=zsj zY) (z:=.inl default) (tr:=zyM) (m:=zyD)
def zuz (zY:Atom→List Binding→Bool×(List Term×Int)) (a:List Term) (l:List Binding):Wy0 (List Term×Int):=.bn (zs4 zY ((a.length+l.length+0+Int.toNat 0+1)+szTs a+szTs []) a l [] 0) fun r20=>.i (isL r20) (.k ([],getL r20)) (.k (getR r20,0))
def zop (zY:Atom→List Binding→Bool×(List Term×Int)) (a:List Term) (l:List Binding):Bool×(List Term×Int):=(zuz zY a l).fin default
theorem zHy (zY:Atom→List Binding→Bool×(List Term×Int)) (zQu:Sound Tryz.prog base 141 (zya zY)):Sound Tryz.prog base 96 (zn5 (zop zY)):=
 zn (cx':=(zn3 zY)) zJ zl zw (zm ⟨zOC,zPc,zNh,zQu,trivial⟩) Tryz.call96 Tryz.func96 (c:=body Tryz.f96) (by kernel_rfl) (zh (l:=[lp (body Tryz.f96) 0,lp (body Tryz.f96) 1,lp (body Tryz.f96) 2]) (by kernel_rfl) ⟨zKB zY,zKV zY,zJk zY,trivial⟩) (sg:=⟨[.pure,.pure],[]⟩) (A:=zFI) (res:=zCT) (W:=fun x=>zuz zY x.1 x.2.1) (z:=default)
def zxO:Nat→(List Term→List Binding→Bool×(List Term×Int))×(Atom→List Binding→Bool×(List Term×Int))
 | 0=>(fun _ _=>(false,default),fun _ _=>(false,default))
 | n+1=>(zop ((zxO n).2),ztz ((zxO n).1))
def zol (n:Nat):List Term→List Binding→Bool×(List Term×Int):=(zxO n).1
def zs9 (n:Nat):Atom→List Binding→Bool×(List Term×Int):=(zxO n).2
theorem zMs (n:Nat):zol (n+1)=zop (zs9 n):=rfl
theorem zOV (n:Nat):zs9 (n+1)=ztz (zol n):=rfl
theorem zHp:∀ n,Sound Tryz.prog base 96 (zn5 (zol n))∧Sound Tryz.prog base 141 (zya (zs9 n))
 | 0=>⟨zbj Tryz.call96 (fun _=>rfl),zbj Tryz.call141 (fun _=>rfl)⟩
 | n+1=>by
  have ih:=zHp n
  exact ⟨zHy _ (ih.2),zLa _ (ih.1)⟩
def zBX:List Term→List Binding→Bool×(List Term×Int):=zol 1000
def ref05_replace_spec:Ab.Spec ty:=zn5 zBX
theorem zKL:Sound Tryz.prog base 96 ref05_replace_spec:=(zHp 1000).1
abbrev ttTref05Substitute0:=List Term×List Binding×Int×Unit
abbrev ttTref05Substitute1:=Int⊕(List Term×List Binding)
def zrq (a:List Term) (l:List Binding) (i:Int):Wy ttTref05Substitute0 (Unit) ttTref05Substitute1:=.i (decide (i<Int.ofNat l.length)) (.i (decide (0≤i)&&decide (i<Int.ofNat l.length)) (.bn (zeL (l.getD i.toNat default).To) fun r0=>.i (!r0) (.k (.inl 1)) (.h (a,l,(IntKind.i64.wrap (i+1)),()) ())) .d) (.k (.inr (a,l)))
def zrH (x:ttTref05Substitute0) (y:Unit):Wy ttTref05Substitute0 (Unit) ttTref05Substitute1:=zrq x.1 x.2.1 x.2.2.1
def zrC (n:Nat) (a:List Term) (l:List Binding) (i:Int):Bool×ttTref05Substitute1:=zX (zrH) (.inl default) n (a,l,i,()) ()
def zw2 (r:ttTref05Substitute1):LTree ty:=.ite (isL r) (.done .ret [.lit (.slice none 0 0),.lit (.int .i64 (getL r))] []) (.done (.exit 0) [.sl 42 (getR r).1,.sl 69 (getR r).2] [])
def zyI:LL ty ttTref05Substitute0:=za (lSl 42) (za (lSl 69) (za (lInt .i64) zH))
def zyR:BL ty (Unit):=bNil
def zxC (x:ttTref05Substitute0) (y:Unit):Nat:=(x.1.length+x.2.1.length+Int.toNat x.2.2.1+1)
def zyY:Cx ty:=mkCx base 28 [(46,ref05_Valid_spec),(96,ref05_replace_spec)] [] [(4,[(0,.keep),(1,.keep),(6,.keep)])] [(4,1,[(0,.keep),(1,.keep)]),(4,0,[(4,.keep),(5,.keep)])] [(4,spW zyI zyR (zrH) (.inl default) zw2 zxC)] []
theorem zI0:zW zyY (lp (body Tryz.f42) 0):=zK (id:=4) (V:=zyI) (B:=zyR) (W:=zrH) (z:=.inl default) (tr:=zw2) (m:=zxC)
def zto (a:List Term) (l:List Binding):Wy0 (List Term×Int):=.bn (zeL a) fun r4=>.i (!r4) (.k ([],1)) (.bn (zrC (a.length+l.length+Int.toNat 0+1) a l 0) fun r3=>.i (isL r3) (.k ([],getL r3)) (.bn (zBX (getR r3).1 (getR r3).2) fun r2=>.k (r2.1,r2.2)))
def znh (a:List Term) (l:List Binding):Bool×(List Term×Int):=(zto a l).fin default
def zx7 (r:List Term×Int):ARes ty:=⟨[.pure (.sl 42 r.1),.pure (.lit (.int .i64 r.2))],[]⟩
def zAw:AL base (List Term×List Binding×Unit):=zf (zg (vSl 42)) (zf (zg (vSl 69)) aNil)
def zv8:Ab.Spec ty:=zk zAw fun x=>((znh x.1 x.2.1).1,zx7 (znh x.1 x.2.1).2)
theorem zGZ:Sound Tryz.prog base 42 zv8:=
 zn (cx':=zyY) zJ zl zw (zm ⟨zhV,zKL,trivial⟩) Tryz.call42 Tryz.func42 (c:=body Tryz.f42) (by kernel_rfl) (zh (l:=[lp (body Tryz.f42) 0]) (by kernel_rfl) ⟨zI0,trivial⟩) (sg:=⟨[.pure,.pure],[]⟩) (A:=zAw) (res:=zx7) (W:=fun x=>zto x.1 x.2.1) (z:=default)
def zwL:Cx ty:=mkCx base0 32 [(11,zEr),(15,zFN),(40,zHg),(41,zlP),(42,zv8)] [] [] [] [] []
def zjv (a:List Term) (l:List Binding):Wy0 (Bool):=.bn (zAU a l) fun r3=>.i (!r3) (.k true) (.bn (ziG a l) fun r2=>.bn (znh a l) fun r1=>.bn (ztD r2.1 r2.2 r1.1 r1.2) fun r0=>.k r0)
def zdN (a:List Term) (l:List Binding):Bool×Bool:=(zjv a l).fin default
def zix (r:Bool):ARes ty:=⟨[.pure (.lit (.bool r))],[]⟩
def zom:AL base0 (List Term×List Binding×Unit):=zf (zg (vSl 42)) (zf (zg (vSl 69)) aNil)
def zig:Ab.Spec ty:=zk zom fun x=>((zdN x.1 x.2.1).1,zix (zdN x.1 x.2.1).2)
theorem zuy:Sound Tryz.prog base0 8 zig:=
 zn (cx':=zwL) zJ ziw zw (zm ⟨zM4,zN3.nodr,zPE.nodr,zqd,zGZ.nodr,trivial⟩) Tryz.call8 Tryz.func8 (c:=body Tryz.f8) (by kernel_rfl) (zh (l:=[]) (by kernel_rfl) trivial) (sg:=⟨[.pure],[]⟩) (A:=zom) (res:=zix) (W:=fun x=>zjv x.1 x.2.1) (z:=default)
def trV (v:Value):TT:=.l [.i v.Kind,.i v.Int,trB v.Text]
mutual
def zdI:Atom→TT
 | ⟨k,r,a,f,i,o,b⟩=>.l [.i k,.i r.Table,.i r.Seq,.l (zq4 a),.i f,.l (zgg i),.i o,trV b]
def zm9:Factor→TT
 | ⟨x,e⟩=>.l [zdI x,.i e]
def zbC:List Factor→List TT
 | []=>[]
 | x::r=>zm9 x::zbC r
def zta:Term→TT
 | ⟨c,fs⟩=>.l [.l (zbC fs),.i c]
def zcW:List Term→List TT
 | []=>[]
 | x::r=>zta x::zcW r
def zq4:List (List Term)→List TT
 | []=>[]
 | x::r=>.l (zcW x)::zq4 r
def zbh:Weighted→TT
 | ⟨v,a⟩=>.l [trV v,.l (zcW a)]
def zgg:List Weighted→List TT
 | []=>[]
 | x::r=>zbh x::zgg r
end
theorem zq7:∀ l,zbC l=l.map zm9
 | []=>by rw [zbC]; rfl
 | x::r=>by rw [zbC,zq7 r]; rfl
theorem zAX:∀ l,zcW l=l.map zta
 | []=>by rw [zcW]; rfl
 | x::r=>by rw [zcW,zAX r]; rfl
theorem zxa:∀ l,zq4 l=l.map fun x=>.l (zcW x)
 | []=>by rw [zq4]; rfl
 | x::r=>by rw [zq4,zxa r]; rfl
theorem zkG:∀ l,zgg l=l.map zbh
 | []=>by rw [zgg]; rfl
 | x::r=>by rw [zgg,zkG r]; rfl
theorem zBN:∀ a b:List UInt8,(a.map fun x=>TT.i (x.toNat:Int))=(b.map fun x=>TT.i (x.toNat:Int))→a=b
 | [],[]=>fun _=>rfl
 | [],_::_=>fun h=>by simp at h
 | _::_,[]=>fun h=>by simp at h
 | x::a,y::b=>fun h=>by
  simp only [List.map,List.cons.injEq,TT.i.injEq] at h
  rw [zBN a b h.2,UInt8.toNat_inj.1 (Int.ofNat.inj h.1)]
theorem zUb {a b:Value} (h:trV a=trV b):a=b:=by
 obtain ⟨k,n,s⟩:=a; obtain ⟨k',n',s'⟩:=b
 simp only [trV,trB,TT.l.injEq,List.cons.injEq,TT.i.injEq,and_true] at h
 obtain ⟨rfl,rfl,h⟩:=h
 have:=zBN _ _ h
 obtain ⟨⟨l⟩⟩:=s; obtain ⟨⟨l'⟩⟩:=s'
 simp only at this; subst this; rfl
mutual
theorem zPI:∀ a b:Atom,zdI a=zdI b→a=b
 | ⟨k,r,a,f,i,o,v⟩,⟨k',r',a',f',i',o',v'⟩=>fun h=>by
  simp only [zdI,TT.l.injEq,List.cons.injEq,TT.i.injEq,and_true] at h
  obtain ⟨rfl,h1,h2,h3,rfl,h4,rfl,h5⟩:=h
  obtain ⟨t,s⟩:=r; obtain ⟨t',s'⟩:=r'
  simp only at h1 h2; subst h1 h2
  rw [zPQ a a' h3,zNB i i' h4,zUb h5]
theorem zTb:∀ a b:Factor,zm9 a=zm9 b→a=b
 | ⟨x,e⟩,⟨x',e'⟩=>fun h=>by
  simp only [zm9,TT.l.injEq,List.cons.injEq,TT.i.injEq,and_true] at h
  rw [zPI x x' h.1,h.2]
theorem zBI:∀ a b:List Factor,zbC a=zbC b→a=b
 | [],[]=>fun _=>rfl
 | [],_::_=>fun h=>by simp [zbC] at h
 | _::_,[]=>fun h=>by simp [zbC] at h
 | x::a,y::b=>fun h=>by
  simp only [zbC,List.cons.injEq] at h
  rw [zTb x y h.1,zBI a b h.2]
theorem zUP:∀ a b:Term,zta a=zta b→a=b
 | ⟨c,l⟩,⟨c',l'⟩=>fun h=>by
  simp only [zta,TT.l.injEq,List.cons.injEq,TT.i.injEq,and_true] at h
  rw [zBI l l' h.1,h.2]
theorem zAr:∀ a b:List Term,zcW a=zcW b→a=b
 | [],[]=>fun _=>rfl
 | [],_::_=>fun h=>by simp [zcW] at h
 | _::_,[]=>fun h=>by simp [zcW] at h
 | x::a,y::b=>fun h=>by
  simp only [zcW,List.cons.injEq] at h
  rw [zUP x y h.1,zAr a b h.2]
theorem zPQ:∀ a b:List (List Term),zq4 a=zq4 b→a=b
 | [],[]=>fun _=>rfl
 | [],_::_=>fun h=>by simp [zq4] at h
 | _::_,[]=>fun h=>by simp [zq4] at h
 | x::a,y::b=>fun h=>by
  simp only [zq4,List.cons.injEq,TT.l.injEq] at h
  rw [zAr x y h.1,zPQ a b h.2]
theorem zPJ:∀ a b:Weighted,zbh a=zbh b→a=b
 | ⟨c,l⟩,⟨c',l'⟩=>fun h=>by
  simp only [zbh,TT.l.injEq,List.cons.injEq,and_true] at h
  rw [zUb h.1,zAr l l' h.2]
theorem zNB:∀ a b:List Weighted,zgg a=zgg b→a=b
 | [],[]=>fun _=>rfl
 | [],_::_=>fun h=>by simp [zgg] at h
 | _::_,[]=>fun h=>by simp [zgg] at h
 | x::a,y::b=>fun h=>by
  simp only [zgg,List.cons.injEq] at h
  rw [zPJ x y h.1,zNB a b h.2]
end
def zcJ (P:List Term→Prop) (x:Atom):Prop:=
 (x.Args.length≤1000000∧x.Items.length≤1000000∧x.Bound.Text.size≤1000000000000)∧(∀ a∈x.Args,P a)∧∀ w∈x.Items,w.Value.Text.size≤1000000000000∧P w.Ann
def zfw (P:List Term→Prop) (l:List Factor):Prop:=l.length≤1000000∧∀ f∈l,zcJ P f.Atom
def zq:Nat→List Term→Prop
 | 0,_=>False
 | n+1,a=>a.length≤1000000∧∀ t∈a,zfw (zq n) t.Factors
theorem zcJ.imp {P Q:List Term→Prop} (h:∀ a,P a→Q a) {x:Atom} (hx:zcJ P x):zcJ Q x:=⟨hx.1,fun a ha=>h a (hx.2.1 a ha),fun w hw=>⟨(hx.2.2 w hw).1,h _ (hx.2.2 w hw).2⟩⟩
theorem zq.succ:∀ (n:Nat) (a:List Term),zq n a→zq (n+1) a
 | 0,_,h=>h.elim
 | n+1,a,h=>⟨h.1,fun t ht=>⟨(h.2 t ht).1,fun f hf=>((h.2 t ht).2 f hf).imp (zq.succ n)⟩⟩
theorem zq.mono {n m:Nat} {a:List Term} (h:zq n a) (hm:n≤m):zq m a:=by
 obtain ⟨k,rfl⟩:=Nat.exists_eq_add_of_le hm
 clear hm
 induction k with
 | zero=>exact h
 | succ k ih=>exact zq.succ _ _ ih
theorem zlQ:∀ {l:List Factor},zn4 l→∀ x∈l,zqH x
 | [],_,x,hx=>by cases hx
 | y::r,h,x,hx=>by
  unfold zn4 at h
  rcases List.mem_cons.1 hx with rfl | hx
  ·exact h.1
  ·exact zlQ h.2 x hx
theorem zoo:∀ {l:List Term},zfs l→∀ x∈l,zvy x
 | [],_,x,hx=>by cases hx
 | y::r,h,x,hx=>by
  unfold zfs at h
  rcases List.mem_cons.1 hx with rfl | hx
  ·exact h.1
  ·exact zoo h.2 x hx
theorem zis:∀ {l:List (List Term)},zrh l→∀ x∈l,zfs x∧x.length≤roomLen
 | [],_,x,hx=>by cases hx
 | y::r,h,x,hx=>by
  unfold zrh at h
  rcases List.mem_cons.1 hx with rfl | hx
  ·exact h.1
  ·exact zis h.2 x hx
theorem zg6:∀ {l:List Weighted},zn0 l→∀ x∈l,wf46 x.Value∧zfs x.Ann∧x.Ann.length≤roomLen
 | [],_,x,hx=>by cases hx
 | y::r,h,x,hx=>by
  unfold zn0 at h
  rcases List.mem_cons.1 hx with rfl | hx
  ·have:=h.1; unfold zAn at this; exact ⟨this.1,this.2.1,this.2.2⟩
  ·exact zg6 h.2 x hx
theorem zqw {t:Term} (h:zvy t):wf2 t.Coeff∧zn4 t.Factors∧t.Factors.length≤roomLen:=by
 unfold zvy at h; exact ⟨h.1,h.2.1,h.2.2⟩
theorem zmX {t:Factor} (h:zqH t):zfr t.Atom∧wf3 t.Exp:=by
 unfold zqH at h; exact h
theorem zmf {x:Atom} (h:zfr x):(zrh x.Args∧x.Args.length≤roomLen)∧(zn0 x.Items∧x.Items.length≤roomLen)∧wf46 x.Bound∧wf3 x.Kind∧wf25 x.Row∧wf3 x.Func∧wf3 x.Op:=by
 obtain ⟨k,r,a,f,i,o,b⟩:=x; unfold zfr at h; exact ⟨h.2.2.1,h.2.2.2.2.1,h.2.2.2.2.2.2,h.1,h.2.1,h.2.2.2.1,h.2.2.2.2.2.1⟩
theorem zid {z:Int} (h0: -4611686018427387904≤z) (h:z<4611686018427387904):IntKind.i64.wrap z=z:=zMJ (by omega) (by omega)
mutual
def zzy:Atom→Nat
 | ⟨_,_,a,_,i,_,b⟩=>i.length+a.length+b.Text.size+zmP a+zjm i
def zfT:List Factor→Nat
 | []=>0
 | ⟨x,_⟩::r=>zzy x+zfT r
def zd8:List Term→Nat
 | []=>0
 | ⟨_,fs⟩::r=>1+fs.length+zfT fs+zd8 r
def zmP:List (List Term)→Nat
 | []=>0
 | a::r=>zd8 a+zmP r
def zjm:List Weighted→Nat
 | []=>0
 | ⟨v,a⟩::r=>v.Text.size+zd8 a+zjm r
end
theorem zPl (x:Atom):zzy x=x.Items.length+x.Args.length+x.Bound.Text.size+zmP x.Args+zjm x.Items:=by cases x; rw [zzy]
theorem zGs (f:Factor) (r:List Factor):zfT (f::r)=zzy f.Atom+zfT r:=by cases f; rw [zfT]
theorem zG8 (t:Term) (r:List Term):zd8 (t::r)=1+t.Factors.length+zfT t.Factors+zd8 r:=by cases t; rw [zd8]
theorem zL8 (a:List Term) (r:List (List Term)):zmP (a::r)=zd8 a+zmP r:=by rw [zmP]
theorem zB7 (w:Weighted) (r:List Weighted):zjm (w::r)=w.Value.Text.size+zd8 w.Ann+zjm r:=by cases w; rw [zjm]
theorem zTE:zmP []=0:=by rw [zmP]
theorem zTg:zjm []=0:=by rw [zjm]
theorem zPZ:zfT []=0:=by rw [zfT]
theorem zU8:zd8 []=0:=by rw [zd8]
section
variable (g:List Term→Int→Int→Bool×Int) (a:List Term) (limit d:Nat) (hl:limit≤1000) (hd:d≤100) (B:Nat) (hB:B≤1152921504606846976) (P:List Term→Prop)
include hl hd hB
theorem w14 (x:Atom) (i k:Int) (hlen:x.Args.length≤roomLen) (hg:∀ y∈x.Args,∀ l:Nat,l≤1000→∃ w:Nat,g y l d=(true,(w:Int))∧w≤B∧(w≤l→P y∧zd8 y≤w)):
  ∀ (fuel j n:Nat),x.Args.length<j+fuel→j≤x.Args.length→n≤2305843009213693952→∃ n':Nat,zsB g fuel a limit (d+1:Nat) n i k j x=(true,(a,(limit:Int),((d+1:Nat):Int),(n':Int),i,k,x))∧n≤n'∧n'≤max n (limit+B)∧(n'≤limit→(∀ y∈x.Args.drop j,P y)∧n+zmP (x.Args.drop j)≤n')
 | 0,j,n,h1,h2,h3=>by omega
 | fuel+1,j,n,h1,h2,h3=>by
  show ∃ n':Nat,(ztg g a limit (d+1:Nat) n i k j x).ev (fun x y=>zsB g fuel x.1 x.2.1 x.2.2.1 x.2.2.2.1 x.2.2.2.2.1 x.2.2.2.2.2.1 x.2.2.2.2.2.2.2.1 y.1) (fun r=>(true,r)) (false,default)=_∧_
  unfold ztg
  have hml:roomLen=140737488351232:=rfl
  by_cases hj:j<x.Args.length
  ·by_cases hn:n≤limit
   ·have e1:IntKind.i64.wrap ((limit:Int) - (n:Int))=((limit - n:Nat):Int):=by rw [zid (by omega) (by omega)]; omega
    obtain ⟨w,hw,hwB,hwP⟩:=hg _ (zx hj) (limit - n) (by omega)
    have ed:IntKind.i64.wrap (((d+1:Nat):Int) - 1)=(d:Int):=by rw [zid (by omega) (by omega)]; omega
    simp only [Wy.ev_i,Wy.ev_k,Wy.ev_h,Wy.ev_bn,Wy.ev_d,tT,hj,zsG,hn,e1,ed,hw]
    have e3:IntKind.i64.wrap ((n:Int)+(w:Int))=((n+w:Nat):Int):=by rw [zid (by omega) (by omega)]; omega
    rw [e3,zT (by omega)]
    obtain ⟨n',h4,h5,h6,h7⟩:=w14 x i k hlen hg fuel (j+1) (n+w) (by omega) (by omega) (by omega)
    refine ⟨n',h4,by omega,by omega,fun hn'=> ?_⟩
    obtain ⟨h8,h9⟩:=h7 hn'
    obtain ⟨p1,p2⟩:=hwP (by omega)
    rw [zbu hj,zL8]
    refine ⟨fun y hy=> ?_,by omega⟩
    rcases List.mem_cons.1 hy with rfl | hy
    ·exact p1
    ·exact h8 y hy
   ·simp only [Wy.ev_i,Wy.ev_k,Wy.ev_h,Wy.ev_bn,Wy.ev_d,tT,hj,zsG,hn]
    exact ⟨n,rfl,Nat.le_refl _,by omega,fun h=>absurd h hn⟩
  ·simp only [Wy.ev_i,Wy.ev_k,Wy.ev_h,Wy.ev_bn,Wy.ev_d,tT,hj]
   exact ⟨n,rfl,Nat.le_refl _,by omega,fun _=>by rw [zcE hj,zTE]; exact ⟨fun y hy=>(by cases hy),Nat.le_refl _⟩⟩
theorem w18 (x:Atom) (i k:Int) (hlen:x.Items.length≤roomLen) (hg:∀ y∈x.Items,y.Value.Text.size≤roomLen∧∀ l:Nat,l≤1000→∃ w:Nat,g y.Ann l d=(true,(w:Int))∧w≤B∧(w≤l→P y.Ann∧zd8 y.Ann≤w)):
  ∀ (fuel j n:Nat),x.Items.length<j+fuel→j≤x.Items.length→n≤2305843009213693952→∃ n':Nat,zsW g fuel a limit (d+1:Nat) n i k j x=(true,(a,(limit:Int),((d+1:Nat):Int),(n':Int),i,k))∧n≤n'∧n'≤max n (limit+roomLen+B)∧(n'≤limit→(∀ y∈x.Items.drop j,y.Value.Text.size≤1000∧P y.Ann)∧n+zjm (x.Items.drop j)≤n')
 | 0,j,n,h1,h2,h3=>by omega
 | fuel+1,j,n,h1,h2,h3=>by
  show ∃ n':Nat,(zsU g a limit (d+1:Nat) n i k j x).ev (fun x y=>zsW g fuel x.1 x.2.1 x.2.2.1 x.2.2.2.1 x.2.2.2.2.1 x.2.2.2.2.2.1 x.2.2.2.2.2.2.2.1 y.1) (fun r=>(true,r)) (false,default)=_∧_
  unfold zsU
  have hml:roomLen=140737488351232:=rfl
  by_cases hj:j<x.Items.length
  ·by_cases hn:n≤limit
   ·have e1:IntKind.i64.wrap ((limit:Int) - (n:Int))=((limit - n:Nat):Int):=by rw [zid (by omega) (by omega)]; omega
    obtain ⟨ht,hgy⟩:=hg _ (zx hj)
    obtain ⟨w,hw,hwB,hwP⟩:=hgy (limit - n) (by omega)
    have ed:IntKind.i64.wrap (((d+1:Nat):Int) - 1)=(d:Int):=by rw [zid (by omega) (by omega)]; omega
    simp only [Wy.ev_i,Wy.ev_k,Wy.ev_h,Wy.ev_bn,Wy.ev_d,tT,hj,zsG,hn,e1,ed,hw]
    generalize hsz:(x.Items.getD j default).Value.Text.size=sz at *
    have e3:IntKind.i64.wrap (IntKind.i64.wrap ((n:Int)+(sz:Int))+(w:Int))=((n+sz+w:Nat):Int):=by rw [zid (z:=(n:Int)+(sz:Int)) (by omega) (by omega),zid (by omega) (by omega)]; omega
    rw [e3,zT (by omega)]
    obtain ⟨n',h4,h5,h6,h7⟩:=w18 x i k hlen hg fuel (j+1) (n+sz+w) (by omega) (by omega) (by omega)
    refine ⟨n',h4,by omega,by omega,fun hn'=> ?_⟩
    obtain ⟨h8,h9⟩:=h7 hn'
    obtain ⟨p1,p2⟩:=hwP (by omega)
    rw [zbu hj,zB7]
    refine ⟨fun y hy=> ?_,by omega⟩
    rcases List.mem_cons.1 hy with rfl | hy
    ·exact ⟨by omega,p1⟩
    ·exact h8 y hy
   ·simp only [Wy.ev_i,Wy.ev_k,Wy.ev_h,Wy.ev_bn,Wy.ev_d,tT,hj,zsG,hn]
    exact ⟨n,rfl,Nat.le_refl _,by omega,fun h=>absurd h hn⟩
  ·simp only [Wy.ev_i,Wy.ev_k,Wy.ev_h,Wy.ev_bn,Wy.ev_d,tT,hj]
   exact ⟨n,rfl,Nat.le_refl _,by omega,fun _=>by rw [zcE hj,zTg]; exact ⟨fun y hy=>(by cases hy),Nat.le_refl _⟩⟩
theorem w9 (i:Nat) (hi:i<a.length) (hla:(a.getD i default).Factors.length≤roomLen) (hg:∀ f∈(a.getD i default).Factors,f.Atom.Args.length≤roomLen∧f.Atom.Items.length≤roomLen∧f.Atom.Bound.Text.size≤roomLen∧(∀ y∈f.Atom.Args,∀ l:Nat,l≤1000→∃ w:Nat,g y l d=(true,(w:Int))∧w≤B∧(w≤l→P y∧zd8 y≤w))∧
   ∀ y∈f.Atom.Items,y.Value.Text.size≤roomLen∧∀ l:Nat,l≤1000→∃ w:Nat,g y.Ann l d=(true,(w:Int))∧w≤B∧(w≤l→P y.Ann∧zd8 y.Ann≤w)):
  ∀ (fuel k n:Nat),(a.getD i default).Factors.length<k+fuel→k≤(a.getD i default).Factors.length→n≤2305843009213693952→∃ n':Nat,zus g fuel a limit (d+1:Nat) n i k=(true,(a,(limit:Int),((d+1:Nat):Int),(n':Int),(i:Int)))∧n≤n'∧n'≤max n (limit+4*roomLen+B)∧
   (n'≤limit→(∀ f∈(a.getD i default).Factors.drop k,(f.Atom.Args.length≤1000∧f.Atom.Items.length≤1000∧f.Atom.Bound.Text.size≤1000)∧(∀ y∈f.Atom.Args,P y)∧∀ y∈f.Atom.Items,y.Value.Text.size≤1000∧P y.Ann)∧n+zfT ((a.getD i default).Factors.drop k)≤n')
 | 0,k,n,h1,h2,h3=>by omega
 | fuel+1,k,n,h1,h2,h3=>by
  show ∃ n':Nat,(zuI g a limit (d+1:Nat) n i k).ev (fun x y=>zus g fuel x.1 x.2.1 x.2.2.1 x.2.2.2.1 x.2.2.2.2.1 x.2.2.2.2.2.1) (fun r=>(true,r)) (false,default)=_∧_
  unfold zuI
  have hml:roomLen=140737488351232:=rfl
  by_cases hk:k<(a.getD i default).Factors.length
  ·by_cases hn:n≤limit
   ·simp only [Wy.ev_i,Wy.ev_k,Wy.ev_h,Wy.ev_bn,Wy.ev_d,tT,hi,hk,zsG,hn,Atom.eta]
    obtain ⟨ha1,ha2,ha3,hgA,hgI⟩:=hg _ (zx hk)
    generalize hf:((a.getD i default).Factors.getD k default)=f at *
    have e0:IntKind.i64.wrap (IntKind.i64.wrap (IntKind.i64.wrap ((n:Int)+(f.Atom.Items.length:Int))+(f.Atom.Args.length:Int))+(f.Atom.Bound.Text.size:Int))=((n+f.Atom.Items.length+f.Atom.Args.length+f.Atom.Bound.Text.size:Nat):Int):=by
     rw [zid (z:=(n:Int)+(f.Atom.Items.length:Int)) (by omega) (by omega),zid (z:=(n:Int)+(f.Atom.Items.length:Int)+(f.Atom.Args.length:Int)) (by omega) (by omega),zid (by omega) (by omega)]; omega
    rw [e0]
    obtain ⟨n1,q1,q2,q3,q4⟩:=w14 g a limit d hl hd B hB P f.Atom i k ha1 hgA (a.length+limit+(d+1)+((n+f.Atom.Items.length+f.Atom.Args.length+f.Atom.Bound.Text.size:Nat):Int).toNat +i+k+Int.toNat 0+1+f.Atom.Args.length+f.Atom.Items.length) 0 (n+f.Atom.Items.length+f.Atom.Args.length+f.Atom.Bound.Text.size) (by omega) (by omega) (by omega)
    rw [show ((0:Nat):Int)=(0:Int) from rfl] at q1
    rw [q1]
    simp only [cond_true,Atom.eta,Int.toNat_natCast]
    obtain ⟨n2,r1,r2,r3,r4⟩:=w18 g a limit d hl hd B hB P f.Atom i k ha2 hgI (a.length+limit+(d+1)+n1+i+k+Int.toNat 0+1+f.Atom.Args.length+f.Atom.Items.length) 0 n1 (by omega) (by omega) (by omega)
    rw [show ((0:Nat):Int)=(0:Int) from rfl] at r1
    rw [r1]
    simp only [cond_true]
    rw [zT (by omega)]
    obtain ⟨n',h4,h5,h6,h7⟩:=w9 i hi hla hg fuel (k+1) n2 (by omega) (by omega) (by omega)
    refine ⟨n',h4,by omega,by omega,fun hn'=> ?_⟩
    obtain ⟨h8,h9⟩:=h7 hn'
    obtain ⟨q5,q6⟩:=q4 (by omega)
    obtain ⟨r5,r6⟩:=r4 (by omega)
    rw [List.drop_zero] at q5 q6 r5 r6
    rw [zbu hk,zGs,hf,zPl]
    refine ⟨fun y hy=> ?_,by omega⟩
    rcases List.mem_cons.1 hy with rfl | hy
    ·exact ⟨⟨by omega,by omega,by omega⟩,q5,r5⟩
    ·exact h8 y hy
   ·simp only [Wy.ev_i,Wy.ev_k,Wy.ev_h,Wy.ev_bn,Wy.ev_d,tT,hi,hk,zsG,hn]
    exact ⟨n,rfl,Nat.le_refl _,by omega,fun h=>absurd h hn⟩
  ·simp only [Wy.ev_i,Wy.ev_k,Wy.ev_h,Wy.ev_bn,Wy.ev_d,tT,hi,hk]
   exact ⟨n,rfl,Nat.le_refl _,by omega,fun _=>by rw [zcE hk,zPZ]; exact ⟨fun y hy=>(by cases hy),Nat.le_refl _⟩⟩
theorem w5 (hla:∀ t∈a,t.Factors.length≤roomLen) (hg:∀ t∈a,∀ f∈t.Factors,f.Atom.Args.length≤roomLen∧f.Atom.Items.length≤roomLen∧f.Atom.Bound.Text.size≤roomLen∧(∀ y∈f.Atom.Args,∀ l:Nat,l≤1000→∃ w:Nat,g y l d=(true,(w:Int))∧w≤B∧(w≤l→P y∧zd8 y≤w))∧
   ∀ y∈f.Atom.Items,y.Value.Text.size≤roomLen∧∀ l:Nat,l≤1000→∃ w:Nat,g y.Ann l d=(true,(w:Int))∧w≤B∧(w≤l→P y.Ann∧zd8 y.Ann≤w)) (hlen:a.length≤roomLen):
  ∀ (fuel i n:Nat),a.length<i+fuel→i≤a.length→n≤2305843009213693952→∃ n':Nat,zuA g fuel a limit (d+1:Nat) n i=(true,(n':Int))∧n≤n'∧n'≤max n (limit+6*roomLen+B)∧
   (n'≤limit→(n+(a.length - i)≤n'∧n+zd8 (a.drop i)≤n')∧∀ t∈a.drop i,t.Factors.length≤1000∧∀ f∈t.Factors,(f.Atom.Args.length≤1000∧f.Atom.Items.length≤1000∧f.Atom.Bound.Text.size≤1000)∧(∀ y∈f.Atom.Args,P y)∧∀ y∈f.Atom.Items,y.Value.Text.size≤1000∧P y.Ann)
 | 0,i,n,h1,h2,h3=>by omega
 | fuel+1,i,n,h1,h2,h3=>by
  show ∃ n':Nat,(zut g a limit (d+1:Nat) n i).ev (fun x y=>zuA g fuel x.1 x.2.1 x.2.2.1 x.2.2.2.1 x.2.2.2.2.1) (fun r=>(true,r)) (false,default)=_∧_
  unfold zut
  have hml:roomLen=140737488351232:=rfl
  by_cases hi:i<a.length
  ·by_cases hn:n≤limit
   ·simp only [Wy.ev_i,Wy.ev_k,Wy.ev_h,Wy.ev_bn,Wy.ev_d,tT,hi,zsG,hn]
    have hla':=hla _ (zx hi)
    have e0:IntKind.i64.wrap (IntKind.i64.wrap ((n:Int)+1)+((a.getD i default).Factors.length:Int))=((n+1+(a.getD i default).Factors.length:Nat):Int):=by
     rw [zT (by omega),zid (by omega) (by omega)]; omega
    rw [e0]
    obtain ⟨n1,q1,q2,q3,q4⟩:=w9 g a limit d hl hd B hB P i hi hla' (hg _ (zx hi)) (a.length+limit+(d+1)+((n+1+(a.getD i default).Factors.length:Nat):Int).toNat +i+Int.toNat 0+1) 0 (n+1+(a.getD i default).Factors.length) (by omega) (by omega) (by omega)
    rw [show ((0:Nat):Int)=(0:Int) from rfl] at q1
    rw [q1]
    simp only [cond_true]
    rw [zT (by omega)]
    obtain ⟨n',h4,h5,h6,h7⟩:=w5 hla hg hlen fuel (i+1) n1 (by omega) (by omega) (by omega)
    refine ⟨n',h4,by omega,by omega,fun hn'=> ?_⟩
    obtain ⟨⟨h8,h10⟩,h9⟩:=h7 hn'
    obtain ⟨q5,q6⟩:=q4 (by omega)
    rw [List.drop_zero] at q5 q6
    rw [zbu hi,zG8]
    refine ⟨⟨by omega,by omega⟩,fun y hy=> ?_⟩
    rcases List.mem_cons.1 hy with rfl | hy
    ·exact ⟨by omega,q5⟩
    ·exact h9 y hy
   ·simp only [Wy.ev_i,Wy.ev_k,Wy.ev_h,Wy.ev_bn,Wy.ev_d,tT,hi,zsG,hn]
    exact ⟨n,rfl,Nat.le_refl _,by omega,fun h=>absurd h hn⟩
  ·simp only [Wy.ev_i,Wy.ev_k,Wy.ev_h,Wy.ev_bn,Wy.ev_d,tT,hi]
   exact ⟨n,rfl,Nat.le_refl _,by omega,fun _=>by rw [zcE hi,zU8]; exact ⟨⟨by omega,Nat.le_refl _⟩,fun y hy=>(by cases hy)⟩⟩
end
theorem zRx:∀ (d N:Nat),d<N→d≤12→∀ (l:Nat),l≤1000→∀ a,zfs a→a.length≤roomLen→∃ w:Nat,zmJ N a l d=(true,(w:Int))∧w≤(d+1)*4503599627370496∧(w≤l→zq d a∧zd8 a≤w)
 | _,0,h,_,_,_,_,_,_=>by omega
 | 0,N+1,_,_,l,hl,a,hw,hlen=>by
  rw [zCF]
  unfold zpF zqI
  refine ⟨l+1, ?_,by omega,fun h=>by omega⟩
  simp only [Wy.fin_i,Wy.fin_k]
  rw [zT (by omega)]; rfl
 | d+1,N+1,hN,hd,l,hl,a,hw,hlen=>by
  rw [zCF]
  unfold zpF zqI
  have hml:roomLen=140737488351232:=rfl
  have ih:=fun y (h1:zfs y) (h2:y.length≤roomLen) l hl=>zRx d N (by omega) (by omega) l hl y h1 h2
  have e0:(((d+1:Nat):Int)==(0:Int))=false:=by
   rw [beq_eq_false_iff_ne]; omega
  obtain ⟨n',h1,h2,h3,h4⟩:=w5 (zmJ N) a l d hl (by omega) ((d+1)*4503599627370496) (by omega) (zq d) (fun t ht=>(zqw (zoo hw t ht)).2.2) (fun t ht f hf=>by
   have hx:=zmf (zmX (zlQ (zqw (zoo hw t ht)).2.1 f hf)).1
   refine ⟨hx.1.2,hx.2.1.2,hx.2.2.1.2.2,fun y hy l hl=> ?_,fun y hy=> ?_⟩
   ·have:=zis hx.1.1 y hy
    exact ih y this.1 this.2 l hl
   ·have:=zg6 hx.2.1.1 y hy
    exact ⟨this.1.2.2,fun l hl=>ih y.Ann this.2.1 this.2.2 l hl⟩) hlen (a.length+l+(d+1)+Int.toNat 0+Int.toNat 0+1) 0 0 (by omega) (by omega) (by omega)
  rw [show ((0:Nat):Int)=(0:Int) from rfl] at h1
  refine ⟨n', ?_,by omega,fun hn=> ?_⟩
  ·simp only [Wy.fin_i,Wy.fin_k,Wy.fin_bn,e0,cond_false,Int.toNat_natCast,h1,cond_true]
  ·obtain ⟨⟨h5,h12⟩,h6⟩:=h4 hn
   rw [List.drop_zero] at h12
   refine ⟨⟨by omega,fun t ht=> ?_⟩,by omega⟩
   obtain ⟨h7,h8⟩:=h6 t (by simpa using ht)
   refine ⟨by omega,fun f hf=> ?_⟩
   obtain ⟨h9,h10,h11⟩:=h8 f hf
   exact ⟨⟨by omega,by omega,by omega⟩,h10,fun w hw=>⟨by have:=(h11 w hw).1; omega,(h11 w hw).2⟩⟩
theorem zSg (limit:Nat) (hl:limit≤1000) (l:List (List Term)) (hll:l.length≤1000) (hw:∀ a∈l,zfs a∧a.length≤roomLen):∀ (n i:Nat),l.length<i+n→i≤l.length→∃ r,zDz n limit l i=(true,r)∧((r=.inl false)∨(r=.inr ()∧∀ a∈l.drop i,zq 12 a∧zd8 a≤limit))
 | 0,i,h1,h2=>by omega
 | n+1,i,h1,h2=>by
  show ∃ r,(zEo limit l i).ev (fun x y=>zDz n x.1 x.2.1 x.2.2.1) (fun r=>(true,r)) (false,.inl default)=(true,r)∧_
  unfold zEo
  by_cases hi:i<l.length
  ·obtain ⟨w,q1,q2,q3⟩:=zRx 12 1000 (by omega) (by omega) limit hl _ (hw _ (zx hi)).1 (hw _ (zx hi)).2
   have q1':zEP (l.getD i default) (limit:Int) 12=(true,(w:Int)):=q1
   simp only [Wy.ev_i,Wy.ev_k,Wy.ev_h,Wy.ev_bn,Wy.ev_d,tT,hi,q1',zne]
   by_cases hg:limit<w
   ·simp only [hg,decide_true,cond_true]
    exact ⟨_,rfl,.inl rfl⟩
   ·simp only [hg,decide_false,cond_false]
    rw [zT (by omega)]
    obtain ⟨r,h3,h4⟩:=zSg limit hl l hll hw n (i+1) (by omega) (by omega)
    refine ⟨r,h3, ?_⟩
    rcases h4 with h4 | ⟨h4,h5⟩
    ·exact .inl h4
    ·refine .inr ⟨h4,fun a ha=> ?_⟩
     rw [zbu hi] at ha
     rcases List.mem_cons.1 ha with rfl | ha
     ·exact ⟨(q3 (by omega)).1,by have:=(q3 (by omega)).2; omega⟩
     ·exact h5 a ha
  ·simp only [Wy.ev_i,Wy.ev_k,Wy.ev_h,Wy.ev_bn,Wy.ev_d,tT,hi]
   exact ⟨_,rfl,.inr ⟨rfl,fun a ha=>by rw [zcE hi] at ha; cases ha⟩⟩
theorem zVZ (limit:Nat) (hl:limit≤1000) (l:List (List Term)) (hll:l.length≤1000) (hw:∀ a∈l,zfs a∧a.length≤roomLen):∃ b,zp7 limit l=(true,b)∧(b=true→∀ a∈l,zq 12 a∧zd8 a≤limit):=by
 unfold zp7 zG7
 obtain ⟨r,h1,h2⟩:=zSg limit hl l hll hw (limit+l.length+Int.toNat 0+1) 0 (by omega) (by omega)
 rw [show ((0:Nat):Int)=(0:Int) from rfl] at h1
 rw [Wy.fin_bn]
 simp only [Int.toNat_natCast,h1,cond_true]
 rcases h2 with rfl | ⟨rfl,h2⟩
 ·exact ⟨false,rfl,fun h=>by cases h⟩
 ·exact ⟨true,rfl,fun _ a ha=>h2 a (by simpa using ha)⟩
mutual
def zeJ:Atom→Nat
 | ⟨_,_,a,_,i,_,_⟩=>zel a+zcI i
def zbM:List Factor→Nat
 | []=>0
 | ⟨x,_⟩::r=>zeJ x+zbM r
def zP:List Term→Nat
 | []=>0
 | ⟨_,fs⟩::r=>1+fs.length+zbM fs+zP r
def zel:List (List Term)→Nat
 | []=>0
 | a::r=>zP a+zel r
def zcI:List Weighted→Nat
 | []=>0
 | ⟨_,a⟩::r=>1+zP a+zcI r
end
theorem zf8 (x:Atom):zeJ x=zel x.Args+zcI x.Items:=by cases x; rw [zeJ]
theorem zeO (f:Factor) (r:List Factor):zbM (f::r)=zeJ f.Atom+zbM r:=by cases f; rw [zbM]
theorem zi9 (t:Term) (r:List Term):zP (t::r)=1+t.Factors.length+zbM t.Factors+zP r:=by cases t; rw [zP]
theorem zef (a:List Term) (r:List (List Term)):zel (a::r)=zP a+zel r:=by rw [zel]
theorem zg7 (w:Weighted) (r:List Weighted):zcI (w::r)=1+zP w.Ann+zcI r:=by cases w; rw [zcI]
theorem zfx:zel []=0:=by rw [zel]
theorem zeF:zcI []=0:=by rw [zcI]
theorem zpN:zbM []=0:=by rw [zbM]
theorem zxL:zP []=0:=by rw [zP]
theorem zO3 (l:List (List Term)):∀ n:Nat,l.foldl (fun s t=>s+zP t) n=n+zel l:=by
 induction l with
 | nil=>intro n; rw [zfx]; rfl
 | cons a r ih=>intro n; rw [List.foldl_cons,ih,zef]; omega
theorem zNo (l:List Weighted):∀ n:Nat,l.foldl (fun s t=>s+1+zP t.Ann) n=n+zcI l:=by
 induction l with
 | nil=>intro n; rw [zeF]; rfl
 | cons a r ih=>intro n; rw [List.foldl_cons,ih,zg7]; omega
theorem zRI (l:List Factor):∀ n:Nat,l.foldl (fun s t=>s+zeJ t.Atom) n=n+zbM l:=by
 induction l with
 | nil=>intro n; rw [zpN]; rfl
 | cons a r ih=>intro n; rw [List.foldl_cons,ih,zeO]; omega
theorem zRB (l:List Term):∀ n:Nat,l.foldl (fun s t=>s+1+t.Factors.length+zbM t.Factors) n=n+zP l:=by
 induction l with
 | nil=>intro n; rw [zxL]; rfl
 | cons a r ih=>intro n; rw [List.foldl_cons,ih,zi9]; omega
theorem zlG {n m:Nat} (h:n+m≤4611686018427387904):IntKind.i64.wrap ((n:Int)+(m:Int))=((n+m:Nat):Int):=by
 rw [zMJ (by omega) (by omega)]; omega
theorem zfv {i:Nat} (h:i<4611686018427387904):IntKind.i64.wrap ((i:Int)+1)=((i+1:Nat):Int):=zT h
section
variable (g:List Term→Bool×Int)
theorem zYB (l:List (List Term)) (hl:l.length≤1000000) (hg:∀ y∈l,g y=(true,(zP y:Int))) (t12:List Term) (t13 t14:Int) (t25:List Factor) (t26 t27:Int) (f:Factor) (fuel n:Nat) (hf:l.length<fuel) (hn:n+zel l≤4611686018427387904):
  zwd g fuel n t12 t13 t14 t25 t26 t27 l l.length 0 f=(true,(((n+zel l:Nat):Int),t12,t13,t14,t25,t26,t27,f)):=by
 have h:=zcx (W:=zlv g) (z:=default) (l:=l) (fun i (n:Nat)=>((n:Int),(),t12,t13,t14,t25,t26,t27,l,(l.length:Int),(i:Int),())) (fun _ _=>(f,())) (fun y n=>.inl (n+zP y)) (fun n=>((n:Int),t12,t13,t14,t25,t26,t27,f)) (fun i n=>n+zel (l.drop i)≤4611686018427387904)
  (fun i n hi hI=>.inl ⟨_,rfl,by rw [zbu hi,zef] at hI; omega,fun H K D=>by
   rw [zbu hi,zef] at hI
   show (ziJ g n t12 t13 t14 t25 t26 t27 l l.length i f).ev H K D=_
   unfold ziJ
   simp only [Wy.ev_i,Wy.ev_k,Wy.ev_h,Wy.ev_bn,Wy.ev_d,tT,hi,hg _ (zx hi)]
   rw [zlG (by omega),zfv (by omega)]⟩)
  (fun n hI H K D=>by
   show (ziJ g n t12 t13 t14 t25 t26 t27 l l.length l.length f).ev H K D=_
   unfold ziJ
   simp only [Wy.ev_i,Wy.ev_k,tT,Nat.lt_irrefl]) fuel 0 n (by omega) (Nat.zero_le _) (by simpa using hn)
 rw [List.drop_zero,zcw,zO3] at h
 exact h
theorem zYD (l:List Weighted) (hl:l.length≤1000000) (hg:∀ y∈l,g y.Ann=(true,(zP y.Ann:Int))) (t12:List Term) (t13 t14:Int) (t25:List Factor) (t26 t27:Int) (fuel n:Nat) (hf:l.length<fuel) (hn:n+zcI l≤4611686018427387904):
  zvZ g fuel n t12 t13 t14 t25 t26 t27 l l.length 0=(true,(((n+zcI l:Nat):Int),t12,t13,t14,t25,t26,t27)):=by
 have h:=zcx (W:=zlw g) (z:=default) (l:=l) (fun i (n:Nat)=>((n:Int),t12,t13,t14,t25,t26,t27,l,(l.length:Int),(i:Int),())) (fun _ _=>()) (fun y n=>.inl (n+1+zP y.Ann)) (fun n=>((n:Int),t12,t13,t14,t25,t26,t27)) (fun i n=>n+zcI (l.drop i)≤4611686018427387904)
  (fun i n hi hI=>.inl ⟨_,rfl,by rw [zbu hi,zg7] at hI; omega,fun H K D=>by
   rw [zbu hi,zg7] at hI
   show (ziL g n t12 t13 t14 t25 t26 t27 l l.length i).ev H K D=_
   unfold ziL
   simp only [Wy.ev_i,Wy.ev_k,Wy.ev_h,Wy.ev_bn,Wy.ev_d,tT,hi,hg _ (zx hi)]
   rw [zfv (by omega),show (1:Int)=((1:Nat):Int) from rfl,zlG (by omega),zlG (by omega), ← Nat.add_assoc]⟩)
  (fun n hI H K D=>by
   show (ziL g n t12 t13 t14 t25 t26 t27 l l.length l.length).ev H K D=_
   unfold ziL
   simp only [Wy.ev_i,Wy.ev_k,tT,Nat.lt_irrefl]) fuel 0 n (by omega) (Nat.zero_le _) (by simpa using hn)
 rw [List.drop_zero,zcw,zNo] at h
 exact h
theorem zYU (l:List Factor) (hl:l.length≤1000000) (hg:∀ f∈l,(f.Atom.Args.length≤1000000∧f.Atom.Items.length≤1000000)∧(∀ y∈f.Atom.Args,g y=(true,(zP y:Int)))∧∀ y∈f.Atom.Items,g y.Ann=(true,(zP y.Ann:Int))) (t12:List Term) (t13 t14:Int) (fuel n:Nat) (hf:l.length<fuel) (hn:n+zbM l≤4611686018427387904):
  zxx g fuel n t12 t13 t14 l l.length 0=(true,(((n+zbM l:Nat):Int),t12,t13,t14)):=by
 have h:=zcx (W:=zmn g) (z:=default) (l:=l) (fun i (n:Nat)=>((n:Int),t12,t13,t14,l,(l.length:Int),(i:Int),())) (fun _ _=>()) (fun y n=>.inl (n+zeJ y.Atom)) (fun n=>((n:Int),t12,t13,t14)) (fun i n=>n+zbM (l.drop i)≤4611686018427387904)
  (fun i n hi hI=>.inl ⟨_,rfl,by rw [zbu hi,zeO] at hI; omega,fun H K D=>by
   rw [zbu hi,zeO,zf8] at hI
   obtain ⟨⟨h1,h2⟩,h3,h4⟩:=hg _ (zx hi)
   show (zjs g n t12 t13 t14 l l.length i).ev H K D=_
   unfold zjs
   simp only [Wy.ev_i,Wy.ev_k,Wy.ev_h,Wy.ev_bn,Wy.ev_d,tT,hi,Atom.eta]
   rw [zYB g _ h1 h3 _ _ _ _ _ _ _ _ _ (by omega) (by omega)]
   simp only [cond_true,Int.toNat_natCast]
   rw [zYD g _ h2 h4 _ _ _ _ _ _ _ _ (by omega) (by omega)]
   simp only [cond_true]
   rw [zfv (by omega),zf8,Nat.add_assoc]⟩)
  (fun n hI H K D=>by
   show (zjs g n t12 t13 t14 l l.length l.length).ev H K D=_
   unfold zjs
   simp only [Wy.ev_i,Wy.ev_k,tT,Nat.lt_irrefl]) fuel 0 n (by omega) (Nat.zero_le _) (by simpa using hn)
 rw [List.drop_zero,zcw,zRI] at h
 exact h
theorem zYX (l:List Term) (hl:l.length≤1000000) (hg:∀ t∈l,t.Factors.length≤1000000∧∀ f∈t.Factors,(f.Atom.Args.length≤1000000∧f.Atom.Items.length≤1000000)∧(∀ y∈f.Atom.Args,g y=(true,(zP y:Int)))∧∀ y∈f.Atom.Items,g y.Ann=(true,(zP y.Ann:Int))) (fuel n:Nat) (hf:l.length<fuel) (hn:n+zP l≤4611686018427387904):
  zyg g fuel n l l.length 0=(true,((n+zP l:Nat):Int)):=by
 have h:=zcx (W:=zmg g) (z:=default) (l:=l) (fun i (n:Nat)=>((n:Int),l,(l.length:Int),(i:Int),())) (fun _ _=>()) (fun y n=>.inl (n+1+y.Factors.length+zbM y.Factors)) (fun n=>(n:Int)) (fun i n=>n+zP (l.drop i)≤4611686018427387904)
  (fun i n hi hI=>.inl ⟨_,rfl,by rw [zbu hi,zi9] at hI; omega,fun H K D=>by
   rw [zbu hi,zi9] at hI
   obtain ⟨h1,h3⟩:=hg _ (zx hi)
   show (zjp g n l l.length i).ev H K D=_
   unfold zjp
   simp only [Wy.ev_i,Wy.ev_k,Wy.ev_h,Wy.ev_bn,Wy.ev_d,tT,hi,Atom.eta]
   rw [show (1:Int)=((1:Nat):Int) from rfl,zlG (n:=1) (by omega),zlG (by omega)]
   rw [zYU g _ h1 h3 _ _ _ _ _ (by omega) (by omega)]
   simp only [cond_true]
   rw [show ((1:Nat):Int)=(1:Int) from rfl,zfv (by omega),Nat.add_assoc n 1]⟩)
  (fun n hI H K D=>by
   show (zjp g n l l.length l.length).ev H K D=_
   unfold zjp
   simp only [Wy.ev_i,Wy.ev_k,tT,Nat.lt_irrefl]) fuel 0 n (by omega) (Nat.zero_le _) (by simpa using hn)
 rw [List.drop_zero,zcw,zRB] at h
 exact h
theorem zXs (x:Atom) (hl:x.Args.length≤1000000) (hg:∀ y∈x.Args,g y=(true,(zP y:Int))) (a:List Term) (i k:Int) (fuel n:Nat) (hf:x.Args.length<fuel) (hn:n+zel x.Args≤4611686018427387904):
  zE2 g fuel a n i k 0 x=(true,(a,((n+zel x.Args:Nat):Int),i,k,x)):=by
 have h:=zcx (W:=zqK g) (z:=default) (l:=x.Args) (fun j (n:Nat)=>(a,(n:Int),i,k,(),(j:Int),())) (fun _ _=>(x,())) (fun y n=>.inl (n+zP y)) (fun n=>(a,(n:Int),i,k,x)) (fun i n=>n+zel (x.Args.drop i)≤4611686018427387904)
  (fun j n hi hI=>.inl ⟨_,rfl,by rw [zbu hi,zef] at hI; omega,fun H K D=>by
   rw [zbu hi,zef] at hI
   show (zna g a n i k j x).ev H K D=_
   unfold zna
   simp only [Wy.ev_i,Wy.ev_k,Wy.ev_h,Wy.ev_bn,Wy.ev_d,tT,hi,hg _ (zx hi)]
   rw [zlG (by omega),zfv (by omega)]⟩)
  (fun n hI H K D=>by
   show (zna g a n i k x.Args.length x).ev H K D=_
   unfold zna
   simp only [Wy.ev_i,Wy.ev_k,tT,Nat.lt_irrefl]) fuel 0 n (by omega) (Nat.zero_le _) (by simpa using hn)
 rw [List.drop_zero,zcw,zO3] at h
 exact h
theorem zW4 (x:Atom) (hl:x.Items.length≤1000000) (hg:∀ y∈x.Items,g y.Ann=(true,(zP y.Ann:Int))) (a:List Term) (i k:Int) (fuel n:Nat) (hf:x.Items.length<fuel) (hn:n+zcI x.Items≤4611686018427387904):
  zEA g fuel a n i k 0 x=(true,(a,((n+zcI x.Items:Nat):Int),i,k)):=by
 have h:=zcx (W:=zqk g) (z:=default) (l:=x.Items) (fun j (n:Nat)=>(a,(n:Int),i,k,(),(j:Int),())) (fun _ _=>(x,())) (fun y n=>.inl (n+1+zP y.Ann)) (fun n=>(a,(n:Int),i,k)) (fun i n=>n+zcI (x.Items.drop i)≤4611686018427387904)
  (fun j n hi hI=>.inl ⟨_,rfl,by rw [zbu hi,zg7] at hI; omega,fun H K D=>by
   rw [zbu hi,zg7] at hI
   show (znp g a n i k j x).ev H K D=_
   unfold znp
   simp only [Wy.ev_i,Wy.ev_k,Wy.ev_h,Wy.ev_bn,Wy.ev_d,tT,hi,hg _ (zx hi)]
   rw [zfv (i:=j) (by omega),zfv (i:=n) (by omega),zlG (by omega)]⟩)
  (fun n hI H K D=>by
   show (znp g a n i k x.Items.length x).ev H K D=_
   unfold znp
   simp only [Wy.ev_i,Wy.ev_k,tT,Nat.lt_irrefl]) fuel 0 n (by omega) (Nat.zero_le _) (by simpa using hn)
 rw [List.drop_zero,zcw,zNo] at h
 exact h
theorem zEH:∀ (a:List Term) (i:Nat),i<a.length→(a.getD i default).Factors.length≤szTs a
 | [],i,h=>by simp at h
 | t::r,0,h=>by
  have:∀ l:List Factor,l.length≤szFs l:=fun l=>by
   induction l with
   | nil=>exact Nat.le_refl _
   | cons f r ih=>simp only [szFs,List.length_cons]; omega
  have:=this t.Factors
  simp only [szTs,List.getD_cons_zero]; omega
 | t::r,i+1,h=>by
  have:=zEH r i (by simpa using h)
  simp only [szTs,List.getD_cons_succ]; omega
theorem foldl_factors' (l:List Factor):∀ n:Nat,l.foldl (fun s t=>s+1+zeJ t.Atom) n=n+l.length+zbM l:=by
 induction l with
 | nil=>intro n; rw [zpN]; rfl
 | cons a r ih=>intro n; rw [List.foldl_cons,ih,zeO,List.length_cons]; omega
theorem zXU (a:List Term) (i:Nat) (hi:i<a.length) (hla:a.length≤1000000) (l:List Factor) (el:(a.getD i default).Factors=l) (hl:l.length≤1000000) (hg:∀ f∈l,(f.Atom.Args.length≤1000000∧f.Atom.Items.length≤1000000)∧(∀ y∈f.Atom.Args,g y=(true,(zP y:Int)))∧∀ y∈f.Atom.Items,g y.Ann=(true,(zP y.Ann:Int))) (fuel n:Nat) (hf:l.length<fuel) (hn:n+l.length+zbM l≤4611686018427387904):
  zF8 g fuel a n i 0=(true,(a,((n+l.length+zbM l:Nat):Int),(i:Int))):=by
 have h:=zcx (W:=zrU g) (z:=default) (l:=l) (fun k (n:Nat)=>(a,(n:Int),(i:Int),(k:Int),())) (fun _ _=>()) (fun y n=>.inl (n+1+zeJ y.Atom)) (fun n=>(a,(n:Int),(i:Int))) (fun k n=>n+(l.drop k).length+zbM (l.drop k)≤4611686018427387904)
  (fun k n hk hI=>.inl ⟨_,rfl,by rw [zbu hk,zeO,List.length_cons] at hI; omega,fun H K D=>by
   rw [zbu hk,zeO,zf8,List.length_cons] at hI
   obtain ⟨⟨h1,h2⟩,h3,h4⟩:=hg _ (zx hk)
   show (zn9 g a n i k).ev H K D=_
   unfold zn9
   simp only [Wy.ev_i,Wy.ev_k,Wy.ev_h,Wy.ev_bn,Wy.ev_d,tT,hi,el,hk,Atom.eta]
   rw [zfv (i:=n) (by omega)]
   rw [zXs g _ h1 h3 _ _ _ _ _ (by omega) (by omega)]
   simp only [cond_true,Int.toNat_natCast,Atom.eta]
   rw [zW4 g _ h2 h4 _ _ _ _ _ (by omega) (by omega)]
   simp only [cond_true]
   rw [zfv (by omega),zf8,Nat.add_assoc (n+1)]⟩)
  (fun n hI H K D=>by
   show (zn9 g a n i l.length).ev H K D=_
   unfold zn9
   simp only [Wy.ev_i,Wy.ev_k,tT,hi,el,Nat.lt_irrefl]) fuel 0 n (by omega) (Nat.zero_le _) (by simpa using hn)
 rw [List.drop_zero,zcw,foldl_factors'] at h
 exact h
theorem zXZ (l:List Term) (hl:l.length≤1000000) (hg:∀ t∈l,t.Factors.length≤1000000∧∀ f∈t.Factors,(f.Atom.Args.length≤1000000∧f.Atom.Items.length≤1000000)∧(∀ y∈f.Atom.Args,g y=(true,(zP y:Int)))∧∀ y∈f.Atom.Items,g y.Ann=(true,(zP y.Ann:Int))) (fuel n:Nat) (hf:l.length<fuel) (hn:n+zP l≤4611686018427387904):
  zFG g fuel l n 0=(true,((n+zP l:Nat):Int)):=by
 have h:=zcx (W:=zr2 g) (z:=default) (l:=l) (fun i (n:Nat)=>(l,(n:Int),(i:Int),())) (fun _ _=>()) (fun y n=>.inl (n+1+y.Factors.length+zbM y.Factors)) (fun n=>(n:Int)) (fun i n=>n+zP (l.drop i)≤4611686018427387904)
  (fun i n hi hI=>.inl ⟨_,rfl,by rw [zbu hi,zi9] at hI; omega,fun H K D=>by
   rw [zbu hi,zi9] at hI
   obtain ⟨h1,h3⟩:=hg _ (zx hi)
   have hz:=zEH l i hi
   show (zoi g l n i).ev H K D=_
   unfold zoi
   simp only [Wy.ev_i,Wy.ev_k,Wy.ev_h,Wy.ev_bn,Wy.ev_d,tT,hi,Atom.eta]
   rw [zfv (i:=n) (by omega)]
   rw [zXU g l i hi hl _ rfl h1 h3 _ _ (by omega) (by omega)]
   simp only [cond_true]
   rw [zfv (by omega)]⟩)
  (fun n hI H K D=>by
   show (zoi g l n l.length).ev H K D=_
   unfold zoi
   simp only [Wy.ev_i,Wy.ev_k,tT,Nat.lt_irrefl]) fuel 0 n (by omega) (Nat.zero_le _) (by simpa using hn)
 rw [List.drop_zero,zcw,zRB] at h
 exact h
end
theorem zTU {l:List (List Term)} {y:List Term} (h:y∈l):zP y≤zel l:=by
 induction l with
 | nil=>cases h
 | cons a r ih=>
  rw [zef]
  rcases List.mem_cons.1 h with rfl | h
  ·omega
  ·have:=ih h; omega
theorem zSz {l:List Weighted} {y:Weighted} (h:y∈l):zP y.Ann≤zcI l:=by
 induction l with
 | nil=>cases h
 | cons a r ih=>
  rw [zg7]
  rcases List.mem_cons.1 h with rfl | h
  ·omega
  ·have:=ih h; omega
theorem zQE {l:List Factor} {y:Factor} (h:y∈l):zeJ y.Atom≤zbM l:=by
 induction l with
 | nil=>cases h
 | cons a r ih=>
  rw [zeO]
  rcases List.mem_cons.1 h with rfl | h
  ·omega
  ·have:=ih h; omega
theorem zUU {l:List Term} {y:Term} (h:y∈l):zbM y.Factors≤zP l:=by
 induction l with
 | nil=>cases h
 | cons a r ih=>
  rw [zi9]
  rcases List.mem_cons.1 h with rfl | h
  ·omega
  ·have:=ih h; omega
theorem zQw {a:List Term} {t:Term} {f:Factor} (ht:t∈a) (hf:f∈t.Factors):zel f.Atom.Args+zcI f.Atom.Items≤zP a:=by
 have h1:=zUU ht; have h2:=zQE hf; rw [zf8] at h2; omega
theorem zGF {d:Nat} {a:List Term} (h:zq (d+1) a) {t:Term} (ht:t∈a):t.Factors.length≤1000000∧∀ f∈t.Factors,(f.Atom.Args.length≤1000000∧f.Atom.Items.length≤1000000)∧(∀ y∈f.Atom.Args,zq d y)∧∀ y∈f.Atom.Items,zq d y.Ann:=
 ⟨(h.2 t ht).1,fun f hf=>have q:=(h.2 t ht).2 f hf; ⟨⟨q.1.1,q.1.2.1⟩,q.2.1,fun y hy=>(q.2.2 y hy).2⟩⟩
theorem zOl:∀ (n d:Nat) (a:List Term),zq d a→d≤n→zP a≤4611686018427387904→zjO n a=(true,(zP a:Int))∧zph n a=(true,(zP a:Int))
 | n,0,a,h,hd,hs=>h.elim
 | 0,d+1,a,h,hd,hs=>by omega
 | n+1,d+1,a,h,hd,hs=>by
  have hg:=fun y (hy:zq d y) (hs:zP y≤4611686018427387904)=>zOl n d y hy (by omega) hs
  have hsub:∀ t∈a,t.Factors.length≤1000000∧∀ f∈t.Factors,(f.Atom.Args.length≤1000000∧f.Atom.Items.length≤1000000)∧(∀ y∈f.Atom.Args,zq d y∧zP y≤4611686018427387904)∧∀ y∈f.Atom.Items,zq d y.Ann∧zP y.Ann≤4611686018427387904:=fun t ht=>by
   obtain ⟨h1,h2⟩:=zGF h ht
   refine ⟨h1,fun f hf=> ?_⟩
   obtain ⟨h3,h4,h5⟩:=h2 f hf
   have h6:=zQw ht hf
   exact ⟨h3,fun y hy=>⟨h4 y hy,by have:=zTU hy; omega⟩,fun y hy=>⟨h5 y hy,by have:=zSz hy; omega⟩⟩
  constructor
  ·rw [zJo]
   unfold zoZ zru
   have h1:=zYX (zjO n) a h.1 (fun t ht=>⟨(hsub t ht).1,fun f hf=>⟨((hsub t ht).2 f hf).1,fun y hy=>(hg y (((hsub t ht).2 f hf).2.1 y hy).1 (((hsub t ht).2 f hf).2.1 y hy).2).1,fun y hy=>(hg _ (((hsub t ht).2 f hf).2.2 y hy).1 (((hsub t ht).2 f hf).2.2 y hy).2).1⟩⟩)
    (Int.toNat 0+a.length+(Int.ofNat a.length).toNat +Int.toNat 0+1) 0 (by omega) (by omega)
   rw [show ((0:Nat):Int)=(0:Int) from rfl,Nat.zero_add] at h1
   rw [Wy.fin_bn,show Int.ofNat a.length=(a.length:Int) from rfl] at *
   rw [h1]; rfl
  ·rw [zPz]
   unfold zxH zzr
   have h1:=zXZ (zph n) a h.1 (fun t ht=>⟨(hsub t ht).1,fun f hf=>⟨((hsub t ht).2 f hf).1,fun y hy=>(hg y (((hsub t ht).2 f hf).2.1 y hy).1 (((hsub t ht).2 f hf).2.1 y hy).2).2,fun y hy=>(hg _ (((hsub t ht).2 f hf).2.2 y hy).1 (((hsub t ht).2 f hf).2.2 y hy).2).2⟩⟩)
    (a.length+Int.toNat 0+Int.toNat 0+1+szTs a) 0 (by omega) (by omega)
   rw [show ((0:Nat):Int)=(0:Int) from rfl,Nat.zero_add] at h1
   rw [Wy.fin_bn,h1]; rfl
mutual
def zmK:Atom→Nat
 | ⟨k,_,a,_,i,_,_⟩=>if k=0 then 0 else 1+max (zkC a) (zjD i)
def zd1:List Factor→Nat
 | []=>0
 | ⟨x,_⟩::r=>max (zmK x) (zd1 r)
def zbt:List Term→Nat
 | []=>0
 | ⟨_,fs⟩::r=>max (zd1 fs) (zbt r)
def zkC:List (List Term)→Nat
 | []=>0
 | a::r=>max (zbt a) (zkC r)
def zjD:List Weighted→Nat
 | []=>0
 | ⟨_,a⟩::r=>max (zbt a) (zjD r)
end
theorem zwU (x:Atom):zmK x=if x.Kind=0 then 0 else 1+max (zkC x.Args) (zjD x.Items):=by cases x; rw [zmK]
theorem zxR (f:Factor) (r:List Factor):zd1 (f::r)=max (zmK f.Atom) (zd1 r):=by cases f; rw [zd1]
theorem zGL (t:Term) (r:List Term):zbt (t::r)=max (zd1 t.Factors) (zbt r):=by cases t; rw [zbt]
theorem zxm (a:List Term) (r:List (List Term)):zkC (a::r)=max (zbt a) (zkC r):=by rw [zkC]
theorem zvH (w:Weighted) (r:List Weighted):zjD (w::r)=max (zbt w.Ann) (zjD r):=by cases w; rw [zjD]
theorem zGK:zkC []=0:=by rw [zkC]
theorem zEp:zjD []=0:=by rw [zjD]
theorem zH3:zd1 []=0:=by rw [zd1]
theorem zPD:zbt []=0:=by rw [zbt]
theorem zVy (l:List (List Term)):∀ n:Nat,l.foldl (fun s t=>max s (zbt t)) n=max n (zkC l):=by
 induction l with
 | nil=>intro n; rw [zGK]; exact (Nat.max_zero n).symm
 | cons a r ih=>intro n; rw [List.foldl_cons,ih,zxm]; omega
theorem zTZ (l:List Weighted):∀ n:Nat,l.foldl (fun s t=>max s (zbt t.Ann)) n=max n (zjD l):=by
 induction l with
 | nil=>intro n; rw [zEp]; exact (Nat.max_zero n).symm
 | cons a r ih=>intro n; rw [List.foldl_cons,ih,zvH]; omega
theorem zTG (l:List (List Term)):∀ n:Nat,l.foldl (fun s t=>max s (1+zbt t)) (1+n)=1+max n (zkC l):=by
 induction l with
 | nil=>intro n; rw [zGK]; simp
 | cons a r ih=>intro n; rw [List.foldl_cons,show max (1+n) (1+zbt a)=1+max n (zbt a) by omega,ih,zxm]; omega
theorem zSB (l:List Weighted):∀ n:Nat,l.foldl (fun s t=>max s (1+zbt t.Ann)) (1+n)=1+max n (zjD l):=by
 induction l with
 | nil=>intro n; rw [zEp]; simp
 | cons a r ih=>intro n; rw [List.foldl_cons,show max (1+n) (1+zbt a.Ann)=1+max n (zbt a.Ann) by omega,ih,zvH]; omega
theorem zKm (l:List Factor):∀ n:Nat,l.foldl (fun s t=>max s (zmK t.Atom)) n=max n (zd1 l):=by
 induction l with
 | nil=>intro n; rw [zH3]; exact (Nat.max_zero n).symm
 | cons a r ih=>intro n; rw [List.foldl_cons,ih,zxR]; omega
theorem zRi (l:List Term):∀ n:Nat,l.foldl (fun s t=>max s (zd1 t.Factors)) n=max n (zbt l):=by
 induction l with
 | nil=>intro n; rw [zPD]; exact (Nat.max_zero n).symm
 | cons a r ih=>intro n; rw [List.foldl_cons,ih,zGL]; omega
theorem zMS (a b:Nat):(if (a:Int)>(b:Int) then (a:Int) else (b:Int))=((max b a:Nat):Int):=by split <;>omega
theorem zPo {d:Nat}:∀ l:List (List Term),(∀ y∈l,zbt y≤d)→zkC l≤d:=fun l=>by
 induction l with
 | nil=>intro _; rw [zGK]; omega
 | cons y r ih=>intro hy; rw [zxm]; have h1:=hy y (by simp); have h2:=ih fun z hz=>hy z (by simp [hz]); omega
theorem zN0 {d:Nat}:∀ l:List Weighted,(∀ y∈l,zbt y.Ann≤d)→zjD l≤d:=fun l=>by
 induction l with
 | nil=>intro _; rw [zEp]; omega
 | cons y r ih=>intro hy; rw [zvH]; have h1:=hy y (by simp); have h2:=ih fun z hz=>hy z (by simp [hz]); omega
theorem zRJ {d:Nat}:∀ l:List Factor,(∀ y∈l,zmK y.Atom≤d)→zd1 l≤d:=fun l=>by
 induction l with
 | nil=>intro _; rw [zH3]; omega
 | cons y r ih=>intro hy; rw [zxR]; have h1:=hy y (by simp); have h2:=ih fun z hz=>hy z (by simp [hz]); omega
theorem zWu {d:Nat}:∀ l:List Term,(∀ y∈l,zd1 y.Factors≤d)→zbt l≤d:=fun l=>by
 induction l with
 | nil=>intro _; rw [zPD]; omega
 | cons y r ih=>intro hy; rw [zGL]; have h1:=hy y (by simp); have h2:=ih fun z hz=>hy z (by simp [hz]); omega
theorem zIN:∀ (d:Nat) (a:List Term),zq d a→zbt a≤d
 | 0,a,h=>h.elim
 | d+1,a,h=>zWu a fun t ht=>zRJ _ fun f hf=>by
  obtain ⟨_,h2⟩:=zGF h ht
  obtain ⟨_,h4,h5⟩:=h2 f hf
  have q1:=zPo f.Atom.Args fun y hy=>zIN d y (h4 y hy)
  have q2:=zN0 f.Atom.Items fun y hy=>zIN d y.Ann (h5 y hy)
  rw [zwU]; split <;>omega
section
variable (g:List Term→Bool×Int)
theorem zZj (l:List (List Term)) (hl:l.length≤1000000) (hg:∀ y∈l,g y=(true,(zbt y:Int))) (nn:Int) (t13:List Term) (t14 t15:Int) (t20:List Factor) (t21 t22:Int) (f:Factor) (fuel n:Nat) (hf:l.length<fuel):
  zsA g fuel nn n t13 t14 t15 t20 t21 t22 l l.length 0 f=(true,(nn,((max n (zkC l):Nat):Int),t13,t14,t15,t20,t21,t22,f)):=by
 have h:=zcx (W:=zjr g) (z:=default) (l:=l) (fun i (n:Nat)=>(nn,(),(n:Int),t13,t14,t15,t20,t21,t22,l,(l.length:Int),(i:Int),())) (fun _ _=>(f,())) (fun y n=>.inl (max n (zbt y))) (fun n=>(nn,(n:Int),t13,t14,t15,t20,t21,t22,f)) (fun i n=>True)
  (fun i n hi hI=>.inl ⟨_,rfl,trivial,fun H K D=>by
   show (zgV g nn n t13 t14 t15 t20 t21 t22 l l.length i f).ev H K D=_
   unfold zgV
   simp only [Wy.ev_i,Wy.ev_k,Wy.ev_h,Wy.ev_bn,Wy.ev_d,tT,hi,hg _ (zx hi),zMS]
   rw [zfv (by omega)]⟩)
  (fun n hI H K D=>by
   show (zgV g nn n t13 t14 t15 t20 t21 t22 l l.length l.length f).ev H K D=_
   unfold zgV
   simp only [Wy.ev_i,Wy.ev_k,tT,Nat.lt_irrefl]) fuel 0 n (by omega) (Nat.zero_le _) trivial
 rw [List.drop_zero,zcw,zVy] at h
 exact h
theorem zZo (l:List Weighted) (hl:l.length≤1000000) (hg:∀ y∈l,g y.Ann=(true,(zbt y.Ann:Int))) (nn:Int) (t13:List Term) (t14 t15:Int) (t20:List Factor) (t21 t22:Int) (fuel n:Nat) (hf:l.length<fuel):
  zsn g fuel nn n t13 t14 t15 t20 t21 t22 l l.length 0=(true,(nn,((max n (zjD l):Nat):Int),t13,t14,t15,t20,t21,t22)):=by
 have h:=zcx (W:=zjI g) (z:=default) (l:=l) (fun i (n:Nat)=>(nn,(n:Int),t13,t14,t15,t20,t21,t22,l,(l.length:Int),(i:Int),())) (fun _ _=>()) (fun y n=>.inl (max n (zbt y.Ann))) (fun n=>(nn,(n:Int),t13,t14,t15,t20,t21,t22)) (fun i n=>True)
  (fun i n hi hI=>.inl ⟨_,rfl,trivial,fun H K D=>by
   show (zgD g nn n t13 t14 t15 t20 t21 t22 l l.length i).ev H K D=_
   unfold zgD
   simp only [Wy.ev_i,Wy.ev_k,Wy.ev_h,Wy.ev_bn,Wy.ev_d,tT,hi,hg _ (zx hi),zMS]
   rw [zfv (by omega)]⟩)
  (fun n hI H K D=>by
   show (zgD g nn n t13 t14 t15 t20 t21 t22 l l.length l.length).ev H K D=_
   unfold zgD
   simp only [Wy.ev_i,Wy.ev_k,tT,Nat.lt_irrefl]) fuel 0 n (by omega) (Nat.zero_le _) trivial
 rw [List.drop_zero,zcw,zTZ] at h
 exact h
def NesG (x:Atom):Prop:=(x.Args.length≤1000000∧x.Items.length≤1000000)∧(zmK x≤1000∧(∀ y∈x.Args,zbt y≤1000)∧∀ y∈x.Items,zbt y.Ann≤1000)∧(∀ y∈x.Args,g y=(true,(zbt y:Int)))∧∀ y∈x.Items,g y.Ann=(true,(zbt y.Ann:Int))
theorem zZy (l:List Factor) (hl:l.length≤1000000) (hg:∀ f∈l,NesG g f.Atom) (t13:List Term) (t14 t15:Int) (fuel n:Nat) (hf:l.length<fuel):
  zt8 g fuel n t13 t14 t15 l l.length 0=(true,(((max n (zd1 l):Nat):Int),t13,t14,t15)):=by
 have h:=zcx (W:=zj9 g) (z:=default) (l:=l) (fun i (n:Nat)=>((n:Int),t13,t14,t15,l,(l.length:Int),(i:Int),())) (fun _ _=>()) (fun y n=>.inl (max n (zmK y.Atom))) (fun n=>((n:Int),t13,t14,t15)) (fun i n=>True)
  (fun i n hi hI=>.inl ⟨_,rfl,trivial,fun H K D=>by
   obtain ⟨⟨h1,h2⟩,⟨h5,_,_⟩,h3,h4⟩:=hg _ (zx hi)
   show (zhy g n t13 t14 t15 l l.length i).ev H K D=_
   unfold zhy
   simp only [Wy.ev_i,Wy.ev_k,Wy.ev_h,Wy.ev_bn,Wy.ev_d,tT,hi,Atom.eta]
   generalize l.getD i default=f at *
   rw [zwU] at h5 ⊢
   by_cases hk:f.Atom.Kind=0
   ·have e:(f.Atom.Kind==0)=true:=by simp [hk]
    simp only [e,cond_true]
    rw [if_pos hk,Nat.max_zero,zfv (by omega)]
   ·have e:(f.Atom.Kind==0)=false:=by simp [hk]
    simp only [e,cond_false]
    rw [if_neg hk] at h5 ⊢
    have q:=fun fuel hf=>zZj g _ h1 h3 n t13 t14 t15 l l.length i f fuel 0 hf
    rw [Nat.zero_max,show ((0:Nat):Int)=(0:Int) from rfl] at q
    rw [q _ (by omega)]
    simp only [cond_true,Int.toNat_natCast]
    rw [zZo g _ h2 h4 n t13 t14 t15 l l.length i _ _ (by omega)]
    simp only [cond_true]
    rw [zfv (by omega),show (1:Int)=((1:Nat):Int) from rfl,zlG (n:=1) (by omega),zMS]⟩)
  (fun n hI H K D=>by
   show (zhy g n t13 t14 t15 l l.length l.length).ev H K D=_
   unfold zhy
   simp only [Wy.ev_i,Wy.ev_k,tT,Nat.lt_irrefl]) fuel 0 n (by omega) (Nat.zero_le _) trivial
 rw [List.drop_zero,zcw,zKm] at h
 exact h
theorem zZD (l:List Term) (hl:l.length≤1000000) (hg:∀ t∈l,t.Factors.length≤1000000∧∀ f∈t.Factors,NesG g f.Atom) (fuel n:Nat) (hf:l.length<fuel):
  zt6 g fuel n l l.length 0=(true,((max n (zbt l):Nat):Int)):=by
 have h:=zcx (W:=zkd g) (z:=default) (l:=l) (fun i (n:Nat)=>((n:Int),l,(l.length:Int),(i:Int),())) (fun _ _=>()) (fun y n=>.inl (max n (zd1 y.Factors))) (fun n=>(n:Int)) (fun i n=>True)
  (fun i n hi hI=>.inl ⟨_,rfl,trivial,fun H K D=>by
   obtain ⟨h1,h3⟩:=hg _ (zx hi)
   show (zhF g n l l.length i).ev H K D=_
   unfold zhF
   simp only [Wy.ev_i,Wy.ev_k,Wy.ev_h,Wy.ev_bn,Wy.ev_d,tT,hi,Atom.eta]
   rw [zZy g _ h1 h3 _ _ _ _ _ (by omega)]
   simp only [cond_true]
   rw [zfv (by omega)]⟩)
  (fun n hI H K D=>by
   show (zhF g n l l.length l.length).ev H K D=_
   unfold zhF
   simp only [Wy.ev_i,Wy.ev_k,tT,Nat.lt_irrefl]) fuel 0 n (by omega) (Nat.zero_le _) trivial
 rw [List.drop_zero,zcw,zRi] at h
 exact h
theorem zYk (x:Atom) (hx:NesG g x) (a:List Term) (most i k:Int) (fuel n:Nat) (hf:x.Args.length<fuel):
  zrB g fuel a most i k ((1+n:Nat):Int) 0 x=(true,(a,most,i,k,((1+max n (zkC x.Args):Nat):Int),x)):=by
 obtain ⟨⟨h1,h2⟩,⟨h5,h6,h7⟩,h3,h4⟩:=hx
 have h:=zcx (W:=zns g) (z:=default) (l:=x.Args) (fun j (n:Nat)=>(a,most,i,k,(),(n:Int),(j:Int),())) (fun _ _=>(x,())) (fun y n=>.inl (max n (1+zbt y))) (fun n=>(a,most,i,k,(n:Int),x)) (fun i n=>True)
  (fun j n hi hI=>.inl ⟨_,rfl,trivial,fun H K D=>by
   have h8:=h6 _ (zx hi)
   show (zkr g a most i k n j x).ev H K D=_
   unfold zkr
   simp only [Wy.ev_i,Wy.ev_k,Wy.ev_h,Wy.ev_bn,Wy.ev_d,tT,hi,h3 _ (zx hi)]
   rw [zfv (by omega),show (1:Int)=((1:Nat):Int) from rfl,zlG (n:=1) (by omega),zMS]⟩)
  (fun n hI H K D=>by
   show (zkr g a most i k n x.Args.length x).ev H K D=_
   unfold zkr
   simp only [Wy.ev_i,Wy.ev_k,tT,Nat.lt_irrefl]) fuel 0 (1+n) (by omega) (Nat.zero_le _) trivial
 rw [List.drop_zero,zcw,zTG] at h
 exact h
theorem zX5 (x:Atom) (hx:NesG g x) (a:List Term) (most i k:Int) (fuel n:Nat) (hf:x.Items.length<fuel):
  zyL g fuel a most i k ((1+n:Nat):Int) 0 x=(true,(a,most,i,k,((1+max n (zjD x.Items):Nat):Int))):=by
 obtain ⟨⟨h1,h2⟩,⟨h5,h6,h7⟩,h3,h4⟩:=hx
 have h:=zcx (W:=znq g) (z:=default) (l:=x.Items) (fun j (n:Nat)=>(a,most,i,k,(),(n:Int),(j:Int),())) (fun _ _=>(x,())) (fun y n=>.inl (max n (1+zbt y.Ann))) (fun n=>(a,most,i,k,(n:Int))) (fun i n=>True)
  (fun j n hi hI=>.inl ⟨_,rfl,trivial,fun H K D=>by
   have h8:=h7 _ (zx hi)
   show (zkj g a most i k n j x).ev H K D=_
   unfold zkj
   simp only [Wy.ev_i,Wy.ev_k,Wy.ev_h,Wy.ev_bn,Wy.ev_d,tT,hi,h4 _ (zx hi)]
   rw [zfv (by omega),show (1:Int)=((1:Nat):Int) from rfl,zlG (n:=1) (by omega),zMS]⟩)
  (fun n hI H K D=>by
   show (zkj g a most i k n x.Items.length x).ev H K D=_
   unfold zkj
   simp only [Wy.ev_i,Wy.ev_k,tT,Nat.lt_irrefl]) fuel 0 (1+n) (by omega) (Nat.zero_le _) trivial
 rw [List.drop_zero,zcw,zSB] at h
 exact h
theorem RNes_12' (x:Atom) (hx:NesG g x) (a:List Term) (most i k:Int) (fuel:Nat) (hf:x.Args.length<fuel):zrB g fuel a most i k 1 0 x=(true,(a,most,i,k,((1+zkC x.Args:Nat):Int),x)):=by
 have h:=zYk g x hx a most i k fuel 0 hf
 rw [Nat.zero_max] at h; exact h
theorem zYS (a:List Term) (i:Nat) (hi:i<a.length) (hla:a.length≤1000000) (l:List Factor) (el:(a.getD i default).Factors=l) (hl:l.length≤1000000) (hg:∀ f∈l,NesG g f.Atom) (fuel n:Nat) (hf:l.length<fuel):
  zA4 g fuel a n i 0=(true,(a,((max n (zd1 l):Nat):Int),(i:Int))):=by
 have h:=zcx (W:=zok g) (z:=default) (l:=l) (fun k (n:Nat)=>(a,(n:Int),(i:Int),(k:Int),())) (fun _ _=>()) (fun y n=>.inl (max n (zmK y.Atom))) (fun n=>(a,(n:Int),(i:Int))) (fun k n=>True)
  (fun k n hk hI=>.inl ⟨_,rfl,trivial,fun H K D=>by
   have hx:=hg _ (zx hk)
   have h5:=hx.2.1.1
   show (zk4 g a n i k).ev H K D=_
   unfold zk4
   simp only [Wy.ev_i,Wy.ev_k,Wy.ev_h,Wy.ev_bn,Wy.ev_d,tT,hi,el,hk,Atom.eta]
   generalize l.getD k default=f at *
   rw [zwU] at h5 ⊢
   by_cases hz:f.Atom.Kind=0
   ·have e:(f.Atom.Kind==0)=true:=by simp [hz]
    simp only [e,cond_true]
    rw [if_pos hz,Nat.max_zero,zfv (by omega)]
   ·have e:(f.Atom.Kind==0)=false:=by simp [hz]
    have hx1:=hx.1
    simp only [e,cond_false]
    rw [if_neg hz] at h5 ⊢
    rw [RNes_12' g _ hx _ _ _ _ _ (by omega)]
    simp only [cond_true,Int.toNat_natCast,Atom.eta]
    rw [zX5 g _ hx _ _ _ _ _ _ (by omega)]
    simp only [cond_true]
    rw [zfv (by omega),zMS]⟩)
  (fun n hI H K D=>by
   show (zk4 g a n i l.length).ev H K D=_
   unfold zk4
   simp only [Wy.ev_i,Wy.ev_k,tT,hi,el,Nat.lt_irrefl]) fuel 0 n (by omega) (Nat.zero_le _) trivial
 rw [List.drop_zero,zcw,zKm] at h
 exact h
theorem zY2 (l:List Term) (hl:l.length≤1000000) (hg:∀ t∈l,t.Factors.length≤1000000∧∀ f∈t.Factors,NesG g f.Atom) (fuel n:Nat) (hf:l.length<fuel):
  zAF g fuel l n 0=(true,((max n (zbt l):Nat):Int)):=by
 have h:=zcx (W:=zoa g) (z:=default) (l:=l) (fun i (n:Nat)=>(l,(n:Int),(i:Int),())) (fun _ _=>()) (fun y n=>.inl (max n (zd1 y.Factors))) (fun n=>(n:Int)) (fun i n=>True)
  (fun i n hi hI=>.inl ⟨_,rfl,trivial,fun H K D=>by
   obtain ⟨h1,h3⟩:=hg _ (zx hi)
   have hz:=zEH l i hi
   show (zlf g l n i).ev H K D=_
   unfold zlf
   simp only [Wy.ev_i,Wy.ev_k,Wy.ev_h,Wy.ev_bn,Wy.ev_d,tT,hi,Atom.eta]
   rw [zYS g l i hi hl _ rfl h1 h3 _ _ (by omega)]
   simp only [cond_true]
   rw [zfv (by omega)]⟩)
  (fun n hI H K D=>by
   show (zlf g l n l.length).ev H K D=_
   unfold zlf
   simp only [Wy.ev_i,Wy.ev_k,tT,Nat.lt_irrefl]) fuel 0 n (by omega) (Nat.zero_le _) trivial
 rw [List.drop_zero,zcw,zRi] at h
 exact h
end
theorem zPW:∀ (n d:Nat) (a:List Term),zq d a→d≤n→d≤100→ze6 n a=(true,(zbt a:Int))∧zjn n a=(true,(zbt a:Int))
 | n,0,a,h,hd,hs=>h.elim
 | 0,d+1,a,h,hd,hs=>by omega
 | n+1,d+1,a,h,hd,hs=>by
  have hg:=fun y (hy:zq d y)=>zPW n d y hy (by omega) (by omega)
  have hsub:∀ t∈a,t.Factors.length≤1000000∧∀ f∈t.Factors,NesG (ze6 n) f.Atom∧NesG (zjn n) f.Atom:=fun t ht=>by
   obtain ⟨h1,h2⟩:=zGF h ht
   refine ⟨h1,fun f hf=> ?_⟩
   obtain ⟨h3,h4,h5⟩:=h2 f hf
   have q1:∀ y∈f.Atom.Args,zbt y≤d:=fun y hy=>zIN d y (h4 y hy)
   have q2:∀ y∈f.Atom.Items,zbt y.Ann≤d:=fun y hy=>zIN d y.Ann (h5 y hy)
   have q3:zmK f.Atom≤1000:=by
    have r1:=zPo _ q1; have r2:=zN0 _ q2
    rw [zwU]; split <;>omega
   have q4:zmK f.Atom≤1000∧(∀ y∈f.Atom.Args,zbt y≤1000)∧∀ y∈f.Atom.Items,zbt y.Ann≤1000:=⟨q3,fun y hy=>by have:=q1 y hy; omega,fun y hy=>by have:=q2 y hy; omega⟩
   exact ⟨⟨h3,q4,fun y hy=>(hg y (h4 y hy)).1,fun y hy=>(hg _ (h5 y hy)).1⟩,⟨h3,q4,fun y hy=>(hg y (h4 y hy)).2,fun y hy=>(hg _ (h5 y hy)).2⟩⟩
  constructor
  ·rw [zFq]
   unfold zml zoH
   have h1:=zZD (ze6 n) a h.1 (fun t ht=>⟨(hsub t ht).1,fun f hf=>((hsub t ht).2 f hf).1⟩) (Int.toNat 0+a.length+(Int.ofNat a.length).toNat +Int.toNat 0+1) 0 (by omega)
   rw [show ((0:Nat):Int)=(0:Int) from rfl,Nat.zero_max] at h1
   rw [Wy.fin_bn,show Int.ofNat a.length=(a.length:Int) from rfl] at *
   rw [h1]; rfl
  ·rw [zLr]
   unfold zsd zuq
   have h1:=zY2 (zjn n) a h.1 (fun t ht=>⟨(hsub t ht).1,fun f hf=>((hsub t ht).2 f hf).2⟩) (a.length+Int.toNat 0+Int.toNat 0+1+szTs a) 0 (by omega)
   rw [show ((0:Nat):Int)=(0:Int) from rfl,Nat.zero_max] at h1
   rw [Wy.fin_bn,h1]; rfl
theorem zsl (x y:Int):zeg x y=(true,cmpI x y):=by
 unfold zeg zuv zn1 zxI cmpI
 by_cases h1:x<y
 ·simp [h1,Wy.fin_i,Wy.fin_k]
 ·by_cases h2:y<x <;>simp [h1,h2,Wy.fin_i,Wy.fin_k]
theorem zqi (x y:Int):zhX x y=(true,cmpI x y):=by
 unfold zhX zrx zlm zuB cmpI
 by_cases h1:x<y
 ·simp [h1,Wy.fin_i,Wy.fin_k]
 ·by_cases h2:y<x <;>simp [h1,h2,Wy.fin_i,Wy.fin_k]
def zpA:List Int→Int
 | []=>0
 | x::r=>if x=0 then zpA r else x
theorem zT5 (l:List Int) (hl:l.length≤1000000):∀ (n i:Nat),l.length<i+n→i≤l.length→∃ r,zBB n 0 l l.length i=(true,r)∧(r=.inl (zpA (l.drop i))∨(r=.inr 0∧zpA (l.drop i)=0))
 | 0,i,h,h2=>by omega
 | n+1,i,h,h2=>by
  show ∃ r,(zBF 0 l l.length i).ev (fun x y=>zBB n x.1 x.2.1 x.2.2.1 x.2.2.2.1) (fun r=>(true,r)) (false,.inl default)=(true,r)∧_
  unfold zBF
  by_cases hi:i<l.length
  ·simp only [Wy.ev_i,Wy.ev_k,Wy.ev_h,Int.ofNat_eq_natCast,zuS,zem,decide_true,decide_false,Bool.and_self,Bool.true_and,Bool.and_true,cond_true,cond_false,Int.toNat_natCast,Bool.not_true,Bool.not_false,hi]
   obtain ⟨r,h1,h3⟩:=zT5 l hl n (i+1) (by omega) (by omega)
   rw [zbu hi,zT (by omega),h1]
   generalize l.getD i default=x
   by_cases hx:x=0
   ·have e:(x != 0)=false:=by simp [hx]
    simp only [e,cond_false,zpA,hx,if_true]
    exact ⟨r,rfl,h3⟩
   ·have e:(x != 0)=true:=by simp [hx]
    simp only [e,cond_true,zpA,hx,if_false]
    exact ⟨_,rfl,.inl rfl⟩
  ·simp only [Wy.ev_i,Wy.ev_k,Wy.ev_h,Int.ofNat_eq_natCast,zuS,zem,decide_true,decide_false,Bool.and_self,Bool.true_and,Bool.and_true,cond_true,cond_false,Int.toNat_natCast,Bool.not_true,Bool.not_false,hi,zcE hi]
   exact ⟨_,rfl,.inr ⟨rfl,rfl⟩⟩
theorem zqU (l:List Int) (hl:l.length≤1000000):zmk l=(true,zpA l):=by
 unfold zmk zED
 obtain ⟨r,h1,h2⟩:=zT5 l hl (Int.toNat 0+l.length+(Int.ofNat l.length).toNat +Int.toNat 0+1) 0 (by simp; omega) (by omega)
 rw [show ((0:Nat):Int)=(0:Int) from rfl] at h1
 rw [Wy.fin_bn,show Int.ofNat l.length=(l.length:Int) from rfl] at *
 rw [h1]
 rw [List.drop_zero] at h2
 rcases h2 with rfl | ⟨rfl,h2⟩
 ·rfl
 ·rw [h2]; rfl
section
variable {α:Type}
def lexG (c:α→α→Int):List α→List α→Int
 | [],[]=>0
 | [],_::_=> -1
 | _::_,[]=>1
 | x::a,y::b=>if c x y=0 then lexG c a b else c x y
theorem zGm (e:α→TT) {c:α→α→Int}:∀ (a b:List α),(∀ x∈a,∀ y∈b,c x y=cmpT (e x) (e y))→lexG c a b=cmpL (a.map e) (b.map e)
 | [],[],_=>by simp only [lexG,List.map,cmpL]
 | [],_::_,_=>by simp only [lexG,List.map,cmpL]
 | _::_,[],_=>by simp only [lexG,List.map,cmpL]
 | x::a,y::b,h=>by
  simp only [lexG,List.map,cmpL]
  rw [h x (by simp) y (by simp),zGm e a b fun x hx y hy=>h x (by simp [hx]) y (by simp [hy])]
variable [Inhabited α]
def zR4 (g:α→α→Bool×Int) (s1:List α) (s2:List α) (t11:List α) (t12:Int) (t13:Int):Wy (List α×List α×Unit×List α×Int×Int×Unit) (Unit) (Int⊕(List α×List α)):=.i (decide (t13<t12)) (.i (decide ((0:Int)≤t13)&&decide (t13<Int.ofNat t11.length)) (.i (decide (t13≥Int.ofNat s2.length)) (.k (.inl (1:Int))) (.i (decide ((0:Int)≤t13)&&decide (t13<Int.ofNat s2.length)) (.bn (g (t11.getD t13.toNat default) (s2.getD t13.toNat default)) fun r0=>.i (r0 != (0:Int)) (.k (.inl (r0))) (.h (s1,s2,(),t11,t12,(IntKind.i64.wrap (t13+(1:Int))),()) ())) .d)) .d) (.k (.inr (s1,s2)))
def zUY (g:α→α→Bool×Int) (x:List α×List α×Unit×List α×Int×Int×Unit) (y:Unit):Wy (List α×List α×Unit×List α×Int×Int×Unit) (Unit) (Int⊕(List α×List α)):=zR4 g x.1 x.2.1 x.2.2.2.1 x.2.2.2.2.1 x.2.2.2.2.2.1
def zVb (g:α→α→Bool×Int) (n:Nat) (s1:List α) (s2:List α) (t11:List α) (t12:Int) (t13:Int):Bool×(Int⊕(List α×List α)):=zX (zUY g) (.inl default) n (s1,s2,(),t11,t12,t13,()) ()
def CF (g:α→α→Bool×Int) (s1 s2:List α):Bool×Int:=(.bn (zVb g (s1.length+s2.length+s1.length+(Int.ofNat s1.length).toNat +Int.toNat (0:Int)+(1:Nat)) s1 s2 s1 (Int.ofNat s1.length) (0:Int)) fun r2=>.i (isL r2) (.k (getL r2)) (.i (decide (Int.ofNat (getR r2).fst.length<Int.ofNat (getR r2).snd.length)) (.k (-1:Int)) (.k (0:Int))):Wy0 Int).fin default
theorem zUu (g:α→α→Bool×Int) (c:α→α→Int) (a b:List α) (ha:a.length≤1000000) (hg:∀ x∈a,∀ y∈b,g x y=(true,c x y)):∀ (n i:Nat),a.length<i+n→i≤a.length→i≤b.length→
  ∃ r,zVb g n a b a a.length i=(true,r)∧((r=.inl (lexG c (a.drop i) (b.drop i)))∨(r=.inr (a,b)∧lexG c (a.drop i) (b.drop i)=if a.length<b.length then -1 else 0))
 | 0,i,h,h2,h3=>by omega
 | n+1,i,h,h2,h3=>by
  show ∃ r,(zR4 g a b a a.length i).ev (fun x y=>zVb g n x.1 x.2.1 x.2.2.2.1 x.2.2.2.2.1 x.2.2.2.2.2.1) (fun r=>(true,r)) (false,.inl default)=(true,r)∧_
  unfold zR4
  by_cases hi:i<a.length
  ·by_cases hi':i<b.length
   ·have hg':¬ b.length≤i:=by omega
    simp only [Wy.ev_i,Wy.ev_k,Wy.ev_h,Wy.ev_bn,Wy.ev_d,Int.ofNat_eq_natCast,zuS,zem,decide_true,decide_false,Bool.and_self,Bool.true_and,Bool.and_true,cond_true,cond_false,Int.toNat_natCast,Bool.not_true,Bool.not_false,hi,hi',zVU,hg',hg _ (zx hi) _ (zx hi')]
    rw [zbu hi,zbu hi',zT (by omega)]
    simp only [lexG]
    generalize c (a.getD i default) (b.getD i default)=z
    by_cases hx:z=0
    ·have e:(z != 0)=false:=by simp [hx]
     simp only [e,cond_false,hx,if_true]
     exact zUu g c a b ha hg n (i+1) (by omega) (by omega) (by omega)
    ·have e:(z != 0)=true:=by simp [hx]
     simp only [e,cond_true,hx,if_false]
     exact ⟨_,rfl,.inl rfl⟩
   ·have hg':b.length≤i:=by omega
    simp only [Wy.ev_i,Wy.ev_k,Wy.ev_h,Wy.ev_bn,Wy.ev_d,Int.ofNat_eq_natCast,zuS,zem,decide_true,decide_false,Bool.and_self,Bool.true_and,Bool.and_true,cond_true,cond_false,Int.toNat_natCast,Bool.not_true,Bool.not_false,hi,zVU,hg']
    refine ⟨_,rfl,.inl ?_⟩
    rw [zbu hi,zcE hi']; rfl
  ·simp only [Wy.ev_i,Wy.ev_k,Wy.ev_h,Wy.ev_bn,Wy.ev_d,Int.ofNat_eq_natCast,zuS,zem,decide_true,decide_false,Bool.and_self,Bool.true_and,Bool.and_true,cond_true,cond_false,Int.toNat_natCast,Bool.not_true,Bool.not_false,hi]
   refine ⟨_,rfl,.inr ⟨rfl, ?_⟩⟩
   rw [zcE hi]
   by_cases hi':i<b.length
   ·rw [zbu hi',if_pos (by omega)]; rfl
   ·rw [zcE hi',if_neg (by omega)]; rfl
theorem zZL (g:α→α→Bool×Int) (c:α→α→Int) (a b:List α) (ha:a.length≤1000000) (hg:∀ x∈a,∀ y∈b,g x y=(true,c x y)):CF g a b=(true,lexG c a b):=by
 unfold CF
 obtain ⟨r,h1,h2⟩:=zUu g c a b ha hg (a.length+b.length+a.length+(Int.ofNat a.length).toNat +Int.toNat 0+1) 0 (by simp; omega) (by omega) (by omega)
 rw [show ((0:Nat):Int)=(0:Int) from rfl] at h1
 rw [Wy.fin_bn,show Int.ofNat a.length=(a.length:Int) from rfl] at *
 rw [h1]
 simp only [List.drop_zero] at h2
 rcases h2 with rfl | ⟨rfl,h2⟩
 ·rfl
 ·rw [h2]
  simp only [Wy.fin_i,Wy.fin_k,Int.ofNat_eq_natCast,zuS,zem,decide_true,decide_false,Bool.and_self,Bool.true_and,Bool.and_true,cond_true,cond_false,Int.toNat_natCast,Bool.not_true,Bool.not_false,isL,getR]
  by_cases h3:a.length<b.length <;>simp [h3]
end
theorem zML {α:Type} [Inhabited α] (e:α→TT) (g:α→α→Bool×Int) (a b:List α) (ha:a.length≤1000000) (hg:∀ x∈a,∀ y∈b,g x y=(true,cmpT (e x) (e y))):CF g a b=(true,cmpL (a.map e) (b.map e)):=by
 rw [zZL g (fun x y=>cmpT (e x) (e y)) a b ha hg,zGm e a b fun _ _ _ _=>rfl]
theorem Factor.eta2 (x:Factor):(FactorOf.mk (Atom.mk x.Atom.Kind x.Atom.Row x.Atom.Args x.Atom.Func x.Atom.Items x.Atom.Op x.Atom.Bound) x.Exp:Factor)=x:=by rw [Atom.eta]
theorem zWQ (g):zbF g=CF g:=rfl
theorem zVt (g):zbq g=CF g:=by
 have h:zbl g=zUY g:=by
  funext x y
  unfold zbl zds zUY zR4
  rw [Factor.eta2,Factor.eta2]
 funext a b
 unfold zbq zb6 zdq
 rw [h]; rfl
theorem zYE (g):zbm g=CF g:=rfl
theorem zXa (g):zbx g=CF g:=rfl
theorem zEa (a b:Value):znZ a b=(true,cmpT (trV a) (trV b)):=by
 unfold znZ zxn
 have h:(strings_Compare a.Text b.Text).2=cmpT (trB a.Text) (trB b.Text):=by rw [← zT1]; rfl
 simp only [zsl,zqi,Wy.fin_bn,cond_true,h]
 rw [zqU _ (by simp)]
 simp only [Wy.fin_k,cond_true,trV,cmpT,cmpL,zpA]
 rfl
theorem zIo:∀ n,
  (∀ d a b,zq d a→10*d≤n→ze4 n a b=(true,cmpL (zcW a) (zcW b)))∧
  (∀ d a b,zq d a→10*d≤n+1→zbG n a b=(true,cmpL (zcW a) (zcW b)))∧
  (∀ d x y,zfw (zq d) x.Factors→10*d+10≤n+2→zhA n x y=(true,cmpT (zta x) (zta y)))∧
  (∀ d x y,zfw (zq d) x.Factors→10*d+10≤n+3→zf4 n x y=(true,cmpL (zbC x.Factors) (zbC y.Factors)))∧
  (∀ d l l',zfw (zq d) l→10*d+10≤n+4→zbI n l l'=(true,cmpL (zbC l) (zbC l')))∧
  (∀ d x y,zcJ (zq d) x.Atom→10*d+10≤n+5→zeX n x y=(true,cmpT (zm9 x) (zm9 y)))∧
  (∀ d x y,zcJ (zq d) x→10*d+10≤n+6→zf9 n x y=(true,cmpT (zdI x) (zdI y)))∧
  (∀ d a b,a.length≤1000000→(∀ x∈a,zq d x)→10*d+10≤n+7→zbn n a b=(true,cmpL (zq4 a) (zq4 b)))∧
  (∀ d a b,a.length≤1000000→(∀ x∈a,zq d x.Ann)→10*d+10≤n+7→zby n a b=(true,cmpL (zgg a) (zgg b)))∧
  (∀ d x y,zq d x.Ann→10*d+10≤n+8→zep n x y=(true,cmpT (zbh x) (zbh y)))
 | 0=>by
  refine ⟨?_, ?_, ?_, ?_, ?_, ?_, ?_, ?_, ?_, ?_⟩
  ·intro d a b h hd; have:d=0:=by omega
   subst this; exact h.elim
  ·intro d a b h hd; have:d=0:=by omega
   subst this; exact h.elim
  all_goals (intros; omega)
 | n+1=>by
  obtain ⟨h1,h2,h3,h4,h5,h6,h7,h8,h9,h10⟩:=zIo n
  refine ⟨?_, ?_, ?_, ?_, ?_, ?_, ?_, ?_, ?_, ?_⟩
  ·intro d a b h hd
   rw [zFm]
   unfold zmu zoA
   rw [Wy.fin_bn,h2 d a b h (by omega)]; rfl
  ·intro d a b h hd
   cases d with
   | zero=>exact h.elim
   | succ d=>
    rw [zha,zWQ,zAX,zAX]
    exact zML zta _ a b h.1 fun x hx y hy=>h3 d x y (h.2 x hx) (by omega)
  ·intro d x y h hd
   rw [zBQ]
   unfold zj6 zmb
   rw [Wy.fin_bn,h4 d x y h (by omega)]
   simp only [cond_true,Wy.fin_bn,zqi]
   rw [zqU _ (by simp)]
   obtain ⟨c,l⟩:=x; obtain ⟨c',l'⟩:=y
   simp only [cond_true,Wy.fin_k,zpA,zta,cmpT,cmpL]
   rfl
  ·intro d x y h hd
   rw [zzG]
   unfold ziS zk1
   rw [Wy.fin_bn,h5 d _ _ h (by omega)]; rfl
  ·intro d l l' h hd
   rw [zhB,zVt,zq7,zq7]
   exact zML zm9 _ l l' h.1 fun x hx y hy=>h6 d x y (h.2 x hx) (by omega)
  ·intro d x y h hd
   rw [zw8]
   unfold zh9 zj5
   rw [Atom.eta,Atom.eta,Wy.fin_bn,h7 d _ _ h (by omega)]
   simp only [cond_true,Wy.fin_bn,zsl]
   rw [zqU _ (by simp)]
   obtain ⟨c,l⟩:=x; obtain ⟨c',l'⟩:=y
   simp only [cond_true,Wy.fin_k,zpA,zm9,cmpT,cmpL]
   rfl
  ·intro d x y h hd
   rw [zzd]
   unfold ziR zlg
   simp only [cond_true,Wy.fin_bn,zsl,zEa,h8 d x.Args y.Args h.1.1 h.2.1 (by omega),h9 d x.Items y.Items h.1.2.1 (fun w hw=>(h.2.2 w hw).2) (by omega)]
   rw [zqU _ (by simp)]
   obtain ⟨k,r,a,f,i,o,v⟩:=x; obtain ⟨k',r',a',f',i',o',v'⟩:=y
   simp only [cond_true,Wy.fin_k,zpA,zdI,cmpT,cmpL]
   rfl
  ·intro d a b h0 h hd
   rw [zew,zYE,zxa,zxa]
   exact zML (fun x=>TT.l (zcW x)) _ a b h0 fun x hx y hy=>by rw [h1 d x y (h x hx) (by omega)]; simp only [cmpT]
  ·intro d a b h0 h hd
   rw [zft,zXa,zkG,zkG]
   exact zML zbh _ a b h0 fun x hx y hy=>h10 d x y (h x hx) (by omega)
  ·intro d x y h hd
   rw [zzb]
   unfold ziV zk3
   simp only [cond_true,Wy.fin_bn,zEa,h1 d _ _ h (by omega)]
   rw [zqU _ (by simp)]
   obtain ⟨c,l⟩:=x; obtain ⟨c',l'⟩:=y
   simp only [cond_true,Wy.fin_k,zpA,zbh,cmpT,cmpL]
   rfl
theorem zHo {d:Nat} {a:List Term} (h:zq d a) (hd:d≤100) (b:List Term):zsM a b=(true,cmpL (zcW a) (zcW b)):=(zIo 1000).1 d a b h (by omega)
theorem zq0 {d:Nat} {x:Term} (h:zfw (zq d) x.Factors) (hd:d≤99) (y:Term):zbL x y=(true,cmpL (zbC x.Factors) (zbC y.Factors)):=(zIo 1000).2.2.2.1 d x y h (by omega)
theorem zqT {d:Nat} {x:Atom} (h:zcJ (zq d) x) (hd:d≤99) (y:Atom):zhL x y=(true,cmpT (zdI x) (zdI y)):=(zIo 1000).2.2.2.2.2.2.1 d x y h (by omega)
theorem zlN {d:Nat} {x:Weighted} (h:zq d x.Ann) (hd:d≤99) (y:Weighted):zbc x y=(true,cmpT (zbh x) (zbh y)):=(zIo 1000).2.2.2.2.2.2.2.2.2 d x y h (by omega)
theorem zyz {d:Nat} {a:List Term} (h:zq d a) (hd:d≤100) (b:List Term):ziz a b=(true,decide (a=b)):=by
 unfold ziz zsr
 rw [Wy.fin_bn,zHo h hd]
 simp only [cond_true,Wy.fin_k]
 congr 1
 by_cases e:a=b
 ·subst e; rw [zMB]; simp
 ·have:cmpL (zcW a) (zcW b)≠0:=fun h=>e (zAr _ _ (zDo _ _ h))
  simp [e,this]
theorem zNp (s:ByteArray):∀ (n i:Nat) (r:List UInt8),s.size≤i+n→ByteArray.toList.loop s i r=r.reverse++s.data.toList.drop i
 | 0,i,r,h=>by
  rw [ByteArray.toList.loop,if_neg (by omega),List.drop_eq_nil_of_le (by rw [← Lib.size_eq]; omega),List.append_nil]
 | n+1,i,r,h=>by
  rw [ByteArray.toList.loop]
  by_cases hi:i<s.size
  ·have hi':i<s.data.toList.length:=by rw [← Lib.size_eq]; exact hi
   rw [if_pos hi,zNp s n (i+1) _ (by omega),List.drop_eq_getElem_cons hi',List.reverse_cons,List.append_assoc]
   congr 1
   have:s.get! i=s.data.toList[i]:=by
    have h':i<s.data.size:=hi
    show s.data[i]! =s.data.toList[i]
    rw [getElem!_pos s.data i h']; rfl
   rw [this]; rfl
  ·rw [if_neg hi,List.drop_eq_nil_of_le (by rw [← Lib.size_eq]; omega),List.append_nil]
theorem zF2 (s:ByteArray):s.toList=s.data.toList:=by
 rw [ByteArray.toList,zNp s s.size 0 [] (by omega)]; rfl
theorem zAb {s t:ByteArray} (h:s.data.toList=t.data.toList):s=t:=by
 cases s; cases t
 congr 1
 exact Array.toList_inj.1 h
theorem zVx (s t:ByteArray):(s.toList==t.toList)=decide (s.data.toList=t.data.toList):=by
 rw [zF2,zF2]
 cases hb:(s.data.toList==t.data.toList) with
 | true=>rw [decide_eq_true (beq_iff_eq.1 hb)]
 | false=>rw [decide_eq_false (fun h=>by rw [beq_iff_eq.2 h] at hb; cases hb)]
theorem zL4 (s t:ByteArray):(s.toList==t.toList)=decide (s=t):=by
 rw [zVx]
 by_cases h:s=t
 ·rw [decide_eq_true h,decide_eq_true (by rw [h])]
 ·rw [decide_eq_false h,decide_eq_false fun e=>h (zAb e)]
theorem bne0 (z w:Int):(z != w)= !decide (z=w):=by by_cases h:z=w <;>simp [h]
theorem zKl:∀ a b:List UInt8,Op.bytesLess a b=decide (Lib.compareBytes a b<0)
 | [],[]=>by simp [Op.bytesLess,Lib.compareBytes]
 | _::_,[]=>by simp [Op.bytesLess,Lib.compareBytes]
 | [],_::_=>by simp [Op.bytesLess,Lib.compareBytes]
 | x::a,y::b=>by
  simp only [Op.bytesLess,Lib.compareBytes]
  by_cases p:x<y
  ·simp [p]
  ·by_cases q:y<x
   ·have hne:¬ x=y:=fun e=>by subst e; exact p q
    simp [p,q,hne]
   ·have he:x=y:=UInt8.toNat_inj.1 (by rw [UInt8.lt_iff_toNat_lt] at p q; omega)
    subst he
    simp [p,zKl a b]
theorem zD8 (a b:Value):zlE a b=(true,cmpT (trV a) (trV b)):=by
 unfold zlE zxi ztI zEg
 rw [zL4,zF2,zF2,zKl,zT1]
 simp only [trV,cmpT,cmpL,cmpI]
 simp only [Wy.fin_i,Wy.fin_bn,Wy.fin_k,cond_true,bne0]
 by_cases h1:a.Kind=b.Kind
 ·by_cases h2:a.Int=b.Int
  ·by_cases h3:a.Text=b.Text
   ·simp [h1,h2,h3,zLv]
   ·have h4:cmpT (trB a.Text) (trB b.Text)≠0:=fun e=>by
     have:=zBN _ _ (TT.l.inj (ztE _ _ e))
     exact h3 (zAb this)
    have h5:=zS8 (trB a.Text) (trB b.Text)
    simp only [trB,cmpT] at h4 h5
    simp only [trB,cmpT]
    rcases h5 with h5 | h5 | h5
    ·simp [h1,h2,h3,h5]
    ·exact absurd h5 h4
    ·simp [h1,h2,h3,h5]
  ·by_cases h3:a.Int<b.Int
   ·simp [h1,h2,h3]
   ·simp [h1,h2,h3,show b.Int<a.Int by omega]
 ·by_cases h3:a.Kind<b.Kind
  ·simp [h1,h3]
  ·simp [h1,h3,show b.Kind<a.Kind by omega]
theorem zlu (x y:Int):zcq x y=(true,cmpI x y):=by
 unfold zcq zzl cmpI
 by_cases h1:x<y
 ·simp [h1,Wy.fin_i,Wy.fin_k]
 ·by_cases h2:y<x <;>simp [h1,h2,Wy.fin_i,Wy.fin_k]
theorem zKI (x y:RowID):znd x y=(true,if cmpI x.Table y.Table=0 then cmpI x.Seq y.Seq else cmpI x.Table y.Table):=by
 unfold znd zsu
 simp only [zlu,Wy.fin_i,Wy.fin_bn,Wy.fin_k,cond_true,bne0]
 by_cases h:cmpI x.Table y.Table=0
 ·simp [h]
 ·simp [h]
section
variable {α:Type} [Inhabited α]
def zR2 (p q:α→α→Bool×Int) (a:List α) (b:List α) (i:Int):Wy (List α×List α×Int×Unit) (Unit) (Int⊕(List α×List α)):=.i (decide (i<Int.ofNat a.length)) (.i (decide (i<Int.ofNat b.length)) (.i (decide ((0:Int)≤i)&&decide (i<Int.ofNat a.length)) (.i (decide ((0:Int)≤i)&&decide (i<Int.ofNat b.length)) (.bn (p (a.getD i.toNat default) (b.getD i.toNat default)) fun r1=>.i (r1 != (0:Int)) (.k (.inl (r1))) (.i (decide ((0:Int)≤i)&&decide (i<Int.ofNat a.length)) (.i (decide ((0:Int)≤i)&&decide (i<Int.ofNat b.length)) (.bn (q (a.getD i.toNat default) (b.getD i.toNat default)) fun r0=>.i (r0 != (0:Int)) (.k (.inl (r0))) (.h (a,b,(IntKind.i64.wrap (i+(1:Int))),()) ())) .d) .d)) .d) .d) (.k (.inr (a,b)))) (.k (.inr (a,b)))
def zVf (p q:α→α→Bool×Int) (x:List α×List α×Int×Unit) (y:Unit):Wy (List α×List α×Int×Unit) (Unit) (Int⊕(List α×List α)):=zR2 p q x.1 x.2.1 x.2.2.1
def zVa (p q:α→α→Bool×Int) (n:Nat) (a:List α) (b:List α) (i:Int):Bool×(Int⊕(List α×List α)):=zX (zVf p q) (.inl default) n (a,b,i,()) ()
def RG (p q:α→α→Bool×Int) (a b:List α):Bool×Int:=(.bn (zVa p q (a.length+b.length+Int.toNat (0:Int)+(1:Nat)) a b (0:Int)) fun r5=>.i (isL r5) (.k (getL r5)) (.bn (zcq (Int.ofNat (getR r5).fst.length) (Int.ofNat (getR r5).snd.length)) fun r4=>.k r4):Wy0 Int).fin default
theorem zUx (p q:α→α→Bool×Int) (c1 c2:α→α→Int) (a b:List α) (ha:a.length≤1000000) (hp:∀ x∈a,∀ y∈b,p x y=(true,c1 x y)) (hq:∀ x∈a,∀ y∈b,q x y=(true,c2 x y)):∀ (n i:Nat),a.length<i+n→i≤a.length→i≤b.length→
  ∃ r,zVa p q n a b i=(true,r)∧((r=.inl (lexG (fun x y=>if c1 x y=0 then c2 x y else c1 x y) (a.drop i) (b.drop i)))∨(r=.inr (a,b)∧lexG (fun x y=>if c1 x y=0 then c2 x y else c1 x y) (a.drop i) (b.drop i)=cmpI a.length b.length))
 | 0,i,h,h2,h3=>by omega
 | n+1,i,h,h2,h3=>by
  show ∃ r,(zR2 p q a b i).ev (fun x y=>zVa p q n x.1 x.2.1 x.2.2.1) (fun r=>(true,r)) (false,.inl default)=(true,r)∧_
  unfold zR2
  by_cases hi:i<a.length
  ·by_cases hi':i<b.length
   ·simp only [Wy.ev_i,Wy.ev_k,Wy.ev_h,Wy.ev_bn,Wy.ev_d,tT,hi,hi',hp _ (zx hi) _ (zx hi'),hq _ (zx hi) _ (zx hi')]
    rw [zbu hi,zbu hi',zT (by omega)]
    simp only [lexG]
    generalize c1 (a.getD i default) (b.getD i default)=z1
    generalize c2 (a.getD i default) (b.getD i default)=z2
    by_cases hx:z1=0
    ·have e:(z1 != 0)=false:=by simp [hx]
     by_cases hx2:z2=0
     ·have e2:(z2 != 0)=false:=by simp [hx2]
      simp only [e,e2,cond_false,hx,hx2,if_true]
      exact zUx p q c1 c2 a b ha hp hq n (i+1) (by omega) (by omega) (by omega)
     ·have e2:(z2 != 0)=true:=by simp [hx2]
      simp only [e,e2,cond_false,cond_true,hx,hx2,if_true,if_false]
      exact ⟨_,rfl,.inl rfl⟩
    ·have e:(z1 != 0)=true:=by simp [hx]
     simp only [e,cond_true,hx,if_false]
     exact ⟨_,rfl,.inl rfl⟩
   ·simp only [Wy.ev_i,Wy.ev_k,Wy.ev_h,Wy.ev_bn,Wy.ev_d,tT,hi,hi']
    refine ⟨_,rfl,.inr ⟨rfl, ?_⟩⟩
    rw [zbu hi,zcE hi']
    unfold cmpI; rw [if_neg (by omega),if_pos (by omega)]; rfl
  ·simp only [Wy.ev_i,Wy.ev_k,Wy.ev_h,Wy.ev_bn,Wy.ev_d,tT,hi]
   refine ⟨_,rfl,.inr ⟨rfl, ?_⟩⟩
   rw [zcE hi]
   by_cases hi':i<b.length
   ·rw [zbu hi']; unfold cmpI; rw [if_pos (by omega)]; rfl
   ·rw [zcE hi']; unfold cmpI; rw [if_neg (by omega),if_neg (by omega)]; rfl
theorem zZG (p q:α→α→Bool×Int) (c1 c2:α→α→Int) (a b:List α) (ha:a.length≤1000000) (hp:∀ x∈a,∀ y∈b,p x y=(true,c1 x y)) (hq:∀ x∈a,∀ y∈b,q x y=(true,c2 x y)):RG p q a b=(true,lexG (fun x y=>if c1 x y=0 then c2 x y else c1 x y) a b):=by
 unfold RG
 obtain ⟨r,h1,h2⟩:=zUx p q c1 c2 a b ha hp hq (a.length+b.length+Int.toNat 0+1) 0 (by simp; omega) (by omega) (by omega)
 rw [show ((0:Nat):Int)=(0:Int) from rfl] at h1
 rw [Wy.fin_bn,h1]
 simp only [List.drop_zero] at h2
 rcases h2 with rfl | ⟨rfl,h2⟩
 ·rfl
 ·rw [h2]
  simp only [Wy.fin_i,Wy.fin_k,Wy.fin_bn,zlu,tT,isL,getR]
end
theorem zP6 {α:Type} [Inhabited α] (e:α→TT) (p q:α→α→Bool×Int) (c1 c2:α→α→Int) (a b:List α) (ha:a.length≤1000000) (hp:∀ x∈a,∀ y∈b,p x y=(true,c1 x y)) (hq:∀ x∈a,∀ y∈b,q x y=(true,c2 x y))
  (hc:∀ x y,(if c1 x y=0 then c2 x y else c1 x y)=cmpT (e x) (e y)):RG p q a b=(true,cmpL (a.map e) (b.map e)):=by
 rw [zZG p q c1 c2 a b ha hp hq,zGm e a b fun x _ y _=>hc x y]
theorem zXp (g):zrL g=RG (fun x y=>g x.Factors y.Factors) (fun x y=>zcq x.Coeff y.Coeff):=rfl
theorem zUT (g):zij g=RG (fun x y=>g x.Atom y.Atom) (fun x y=>zcq x.Exp y.Exp):=by
 have h:zf3 g=zVf (fun x y=>g x.Atom y.Atom) (fun x y=>zcq x.Exp y.Exp):=by
  funext x y
  unfold zf3 zrY zVf zR2
  rw [Atom.eta,Atom.eta]
 funext a b
 unfold zij znb zsb
 rw [h]; rfl
theorem zW6 (g):zmh g=RG (fun x y=>zlE x.Value y.Value) (fun x y=>g x.Ann y.Ann):=rfl
theorem zQ5 (gI) (g:List Term→List Term→Bool×Int) (a b:Atom) (ha:a.Args.length≤1000000) (hg:∀ x∈a.Args,∀ y∈b.Args,g x y=(true,cmpL (zcW x) (zcW y))):∀ (n i:Nat),a.Args.length<i+n→i≤a.Args.length→i≤b.Args.length→
  ∃ r,zoJ gI g n i a b=(true,r)∧((r=.inl (lexG (fun x y=>cmpL (zcW x) (zcW y)) (a.Args.drop i) (b.Args.drop i))∧lexG (fun x y=>cmpL (zcW x) (zcW y)) (a.Args.drop i) (b.Args.drop i)≠0)∨(r=.inr (a,b)∧lexG (fun x y=>cmpL (zcW x) (zcW y)) (a.Args.drop i) (b.Args.drop i)=cmpI a.Args.length b.Args.length))
 | 0,i,h,h2,h3=>by omega
 | n+1,i,h,h2,h3=>by
  show ∃ r,(zou gI g i a b).ev (fun x y=>zoJ gI g n x.2.2.1 y.1 y.2.1) (fun r=>(true,r)) (false,.inl default)=(true,r)∧_
  unfold zou
  by_cases hi:i<a.Args.length
  ·by_cases hi':i<b.Args.length
   ·simp only [Wy.ev_i,Wy.ev_k,Wy.ev_h,Wy.ev_bn,Wy.ev_d,tT,hi,hi',hg _ (zx hi) _ (zx hi')]
    rw [zbu hi,zbu hi',zT (by omega)]
    simp only [lexG]
    generalize cmpL (zcW (a.Args.getD i default)) (zcW (b.Args.getD i default))=z1
    by_cases hx:z1=0
    ·have e:(z1 != 0)=false:=by simp [hx]
     simp only [e,cond_false,hx,if_true]
     exact zQ5 gI g a b ha hg n (i+1) (by omega) (by omega) (by omega)
    ·have e:(z1 != 0)=true:=by simp [hx]
     simp only [e,cond_true,hx,if_false]
     exact ⟨_,rfl,.inl ⟨rfl,hx⟩⟩
   ·simp only [Wy.ev_i,Wy.ev_k,Wy.ev_h,Wy.ev_bn,Wy.ev_d,tT,hi,hi']
    refine ⟨_,rfl,.inr ⟨rfl, ?_⟩⟩
    rw [zbu hi,zcE hi']
    unfold cmpI; rw [if_neg (by omega),if_pos (by omega)]; rfl
  ·simp only [Wy.ev_i,Wy.ev_k,Wy.ev_h,Wy.ev_bn,Wy.ev_d,tT,hi]
   refine ⟨_,rfl,.inr ⟨rfl, ?_⟩⟩
   rw [zcE hi]
   by_cases hi':i<b.Args.length
   ·rw [zbu hi']; unfold cmpI; rw [if_pos (by omega)]; rfl
   ·rw [zcE hi']; unfold cmpI; rw [if_neg (by omega),if_neg (by omega)]; rfl
theorem zYn (gI) (g:List Term→List Term→Bool×Int) (x y:Atom) (ha:x.Args.length≤1000000) (hg:∀ a∈x.Args,∀ b∈y.Args,g a b=(true,cmpL (zcW a) (zcW b)))
  (hI:gI x.Items y.Items=(true,cmpL (zgg x.Items) (zgg y.Items))):zkh gI g x y=(true,cmpT (zdI x) (zdI y)):=by
 unfold zkh zpp
 rw [Atom.eta,Atom.eta]
 obtain ⟨r,h1,h2⟩:=zQ5 gI g x y ha hg (Int.toNat 0+1+x.Args.length+x.Items.length+y.Args.length+y.Items.length) 0 (by omega) (by omega) (by omega)
 rw [show ((0:Nat):Int)=(0:Int) from rfl] at h1
 simp only [List.drop_zero] at h2
 rw [zGm (fun a=>TT.l (zcW a)) x.Args y.Args (fun a _ b _=>by simp only [cmpT]), ← zxa, ← zxa] at h2
 simp only [zlu,zKI,Wy.fin_bn,Wy.fin_i,Wy.fin_k,cond_true,h1]
 obtain ⟨k,r0,a,f,i,o,v⟩:=x; obtain ⟨k',r',a',f',i',o',v'⟩:=y
 simp only [zdI,cmpT,cmpL,bne0] at *
 by_cases e1:cmpI k k'=0
 rotate_left
 ·simp [e1]
 by_cases e2:cmpI r0.Table r'.Table=0
 rotate_left
 ·simp [e1,e2]
 by_cases e3:cmpI r0.Seq r'.Seq=0
 rotate_left
 ·simp [e1,e2,e3]
 rcases h2 with ⟨rfl,h2⟩ | ⟨rfl,h2⟩
 ·simp [e1,e2,e3,h2,isL,getL]
 simp only [e1,e2,e3,h2,isL,getR,tT,hI,if_true]
 by_cases e4:cmpI (a.length:Int) (a'.length:Int)=0
 rotate_left
 ·simp [e4]
 by_cases e5:cmpI f f'=0
 rotate_left
 ·simp [e4,e5]
 by_cases e6:cmpL (zgg i) (zgg i')=0
 rotate_left
 ·simp [e4,e5,e6]
 by_cases e7:cmpI o o'=0
 rotate_left
 ·simp [e4,e5,e6,e7]
 simp [e4,e5,e6,e7,zD8]
theorem zEm:∀ n,
  (∀ d a b,zq d a→10*d≤n→zls n a b=(true,cmpL (zcW a) (zcW b)))∧
  (∀ d l l',zfw (zq d) l→10*d+10≤n+1→zim n l l'=(true,cmpL (zbC l) (zbC l')))∧
  (∀ d x y,zcJ (zq d) x→10*d+10≤n+2→zkn n x y=(true,cmpT (zdI x) (zdI y)))∧
  (∀ d a b,a.length≤1000000→(∀ x∈a,zq d x.Ann)→10*d+10≤n+3→zjk n a b=(true,cmpL (zgg a) (zgg b)))
 | 0=>by
  refine ⟨?_, ?_, ?_, ?_⟩
  ·intro d a b h hd; have:d=0:=by omega
   subst this; exact h.elim
  all_goals (intros; omega)
 | n+1=>by
  obtain ⟨h1,h2,h3,h4⟩:=zEm n
  refine ⟨?_, ?_, ?_, ?_⟩
  ·intro d a b h hd
   cases d with
   | zero=>exact h.elim
   | succ d=>
    rw [zLs,zXp,zAX,zAX]
    exact zP6 zta _ _ (fun x y=>cmpL (zbC x.Factors) (zbC y.Factors)) (fun x y=>cmpI x.Coeff y.Coeff) a b h.1 (fun x hx y hy=>h2 d _ _ (h.2 x hx) (by omega)) (fun x _ y _=>zlu _ _) fun x y=>by
     obtain ⟨c,l⟩:=x; obtain ⟨c',l'⟩:=y
     simp only [zta,cmpT,cmpL]
     by_cases e:cmpI c c'=0 <;>simp [e]
  ·intro d l l' h hd
   rw [zDn,zUT,zq7,zq7]
   exact zP6 zm9 _ _ (fun x y=>cmpT (zdI x.Atom) (zdI y.Atom)) (fun x y=>cmpI x.Exp y.Exp) l l' h.1 (fun x hx y hy=>h3 d _ _ (h.2 x hx) (by omega)) (fun x _ y _=>zlu _ _) fun x y=>by
    obtain ⟨c,l⟩:=x; obtain ⟨c',l'⟩:=y
    simp only [zm9,cmpT,cmpL]
    by_cases e:cmpI l l'=0 <;>simp [e]
  ·intro d x y h hd
   rw [zGD]
   exact zYn _ _ x y h.1.1 (fun a ha b _=>h1 d a b (h.2.1 a ha) (by omega)) (h4 d _ _ h.1.2.1 (fun w hw=>(h.2.2 w hw).2) (by omega))
  ·intro d a b h0 h hd
   rw [zFu,zW6,zkG,zkG]
   exact zP6 zbh _ _ (fun x y=>cmpT (trV x.Value) (trV y.Value)) (fun x y=>cmpL (zcW x.Ann) (zcW y.Ann)) a b h0 (fun x _ y _=>zD8 _ _) (fun x hx y _=>h1 d _ _ (h x hx) (by omega)) fun x y=>by
    obtain ⟨c,l⟩:=x; obtain ⟨c',l'⟩:=y
    simp only [zbh,cmpT,cmpL]
    by_cases e:cmpL (zcW l) (zcW l')=0 <;>simp [e]
theorem zOA {d:Nat} {a:List Term} (h:zq d a) (hd:d≤100) (b:List Term):zB5 a b=(true,cmpL (zcW a) (zcW b)):=(zEm 1000).1 d a b h (by omega)
theorem znE {d:Nat} {l:List Factor} (h:zfw (zq d) l) (hd:d≤99) (l':List Factor):zju l l'=(true,cmpL (zbC l) (zbC l')):=(zEm 1000).2.1 d l l' h (by omega)
theorem zqB {d:Nat} {x:Atom} (h:zcJ (zq d) x) (hd:d≤99) (y:Atom):zjQ x y=(true,cmpT (zdI x) (zdI y)):=(zEm 1000).2.2.1 d x y h (by omega)
theorem zwu {d:Nat} {a:List Weighted} (h0:a.length≤1000000) (h:∀ x∈a,zq d x.Ann) (hd:d≤99) (b:List Weighted):zn6 a b=(true,cmpL (zgg a) (zgg b)):=(zEm 1000).2.2.2 d a b h0 h (by omega)
theorem zBD {d:Nat} {a:List Term} (h:zq d a) (hd:d≤100) (b:List Term):zog a b=(true,decide (a=b)):=by
 unfold zog zEB
 rw [Wy.fin_bn,zOA h hd]
 simp only [cond_true,Wy.fin_k]
 congr 1
 by_cases e:a=b
 ·subst e; rw [zMB]; simp
 ·have:cmpL (zcW a) (zcW b)≠0:=fun h=>e (zAr _ _ (zDo _ _ h))
  simp [e,this]
end Go.Proofs.YtnolcogncjijpaaGreatDoor
end
