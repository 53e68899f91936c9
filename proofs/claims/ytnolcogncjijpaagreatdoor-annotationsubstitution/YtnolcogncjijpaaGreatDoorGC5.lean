/- Texts of this claim, joined (the program, its functions in plain words, and what they compute). -/
import Derived.Test.YtnolcogncjijpaaGreatDoorGC1
import Derived.Test.YtnolcogncjijpaaGreatDoorGA2
import Derived.Test.YtnolcogncjijpaaGreatDoorGC4
set_option autoImplicit false
set_option linter.unusedVariables false
set_option linter.unusedSectionVars false
set_option linter.unusedSimpArgs false
set_option maxRecDepth 1000000
set_option maxHeartbeats 0
noncomputable section
namespace Go.Proofs.YtnolcogncjijpaaGreatDoor
open Go Go.Ab
def zRK:Cx ty:=mkCx base 26 [(24,zsg)] [] [] [] [] []
def zEb (a:List Term) (e:Int) (b:List Term) (f:Int):Wy0 (Bool):=.i (e==f) (.bn (zog a b) fun r0=>.i (r0) (.i (e==0) (.k true) (.k (Int.ofNat a.length==0))) (.k false)) (.k false)
def ztD (a:List Term) (e:Int) (b:List Term) (f:Int):Bool×Bool:=(zEb a e b f).fin default
def zHD (r:Bool):ARes ty:=⟨[.pure (.lit (.bool r))],[]⟩
def zL1:AL base (List Term×Int×List Term×Int×Unit):=zf (zg (vSl 42)) (zf (zg (vInt .i64)) (zf (zg (vSl 42)) (zf (zg (vInt .i64)) aNil)))
def zFN:Ab.Spec ty:=zk zL1 fun x=>((ztD x.1 x.2.1 x.2.2.1 x.2.2.2.1).1,zHD (ztD x.1 x.2.1 x.2.2.1 x.2.2.2.1).2)
theorem zN3:Sound Tryz.prog base 15 zFN:=
 zn (cx':=zRK) zJ zl zw (zm ⟨zvL,trivial⟩) Tryz.call15 Tryz.func15 (c:=body Tryz.f15) (by kernel_rfl) (zh (l:=[]) (by kernel_rfl) trivial) (sg:=⟨[.pure],[]⟩) (A:=zL1) (res:=zHD) (W:=fun x=>zEb x.1 x.2.1 x.2.2.1 x.2.2.2.1) (z:=default)
end Go.Proofs.YtnolcogncjijpaaGreatDoor
/- What lies inside lists of terms and factors: fuel for loops. -/
namespace Go.Proofs.YtnolcogncjijpaaGreatDoor
def szFs:List Factor→Nat
 | []=>0
 | f::r=>f.Exp.toNat +f.Atom.Args.length+f.Atom.Items.length+1+szFs r
def szTs:List Term→Nat
 | []=>0
 | t::r=>szFs t.Factors+1+szTs r
end Go.Proofs.YtnolcogncjijpaaGreatDoor
namespace Go.Proofs.YtnolcogncjijpaaGreatDoor
open Go Go.Ab
def zFZ (r:Bool):ARes ty:=⟨[.pure (.lit (.bool r))],[]⟩
def zKn:AL base (List Term×Unit):=zf (zg (vSl 42)) aNil
def zqP (F:List Term→Bool×Bool):Ab.Spec ty:=zk zKn fun x=>((F x.1).1,zFZ (F x.1).2)
def zyu (r:Bool):ARes ty:=⟨[.pure (.lit (.bool r))],[]⟩
def zCR:AL base (Atom×Unit):=zf (zg (vAgg 48)) aNil
def zo5 (F:Atom→Bool×Bool):Ab.Spec ty:=zk zCR fun x=>((F x.1).1,zyu (F x.1).2)
def zCe (r:Int):ARes ty:=⟨[.pure (.lit (.int .i64 r))],[]⟩
def zF5:AL base (List Term×Unit):=zf (zg (vSl 42)) aNil
def zoj (F:List Term→Bool×Int):Ab.Spec ty:=zk zF5 fun x=>((F x.1).1,zCe (F x.1).2)
abbrev ttTref05Nesting0:=List Term×Int×Int×Int×Unit×Int×Int×Unit
abbrev ttTref05Nesting1:=List Term×Int×Int×Int×Int×Atom
abbrev ttTref05Nesting2:=List Term×Int×Int×Int×Int
abbrev ttTref05Nesting3:=List Term×Int×Int×Int×Unit
abbrev ttTref05Nesting4:=List Term×Int×Int
abbrev ttTref05Nesting5:=List Term×Int×Int×Unit
def zkr (zu:List Term→Bool×Int) (a:List Term) (most:Int) (i:Int) (k:Int) (n_:Int) (j:Int) (x_:Atom):Wy ttTref05Nesting0 (Atom×Unit) ttTref05Nesting1:=.i (decide (j<Int.ofNat x_.Args.length)) (.i (decide (0≤j)&&decide (j<Int.ofNat x_.Args.length)) (.bn (zu (x_.Args.getD j.toNat default)) fun r0=>.h (a,most,i,k,(),(if IntKind.i64.wrap (1+r0)>n_ then IntKind.i64.wrap (1+r0) else n_),(IntKind.i64.wrap (j+1)),()) (x_,())) .d) (.k (a,most,i,k,n_,x_))
def zns (zu:List Term→Bool×Int) (x:ttTref05Nesting0) (y:Atom×Unit):Wy ttTref05Nesting0 (Atom×Unit) ttTref05Nesting1:=zkr zu x.1 x.2.1 x.2.2.1 x.2.2.2.1 x.2.2.2.2.2.1 x.2.2.2.2.2.2.1 y.1
def zrB (zu:List Term→Bool×Int) (n:Nat) (a:List Term) (most:Int) (i:Int) (k:Int) (n_:Int) (j:Int) (x_:Atom):Bool×ttTref05Nesting1:=zX (zns zu) default n (a,most,i,k,(),n_,j,()) (x_,())
def zwR (r:ttTref05Nesting1):LTree ty:=.done (.exit 4) [.sl 42 r.1,.lit (.int .i64 r.2.1),.lit (.int .i64 r.2.2.1),.lit (.int .i64 r.2.2.2.1),.ptr 300 0,.lit (.int .i64 r.2.2.2.2.1)] [.box (base.enc 48 r.2.2.2.2.2) false]
def zyt:LL ty ttTref05Nesting0:=za (lSl 42) (za (lInt .i64) (za (lInt .i64) (za (lInt .i64) (za (ze9 300 0) (za (lInt .i64) (za (lInt .i64) zH))))))
def zyB:BL ty (Atom×Unit):=bBox (zgz (fun x=>(⟨x.1,⟨x.2.1,x.2.2.1⟩,x.2.2.2.1,x.2.2.2.2.1,x.2.2.2.2.2.1,x.2.2.2.2.2.2.1,⟨x.2.2.2.2.2.2.2.1,x.2.2.2.2.2.2.2.2.1,x.2.2.2.2.2.2.2.2.2.1⟩⟩:Atom)) (fun x=>(x.Kind,x.Row.Table,x.Row.Seq,x.Args,x.Func,x.Items,x.Op,x.Bound.Kind,x.Bound.Int,x.Bound.Text,())) (fun _=>rfl) (za (lInt .i64) (za (lInt .i64) (za (lInt .i64) (za (lSl 23) (za (lInt .i64) (za (lSl 52) (za (lInt .i64) (za (lInt .i64) (za (lInt .i64) (za lStr zH))))))))))) false (bNil)
def zkj (zu:List Term→Bool×Int) (a:List Term) (most:Int) (i:Int) (k:Int) (n_:Int) (j:Int) (x_:Atom):Wy ttTref05Nesting0 (Atom×Unit) ttTref05Nesting2:=.i (decide (j<Int.ofNat x_.Items.length)) (.i (decide (0≤j)&&decide (j<Int.ofNat x_.Items.length)) (.bn (zu (x_.Items.getD j.toNat default).Ann) fun r2=>.h (a,most,i,k,(),(if IntKind.i64.wrap (1+r2)>n_ then IntKind.i64.wrap (1+r2) else n_),(IntKind.i64.wrap (j+1)),()) (x_,())) .d) (.k (a,most,i,k,n_))
def znq (zu:List Term→Bool×Int) (x:ttTref05Nesting0) (y:Atom×Unit):Wy ttTref05Nesting0 (Atom×Unit) ttTref05Nesting2:=zkj zu x.1 x.2.1 x.2.2.1 x.2.2.2.1 x.2.2.2.2.2.1 x.2.2.2.2.2.2.1 y.1
def zyL (zu:List Term→Bool×Int) (n:Nat) (a:List Term) (most:Int) (i:Int) (k:Int) (n_:Int) (j:Int) (x_:Atom):Bool×ttTref05Nesting2:=zX (znq zu) default n (a,most,i,k,(),n_,j,()) (x_,())
def zxW (r:ttTref05Nesting2):LTree ty:=.done (.exit 6) [.sl 42 r.1,.lit (.int .i64 r.2.1),.lit (.int .i64 r.2.2.1),.lit (.int .i64 r.2.2.2.1),.lit (.int .i64 r.2.2.2.2)] []
def zyq:LL ty ttTref05Nesting0:=za (lSl 42) (za (lInt .i64) (za (lInt .i64) (za (lInt .i64) (za (ze9 300 0) (za (lInt .i64) (za (lInt .i64) zH))))))
def zyJ:BL ty (Atom×Unit):=bBox (zgz (fun x=>(⟨x.1,⟨x.2.1,x.2.2.1⟩,x.2.2.2.1,x.2.2.2.2.1,x.2.2.2.2.2.1,x.2.2.2.2.2.2.1,⟨x.2.2.2.2.2.2.2.1,x.2.2.2.2.2.2.2.2.1,x.2.2.2.2.2.2.2.2.2.1⟩⟩:Atom)) (fun x=>(x.Kind,x.Row.Table,x.Row.Seq,x.Args,x.Func,x.Items,x.Op,x.Bound.Kind,x.Bound.Int,x.Bound.Text,())) (fun _=>rfl) (za (lInt .i64) (za (lInt .i64) (za (lInt .i64) (za (lSl 23) (za (lInt .i64) (za (lSl 52) (za (lInt .i64) (za (lInt .i64) (za (lInt .i64) (za lStr zH))))))))))) false (bNil)
def zk4 (zu:List Term→Bool×Int) (a:List Term) (most:Int) (i:Int) (k:Int):Wy ttTref05Nesting3 (Unit) ttTref05Nesting4:=.i (decide (0≤i)&&decide (i<Int.ofNat a.length)) (.i (decide (k<Int.ofNat (a.getD i.toNat default).Factors.length)) (.i (decide (0≤i)&&decide (i<Int.ofNat a.length)) (.i (decide (0≤k)&&decide (k<Int.ofNat (a.getD i.toNat default).Factors.length)) (.i (((a.getD i.toNat default).Factors.getD k.toNat default).Atom.Kind==0) (.h (a,most,i,(IntKind.i64.wrap (k+1)),()) ()) (.bn (zrB zu (((a.length+most.toNat +i.toNat +k.toNat +Int.toNat 1+Int.toNat 0+1)+(Atom.mk ((a.getD i.toNat default).Factors.getD k.toNat default).Atom.Kind ((a.getD i.toNat default).Factors.getD k.toNat default).Atom.Row ((a.getD i.toNat default).Factors.getD k.toNat default).Atom.Args ((a.getD i.toNat default).Factors.getD k.toNat default).Atom.Func ((a.getD i.toNat default).Factors.getD k.toNat default).Atom.Items ((a.getD i.toNat default).Factors.getD k.toNat default).Atom.Op ((a.getD i.toNat default).Factors.getD k.toNat default).Atom.Bound).Args.length+(Atom.mk ((a.getD i.toNat default).Factors.getD k.toNat default).Atom.Kind ((a.getD i.toNat default).Factors.getD k.toNat default).Atom.Row ((a.getD i.toNat default).Factors.getD k.toNat default).Atom.Args ((a.getD i.toNat default).Factors.getD k.toNat default).Atom.Func ((a.getD i.toNat default).Factors.getD k.toNat default).Atom.Items ((a.getD i.toNat default).Factors.getD k.toNat default).Atom.Op ((a.getD i.toNat default).Factors.getD k.toNat default).Atom.Bound).Items.length)+szTs a) a most i k 1 0 (Atom.mk ((a.getD i.toNat default).Factors.getD k.toNat default).Atom.Kind ((a.getD i.toNat default).Factors.getD k.toNat default).Atom.Row ((a.getD i.toNat default).Factors.getD k.toNat default).Atom.Args ((a.getD i.toNat default).Factors.getD k.toNat default).Atom.Func ((a.getD i.toNat default).Factors.getD k.toNat default).Atom.Items ((a.getD i.toNat default).Factors.getD k.toNat default).Atom.Op ((a.getD i.toNat default).Factors.getD k.toNat default).Atom.Bound)) fun r5=>.bn (zyL zu (((r5.1.length+r5.2.1.toNat +r5.2.2.1.toNat +r5.2.2.2.1.toNat +r5.2.2.2.2.1.toNat +Int.toNat 0+1)+(Atom.mk r5.2.2.2.2.2.Kind r5.2.2.2.2.2.Row r5.2.2.2.2.2.Args r5.2.2.2.2.2.Func r5.2.2.2.2.2.Items r5.2.2.2.2.2.Op r5.2.2.2.2.2.Bound).Args.length+(Atom.mk r5.2.2.2.2.2.Kind r5.2.2.2.2.2.Row r5.2.2.2.2.2.Args r5.2.2.2.2.2.Func r5.2.2.2.2.2.Items r5.2.2.2.2.2.Op r5.2.2.2.2.2.Bound).Items.length)+szTs r5.1) r5.1 r5.2.1 r5.2.2.1 r5.2.2.2.1 r5.2.2.2.2.1 0 (Atom.mk r5.2.2.2.2.2.Kind r5.2.2.2.2.2.Row r5.2.2.2.2.2.Args r5.2.2.2.2.2.Func r5.2.2.2.2.2.Items r5.2.2.2.2.2.Op r5.2.2.2.2.2.Bound)) fun r4=>.h ((r4.1),(if r4.2.2.2.2>r4.2.1 then r4.2.2.2.2 else r4.2.1),(r4.2.2.1),(IntKind.i64.wrap (r4.2.2.2.1+1)),()) ())) .d) .d) (.k (a,most,i))) .d
def zok (zu:List Term→Bool×Int) (x:ttTref05Nesting3) (y:Unit):Wy ttTref05Nesting3 (Unit) ttTref05Nesting4:=zk4 zu x.1 x.2.1 x.2.2.1 x.2.2.2.1
def zA4 (zu:List Term→Bool×Int) (n:Nat) (a:List Term) (most:Int) (i:Int) (k:Int):Bool×ttTref05Nesting4:=zX (zok zu) default n (a,most,i,k,()) ()
def zyS (r:ttTref05Nesting4):LTree ty:=.done (.exit 2) [.sl 42 r.1,.lit (.int .i64 r.2.1),.lit (.int .i64 r.2.2)] []
def zBs:LL ty ttTref05Nesting3:=za (lSl 42) (za (lInt .i64) (za (lInt .i64) (za (lInt .i64) zH)))
def zA0:BL ty (Unit):=bNil
def zlf (zu:List Term→Bool×Int) (a:List Term) (most:Int) (i:Int):Wy ttTref05Nesting5 (Unit) (Int):=.i (decide (i<Int.ofNat a.length)) (.bn (zA4 zu ((a.length+most.toNat +i.toNat +Int.toNat 0+1)+szTs a) a most i 0) fun r8=>.h ((r8.1),(r8.2.1),(IntKind.i64.wrap (r8.2.2+1)),()) ()) (.k most)
def zoa (zu:List Term→Bool×Int) (x:ttTref05Nesting5) (y:Unit):Wy ttTref05Nesting5 (Unit) (Int):=zlf zu x.1 x.2.1 x.2.2.1
def zAF (zu:List Term→Bool×Int) (n:Nat) (a:List Term) (most:Int) (i:Int):Bool×Int:=zX (zoa zu) default n (a,most,i,()) ()
def zyC (r:Int):LTree ty:=.done (.exit 0) [.lit (.int .i64 r)] []
def zAQ:LL ty ttTref05Nesting5:=za (lSl 42) (za (lInt .i64) (za (lInt .i64) zH))
def zBl:BL ty (Unit):=bNil
def zxf (x:ttTref05Nesting0) (y:Atom×Unit):Nat:=(((x.1.length+Int.toNat x.2.1+Int.toNat x.2.2.1+Int.toNat x.2.2.2.1+Int.toNat x.2.2.2.2.2.1+Int.toNat x.2.2.2.2.2.2.1+1)+y.1.Args.length+y.1.Items.length)+szTs x.1)
def zxs (x:ttTref05Nesting0) (y:Atom×Unit):Nat:=(((x.1.length+Int.toNat x.2.1+Int.toNat x.2.2.1+Int.toNat x.2.2.2.1+Int.toNat x.2.2.2.2.2.1+Int.toNat x.2.2.2.2.2.2.1+1)+y.1.Args.length+y.1.Items.length)+szTs x.1)
def zy8 (x:ttTref05Nesting3) (y:Unit):Nat:=((x.1.length+Int.toNat x.2.1+Int.toNat x.2.2.1+Int.toNat x.2.2.2.1+1)+szTs x.1)
def zyp (x:ttTref05Nesting5) (y:Unit):Nat:=((x.1.length+Int.toNat x.2.1+Int.toNat x.2.2.1+1)+szTs x.1)
def zk6 (zu:List Term→Bool×Int):Cx ty:=mkCx base 75 [(147,(zoj zu))] [] [(3,[(0,.keep),(3,.keep),(4,.keep)]),(6,[(0,.keep),(3,.keep),(4,.keep),(5,.keep)]),(12,[(0,.keep),(3,.keep),(4,.keep),(5,.keep),(6,.keep),(7,.keep),(8,.keep)]),(16,[(0,.keep),(3,.keep),(4,.keep),(5,.keep),(6,.keep),(7,.keep),(9,.keep)])] [(3,1,[(3,.keep)]),(6,3,[(0,.keep),(3,.keep),(4,.keep)]),(12,5,[(0,.keep),(3,.keep),(4,.keep),(5,.keep),(6,.keep),(7,.keep)]),(16,7,[(0,.keep),(3,.keep),(4,.keep),(5,.keep),(7,.keep)])] [(12,spW zyt zyB (zns zu) default zwR zxf),(16,spW zyq zyJ (znq zu) default zxW zxs),(6,spW zBs zA0 (zok zu) default zyS zy8),(3,spW zAQ zBl (zoa zu) default zyC zyp)] []
theorem zI8 (zu:List Term→Bool×Int):zW (zk6 zu) (lp (body Tryz.f147) 2):=zK (id:=12) (V:=zyt) (B:=zyB) (W:=zns zu) (z:=default) (tr:=zwR) (m:=zxf)
theorem zIV (zu:List Term→Bool×Int):zW (zk6 zu) (lp (body Tryz.f147) 3):=zK (id:=16) (V:=zyq) (B:=zyJ) (W:=znq zu) (z:=default) (tr:=zxW) (m:=zxs)
theorem zKP (zu:List Term→Bool×Int):zW (zk6 zu) (lp (body Tryz.f147) 1):=zK (id:=6) (V:=zBs) (B:=zA0) (W:=zok zu) (z:=default) (tr:=zyS) (m:=zy8)
theorem zKO (zu:List Term→Bool×Int):zW (zk6 zu) (lp (body Tryz.f147) 0):=zK (id:=3) (V:=zAQ) (B:=zBl) (W:=zoa zu) (z:=default) (tr:=zyC) (m:=zyp)
def zuq (zu:List Term→Bool×Int) (a:List Term):Wy0 (Int):=.bn (zAF zu ((a.length+Int.toNat 0+Int.toNat 0+1)+szTs a) a 0 0) fun r10=>.k r10
def zsd (zu:List Term→Bool×Int) (a:List Term):Bool×Int:=(zuq zu a).fin default
theorem zHr (zu:List Term→Bool×Int) (zNg:Sound Tryz.prog base 147 (zoj zu)):Sound Tryz.prog base 147 (zoj (zsd zu)):=
 zn (cx':=(zk6 zu)) zJ zl zw (zm ⟨zNg,trivial⟩) Tryz.call147 Tryz.func147 (c:=body Tryz.f147) (by kernel_rfl) (zh (l:=[lp (body Tryz.f147) 0,lp (body Tryz.f147) 1,lp (body Tryz.f147) 2,lp (body Tryz.f147) 3]) (by kernel_rfl) ⟨zKO zu,zKP zu,zI8 zu,zIV zu,trivial⟩) (sg:=⟨[.pure],[]⟩) (A:=zF5) (res:=zCe) (W:=fun x=>zuq zu x.1) (z:=default)
def zLt:Nat→(List Term→Bool×Int)
 | 0=>fun _=>(false,default)
 | n+1=>zsd (zLt n)
def zjn (n:Nat):List Term→Bool×Int:=zLt n
theorem zLr (n:Nat):zjn (n+1)=zsd (zjn n):=rfl
theorem zHK:∀ n,Sound Tryz.prog base 147 (zoj (zjn n))
 | 0=>zbj Tryz.call147 (fun _=>rfl)
 | n+1=>by
  have ih:=zHK n
  exact zHr _ (ih)
def zBL:List Term→Bool×Int:=zjn 1000
def ref05_Nesting_spec:Ab.Spec ty:=zoj zBL
theorem zKK:Sound Tryz.prog base 147 ref05_Nesting_spec:=(zHK 1000)
def zIA (r:Int):ARes ty:=⟨[.pure (.lit (.int .i64 r))],[]⟩
def zMx:AL base (List Term×Unit):=zf (zg (vSl 42)) aNil
def zsm (F:List Term→Bool×Int):Ab.Spec ty:=zk zMx fun x=>((F x.1).1,zIA (F x.1).2)
abbrev ttTref05Size0:=List Term×Int×Int×Int×Unit×Int×Unit
abbrev ttTref05Size1:=List Term×Int×Int×Int×Atom
abbrev ttTref05Size2:=List Term×Int×Int×Int
abbrev ttTref05Size3:=List Term×Int×Int×Int×Unit
abbrev ttTref05Size4:=List Term×Int×Int
abbrev ttTref05Size5:=List Term×Int×Int×Unit
def zna (zM:List Term→Bool×Int) (a:List Term) (n_:Int) (i:Int) (k:Int) (j:Int) (x_:Atom):Wy ttTref05Size0 (Atom×Unit) ttTref05Size1:=.i (decide (j<Int.ofNat x_.Args.length)) (.i (decide (0≤j)&&decide (j<Int.ofNat x_.Args.length)) (.bn (zM (x_.Args.getD j.toNat default)) fun r0=>.h (a,(IntKind.i64.wrap (n_+r0)),i,k,(),(IntKind.i64.wrap (j+1)),()) (x_,())) .d) (.k (a,n_,i,k,x_))
def zqK (zM:List Term→Bool×Int) (x:ttTref05Size0) (y:Atom×Unit):Wy ttTref05Size0 (Atom×Unit) ttTref05Size1:=zna zM x.1 x.2.1 x.2.2.1 x.2.2.2.1 x.2.2.2.2.2.1 y.1
def zE2 (zM:List Term→Bool×Int) (n:Nat) (a:List Term) (n_:Int) (i:Int) (k:Int) (j:Int) (x_:Atom):Bool×ttTref05Size1:=zX (zqK zM) default n (a,n_,i,k,(),j,()) (x_,())
def zCg (r:ttTref05Size1):LTree ty:=.done (.exit 4) [.sl 42 r.1,.lit (.int .i64 r.2.1),.lit (.int .i64 r.2.2.1),.lit (.int .i64 r.2.2.2.1),.ptr 284 0] [.box (base.enc 48 r.2.2.2.2) false]
def zDI:LL ty ttTref05Size0:=za (lSl 42) (za (lInt .i64) (za (lInt .i64) (za (lInt .i64) (za (ze9 284 0) (za (lInt .i64) zH)))))
def zE4:BL ty (Atom×Unit):=bBox (zgz (fun x=>(⟨x.1,⟨x.2.1,x.2.2.1⟩,x.2.2.2.1,x.2.2.2.2.1,x.2.2.2.2.2.1,x.2.2.2.2.2.2.1,⟨x.2.2.2.2.2.2.2.1,x.2.2.2.2.2.2.2.2.1,x.2.2.2.2.2.2.2.2.2.1⟩⟩:Atom)) (fun x=>(x.Kind,x.Row.Table,x.Row.Seq,x.Args,x.Func,x.Items,x.Op,x.Bound.Kind,x.Bound.Int,x.Bound.Text,())) (fun _=>rfl) (za (lInt .i64) (za (lInt .i64) (za (lInt .i64) (za (lSl 23) (za (lInt .i64) (za (lSl 52) (za (lInt .i64) (za (lInt .i64) (za (lInt .i64) (za lStr zH))))))))))) false (bNil)
def znp (zM:List Term→Bool×Int) (a:List Term) (n_:Int) (i:Int) (k:Int) (j:Int) (x_:Atom):Wy ttTref05Size0 (Atom×Unit) ttTref05Size2:=.i (decide (j<Int.ofNat x_.Items.length)) (.i (decide (0≤j)&&decide (j<Int.ofNat x_.Items.length)) (.bn (zM (x_.Items.getD j.toNat default).Ann) fun r2=>.h (a,(IntKind.i64.wrap (IntKind.i64.wrap (n_+1)+r2)),i,k,(),(IntKind.i64.wrap (j+1)),()) (x_,())) .d) (.k (a,n_,i,k))
def zqk (zM:List Term→Bool×Int) (x:ttTref05Size0) (y:Atom×Unit):Wy ttTref05Size0 (Atom×Unit) ttTref05Size2:=znp zM x.1 x.2.1 x.2.2.1 x.2.2.2.1 x.2.2.2.2.2.1 y.1
def zEA (zM:List Term→Bool×Int) (n:Nat) (a:List Term) (n_:Int) (i:Int) (k:Int) (j:Int) (x_:Atom):Bool×ttTref05Size2:=zX (zqk zM) default n (a,n_,i,k,(),j,()) (x_,())
def zCx (r:ttTref05Size2):LTree ty:=.done (.exit 6) [.sl 42 r.1,.lit (.int .i64 r.2.1),.lit (.int .i64 r.2.2.1),.lit (.int .i64 r.2.2.2)] []
def zDR:LL ty ttTref05Size0:=za (lSl 42) (za (lInt .i64) (za (lInt .i64) (za (lInt .i64) (za (ze9 284 0) (za (lInt .i64) zH)))))
def zEV:BL ty (Atom×Unit):=bBox (zgz (fun x=>(⟨x.1,⟨x.2.1,x.2.2.1⟩,x.2.2.2.1,x.2.2.2.2.1,x.2.2.2.2.2.1,x.2.2.2.2.2.2.1,⟨x.2.2.2.2.2.2.2.1,x.2.2.2.2.2.2.2.2.1,x.2.2.2.2.2.2.2.2.2.1⟩⟩:Atom)) (fun x=>(x.Kind,x.Row.Table,x.Row.Seq,x.Args,x.Func,x.Items,x.Op,x.Bound.Kind,x.Bound.Int,x.Bound.Text,())) (fun _=>rfl) (za (lInt .i64) (za (lInt .i64) (za (lInt .i64) (za (lSl 23) (za (lInt .i64) (za (lSl 52) (za (lInt .i64) (za (lInt .i64) (za (lInt .i64) (za lStr zH))))))))))) false (bNil)
def zn9 (zM:List Term→Bool×Int) (a:List Term) (n_:Int) (i:Int) (k:Int):Wy ttTref05Size3 (Unit) ttTref05Size4:=.i (decide (0≤i)&&decide (i<Int.ofNat a.length)) (.i (decide (k<Int.ofNat (a.getD i.toNat default).Factors.length)) (.i (decide (0≤i)&&decide (i<Int.ofNat a.length)) (.i (decide (0≤k)&&decide (k<Int.ofNat (a.getD i.toNat default).Factors.length)) (.bn (zE2 zM (((a.length+(IntKind.i64.wrap (n_+1)).toNat +i.toNat +k.toNat +Int.toNat 0+1)+(Atom.mk ((a.getD i.toNat default).Factors.getD k.toNat default).Atom.Kind ((a.getD i.toNat default).Factors.getD k.toNat default).Atom.Row ((a.getD i.toNat default).Factors.getD k.toNat default).Atom.Args ((a.getD i.toNat default).Factors.getD k.toNat default).Atom.Func ((a.getD i.toNat default).Factors.getD k.toNat default).Atom.Items ((a.getD i.toNat default).Factors.getD k.toNat default).Atom.Op ((a.getD i.toNat default).Factors.getD k.toNat default).Atom.Bound).Args.length+(Atom.mk ((a.getD i.toNat default).Factors.getD k.toNat default).Atom.Kind ((a.getD i.toNat default).Factors.getD k.toNat default).Atom.Row ((a.getD i.toNat default).Factors.getD k.toNat default).Atom.Args ((a.getD i.toNat default).Factors.getD k.toNat default).Atom.Func ((a.getD i.toNat default).Factors.getD k.toNat default).Atom.Items ((a.getD i.toNat default).Factors.getD k.toNat default).Atom.Op ((a.getD i.toNat default).Factors.getD k.toNat default).Atom.Bound).Items.length)+szTs a) a (IntKind.i64.wrap (n_+1)) i k 0 (Atom.mk ((a.getD i.toNat default).Factors.getD k.toNat default).Atom.Kind ((a.getD i.toNat default).Factors.getD k.toNat default).Atom.Row ((a.getD i.toNat default).Factors.getD k.toNat default).Atom.Args ((a.getD i.toNat default).Factors.getD k.toNat default).Atom.Func ((a.getD i.toNat default).Factors.getD k.toNat default).Atom.Items ((a.getD i.toNat default).Factors.getD k.toNat default).Atom.Op ((a.getD i.toNat default).Factors.getD k.toNat default).Atom.Bound)) fun r5=>.bn (zEA zM (((r5.1.length+r5.2.1.toNat +r5.2.2.1.toNat +r5.2.2.2.1.toNat +Int.toNat 0+1)+(Atom.mk r5.2.2.2.2.Kind r5.2.2.2.2.Row r5.2.2.2.2.Args r5.2.2.2.2.Func r5.2.2.2.2.Items r5.2.2.2.2.Op r5.2.2.2.2.Bound).Args.length+(Atom.mk r5.2.2.2.2.Kind r5.2.2.2.2.Row r5.2.2.2.2.Args r5.2.2.2.2.Func r5.2.2.2.2.Items r5.2.2.2.2.Op r5.2.2.2.2.Bound).Items.length)+szTs r5.1) r5.1 r5.2.1 r5.2.2.1 r5.2.2.2.1 0 (Atom.mk r5.2.2.2.2.Kind r5.2.2.2.2.Row r5.2.2.2.2.Args r5.2.2.2.2.Func r5.2.2.2.2.Items r5.2.2.2.2.Op r5.2.2.2.2.Bound)) fun r4=>.h ((r4.1),(r4.2.1),(r4.2.2.1),(IntKind.i64.wrap (r4.2.2.2+1)),()) ()) .d) .d) (.k (a,n_,i))) .d
def zrU (zM:List Term→Bool×Int) (x:ttTref05Size3) (y:Unit):Wy ttTref05Size3 (Unit) ttTref05Size4:=zn9 zM x.1 x.2.1 x.2.2.1 x.2.2.2.1
def zF8 (zM:List Term→Bool×Int) (n:Nat) (a:List Term) (n_:Int) (i:Int) (k:Int):Bool×ttTref05Size4:=zX (zrU zM) default n (a,n_,i,k,()) ()
def zEO (r:ttTref05Size4):LTree ty:=.done (.exit 2) [.sl 42 r.1,.lit (.int .i64 r.2.1),.lit (.int .i64 r.2.2)] []
def zGA:LL ty ttTref05Size3:=za (lSl 42) (za (lInt .i64) (za (lInt .i64) (za (lInt .i64) zH)))
def zGg:BL ty (Unit):=bNil
def zoi (zM:List Term→Bool×Int) (a:List Term) (n_:Int) (i:Int):Wy ttTref05Size5 (Unit) (Int):=.i (decide (i<Int.ofNat a.length)) (.bn (zF8 zM ((a.length+(IntKind.i64.wrap (n_+1)).toNat +i.toNat +Int.toNat 0+1)+szTs a) a (IntKind.i64.wrap (n_+1)) i 0) fun r8=>.h ((r8.1),(r8.2.1),(IntKind.i64.wrap (r8.2.2+1)),()) ()) (.k n_)
def zr2 (zM:List Term→Bool×Int) (x:ttTref05Size5) (y:Unit):Wy ttTref05Size5 (Unit) (Int):=zoi zM x.1 x.2.1 x.2.2.1
def zFG (zM:List Term→Bool×Int) (n:Nat) (a:List Term) (n_:Int) (i:Int):Bool×Int:=zX (zr2 zM) default n (a,n_,i,()) ()
def zEk (r:Int):LTree ty:=.done (.exit 0) [.lit (.int .i64 r)] []
def zGc:LL ty ttTref05Size5:=za (lSl 42) (za (lInt .i64) (za (lInt .i64) zH))
def zGf:BL ty (Unit):=bNil
def zCX (x:ttTref05Size0) (y:Atom×Unit):Nat:=(((x.1.length+Int.toNat x.2.1+Int.toNat x.2.2.1+Int.toNat x.2.2.2.1+Int.toNat x.2.2.2.2.2.1+1)+y.1.Args.length+y.1.Items.length)+szTs x.1)
def zCq (x:ttTref05Size0) (y:Atom×Unit):Nat:=(((x.1.length+Int.toNat x.2.1+Int.toNat x.2.2.1+Int.toNat x.2.2.2.1+Int.toNat x.2.2.2.2.2.1+1)+y.1.Args.length+y.1.Items.length)+szTs x.1)
def zE0 (x:ttTref05Size3) (y:Unit):Nat:=((x.1.length+Int.toNat x.2.1+Int.toNat x.2.2.1+Int.toNat x.2.2.2.1+1)+szTs x.1)
def zDH (x:ttTref05Size5) (y:Unit):Nat:=((x.1.length+Int.toNat x.2.1+Int.toNat x.2.2.1+1)+szTs x.1)
def zof (zM:List Term→Bool×Int):Cx ty:=mkCx base 71 [(48,(zsm zM))] [] [(3,[(0,.keep),(3,.keep),(4,.keep)]),(7,[(0,.keep),(3,.keep),(4,.keep),(5,.keep)]),(12,[(0,.keep),(3,.keep),(4,.keep),(5,.keep),(6,.keep),(7,.keep)]),(16,[(0,.keep),(3,.keep),(4,.keep),(5,.keep),(6,.keep),(8,.keep)])] [(3,1,[(3,.keep)]),(7,3,[(0,.keep),(3,.keep),(4,.keep)]),(12,5,[(0,.keep),(3,.keep),(4,.keep),(5,.keep),(6,.keep)]),(16,7,[(0,.keep),(3,.keep),(4,.keep),(5,.keep)])] [(12,spW zDI zE4 (zqK zM) default zCg zCX),(16,spW zDR zEV (zqk zM) default zCx zCq),(7,spW zGA zGg (zrU zM) default zEO zE0),(3,spW zGc zGf (zr2 zM) default zEk zDH)] []
theorem zM9 (zM:List Term→Bool×Int):zW (zof zM) (lp (body Tryz.f48) 2):=zK (id:=12) (V:=zDI) (B:=zE4) (W:=zqK zM) (z:=default) (tr:=zCg) (m:=zCX)
theorem zM1 (zM:List Term→Bool×Int):zW (zof zM) (lp (body Tryz.f48) 3):=zK (id:=16) (V:=zDR) (B:=zEV) (W:=zqk zM) (z:=default) (tr:=zCx) (m:=zCq)
theorem zN2 (zM:List Term→Bool×Int):zW (zof zM) (lp (body Tryz.f48) 1):=zK (id:=7) (V:=zGA) (B:=zGg) (W:=zrU zM) (z:=default) (tr:=zEO) (m:=zE0)
theorem zOx (zM:List Term→Bool×Int):zW (zof zM) (lp (body Tryz.f48) 0):=zK (id:=3) (V:=zGc) (B:=zGf) (W:=zr2 zM) (z:=default) (tr:=zEk) (m:=zDH)
def zzr (zM:List Term→Bool×Int) (a:List Term):Wy0 (Int):=.bn (zFG zM ((a.length+Int.toNat 0+Int.toNat 0+1)+szTs a) a 0 0) fun r10=>.k r10
def zxH (zM:List Term→Bool×Int) (a:List Term):Bool×Int:=(zzr zM a).fin default
theorem zMt (zM:List Term→Bool×Int) (zQt:Sound Tryz.prog base 48 (zsm zM)):Sound Tryz.prog base 48 (zsm (zxH zM)):=
 zn (cx':=(zof zM)) zJ zl zw (zm ⟨zQt,trivial⟩) Tryz.call48 Tryz.func48 (c:=body Tryz.f48) (by kernel_rfl) (zh (l:=[lp (body Tryz.f48) 0,lp (body Tryz.f48) 1,lp (body Tryz.f48) 2,lp (body Tryz.f48) 3]) (by kernel_rfl) ⟨zOx zM,zN2 zM,zM9 zM,zM1 zM,trivial⟩) (sg:=⟨[.pure],[]⟩) (A:=zMx) (res:=zIA) (W:=fun x=>zzr zM x.1) (z:=default)
def zRy:Nat→(List Term→Bool×Int)
 | 0=>fun _=>(false,default)
 | n+1=>zxH (zRy n)
def zph (n:Nat):List Term→Bool×Int:=zRy n
theorem zPz (n:Nat):zph (n+1)=zxH (zph n):=rfl
theorem zNA:∀ n,Sound Tryz.prog base 48 (zsm (zph n))
 | 0=>zbj Tryz.call48 (fun _=>rfl)
 | n+1=>by
  have ih:=zNA n
  exact zMt _ (ih)
def zIU:List Term→Bool×Int:=zph 1000
def ref05_Size_spec:Ab.Spec ty:=zsm zIU
theorem zOd:Sound Tryz.prog base 48 ref05_Size_spec:=(zNA 1000)
abbrev ttTref05Fits0:=List Term×Int×Int×Unit
abbrev ttTref05Fits1:=Bool⊕(List Term×Int)
abbrev ttTref05Fits2:=List Term×Int×Unit
def zq9 (a:List Term) (i:Int) (k:Int):Wy ttTref05Fits0 (Unit) ttTref05Fits1:=.i (decide (0≤i)&&decide (i<Int.ofNat a.length)) (.i (decide (k<Int.ofNat (a.getD i.toNat default).Factors.length)) (.i (decide (0≤i)&&decide (i<Int.ofNat a.length)) (.i (decide (0≤k)&&decide (k<Int.ofNat (a.getD i.toNat default).Factors.length)) (.i (decide (((a.getD i.toNat default).Factors.getD k.toNat default).Exp>64)) (.k (.inl false)) (.i (decide (0≤i)&&decide (i<Int.ofNat a.length)) (.i (decide (0≤k)&&decide (k<Int.ofNat (a.getD i.toNat default).Factors.length)) (.i (decide (Int.ofNat ((a.getD i.toNat default).Factors.getD k.toNat default).Atom.Items.length>1024)) (.k (.inl false)) (.h (a,i,(IntKind.i64.wrap (k+1)),()) ())) .d) .d)) .d) .d) (.k (.inr (a,i)))) .d
def zvG (x:ttTref05Fits0) (y:Unit):Wy ttTref05Fits0 (Unit) ttTref05Fits1:=zq9 x.1 x.2.1 x.2.2.1
def zJD (n:Nat) (a:List Term) (i:Int) (k:Int):Bool×ttTref05Fits1:=zX (zvG) (.inl default) n (a,i,k,()) ()
def zH1 (r:ttTref05Fits1):LTree ty:=.ite (isL r) (.done .ret [.lit (.bool (getL r))] []) (.done (.exit 2) [.sl 42 (getR r).1,.lit (.int .i64 (getR r).2)] [])
def zKs:LL ty ttTref05Fits0:=za (lSl 42) (za (lInt .i64) (za (lInt .i64) zH))
def zJ2:BL ty (Unit):=bNil
def zqS (a:List Term) (i:Int):Wy ttTref05Fits2 (Unit) (Bool⊕Unit):=.i (decide (i<Int.ofNat a.length)) (.i (decide (0≤i)&&decide (i<Int.ofNat a.length)) (.i (decide (Int.ofNat (a.getD i.toNat default).Factors.length>64)) (.k (.inl false)) (.bn (zJD ((a.length+i.toNat +Int.toNat 0+1)+szTs a) a i 0) fun r0=>.i (isL r0) (.k (.inl (getL r0))) (.h ((getR r0).1,(IntKind.i64.wrap ((getR r0).2+1)),()) ()))) .d) (.k (.inr ()))
def zvC (x:ttTref05Fits2) (y:Unit):Wy ttTref05Fits2 (Unit) (Bool⊕Unit):=zqS x.1 x.2.1
def zJZ (n:Nat) (a:List Term) (i:Int):Bool×(Bool⊕Unit):=zX (zvC) (.inl default) n (a,i,()) ()
def zH9 (r:Bool⊕Unit):LTree ty:=.ite (isL r) (.done .ret [.lit (.bool (getL r))] []) (.done (.exit 0) [] [])
def zKt:LL ty ttTref05Fits2:=za (lSl 42) (za (lInt .i64) zH)
def zKv:BL ty (Unit):=bNil
def zIu (x:ttTref05Fits0) (y:Unit):Nat:=((x.1.length+Int.toNat x.2.1+Int.toNat x.2.2.1+1)+szTs x.1)
def zHW (x:ttTref05Fits2) (y:Unit):Nat:=((x.1.length+Int.toNat x.2.1+1)+szTs x.1)
def zBU:Cx ty:=mkCx base 65 [(48,ref05_Size_spec),(147,ref05_Nesting_spec)] [] [(4,[(0,.keep),(3,.keep)]),(9,[(0,.keep),(3,.keep),(4,.keep)])] [(4,1,[]),(4,0,[(2,.keep)]),(9,3,[(0,.keep),(3,.keep)]),(9,0,[(2,.keep)])] [(9,spW zKs zJ2 (zvG) (.inl default) zH1 zIu),(4,spW zKt zKv (zvC) (.inl default) zH9 zHW)] []
theorem zP5:zW zBU (lp (body Tryz.f102) 1):=zK (id:=9) (V:=zKs) (B:=zJ2) (W:=zvG) (z:=.inl default) (tr:=zH1) (m:=zIu)
theorem zQk:zW zBU (lp (body Tryz.f102) 0):=zK (id:=4) (V:=zKt) (B:=zKv) (W:=zvC) (z:=.inl default) (tr:=zH9) (m:=zHW)
def zDG (a:List Term):Wy0 (Bool):=.i (decide (Int.ofNat a.length>512)) (.k false) (.bn (zBL a) fun r4=>.i (decide (r4>8)) (.k false) (.bn (zIU a) fun r3=>.i (decide (r3>4096)) (.k false) (.bn (zJZ ((a.length+Int.toNat 0+1)+szTs a) a 0) fun r2=>.i (isL r2) (.k (getL r2)) (.k true))))
def ztK (a:List Term):Bool×Bool:=(zDG a).fin default
def zIy (r:Bool):ARes ty:=⟨[.pure (.lit (.bool r))],[]⟩
def zLp:AL base (List Term×Unit):=zf (zg (vSl 42)) aNil
def zxh:Ab.Spec ty:=zk zLp fun x=>((ztK x.1).1,zIy (ztK x.1).2)
theorem zEZ:Sound Tryz.prog base 102 zxh:=
 zn (cx':=zBU) zJ zl zw (zm ⟨zOd,zKK,trivial⟩) Tryz.call102 Tryz.func102 (c:=body Tryz.f102) (by kernel_rfl) (zh (l:=[lp (body Tryz.f102) 0,lp (body Tryz.f102) 1]) (by kernel_rfl) ⟨zQk,zP5,trivial⟩) (sg:=⟨[.pure],[]⟩) (A:=zLp) (res:=zIy) (W:=fun x=>zDG x.1) (z:=default)
abbrev ttTref05Valid0:=List Term×Int×Unit×Int×Unit
abbrev ttTref05Valid1:=Bool⊕(List Term×Int)
abbrev ttTref05Valid2:=List Term×Int×Unit
def zlU (zS:Atom→Bool×Bool) (a:List Term) (i:Int) (k:Int) (t:Term):Wy ttTref05Valid0 (Term×Unit) ttTref05Valid1:=.i (decide (k<Int.ofNat t.Factors.length)) (.i (decide (0≤k)&&decide (k<Int.ofNat t.Factors.length)) (.i (decide ((t.Factors.getD k.toNat default).Exp<1)) (.k (.inl false)) (.i (decide ((t.Factors.getD k.toNat default).Exp>1)) (.i (decide ((t.Factors.getD k.toNat default).Atom.Kind≥3)) (.k (.inl false)) (.bn (zS (Atom.mk (t.Factors.getD k.toNat default).Atom.Kind (t.Factors.getD k.toNat default).Atom.Row (t.Factors.getD k.toNat default).Atom.Args (t.Factors.getD k.toNat default).Atom.Func (t.Factors.getD k.toNat default).Atom.Items (t.Factors.getD k.toNat default).Atom.Op (t.Factors.getD k.toNat default).Atom.Bound)) fun r1=>.i (!r1) (.k (.inl false)) (.i (decide (k>0)) (.i (decide (0≤IntKind.i64.wrap (k - 1))&&decide (IntKind.i64.wrap (k - 1)<Int.ofNat t.Factors.length)) (.bn (zjQ (Atom.mk (t.Factors.getD (IntKind.i64.wrap (k - 1)).toNat default).Atom.Kind (t.Factors.getD (IntKind.i64.wrap (k - 1)).toNat default).Atom.Row (t.Factors.getD (IntKind.i64.wrap (k - 1)).toNat default).Atom.Args (t.Factors.getD (IntKind.i64.wrap (k - 1)).toNat default).Atom.Func (t.Factors.getD (IntKind.i64.wrap (k - 1)).toNat default).Atom.Items (t.Factors.getD (IntKind.i64.wrap (k - 1)).toNat default).Atom.Op (t.Factors.getD (IntKind.i64.wrap (k - 1)).toNat default).Atom.Bound) (Atom.mk (t.Factors.getD k.toNat default).Atom.Kind (t.Factors.getD k.toNat default).Atom.Row (t.Factors.getD k.toNat default).Atom.Args (t.Factors.getD k.toNat default).Atom.Func (t.Factors.getD k.toNat default).Atom.Items (t.Factors.getD k.toNat default).Atom.Op (t.Factors.getD k.toNat default).Atom.Bound)) fun r0=>.i (decide (r0≥0)) (.k (.inl false)) (.h (a,i,(),(IntKind.i64.wrap (k+1)),()) (t,()))) .d) (.h (a,i,(),(IntKind.i64.wrap (k+1)),()) (t,()))))) (.bn (zS (Atom.mk (t.Factors.getD k.toNat default).Atom.Kind (t.Factors.getD k.toNat default).Atom.Row (t.Factors.getD k.toNat default).Atom.Args (t.Factors.getD k.toNat default).Atom.Func (t.Factors.getD k.toNat default).Atom.Items (t.Factors.getD k.toNat default).Atom.Op (t.Factors.getD k.toNat default).Atom.Bound)) fun r3=>.i (!r3) (.k (.inl false)) (.i (decide (k>0)) (.i (decide (0≤IntKind.i64.wrap (k - 1))&&decide (IntKind.i64.wrap (k - 1)<Int.ofNat t.Factors.length)) (.bn (zjQ (Atom.mk (t.Factors.getD (IntKind.i64.wrap (k - 1)).toNat default).Atom.Kind (t.Factors.getD (IntKind.i64.wrap (k - 1)).toNat default).Atom.Row (t.Factors.getD (IntKind.i64.wrap (k - 1)).toNat default).Atom.Args (t.Factors.getD (IntKind.i64.wrap (k - 1)).toNat default).Atom.Func (t.Factors.getD (IntKind.i64.wrap (k - 1)).toNat default).Atom.Items (t.Factors.getD (IntKind.i64.wrap (k - 1)).toNat default).Atom.Op (t.Factors.getD (IntKind.i64.wrap (k - 1)).toNat default).Atom.Bound) (Atom.mk (t.Factors.getD k.toNat default).Atom.Kind (t.Factors.getD k.toNat default).Atom.Row (t.Factors.getD k.toNat default).Atom.Args (t.Factors.getD k.toNat default).Atom.Func (t.Factors.getD k.toNat default).Atom.Items (t.Factors.getD k.toNat default).Atom.Op (t.Factors.getD k.toNat default).Atom.Bound)) fun r2=>.i (decide (r2≥0)) (.k (.inl false)) (.h (a,i,(),(IntKind.i64.wrap (k+1)),()) (t,()))) .d) (.h (a,i,(),(IntKind.i64.wrap (k+1)),()) (t,())))))) .d) (.k (.inr (a,i)))
def zo1 (zS:Atom→Bool×Bool) (x:ttTref05Valid0) (y:Term×Unit):Wy ttTref05Valid0 (Term×Unit) ttTref05Valid1:=zlU zS x.1 x.2.1 x.2.2.2.1 y.1
def zuH (zS:Atom→Bool×Bool) (n:Nat) (a:List Term) (i:Int) (k:Int) (t:Term):Bool×ttTref05Valid1:=zX (zo1 zS) (.inl default) n (a,i,(),k,()) (t,())
def zBr (r:ttTref05Valid1):LTree ty:=.ite (isL r) (.done .ret [.lit (.bool (getL r))] []) (.done (.exit 2) [.sl 42 (getR r).1,.lit (.int .i64 (getR r).2)] [])
def zCv:LL ty ttTref05Valid0:=za (lSl 42) (za (lInt .i64) (za (ze9 372 0) (za (lInt .i64) zH)))
def zCQ:BL ty (Term×Unit):=bBox (zgz (fun x=>(⟨x.1,x.2.1⟩:Term)) (fun x=>(x.Coeff,x.Factors,())) (fun _=>rfl) (za (lInt .i64) (za (lSl 50) zH))) false (bNil)
def zng (zS:Atom→Bool×Bool) (a:List Term) (i:Int):Wy ttTref05Valid2 (Unit) (Bool⊕Unit):=.i (decide (i<Int.ofNat a.length)) (.i (decide (0≤i)&&decide (i<Int.ofNat a.length)) (.i (decide ((a.getD i.toNat default).Coeff<1)) (.k (.inl false)) (.i (decide ((a.getD i.toNat default).Coeff>1152921504606846976)) (.k (.inl false)) (.i (decide (i>0)) (.i (decide (0≤IntKind.i64.wrap (i - 1))&&decide (IntKind.i64.wrap (i - 1)<Int.ofNat a.length)) (.bn (zju (a.getD (IntKind.i64.wrap (i - 1)).toNat default).Factors (a.getD i.toNat default).Factors) fun r9=>.i (decide (r9≥0)) (.k (.inl false)) (.bn (zuH zS (((a.length+i.toNat +Int.toNat 0+1)+(a.getD i.toNat default).Factors.length)+szTs a) a i 0 (a.getD i.toNat default)) fun r8=>.i (isL r8) (.k (.inl (getL r8))) (.h ((getR r8).1,(IntKind.i64.wrap ((getR r8).2+1)),()) ()))) .d) (.bn (zuH zS (((a.length+i.toNat +Int.toNat 0+1)+(a.getD i.toNat default).Factors.length)+szTs a) a i 0 (a.getD i.toNat default)) fun r10=>.i (isL r10) (.k (.inl (getL r10))) (.h ((getR r10).1,(IntKind.i64.wrap ((getR r10).2+1)),()) ()))))) .d) (.k (.inr ()))
def zqJ (zS:Atom→Bool×Bool) (x:ttTref05Valid2) (y:Unit):Wy ttTref05Valid2 (Unit) (Bool⊕Unit):=zng zS x.1 x.2.1
def zE1 (zS:Atom→Bool×Bool) (n:Nat) (a:List Term) (i:Int):Bool×(Bool⊕Unit):=zX (zqJ zS) (.inl default) n (a,i,()) ()
def zC1 (r:Bool⊕Unit):LTree ty:=.ite (isL r) (.done .ret [.lit (.bool (getL r))] []) (.done (.exit 0) [] [])
def zDy:LL ty ttTref05Valid2:=za (lSl 42) (za (lInt .i64) zH)
def zEE:BL ty (Unit):=bNil
def zBn (x:ttTref05Valid0) (y:Term×Unit):Nat:=(((x.1.length+Int.toNat x.2.1+Int.toNat x.2.2.2.1+1)+y.1.Factors.length)+szTs x.1)
def zCo (x:ttTref05Valid2) (y:Unit):Nat:=((x.1.length+Int.toNat x.2.1+1)+szTs x.1)
def zvP (zS:Atom→Bool×Bool):Cx ty:=mkCx base 93 [(89,ref05_CompareFactors_spec),(102,zxh),(103,(zo5 zS)),(104,ref05_CompareAtom_spec)] [] [(4,[(0,.keep),(3,.keep)]),(10,[(0,.keep),(3,.keep),(4,.keep),(5,.keep)])] [(4,1,[]),(4,0,[(2,.keep)]),(10,3,[(0,.keep),(3,.keep)]),(10,0,[(2,.keep)])] [(10,spW zCv zCQ (zo1 zS) (.inl default) zBr zBn),(4,spW zDy zEE (zqJ zS) (.inl default) zC1 zCo)] []
theorem zMC (zS:Atom→Bool×Bool):zW (zvP zS) (lp (body Tryz.f46) 1):=zK (id:=10) (V:=zCv) (B:=zCQ) (W:=zo1 zS) (z:=.inl default) (tr:=zBr) (m:=zBn)
theorem zMZ (zS:Atom→Bool×Bool):zW (zvP zS) (lp (body Tryz.f46) 0):=zK (id:=4) (V:=zDy) (B:=zEE) (W:=zqJ zS) (z:=.inl default) (tr:=zC1) (m:=zCo)
def zxq (zS:Atom→Bool×Bool) (a:List Term):Wy0 (Bool):=.bn (ztK a) fun r15=>.i (!r15) (.k false) (.bn (zE1 zS ((a.length+Int.toNat 0+1)+szTs a) a 0) fun r14=>.i (isL r14) (.k (getL r14)) (.k true))
def zqR (zS:Atom→Bool×Bool) (a:List Term):Bool×Bool:=(zxq zS a).fin default
theorem zKN (zS:Atom→Bool×Bool) (zKS:Sound Tryz.prog base 103 (zo5 zS)):Sound Tryz.prog base 46 (zqP (zqR zS)):=
 zn (cx':=(zvP zS)) zJ zl zw (zm ⟨zq6,zEZ,zKS,ztU,trivial⟩) Tryz.call46 Tryz.func46 (c:=body Tryz.f46) (by kernel_rfl) (zh (l:=[lp (body Tryz.f46) 0,lp (body Tryz.f46) 1]) (by kernel_rfl) ⟨zMZ zS,zMC zS,trivial⟩) (sg:=⟨[.pure],[]⟩) (A:=zKn) (res:=zFZ) (W:=fun x=>zxq zS x.1) (z:=default)
def zOT:Cx ty:=mkCx base 42 [] [] [] [] [] []
def zzo (a:List Term):Wy0 (Bool):=.i (Int.ofNat a.length==1) (.i (decide ((0:Int)≤(0:Int))&&decide (0<Int.ofNat a.length)) (.i ((a.getD (Int.toNat 0) default).Coeff==1) (.i (decide ((0:Int)≤(0:Int))&&decide (0<Int.ofNat a.length)) (.i (Int.ofNat (a.getD (Int.toNat 0) default).Factors.length==1) (.i (decide ((0:Int)≤(0:Int))&&decide (0<Int.ofNat a.length)) (.i (decide ((0:Int)≤(0:Int))&&decide (0<Int.ofNat (a.getD (Int.toNat 0) default).Factors.length)) (.i (decide (((a.getD (Int.toNat 0) default).Factors.getD (Int.toNat 0) default).Atom.Kind≥2)) (.i (decide ((0:Int)≤(0:Int))&&decide (0<Int.ofNat a.length)) (.i (decide ((0:Int)≤(0:Int))&&decide (0<Int.ofNat (a.getD (Int.toNat 0) default).Factors.length)) (.k (((a.getD (Int.toNat 0) default).Factors.getD (Int.toNat 0) default).Exp==1)) .d) .d) (.k false)) .d) .d) (.k false)) .d) (.k false)) .d) (.k false)
def zmZ (a:List Term):Bool×Bool:=(zzo a).fin default
def zDB (r:Bool):ARes ty:=⟨[.pure (.lit (.bool r))],[]⟩
def zHM:AL base (List Term×Unit):=zf (zg (vSl 42)) aNil
def zur:Ab.Spec ty:=zk zHM fun x=>((zmZ x.1).1,zDB (zmZ x.1).2)
theorem zAP:Sound Tryz.prog base 66 zur:=
 zn (cx':=zOT) zJ zl zw (zm trivial) Tryz.call66 Tryz.func66 (c:=body Tryz.f66) (by kernel_rfl) (zh (l:=[]) (by kernel_rfl) trivial) (sg:=⟨[.pure],[]⟩) (A:=zHM) (res:=zDB) (W:=fun x=>zzo x.1) (z:=default)
abbrev ttTref05constant0:=List Term×Int×Unit
def zl3 (a:List Term) (i:Int):Wy ttTref05constant0 (Unit) (Bool⊕Unit):=.i (decide (i<Int.ofNat a.length)) (.i (decide (0≤i)&&decide (i<Int.ofNat a.length)) (.i (Int.ofNat (a.getD i.toNat default).Factors.length==0) (.k (.inl true)) (.h (a,(IntKind.i64.wrap (i+1)),()) ())) .d) (.k (.inr ()))
def zoX (x:ttTref05constant0) (y:Unit):Wy ttTref05constant0 (Unit) (Bool⊕Unit):=zl3 x.1 x.2.1
def zCM (n:Nat) (a:List Term) (i:Int):Bool×(Bool⊕Unit):=zX (zoX) (.inl default) n (a,i,()) ()
def zBf (r:Bool⊕Unit):LTree ty:=.ite (isL r) (.done .ret [.lit (.bool (getL r))] []) (.done (.exit 0) [] [])
def zC2:LL ty ttTref05constant0:=za (lSl 42) (za (lInt .i64) zH)
def zCz:BL ty (Unit):=bNil
def zCw:Cx ty:=mkCx base 17 [] [] [(2,[(0,.keep),(3,.keep)])] [(2,1,[]),(2,0,[(2,.keep)])] [(2,spW zC2 zCz (zoX) (.inl default) zBf fun x y=>(x.1.length+Int.toNat x.2.1+1))] []
theorem zLk:zW zCw (lp (body Tryz.f67) 0):=zK (id:=2) (V:=zC2) (B:=zCz) (W:=zoX) (z:=.inl default) (tr:=zBf) (m:=fun x y=>(x.1.length+Int.toNat x.2.1+1))
def zvK (a:List Term):Wy0 (Bool):=.bn (zCM (a.length+Int.toNat 0+1) a 0) fun r0=>.i (isL r0) (.k (getL r0)) (.k false)
def zht (a:List Term):Bool×Bool:=(zvK a).fin default
def zAe (r:Bool):ARes ty:=⟨[.pure (.lit (.bool r))],[]⟩
def zEY:AL base (List Term×Unit):=zf (zg (vSl 42)) aNil
def znu:Ab.Spec ty:=zk zEY fun x=>((zht x.1).1,zAe (zht x.1).2)
theorem zqC:Sound Tryz.prog base 67 znu:=
 zn (cx':=zCw) zJ zl zw (zm trivial) Tryz.call67 Tryz.func67 (c:=body Tryz.f67) (by kernel_rfl) (zh (l:=[lp (body Tryz.f67) 0]) (by kernel_rfl) ⟨zLk,trivial⟩) (sg:=⟨[.pure],[]⟩) (A:=zEY) (res:=zAe) (W:=fun x=>zvK x.1) (z:=default)
def zQl:Cx ty:=mkCx base 36 [] [] [] [] [] []
def zCc (v:Value):Wy0 (Bool):=.i (v.Kind==0) (.k (v.Text.toList==(ByteArray.mk #[]).toList)) (.i (v.Kind==1) (.i (v.Int==0) (.k (decide (Int.ofNat v.Text.size≤255))) (.k false)) (.i (v.Kind==2) (.i (v.Text.toList==(ByteArray.mk #[]).toList) (.i (v.Int==0) (.k true) (.k (v.Int==1))) (.k false)) (.k false)))
def zrl (v:Value):Bool×Bool:=(zCc v).fin default
def zGy (r:Bool):ARes ty:=⟨[.pure (.lit (.bool r))],[]⟩
def zJI:AL base (Value×Unit):=zf (zg (vAgg 46)) aNil
def zEy:Ab.Spec ty:=zk zJI fun x=>((zrl x.1).1,zGy (zrl x.1).2)
theorem zNe:Sound Tryz.prog base 137 zEy:=
 zn (cx':=zQl) zJ zl zw (zm trivial) Tryz.call137 Tryz.func137 (c:=body Tryz.f137) (by kernel_rfl) (zh (l:=[]) (by kernel_rfl) trivial) (sg:=⟨[.pure],[]⟩) (A:=zJI) (res:=zGy) (W:=fun x=>zCc x.1) (z:=default)
abbrev ttTref05kinds0:=Int×List Weighted×Unit×Int×Unit
def zpK (fn:Int) (items:List Weighted) (i:Int) (bound:Value):Wy ttTref05kinds0 (Value×Unit) (Bool⊕Unit):=.i (decide (i<Int.ofNat items.length)) (.i (decide (0≤i)&&decide (i<Int.ofNat items.length)) (.bn (zrl (items.getD i.toNat default).Value) fun r0=>.i (!r0) (.k (.inl false)) (.i ((items.getD i.toNat default).Value.Kind != bound.Kind) (.k (.inl false)) (.i (fn==0) (.i ((items.getD i.toNat default).Value.Int != 1) (.k (.inl false)) (.h (fn,items,(),(IntKind.i64.wrap (i+1)),()) (bound,()))) (.h (fn,items,(),(IntKind.i64.wrap (i+1)),()) (bound,()))))) .d) (.k (.inr ()))
def ztS (x:ttTref05kinds0) (y:Value×Unit):Wy ttTref05kinds0 (Value×Unit) (Bool⊕Unit):=zpK x.1 x.2.1 x.2.2.2.1 y.1
def zzQ (n:Nat) (fn:Int) (items:List Weighted) (i:Int) (bound:Value):Bool×(Bool⊕Unit):=zX (ztS) (.inl default) n (fn,items,(),i,()) (bound,())
def zGp (r:Bool⊕Unit):LTree ty:=.ite (isL r) (.done .ret [.lit (.bool (getL r))] []) (.done (.exit 0) [] [])
def zHU:LL ty ttTref05kinds0:=za (lInt .i64) (za (lSl 52) (za (ze9 276 0) (za (lInt .i64) zH)))
def zHj:BL ty (Value×Unit):=bBox (zgz (fun x=>(⟨x.1,x.2.1,x.2.2.1⟩:Value)) (fun x=>(x.Kind,x.Int,x.Text,())) (fun _=>rfl) (za (lInt .i64) (za (lInt .i64) (za lStr zH)))) false (bNil)
def zFK (x:ttTref05kinds0) (y:Value×Unit):Nat:=(Int.toNat x.1+x.2.1.length+Int.toNat x.2.2.2.1+1)
def zIc:Cx ty:=mkCx base 69 [(137,zEy)] [] [(4,[(0,.keep),(1,.keep),(7,.keep),(9,.keep)])] [(4,1,[]),(4,0,[(8,.keep)])] [(4,spW zHU zHj (ztS) (.inl default) zGp zFK)] []
theorem zPg:zW zIc (lp (body Tryz.f80) 0):=zK (id:=4) (V:=zHU) (B:=zHj) (W:=ztS) (z:=.inl default) (tr:=zGp) (m:=zFK)
def zBV (fn:Int) (items:List Weighted) (op:Int) (bound:Value):Wy0 (Bool):=.i (decide (fn<0)) (.k false) (.i (decide (fn>3)) (.k false) (.i (decide (op<5)) (.k false) (.i (decide (op>10)) (.k false) (.bn (zrl bound) fun r4=>.i (!r4) (.k false) (.i (decide (fn≤1)) (.i (bound.Kind != 0) (.k false) (.bn (zzQ (fn.toNat +items.length+Int.toNat 0+1) fn items 0 bound) fun r2=>.i (isL r2) (.k (getL r2)) (.k true))) (.bn (zzQ (fn.toNat +items.length+Int.toNat 0+1) fn items 0 bound) fun r3=>.i (isL r3) (.k (getL r3)) (.k true)))))))
def zrm (fn:Int) (items:List Weighted) (op:Int) (bound:Value):Bool×Bool:=(zBV fn items op bound).fin default
def zGi (r:Bool):ARes ty:=⟨[.pure (.lit (.bool r))],[]⟩
def zKi:AL base (Int×List Weighted×Int×Value×Unit):=zf (zg (vInt .i64)) (zf (zg (vSl 52)) (zf (zg (vInt .i64)) (zf (zg (vAgg 46)) aNil)))
def zvT:Ab.Spec ty:=zk zKi fun x=>((zrm x.1 x.2.1 x.2.2.1 x.2.2.2.1).1,zGi (zrm x.1 x.2.1 x.2.2.1 x.2.2.2.1).2)
theorem zCm:Sound Tryz.prog base 80 zvT:=
 zn (cx':=zIc) zJ zl zw (zm ⟨zNe,trivial⟩) Tryz.call80 Tryz.func80 (c:=body Tryz.f80) (by kernel_rfl) (zh (l:=[lp (body Tryz.f80) 0]) (by kernel_rfl) ⟨zPg,trivial⟩) (sg:=⟨[.pure],[]⟩) (A:=zKi) (res:=zGi) (W:=fun x=>zBV x.1 x.2.1 x.2.2.1 x.2.2.2.1) (z:=default)
def zQn:Cx ty:=mkCx base 23 [] [] [] [] [] []
def zBJ (x_:Atom):Wy0 (Bool):=.i (x_.Func==0) (.i (Int.ofNat x_.Items.length==0) (.i (x_.Op==0) (.k (x_.Bound.Kind==0&&(x_.Bound.Int==0&&(x_.Bound.Text.toList==(ByteArray.mk #[]).toList&&true)))) (.k false)) (.k false)) (.k false)
def zmA (x_:Atom):Bool×Bool:=(zBJ x_).fin default
def zGh (r:Bool):ARes ty:=⟨[.pure (.lit (.bool r))],[]⟩
def zJK:AL base (Atom×Unit):=zf (zg (vAgg 48)) aNil
def zFc:Ab.Spec ty:=zk zJK fun x=>((zmA x.1).1,zGh (zmA x.1).2)
theorem zM8:Sound Tryz.prog base 148 zFc:=
 zn (cx':=zQn) zJ zl zw (zm trivial) Tryz.call148 Tryz.func148 (c:=body Tryz.f148) (by kernel_rfl) (zh (l:=[]) (by kernel_rfl) trivial) (sg:=⟨[.pure],[]⟩) (A:=zJK) (res:=zGh) (W:=fun x=>zBJ x.1) (z:=default)
abbrev ttTref05validAtom0:=Unit×Int×Unit
def zje (zbf:List Term→Bool×Bool) (i:Int) (x_:Atom):Wy ttTref05validAtom0 (Atom×Unit) (Bool⊕Atom):=.i (decide (i<Int.ofNat x_.Args.length)) (.i (decide (0≤i)&&decide (i<Int.ofNat x_.Args.length)) (.i (Int.ofNat (List.length (x_.Args.getD i.toNat default))==0) (.k (.inl false)) (.i (decide (0≤i)&&decide (i<Int.ofNat x_.Args.length)) (.bn (zbf (x_.Args.getD i.toNat default)) fun r0=>.i (!r0) (.k (.inl false)) (.h ((),(IntKind.i64.wrap (i+1)),()) (x_,()))) .d)) .d) (.k (.inr x_))
def zmm (zbf:List Term→Bool×Bool) (x:ttTref05validAtom0) (y:Atom×Unit):Wy ttTref05validAtom0 (Atom×Unit) (Bool⊕Atom):=zje zbf x.2.1 y.1
def zqy (zbf:List Term→Bool×Bool) (n:Nat) (i:Int) (x_:Atom):Bool×(Bool⊕Atom):=zX (zmm zbf) (.inl default) n ((),i,()) (x_,())
def zvW (r:Bool⊕Atom):LTree ty:=.ite (isL r) (.done .ret [.lit (.bool (getL r))] []) (.done (.exit 0) [.ptr 824 0] [.box (base.enc 48 (getR r)) false])
def zye:LL ty ttTref05validAtom0:=za (ze9 824 0) (za (lInt .i64) zH)
def zxU:BL ty (Atom×Unit):=bBox (zgz (fun x=>(⟨x.1,⟨x.2.1,x.2.2.1⟩,x.2.2.2.1,x.2.2.2.2.1,x.2.2.2.2.2.1,x.2.2.2.2.2.2.1,⟨x.2.2.2.2.2.2.2.1,x.2.2.2.2.2.2.2.2.1,x.2.2.2.2.2.2.2.2.2.1⟩⟩:Atom)) (fun x=>(x.Kind,x.Row.Table,x.Row.Seq,x.Args,x.Func,x.Items,x.Op,x.Bound.Kind,x.Bound.Int,x.Bound.Text,())) (fun _=>rfl) (za (lInt .i64) (za (lInt .i64) (za (lInt .i64) (za (lSl 23) (za (lInt .i64) (za (lSl 52) (za (lInt .i64) (za (lInt .i64) (za (lInt .i64) (za lStr zH))))))))))) false (bNil)
def ziO (zbf:List Term→Bool×Bool) (i:Int) (x_:Atom):Wy ttTref05validAtom0 (Atom×Unit) (Bool⊕Unit):=.i (decide (i<Int.ofNat x_.Items.length)) (.i (decide (0≤i)&&decide (i<Int.ofNat x_.Items.length)) (.i (Int.ofNat (x_.Items.getD i.toNat default).Ann.length==0) (.k (.inl false)) (.i (decide (0≤i)&&decide (i<Int.ofNat x_.Items.length)) (.bn (zbf (x_.Items.getD i.toNat default).Ann) fun r3=>.i (!r3) (.k (.inl false)) (.i (decide (i>0)) (.i (decide (0≤IntKind.i64.wrap (i - 1))&&decide (IntKind.i64.wrap (i - 1)≤i)&&decide (i≤Int.ofNat x_.Items.length)) (.i (decide (0≤i)&&decide (i≤IntKind.i64.wrap (i+1))&&decide (IntKind.i64.wrap (i+1)≤Int.ofNat x_.Items.length)) (.bn (zn6 (List.take (i.toNat - (IntKind.i64.wrap (i - 1)).toNat) (List.drop (IntKind.i64.wrap (i - 1)).toNat x_.Items)) (List.take ((IntKind.i64.wrap (i+1)).toNat - i.toNat) (List.drop i.toNat x_.Items))) fun r2=>.i (decide (r2>0)) (.k (.inl false)) (.h ((),(IntKind.i64.wrap (i+1)),()) (x_,()))) .d) .d) (.h ((),(IntKind.i64.wrap (i+1)),()) (x_,())))) .d)) .d) (.k (.inr ()))
def zlr (zbf:List Term→Bool×Bool) (x:ttTref05validAtom0) (y:Atom×Unit):Wy ttTref05validAtom0 (Atom×Unit) (Bool⊕Unit):=ziO zbf x.2.1 y.1
def zv5 (zbf:List Term→Bool×Bool) (n:Nat) (i:Int) (x_:Atom):Bool×(Bool⊕Unit):=zX (zlr zbf) (.inl default) n ((),i,()) (x_,())
def zvh (r:Bool⊕Unit):LTree ty:=.ite (isL r) (.done .ret [.lit (.bool (getL r))] []) (.done (.exit 3) [] [])
def zwo:LL ty ttTref05validAtom0:=za (ze9 824 0) (za (lInt .i64) zH)
def zvV:BL ty (Atom×Unit):=bBox (zgz (fun x=>(⟨x.1,⟨x.2.1,x.2.2.1⟩,x.2.2.2.1,x.2.2.2.2.1,x.2.2.2.2.2.1,x.2.2.2.2.2.2.1,⟨x.2.2.2.2.2.2.2.1,x.2.2.2.2.2.2.2.2.1,x.2.2.2.2.2.2.2.2.2.1⟩⟩:Atom)) (fun x=>(x.Kind,x.Row.Table,x.Row.Seq,x.Args,x.Func,x.Items,x.Op,x.Bound.Kind,x.Bound.Int,x.Bound.Text,())) (fun _=>rfl) (za (lInt .i64) (za (lInt .i64) (za (lInt .i64) (za (lSl 23) (za (lInt .i64) (za (lSl 52) (za (lInt .i64) (za (lInt .i64) (za (lInt .i64) (za lStr zH))))))))))) false (bNil)
def zv4 (x:ttTref05validAtom0) (y:Atom×Unit):Nat:=((Int.toNat x.2.1+1)+y.1.Args.length+y.1.Items.length)
def zu5 (x:ttTref05validAtom0) (y:Atom×Unit):Nat:=((Int.toNat x.2.1+1)+y.1.Args.length+y.1.Items.length)
def zqn (zbf:List Term→Bool×Bool):Cx ty:=mkCx base 206 [(24,zsg),(35,ref05_CompareItems_spec),(46,(zqP zbf)),(66,zur),(67,znu),(80,zvT),(148,zFc)] [] [(6,[(1,.keep),(3,.keep)]),(21,[(1,.keep),(4,.keep)])] [(6,1,[(1,.keep)]),(6,0,[(2,.keep)]),(21,4,[]),(21,0,[(2,.keep)])] [(6,spW zye zxU (zmm zbf) (.inl default) zvW zv4),(21,spW zwo zvV (zlr zbf) (.inl default) zvh zu5)] []
theorem zId (zbf:List Term→Bool×Bool):zW (zqn zbf) (lp (body Tryz.f103) 0):=zK (id:=6) (V:=zye) (B:=zxU) (W:=zmm zbf) (z:=.inl default) (tr:=zvW) (m:=zv4)
theorem zGM (zbf:List Term→Bool×Bool):zW (zqn zbf) (lp (body Tryz.f103) 1):=zK (id:=21) (V:=zwo) (B:=zvV) (W:=zlr zbf) (z:=.inl default) (tr:=zvh) (m:=zu5)
def zrp (zbf:List Term→Bool×Bool) (x_:Atom):Wy0 (Bool):=.i (x_.Kind==0) (.i (decide (x_.Row.Table≥1)) (.i (decide (x_.Row.Seq≥1)) (.i (Int.ofNat x_.Args.length==0) (.bn (zmA (Atom.mk x_.Kind x_.Row x_.Args x_.Func x_.Items x_.Op x_.Bound)) fun r6=>.k r6) (.k false)) (.k false)) (.k false)) (.i (!(x_.Row.Table==0&&(x_.Row.Seq==0&&true))) (.k false) (.bn (zqy zbf ((Int.toNat 0+1)+(Atom.mk x_.Kind x_.Row x_.Args x_.Func x_.Items x_.Op x_.Bound).Args.length+(Atom.mk x_.Kind x_.Row x_.Args x_.Func x_.Items x_.Op x_.Bound).Items.length) 0 (Atom.mk x_.Kind x_.Row x_.Args x_.Func x_.Items x_.Op x_.Bound)) fun r17=>.i (isL r17) (.k (getL r17)) (.i ((getR r17).Kind==1) (.i (Int.ofNat (getR r17).Args.length==2) (.bn (zmA (Atom.mk (getR r17).Kind (getR r17).Row (getR r17).Args (getR r17).Func (getR r17).Items (getR r17).Op (getR r17).Bound)) fun r8=>.i (r8) (.i (decide ((0:Int)≤(0:Int))&&decide (0<Int.ofNat (getR r17).Args.length)) (.i (decide ((0:Int)≤(1:Int))&&decide (1<Int.ofNat (getR r17).Args.length)) (.bn (zog ((getR r17).Args.getD (Int.toNat 0) default) ((getR r17).Args.getD (Int.toNat 1) default)) fun r7=>.k (!r7)) .d) .d) (.k false)) (.k false)) (.i ((getR r17).Kind==2) (.i (Int.ofNat (getR r17).Args.length==1) (.bn (zmA (Atom.mk (getR r17).Kind (getR r17).Row (getR r17).Args (getR r17).Func (getR r17).Items (getR r17).Op (getR r17).Bound)) fun r12=>.i (r12) (.i (decide ((0:Int)≤(0:Int))&&decide (0<Int.ofNat (getR r17).Args.length)) (.i (Int.ofNat (List.length ((getR r17).Args.getD (Int.toNat 0) default))==1) (.i (decide ((0:Int)≤(0:Int))&&decide (0<Int.ofNat (getR r17).Args.length)) (.bn (zht ((getR r17).Args.getD (Int.toNat 0) default)) fun r10=>.i (!r10) (.i (decide ((0:Int)≤(0:Int))&&decide (0<Int.ofNat (getR r17).Args.length)) (.bn (zmZ ((getR r17).Args.getD (Int.toNat 0) default)) fun r9=>.k (!r9)) .d) (.k false)) .d) (.i (decide ((0:Int)≤(0:Int))&&decide (0<Int.ofNat (getR r17).Args.length)) (.bn (zmZ ((getR r17).Args.getD (Int.toNat 0) default)) fun r11=>.k (!r11)) .d)) .d) (.k false)) (.k false)) (.i ((getR r17).Kind==3) (.i (Int.ofNat (getR r17).Args.length==1) (.bn (zmA (Atom.mk (getR r17).Kind (getR r17).Row (getR r17).Args (getR r17).Func (getR r17).Items (getR r17).Op (getR r17).Bound)) fun r14=>.i (r14) (.i (decide ((0:Int)≤(0:Int))&&decide (0<Int.ofNat (getR r17).Args.length)) (.bn (zht ((getR r17).Args.getD (Int.toNat 0) default)) fun r13=>.k (!r13)) .d) (.k false)) (.k false)) (.i ((getR r17).Kind==4) (.i (Int.ofNat (getR r17).Args.length != 0) (.k false) (.i (Int.ofNat (getR r17).Items.length==0) (.k false) (.i (decide (Int.ofNat (getR r17).Items.length>1024)) (.k false) (.bn (zrm (getR r17).Func (getR r17).Items (getR r17).Op (getR r17).Bound) fun r16=>.i (!r16) (.k false) (.bn (zv5 zbf ((Int.toNat 0+1)+(Atom.mk (getR r17).Kind (getR r17).Row (getR r17).Args (getR r17).Func (getR r17).Items (getR r17).Op (getR r17).Bound).Args.length+(Atom.mk (getR r17).Kind (getR r17).Row (getR r17).Args (getR r17).Func (getR r17).Items (getR r17).Op (getR r17).Bound).Items.length) 0 (Atom.mk (getR r17).Kind (getR r17).Row (getR r17).Args (getR r17).Func (getR r17).Items (getR r17).Op (getR r17).Bound)) fun r15=>.i (isL r15) (.k (getL r15)) (.k true)))))) (.k false)))))))
def zl0 (zbf:List Term→Bool×Bool) (x_:Atom):Bool×Bool:=(zrp zbf x_).fin default
theorem zFj (zbf:List Term→Bool×Bool) (zPx:Sound Tryz.prog base 46 (zqP zbf)):Sound Tryz.prog base 103 (zo5 (zl0 zbf)):=
 zn (cx':=(zqn zbf)) zJ zl zw (zm ⟨zvL,zsV,zPx,zAP,zqC,zCm,zM8,trivial⟩) Tryz.call103 Tryz.func103 (c:=body Tryz.f103) (by kernel_rfl) (zh (l:=[lp (body Tryz.f103) 0,lp (body Tryz.f103) 1]) (by kernel_rfl) ⟨zId zbf,zGM zbf,trivial⟩) (sg:=⟨[.pure],[]⟩) (A:=zCR) (res:=zyu) (W:=fun x=>zrp zbf x.1) (z:=default)
def zDj:Nat→(List Term→Bool×Bool)×(Atom→Bool×Bool)
 | 0=>(fun _=>(false,default),fun _=>(false,default))
 | n+1=>(zqR ((zDj n).2),zl0 ((zDj n).1))
def zqN (n:Nat):List Term→Bool×Bool:=(zDj n).1
def zoY (n:Nat):Atom→Bool×Bool:=(zDj n).2
theorem zOm (n:Nat):zqN (n+1)=zqR (zoY n):=rfl
theorem zJs (n:Nat):zoY (n+1)=zl0 (zqN n):=rfl
theorem zLO:∀ n,Sound Tryz.prog base 46 (zqP (zqN n))∧Sound Tryz.prog base 103 (zo5 (zoY n))
 | 0=>⟨zbj Tryz.call46 (fun _=>rfl),zbj Tryz.call103 (fun _=>rfl)⟩
 | n+1=>by
  have ih:=zLO n
  exact ⟨zKN _ (ih.2),zFj _ (ih.1)⟩
def zeL:List Term→Bool×Bool:=zqN 1000
def ref05_Valid_spec:Ab.Spec ty:=zqP zeL
theorem zhV:Sound Tryz.prog base 46 ref05_Valid_spec:=(zLO 1000).1
def zCT (r:List Term×Int):ARes ty:=⟨[.pure (.sl 42 r.1),.pure (.lit (.int .i64 r.2))],[]⟩
def zFI:AL base (List Term×List Binding×Unit):=zf (zg (vSl 42)) (zf (zg (vSl 69)) aNil)
def zn5 (F:List Term→List Binding→Bool×(List Term×Int)):Ab.Spec ty:=zk zFI fun x=>((F x.1 x.2.1).1,zCT (F x.1 x.2.1).2)
def zHh (r:List Term×Int):ARes ty:=⟨[.pure (.sl 42 r.1),.pure (.lit (.int .i64 r.2))],[]⟩
def zK6:AL base (Atom×List Binding×Unit):=zf (zg (vAgg 48)) (zf (zg (vSl 69)) aNil)
def zya (F:Atom→List Binding→Bool×(List Term×Int)):Ab.Spec ty:=zk zK6 fun x=>((F x.1 x.2.1).1,zHh (F x.1 x.2.1).2)
def zRM:Cx ty:=mkCx base 8 [] [] [] [] [] []
def zEx (x_:Atom):Wy0 (List Term):=.k [TermOf.mk 1 [FactorOf.mk (Atom.mk x_.Kind x_.Row x_.Args x_.Func x_.Items x_.Op x_.Bound) 1]]
def zkE (x_:Atom):Bool×List Term:=(zEx x_).fin default
def zHT (r:List Term):ARes ty:=⟨[.own 42 r],[]⟩
def zMn:AL base (Atom×Unit):=zf (zg (vAgg 48)) aNil
def zll:Ab.Spec ty:=zk zMn fun x=>((zkE x.1).1,zHT (zkE x.1).2)
theorem zmW:Sound Tryz.prog base 63 zll:=
 zn (cx':=zRM) zJ zl zw (zm trivial) Tryz.call63 Tryz.func63 (c:=body Tryz.f63) (by kernel_rfl) (zh (l:=[]) (by kernel_rfl) trivial) (sg:=⟨[.own 42],[]⟩) (A:=zMn) (res:=zHT) (W:=fun x=>zEx x.1) (z:=default)
def zSZ:Cx ty:=mkCx base 3 [] [] [] [] [] []
def zNn:Wy0 (List Term):=.k [TermOf.mk 1 []]
def zz5:Bool×List Term:=(zNn).fin default
def zKq (r:List Term):ARes ty:=⟨[.own 42 r],[]⟩
def zNK:AL base (Unit):=aNil
def ztM:Ab.Spec ty:=zk zNK fun x=>((zz5 ).1,zKq (zz5 ).2)
theorem zyf:Sound Tryz.prog base 30 ztM:=
 zn (cx':=zSZ) zJ zl zw (zm trivial) Tryz.call30 Tryz.func30 (c:=body Tryz.f30) (by kernel_rfl) (zh (l:=[]) (by kernel_rfl) trivial) (sg:=⟨[.own 42],[]⟩) (A:=zNK) (res:=zKq) (W:=fun x=>zNn ) (z:=default)
def zTm:Cx ty:=mkCx base 8 [(102,zxh)] [] [] [] [] []
def zGH (a:List Term):Wy0 (List Term×Int):=.bn (ztK a) fun r0=>.i (!r0) (.k ([],6)) (.k (a,0))
def zkT (a:List Term):Bool×(List Term×Int):=(zGH a).fin default
def zJ0 (r:List Term×Int):ARes ty:=⟨[.pure (.sl 42 r.1),.pure (.lit (.int .i64 r.2))],[]⟩
def zNt:AL base (List Term×Unit):=zf (zg (vSl 42)) aNil
def zkx:Ab.Spec ty:=zk zNt fun x=>((zkT x.1).1,zJ0 (zkT x.1).2)
theorem zln:Sound Tryz.prog base 56 zkx:=
 zn (cx':=zTm) zJ zl zw (zm ⟨zEZ,trivial⟩) Tryz.call56 Tryz.func56 (c:=body Tryz.f56) (by kernel_rfl) (zh (l:=[]) (by kernel_rfl) trivial) (sg:=⟨[.pure,.pure],[]⟩) (A:=zNt) (res:=zJ0) (W:=fun x=>zGH x.1) (z:=default)
def zOY:Cx ty:=mkCx base 20 [(30,ztM),(46,ref05_Valid_spec),(56,zkx),(63,zll),(67,znu)] [] [] [] [] []
def zzk (a:List Term):Wy0 (List Term×Int):=.bn (zeL a) fun r2=>.i (!r2) (.k ([],1)) (.i (Int.ofNat a.length==0) (.k (zz5.2,0)) (.bn (zht a) fun r1=>.i (r1) (.k ([],0)) (.bn (zkT (zkE (Atom.mk 3 (RowID.mk 0 0) [a] 0 [] 0 (Value.mk 0 0 (ByteArray.mk #[])))).2) fun r0=>.k (r0.1,r0.2))))
def zsq (a:List Term):Bool×(List Term×Int):=(zzk a).fin default
def zDJ (r:List Term×Int):ARes ty:=⟨[.pure (.sl 42 r.1),.pure (.lit (.int .i64 r.2))],[]⟩
def zHG:AL base (List Term×Unit):=zf (zg (vSl 42)) aNil
def zCG:Ab.Spec ty:=zk zHG fun x=>((zsq x.1).1,zDJ (zsq x.1).2)
theorem zMk:Sound Tryz.prog base 23 zCG:=
 zn (cx':=zOY) zJ zl zw (zm ⟨zyf,zhV,zln,zmW,zqC,trivial⟩) Tryz.call23 Tryz.func23 (c:=body Tryz.f23) (by kernel_rfl) (zh (l:=[]) (by kernel_rfl) trivial) (sg:=⟨[.pure,.pure],[]⟩) (A:=zHG) (res:=zDJ) (W:=fun x=>zzk x.1) (z:=default)
def zQy:Cx ty:=mkCx base 30 [(30,ztM),(46,ref05_Valid_spec),(56,zkx),(63,zll),(66,zur),(67,znu)] [] [] [] [] []
def zB2 (a:List Term):Wy0 (List Term×Int):=.bn (zeL a) fun r4=>.i (!r4) (.k ([],1)) (.i (Int.ofNat a.length==0) (.k (a,0)) (.bn (zmZ a) fun r3=>.i (r3) (.k (a,0)) (.i (Int.ofNat a.length==1) (.bn (zht a) fun r1=>.i (r1) (.k (zz5.2,0)) (.bn (zkT (zkE (Atom.mk 2 (RowID.mk 0 0) [a] 0 [] 0 (Value.mk 0 0 (ByteArray.mk #[])))).2) fun r0=>.k (r0.1,r0.2))) (.bn (zkT (zkE (Atom.mk 2 (RowID.mk 0 0) [a] 0 [] 0 (Value.mk 0 0 (ByteArray.mk #[])))).2) fun r2=>.k (r2.1,r2.2)))))
def zu2 (a:List Term):Bool×(List Term×Int):=(zB2 a).fin default
def zGv (r:List Term×Int):ARes ty:=⟨[.pure (.sl 42 r.1),.pure (.lit (.int .i64 r.2))],[]⟩
def zKx:AL base (List Term×Unit):=zf (zg (vSl 42)) aNil
def zFe:Ab.Spec ty:=zk zKx fun x=>((zu2 x.1).1,zGv (zu2 x.1).2)
theorem zNj:Sound Tryz.prog base 21 zFe:=
 zn (cx':=zQy) zJ zl zw (zm ⟨zyf,zhV,zln,zmW,zAP,zqC,trivial⟩) Tryz.call21 Tryz.func21 (c:=body Tryz.f21) (by kernel_rfl) (zh (l:=[]) (by kernel_rfl) trivial) (sg:=⟨[.pure,.pure],[]⟩) (A:=zKx) (res:=zGv) (W:=fun x=>zB2 x.1) (z:=default)
def zQi:Cx ty:=mkCx base 34 [(24,zsg),(46,ref05_Valid_spec),(56,zkx),(63,zll)] [] [] [] [] []
def zBZ (a:List Term) (b:List Term):Wy0 (List Term×Int):=.bn (zeL a) fun r3=>.i (!r3) (.k ([],1)) (.bn (zeL b) fun r2=>.i (!r2) (.k ([],1)) (.i (Int.ofNat b.length==0) (.k (a,0)) (.i (Int.ofNat a.length==0) (.k ([],0)) (.bn (zog a b) fun r1=>.i (r1) (.k ([],0)) (.bn (zkT (zkE (Atom.mk 1 (RowID.mk 0 0) [a,b] 0 [] 0 (Value.mk 0 0 (ByteArray.mk #[])))).2) fun r0=>.k (r0.1,r0.2))))))
def zvk (a:List Term) (b:List Term):Bool×(List Term×Int):=(zBZ a b).fin default
def zGx (r:List Term×Int):ARes ty:=⟨[.pure (.sl 42 r.1),.pure (.lit (.int .i64 r.2))],[]⟩
def zJR:AL base (List Term×List Term×Unit):=zf (zg (vSl 42)) (zf (zg (vSl 42)) aNil)
def zDw:Ab.Spec ty:=zk zJR fun x=>((zvk x.1 x.2.1).1,zGx (zvk x.1 x.2.1).2)
theorem zM7:Sound Tryz.prog base 19 zDw:=
 zn (cx':=zQi) zJ zl zw (zm ⟨zvL,zhV,zln,zmW,trivial⟩) Tryz.call19 Tryz.func19 (c:=body Tryz.f19) (by kernel_rfl) (zh (l:=[]) (by kernel_rfl) trivial) (sg:=⟨[.pure,.pure],[]⟩) (A:=zJR) (res:=zGx) (W:=fun x=>zBZ x.1 x.2.1) (z:=default)
abbrev ttTref05Items0:=List Weighted×Unit×Int×Int×Unit
abbrev ttTref05Items1:=List Weighted×Unit
abbrev ttTref05Items2:=List Weighted×Int×Int×List Weighted
abbrev ttTref05Items3:=List Weighted×Unit×Int×Unit
def zpm (l:List Weighted) (i:Int) (k:Int) (out_:List Weighted):Wy ttTref05Items0 ttTref05Items1 ttTref05Items2:=.i (decide (k<Int.ofNat out_.length)) (.i (decide (0≤k)&&decide (k≤IntKind.i64.wrap (k+1))&&decide (IntKind.i64.wrap (k+1)≤Int.ofNat out_.length)) (.i (decide (0≤i)&&decide (i≤IntKind.i64.wrap (i+1))&&decide (IntKind.i64.wrap (i+1)≤Int.ofNat l.length)) (.bn (zn6 (List.take ((IntKind.i64.wrap (k+1)).toNat - k.toNat) (List.drop k.toNat out_)) (List.take ((IntKind.i64.wrap (i+1)).toNat - i.toNat) (List.drop i.toNat l))) fun r0=>.i (decide (r0≤0)) (.h (l,(),i,(IntKind.i64.wrap (k+1)),()) (out_,())) (.k (l,i,k,out_))) .d) .d) (.k (l,i,k,out_))
def ztJ (x:ttTref05Items0) (y:ttTref05Items1):Wy ttTref05Items0 ttTref05Items1 ttTref05Items2:=zpm x.1 x.2.2.1 x.2.2.2.1 y.1
def zH7 (n:Nat) (l:List Weighted) (i:Int) (k:Int) (out_:List Weighted):Bool×ttTref05Items2:=zX (ztJ) default n (l,(),i,k,()) (out_,())
def zFT (r:ttTref05Items2):LTree ty:=.done (.exit 2) [.sl 52 r.1,.own 224,.lit (.int .i64 r.2.1),.lit (.int .i64 r.2.2.1)] [.arr 52 r.2.2.2 false]
def zIs:LL ty ttTref05Items0:=za (lSl 52) (za (lOwn 224) (za (lInt .i64) (za (lInt .i64) zH)))
def zHx:BL ty ttTref05Items1:=bArr 52 false (bNil)
def zo8 (l:List Weighted) (i:Int) (out_:List Weighted):Wy ttTref05Items3 ttTref05Items1 (List Weighted):=.i (decide (i<Int.ofNat l.length)) (.i (decide (0≤i)&&decide (i<Int.ofNat l.length)) (.i (Int.ofNat (l.getD i.toNat default).Ann.length==0) (.h (l,(),(IntKind.i64.wrap (i+1)),()) (out_,())) (.bn (zH7 (l.length+i.toNat +Int.toNat 0+out_.length+1) l i 0 out_) fun r2=>.i (decide ((0:Int)≤(0:Int))&&decide (0≤r2.2.2.1)&&decide (r2.2.2.1≤Int.ofNat r2.2.2.2.length)) (.i (decide ((0+(List.take (r2.2.2.1.toNat - Int.toNat 0) (List.drop (Int.toNat 0) r2.2.2.2)).length)*56≤zQ)) (.i (decide (0≤r2.2.1)&&decide (r2.2.1<Int.ofNat r2.1.length)) (.i (decide ((([]++List.take (r2.2.2.1.toNat - Int.toNat 0) (List.drop (Int.toNat 0) r2.2.2.2)).length+[r2.1.getD r2.2.1.toNat default].length)*56≤zQ)) (.i (decide (0≤r2.2.2.1)&&decide (r2.2.2.1≤Int.ofNat r2.2.2.2.length)&&decide (Int.ofNat r2.2.2.2.length≤Int.ofNat r2.2.2.2.length)) (.i (decide ((([]++List.take (r2.2.2.1.toNat - Int.toNat 0) (List.drop (Int.toNat 0) r2.2.2.2)++[r2.1.getD r2.2.1.toNat default]).length+(List.take ((Int.ofNat r2.2.2.2.length).toNat - r2.2.2.1.toNat) (List.drop r2.2.2.1.toNat r2.2.2.2)).length)*56≤zQ)) (.h ((r2.1),(),(IntKind.i64.wrap (r2.2.1+1)),()) (([]++List.take (r2.2.2.1.toNat - Int.toNat 0) (List.drop (Int.toNat 0) r2.2.2.2)++[r2.1.getD r2.2.1.toNat default]++List.take ((Int.ofNat r2.2.2.2.length).toNat - r2.2.2.1.toNat) (List.drop r2.2.2.1.toNat r2.2.2.2)),())) .d) .d) .d) .d) .d) .d)) .d) (.k out_)
def ztB (x:ttTref05Items3) (y:ttTref05Items1):Wy ttTref05Items3 ttTref05Items1 (List Weighted):=zo8 x.1 x.2.2.1 y.1
def zH4 (n:Nat) (l:List Weighted) (i:Int) (out_:List Weighted):Bool×List Weighted:=zX (ztB) default n (l,(),i,()) (out_,())
def zFS (r:List Weighted):LTree ty:=.done (.exit 0) [.own 224] [.arr 52 r false]
def zHf:LL ty ttTref05Items3:=za (lSl 52) (za (lOwn 224) (za (lInt .i64) zH))
def zIe:BL ty ttTref05Items1:=bArr 52 false (bNil)
def zFy (x:ttTref05Items0) (y:ttTref05Items1):Nat:=(x.1.length+Int.toNat x.2.2.1+Int.toNat x.2.2.2.1+y.1.length+1)
def zFA (x:ttTref05Items3) (y:ttTref05Items1):Nat:=(x.1.length+Int.toNat x.2.2.1+y.1.length+1)
def zzF:Cx ty:=mkCx base 56 [(35,ref05_CompareItems_spec)] [] [(3,[(0,.keep),(3,.keep),(4,.keep)]),(7,[(0,.keep),(3,.keep),(4,.keep),(5,.keep)])] [(3,1,[(3,.keep)]),(7,3,[(0,.keep),(3,.keep),(4,.keep),(5,.keep)])] [(7,spW zIs zHx (ztJ) default zFT zFy),(3,spW zHf zIe (ztB) default zFS zFA)] []
theorem zOS:zW zzF (lp (body Tryz.f37) 1):=zK (id:=7) (V:=zIs) (B:=zHx) (W:=ztJ) (z:=default) (tr:=zFT) (m:=zFy)
theorem zOW:zW zzF (lp (body Tryz.f37) 0):=zK (id:=3) (V:=zHf) (B:=zIe) (W:=ztB) (z:=default) (tr:=zFS) (m:=zFA)
def zBT (l:List Weighted):Wy0 (List Weighted):=.bn (zH4 (l.length+Int.toNat 0+0+1) l 0 []) fun r4=>.k r4
def zvw (l:List Weighted):Bool×List Weighted:=(zBT l).fin default
def zFO (r:List Weighted):ARes ty:=⟨[.own 52 r],[]⟩
def zJQ:AL base ttTref05Items1:=zf (zg (vSl 52)) aNil
def zDO:Ab.Spec ty:=zk zJQ fun x=>((zvw x.1).1,zFO (zvw x.1).2)
theorem zM5:Sound Tryz.prog base 37 zDO:=
 zn (cx':=zzF) zJ zl zw (zm ⟨zsV,trivial⟩) Tryz.call37 Tryz.func37 (c:=body Tryz.f37) (by kernel_rfl) (zh (l:=[lp (body Tryz.f37) 0,lp (body Tryz.f37) 1]) (by kernel_rfl) ⟨zOW,zOS,trivial⟩) (sg:=⟨[.own 52],[]⟩) (A:=zJQ) (res:=zFO) (W:=fun x=>zBT x.1) (z:=default)
def zOz:Cx ty:=mkCx base 30 [] [] [] [] [] []
def zw0 (op:Int) (sign:Int):Wy0 (Bool):=.i (op==5) (.k (sign==0)) (.i (op==6) (.k (sign != 0)) (.i (op==7) (.k (decide (sign<0))) (.i (op==8) (.k (decide (sign≤0))) (.i (op==9) (.k (decide (sign>0))) (.i (op==10) (.k (decide (sign≥0))) (.k false))))))
def zrj (op:Int) (sign:Int):Bool×Bool:=(zw0 op sign).fin default
def zCC (r:Bool):ARes ty:=⟨[.pure (.lit (.bool r))],[]⟩
def zFJ:AL base (Int×Int×Unit):=zf (zg (vInt .i64)) (zf (zg (vInt .i64)) aNil)
def zAK:Ab.Spec ty:=zk zFJ fun x=>((zrj x.1 x.2.1).1,zCC (zrj x.1 x.2.1).2)
theorem zKJ:Sound Tryz.prog base 81 zAK:=
 zn (cx':=zOz) zJ zl zw (zm trivial) Tryz.call81 Tryz.func81 (c:=body Tryz.f81) (by kernel_rfl) (zh (l:=[]) (by kernel_rfl) trivial) (sg:=⟨[.pure],[]⟩) (A:=zFJ) (res:=zCC) (W:=fun x=>zw0 x.1 x.2.1) (z:=default)
abbrev ttTref05Test0:=Int×List Weighted×Int×Unit×Int×Unit
abbrev ttTref05Test1:=Int⊕(Int×List Weighted×Int×Value)
def zra (fn:Int) (items:List Weighted) (op:Int) (i:Int) (bound:Value):Wy ttTref05Test0 (Value×Unit) ttTref05Test1:=.i (decide (i<Int.ofNat items.length)) (.i (decide (0≤i)&&decide (i<Int.ofNat items.length)) (.bn (zeL (items.getD i.toNat default).Ann) fun r0=>.i (!r0) (.k (.inl 1)) (.h (fn,items,op,(),(IntKind.i64.wrap (i+1)),()) (bound,()))) .d) (.k (.inr (fn,items,op,bound)))
def zvD (x:ttTref05Test0) (y:Value×Unit):Wy ttTref05Test0 (Value×Unit) ttTref05Test1:=zra x.1 x.2.1 x.2.2.1 x.2.2.2.2.1 y.1
def zJM (n:Nat) (fn:Int) (items:List Weighted) (op:Int) (i:Int) (bound:Value):Bool×ttTref05Test1:=zX (zvD) (.inl default) n (fn,items,op,(),i,()) (bound,())
def zHS (r:ttTref05Test1):LTree ty:=.ite (isL r) (.done .ret [.lit (.slice none 0 0),.lit (.int .i64 (getL r))] []) (.done (.exit 0) [.lit (.int .i64 (getR r).1),.sl 52 (getR r).2.1,.lit (.int .i64 (getR r).2.2.1),.ptr 220 0] [.box (base.enc 46 (getR r).2.2.2) false])
def zKa:LL ty ttTref05Test0:=za (lInt .i64) (za (lSl 52) (za (lInt .i64) (za (ze9 220 0) (za (lInt .i64) zH))))
def zJ6:BL ty (Value×Unit):=bBox (zgz (fun x=>(⟨x.1,x.2.1,x.2.2.1⟩:Value)) (fun x=>(x.Kind,x.Int,x.Text,())) (fun _=>rfl) (za (lInt .i64) (za (lInt .i64) (za lStr zH)))) false (bNil)
def zID (x:ttTref05Test0) (y:Value×Unit):Nat:=(Int.toNat x.1+x.2.1.length+Int.toNat x.2.2.1+Int.toNat x.2.2.2.2.1+1)
def zJL:Cx ty:=mkCx base 55 [(30,ztM),(37,zDO),(46,ref05_Valid_spec),(56,zkx),(63,zll),(80,zvT),(81,zAK),(82,zhW)] [] [(4,[(0,.keep),(1,.keep),(2,.keep),(7,.keep),(10,.keep)])] [(4,1,[(0,.keep),(1,.keep),(2,.keep),(7,.keep)]),(4,0,[(8,.keep),(9,.keep)])] [(4,spW zKa zJ6 (zvD) (.inl default) zHS zID)] []
theorem zP1:zW zJL (lp (body Tryz.f34) 0):=zK (id:=4) (V:=zKa) (B:=zJ6) (W:=zvD) (z:=.inl default) (tr:=zHS) (m:=zID)
def zDM (fn:Int) (items:List Weighted) (op:Int) (bound:Value):Wy0 (List Term×Int):=.bn (zrm fn items op bound) fun r7=>.i (!r7) (.k ([],1)) (.bn (zJM (fn.toNat +items.length+op.toNat +Int.toNat 0+1) fn items op 0 bound) fun r6=>.i (isL r6) (.k ([],getL r6)) (.bn (zvw (getR r6).2.1) fun r5=>.i (Int.ofNat r5.length==0) (.i ((getR r6).1==0) (.bn (zcq 0 (getR r6).2.2.2.Int) fun r3=>.bn (zrj (getR r6).2.2.1 r3) fun r2=>.i (r2) (.k (zz5.2,0)) (.k ([],0))) (.k ([],0))) (.bn (zkT (zkE (Atom.mk 4 (RowID.mk 0 0) [] (getR r6).1 r5 (getR r6).2.2.1 (getR r6).2.2.2)).2) fun r4=>.k (r4.1,r4.2))))
def ztQ (fn:Int) (items:List Weighted) (op:Int) (bound:Value):Bool×(List Term×Int):=(zDM fn items op bound).fin default
def zHX (r:List Term×Int):ARes ty:=⟨[.pure (.sl 42 r.1),.pure (.lit (.int .i64 r.2))],[]⟩
def zMz:AL base (Int×List Weighted×Int×Value×Unit):=zf (zg (vInt .i64)) (zf (zg (vSl 52)) (zf (zg (vInt .i64)) (zf (zg (vAgg 46)) aNil)))
def zFR:Ab.Spec ty:=zk zMz fun x=>((ztQ x.1 x.2.1 x.2.2.1 x.2.2.2.1).1,zHX (ztQ x.1 x.2.1 x.2.2.1 x.2.2.2.1).2)
theorem zOs:Sound Tryz.prog base 34 zFR:=
 zn (cx':=zJL) zJ zl zw (zm ⟨zyf,zM5,zhV,zln,zmW,zCm,zKJ,ziH,trivial⟩) Tryz.call34 Tryz.func34 (c:=body Tryz.f34) (by kernel_rfl) (zh (l:=[lp (body Tryz.f34) 0]) (by kernel_rfl) ⟨zP1,trivial⟩) (sg:=⟨[.pure,.pure],[]⟩) (A:=zMz) (res:=zHX) (W:=fun x=>zDM x.1 x.2.1 x.2.2.1 x.2.2.2.1) (z:=default)
def zSw:Cx ty:=mkCx base 14 [(63,zll)] [] [] [] [] []
def zG9 (id:RowID):Wy0 (List Term):=.i (decide (id.Table<1)) (.k []) (.i (decide (id.Seq<1)) (.k []) (.k ((zkE (Atom.mk 0 id [] 0 [] 0 (Value.mk 0 0 (ByteArray.mk #[])))).2)))
def zz4 (id:RowID):Bool×List Term:=(zG9 id).fin default
def zKu (r:List Term):ARes ty:=⟨[.own 42 r],[]⟩
def zNU:AL base (RowID×Unit):=zf (zg (vAgg 25)) aNil
def zHm:Ab.Spec ty:=zk zNU fun x=>((zz4 x.1).1,zKu (zz4 x.1).2)
theorem zOL:Sound Tryz.prog base 28 zHm:=
 zn (cx':=zSw) zJ zl zw (zm ⟨zmW,trivial⟩) Tryz.call28 Tryz.func28 (c:=body Tryz.f28) (by kernel_rfl) (zh (l:=[]) (by kernel_rfl) trivial) (sg:=⟨[.own 42],[]⟩) (A:=zNU) (res:=zKu) (W:=fun x=>zG9 x.1) (z:=default)
abbrev ttTref05bound0:=List Binding×Unit×Int×Unit
abbrev ttTref05bound1:=(List Term×Bool)⊕Unit
def zzn (l:List Binding) (i:Int) (id:RowID):Wy ttTref05bound0 (RowID×Unit) ttTref05bound1:=.i (decide (i<Int.ofNat l.length)) (.i (decide (0≤i)&&decide (i<Int.ofNat l.length)) (.i ((l.getD i.toNat default).Row.Table==id.Table&&((l.getD i.toNat default).Row.Seq==id.Seq&&true)) (.i (decide (0≤i)&&decide (i<Int.ofNat l.length)) (.k (.inl ((l.getD i.toNat default).To,true))) .d) (.h (l,(),(IntKind.i64.wrap (i+1)),()) (id,()))) .d) (.k (.inr ()))
def zzt (x:ttTref05bound0) (y:RowID×Unit):Wy ttTref05bound0 (RowID×Unit) ttTref05bound1:=zzn x.1 x.2.2.1 y.1
def zzz (n:Nat) (l:List Binding) (i:Int) (id:RowID):Bool×ttTref05bound1:=zX (zzt) (.inl default) n (l,(),i,()) (id,())
def zGb (r:ttTref05bound1):LTree ty:=.ite (isL r) (.done .ret [.sl 42 ((getL r).1),.lit (.bool ((getL r).2))] []) (.done (.exit 0) [] [])
def zIh:LL ty ttTref05bound0:=za (lSl 69) (za (ze9 100 0) (za (lInt .i64) zH))
def zHn:BL ty (RowID×Unit):=bBox (zgz (fun x=>(⟨x.1,x.2.1⟩:RowID)) (fun x=>(x.Table,x.Seq,())) (fun _=>rfl) (za (lInt .i64) (za (lInt .i64) zH))) false (bNil)
def zH2:Cx ty:=mkCx base 25 [] [] [(2,[(0,.keep),(3,.keep),(6,.keep)])] [(2,1,[]),(2,0,[(4,.keep),(5,.keep)])] [(2,spW zIh zHn (zzt) (.inl default) zGb fun x y=>(x.1.length+Int.toNat x.2.2.1+1))] []
theorem zPK:zW zH2 (lp (body Tryz.f166) 0):=zK (id:=2) (V:=zIh) (B:=zHn) (W:=zzt) (z:=.inl default) (tr:=zGb) (m:=fun x y=>(x.1.length+Int.toNat x.2.2.1+1))
def zCa (l:List Binding) (id:RowID):Wy0 (List Term×Bool):=.bn (zzz (l.length+Int.toNat 0+1) l 0 id) fun r0=>.i (isL r0) (.k ((getL r0).1,(getL r0).2)) (.k ([],false))
def zuK (l:List Binding) (id:RowID):Bool×(List Term×Bool):=(zCa l id).fin default
def zF7 (r:List Term×Bool):ARes ty:=⟨[.pure (.sl 42 r.1),.pure (.lit (.bool r.2))],[]⟩
def zJ8:AL base (List Binding×RowID×Unit):=zf (zg (vSl 69)) (zf (zg (vAgg 25)) aNil)
def zDW:Ab.Spec ty:=zk zJ8 fun x=>((zuK x.1 x.2.1).1,zF7 (zuK x.1 x.2.1).2)
theorem zM3:Sound Tryz.prog base 166 zDW:=
 zn (cx':=zH2) zJ zl zw (zm trivial) Tryz.call166 Tryz.func166 (c:=body Tryz.f166) (by kernel_rfl) (zh (l:=[lp (body Tryz.f166) 0]) (by kernel_rfl) ⟨zPK,trivial⟩) (sg:=⟨[.pure,.pure],[]⟩) (A:=zJ8) (res:=zF7) (W:=fun x=>zCa x.1 x.2.1) (z:=default)
abbrev ttTref05atom0:=List Binding×Unit×Unit×Int×Unit
abbrev ttTref05atom1:=Atom×List (List Term)×Unit
abbrev ttTref05atom2:=Int⊕(List Binding×Atom×List (List Term))
abbrev ttTref05atom3:=List Binding×Unit×Unit×Unit×Int×Unit
abbrev ttTref05atom4:=Atom×List (List Term)×List Weighted×Unit
abbrev ttTref05atom5:=Int⊕(Atom×List (List Term)×List Weighted)
def zxe (z6:List Term→List Binding→Bool×(List Term×Int)) (l:List Binding) (i:Int) (x_:Atom) (args:List (List Term)):Wy ttTref05atom0 ttTref05atom1 ttTref05atom2:=.i (decide (i<Int.ofNat x_.Args.length)) (.i (decide (0≤i)&&decide (i<Int.ofNat x_.Args.length)) (.bn (z6 (x_.Args.getD i.toNat default) l) fun r0=>.i (r0.2 != 0) (.k (.inl (r0.2))) (.i (decide ((args.length+[r0.1].length)*24≤zQ)) (.h (l,(),(),(IntKind.i64.wrap (i+1)),()) (x_,(args++[r0.1]),())) .d)) .d) (.k (.inr (l,x_,args)))
def zxN (z6:List Term→List Binding→Bool×(List Term×Int)) (x:ttTref05atom0) (y:ttTref05atom1):Wy ttTref05atom0 ttTref05atom1 ttTref05atom2:=zxe z6 x.1 x.2.2.2.1 y.1 y.2.1
def zxF (z6:List Term→List Binding→Bool×(List Term×Int)) (n:Nat) (l:List Binding) (i:Int) (x_:Atom) (args:List (List Term)):Bool×ttTref05atom2:=zX (zxN z6) (.inl default) n (l,(),(),i,()) (x_,args,())
def zD3 (r:ttTref05atom2):LTree ty:=.ite (isL r) (.done .ret [.lit (.slice none 0 0),.lit (.int .i64 (getL r))] []) (.done (.exit 0) [.sl 69 (getR r).1,.ptr 512 0,.own 513] [.box (base.enc 48 (getR r).2.1) false,.arr 23 (getR r).2.2 false])
def zGw:LL ty ttTref05atom0:=za (lSl 69) (za (ze9 512 0) (za (lOwn 513) (za (lInt .i64) zH)))
def zGk:BL ty ttTref05atom1:=bBox (zgz (fun x=>(⟨x.1,⟨x.2.1,x.2.2.1⟩,x.2.2.2.1,x.2.2.2.2.1,x.2.2.2.2.2.1,x.2.2.2.2.2.2.1,⟨x.2.2.2.2.2.2.2.1,x.2.2.2.2.2.2.2.2.1,x.2.2.2.2.2.2.2.2.2.1⟩⟩:Atom)) (fun x=>(x.Kind,x.Row.Table,x.Row.Seq,x.Args,x.Func,x.Items,x.Op,x.Bound.Kind,x.Bound.Int,x.Bound.Text,())) (fun _=>rfl) (za (lInt .i64) (za (lInt .i64) (za (lInt .i64) (za (lSl 23) (za (lInt .i64) (za (lSl 52) (za (lInt .i64) (za (lInt .i64) (za (lInt .i64) (za lStr zH))))))))))) false (bArr 23 false (bNil))
def zvJ (z6:List Term→List Binding→Bool×(List Term×Int)) (l:List Binding) (i:Int) (x_:Atom) (args:List (List Term)) (items:List Weighted):Wy ttTref05atom3 ttTref05atom4 ttTref05atom5:=.i (decide (i<Int.ofNat x_.Items.length)) (.i (decide (0≤i)&&decide (i<Int.ofNat x_.Items.length)) (.bn (z6 (x_.Items.getD i.toNat default).Ann l) fun r2=>.i (r2.2 != 0) (.k (.inl (r2.2))) (.i (decide (0≤i)&&decide (i<Int.ofNat x_.Items.length)) (.i (decide ((items.length+[WeightedOf.mk (x_.Items.getD i.toNat default).Value r2.1].length)*56≤zQ)) (.h (l,(),(),(),(IntKind.i64.wrap (i+1)),()) (x_,args,(items++[WeightedOf.mk (x_.Items.getD i.toNat default).Value r2.1]),())) .d) .d)) .d) (.k (.inr (x_,args,items)))
def zvO (z6:List Term→List Binding→Bool×(List Term×Int)) (x:ttTref05atom3) (y:ttTref05atom4):Wy ttTref05atom3 ttTref05atom4 ttTref05atom5:=zvJ z6 x.1 x.2.2.2.2.1 y.1 y.2.1 y.2.2.1
def zvI (z6:List Term→List Binding→Bool×(List Term×Int)) (n:Nat) (l:List Binding) (i:Int) (x_:Atom) (args:List (List Term)) (items:List Weighted):Bool×ttTref05atom5:=zX (zvO z6) (.inl default) n (l,(),(),(),i,()) (x_,args,items,())
def zCi (r:ttTref05atom5):LTree ty:=.ite (isL r) (.done .ret [.lit (.slice none 0 0),.lit (.int .i64 (getL r))] []) (.done (.exit 2) [.ptr 512 0,.own 513,.own 514] [.box (base.enc 48 (getR r).1) false,.arr 23 (getR r).2.1 false,.arr 52 (getR r).2.2 false])
def zDu:LL ty ttTref05atom3:=za (lSl 69) (za (ze9 512 0) (za (lOwn 513) (za (lOwn 514) (za (lInt .i64) zH))))
def zD6:BL ty ttTref05atom4:=bBox (zgz (fun x=>(⟨x.1,⟨x.2.1,x.2.2.1⟩,x.2.2.2.1,x.2.2.2.2.1,x.2.2.2.2.2.1,x.2.2.2.2.2.2.1,⟨x.2.2.2.2.2.2.2.1,x.2.2.2.2.2.2.2.2.1,x.2.2.2.2.2.2.2.2.2.1⟩⟩:Atom)) (fun x=>(x.Kind,x.Row.Table,x.Row.Seq,x.Args,x.Func,x.Items,x.Op,x.Bound.Kind,x.Bound.Int,x.Bound.Text,())) (fun _=>rfl) (za (lInt .i64) (za (lInt .i64) (za (lInt .i64) (za (lSl 23) (za (lInt .i64) (za (lSl 52) (za (lInt .i64) (za (lInt .i64) (za (lInt .i64) (za lStr zH))))))))))) false (bArr 23 false (bArr 52 false (bNil)))
def zEU (x:ttTref05atom0) (y:ttTref05atom1):Nat:=((x.1.length+Int.toNat x.2.2.2.1+y.2.1.length+1)+y.1.Args.length+y.1.Items.length)
def zCI (x:ttTref05atom3) (y:ttTref05atom4):Nat:=((x.1.length+Int.toNat x.2.2.2.2.1+y.2.1.length+y.2.2.1.length+1)+y.1.Args.length+y.1.Items.length)
def zxK (z6:List Term→List Binding→Bool×(List Term×Int)):Cx ty:=mkCx base 128 [(19,zDw),(21,zFe),(23,zCG),(28,zHm),(34,zFR),(96,(zn5 z6)),(166,zDW)] [] [(8,[(1,.keep),(2,.keep),(8,.keep),(9,.keep)]),(16,[(1,.keep),(2,.keep),(8,.keep),(12,.keep),(13,.keep)])] [(8,1,[(1,.keep),(2,.keep),(8,.keep)]),(8,0,[(4,.keep),(5,.keep)]),(16,3,[(2,.keep),(8,.keep),(12,.keep)]),(16,0,[(4,.keep),(5,.keep)])] [(8,spW zGw zGk (zxN z6) (.inl default) zD3 zEU),(16,spW zDu zD6 (zvO z6) (.inl default) zCi zCI)] []
theorem zOc (z6:List Term→List Binding→Bool×(List Term×Int)):zW (zxK z6) (lp (body Tryz.f141) 0):=zK (id:=8) (V:=zGw) (B:=zGk) (W:=zxN z6) (z:=.inl default) (tr:=zD3) (m:=zEU)
theorem zM6 (z6:List Term→List Binding→Bool×(List Term×Int)):zW (zxK z6) (lp (body Tryz.f141) 1):=zK (id:=16) (V:=zDu) (B:=zD6) (W:=zvO z6) (z:=.inl default) (tr:=zCi) (m:=zCI)
def zzC (z6:List Term→List Binding→Bool×(List Term×Int)) (x_:Atom) (l:List Binding):Wy0 (List Term×Int):=.i (x_.Kind==0) (.bn (zuK l x_.Row) fun r5=>.i (r5.2) (.k (r5.1,0)) (.bn (zz4 x_.Row) fun r4=>.k (r4,0))) (.bn (zxF z6 ((l.length+Int.toNat 0+0+1)+(Atom.mk x_.Kind x_.Row x_.Args x_.Func x_.Items x_.Op x_.Bound).Args.length+(Atom.mk x_.Kind x_.Row x_.Args x_.Func x_.Items x_.Op x_.Bound).Items.length) l 0 (Atom.mk x_.Kind x_.Row x_.Args x_.Func x_.Items x_.Op x_.Bound) []) fun r11=>.i (isL r11) (.k ([],getL r11)) (.bn (zvI z6 (((getR r11).1.length+Int.toNat 0+(getR r11).2.2.length+0+1)+(Atom.mk (getR r11).2.1.Kind (getR r11).2.1.Row (getR r11).2.1.Args (getR r11).2.1.Func (getR r11).2.1.Items (getR r11).2.1.Op (getR r11).2.1.Bound).Args.length+(Atom.mk (getR r11).2.1.Kind (getR r11).2.1.Row (getR r11).2.1.Args (getR r11).2.1.Func (getR r11).2.1.Items (getR r11).2.1.Op (getR r11).2.1.Bound).Items.length) (getR r11).1 0 (Atom.mk (getR r11).2.1.Kind (getR r11).2.1.Row (getR r11).2.1.Args (getR r11).2.1.Func (getR r11).2.1.Items (getR r11).2.1.Op (getR r11).2.1.Bound) (getR r11).2.2 []) fun r10=>.i (isL r10) (.k ([],getL r10)) (.i ((getR r10).1.Kind==1) (.i (decide ((0:Int)≤(0:Int))&&decide (0<Int.ofNat (getR r10).2.1.length)) (.i (decide ((0:Int)≤(1:Int))&&decide (1<Int.ofNat (getR r10).2.1.length)) (.bn (zvk ((getR r10).2.1.getD (Int.toNat 0) default) ((getR r10).2.1.getD (Int.toNat 1) default)) fun r6=>.k (r6.1,r6.2)) .d) .d) (.i ((getR r10).1.Kind==2) (.i (decide ((0:Int)≤(0:Int))&&decide (0<Int.ofNat (getR r10).2.1.length)) (.bn (zu2 ((getR r10).2.1.getD (Int.toNat 0) default)) fun r7=>.k (r7.1,r7.2)) .d) (.i ((getR r10).1.Kind==3) (.i (decide ((0:Int)≤(0:Int))&&decide (0<Int.ofNat (getR r10).2.1.length)) (.bn (zsq ((getR r10).2.1.getD (Int.toNat 0) default)) fun r8=>.k (r8.1,r8.2)) .d) (.bn (ztQ (getR r10).1.Func (getR r10).2.2 (getR r10).1.Op (getR r10).1.Bound) fun r9=>.k (r9.1,r9.2)))))))
def ztz (z6:List Term→List Binding→Bool×(List Term×Int)) (x_:Atom) (l:List Binding):Bool×(List Term×Int):=(zzC z6 x_ l).fin default
theorem zLa (z6:List Term→List Binding→Bool×(List Term×Int)) (zM2:Sound Tryz.prog base 96 (zn5 z6)):Sound Tryz.prog base 141 (zya (ztz z6)):=
 zn (cx':=(zxK z6)) zJ zl zw (zm ⟨zM7,zNj,zMk,zOL,zOs,zM2,zM3,trivial⟩) Tryz.call141 Tryz.func141 (c:=body Tryz.f141) (by kernel_rfl) (zh (l:=[lp (body Tryz.f141) 0,lp (body Tryz.f141) 1]) (by kernel_rfl) ⟨zOc z6,zM6 z6,trivial⟩) (sg:=⟨[.pure,.pure],[]⟩) (A:=zK6) (res:=zHh) (W:=fun x=>zzC z6 x.1 x.2.1) (z:=default)
def zRT:Cx ty:=mkCx base 9 [] [] [] [] [] []
def zDU (a:Int) (b:Int):Wy0 (Int):=.k (if 1152921504606846976<IntKind.i64.wrap (a+b) then 1152921504606846976 else IntKind.i64.wrap (a+b))
def zqD (a:Int) (b:Int):Bool×Int:=(zDU a b).fin default
def zHO (r:Int):ARes ty:=⟨[.pure (.lit (.int .i64 r))],[]⟩
def zLj:AL base (Int×Int×Unit):=zf (zg (vInt .i64)) (zf (zg (vInt .i64)) aNil)
def zFY:Ab.Spec ty:=zk zLj fun x=>((zqD x.1 x.2.1).1,zHO (zqD x.1 x.2.1).2)
theorem zOq:Sound Tryz.prog base 157 zFY:=
 zn (cx':=zRT) zJ zl zw (zm trivial) Tryz.call157 Tryz.func157 (c:=body Tryz.f157) (by kernel_rfl) (zh (l:=[]) (by kernel_rfl) trivial) (sg:=⟨[.pure],[]⟩) (A:=zLj) (res:=zHO) (W:=fun x=>zDU x.1 x.2.1) (z:=default)
abbrev ttTref05Put0:=List Term×Unit×Int×Unit
abbrev ttTref05Put1:=List Term×Int×Term
def zss (a:List Term) (i:Int) (t:Term):Wy ttTref05Put0 (Term×Unit) ttTref05Put1:=.i (decide (i<Int.ofNat a.length)) (.i (decide (0≤i)&&decide (i<Int.ofNat a.length)) (.bn (zju (a.getD i.toNat default).Factors t.Factors) fun r0=>.i (decide (r0<0)) (.h (a,(),(IntKind.i64.wrap (i+1)),()) (t,())) (.k (a,i,t))) .d) (.k (a,i,t))
def zx4 (x:ttTref05Put0) (y:Term×Unit):Wy ttTref05Put0 (Term×Unit) ttTref05Put1:=zss x.1 x.2.2.1 y.1
def zMD (n:Nat) (a:List Term) (i:Int) (t:Term):Bool×ttTref05Put1:=zX (zx4) default n (a,(),i,()) (t,())
def zKb (r:ttTref05Put1):LTree ty:=.done (.exit 0) [.sl 42 r.1,.ptr 288 0,.lit (.int .i64 r.2.1)] [.box (base.enc 42 r.2.2) false]
def zL2:LL ty ttTref05Put0:=za (lSl 42) (za (ze9 288 0) (za (lInt .i64) zH))
def zLF:BL ty (Term×Unit):=bBox (zgz (fun x=>(⟨x.1,x.2.1⟩:Term)) (fun x=>(x.Coeff,x.Factors,())) (fun _=>rfl) (za (lInt .i64) (za (lSl 50) zH))) false (bNil)
def zJ4 (x:ttTref05Put0) (y:Term×Unit):Nat:=((x.1.length+Int.toNat x.2.2.1+1)+y.1.Factors.length)
def zLZ:Cx ty:=mkCx base 72 [(89,ref05_CompareFactors_spec),(157,zFY)] [] [(2,[(0,.keep),(3,.keep),(5,.keep)])] [(2,1,[(0,.keep),(3,.keep),(5,.keep)])] [(2,spW zL2 zLF (zx4) default zKb zJ4)] []
theorem zRD:zW zLZ (lp (body Tryz.f113) 0):=zK (id:=2) (V:=zL2) (B:=zLF) (W:=zx4) (z:=default) (tr:=zKb) (m:=zJ4)
def zG2 (a:List Term) (t:Term):Wy0 (List Term):=.bn (zMD ((a.length+Int.toNat 0+1)+t.Factors.length) a 0 t) fun r3=>.i (decide ((0:Int)≤(0:Int))&&decide (0≤r3.2.1)&&decide (r3.2.1≤Int.ofNat r3.1.length)) (.i (decide ((0+(List.take (r3.2.1.toNat - Int.toNat 0) (List.drop (Int.toNat 0) r3.1)).length)*32≤zQ)) (.i (decide (r3.2.1<Int.ofNat r3.1.length)) (.i (decide (0≤r3.2.1)&&decide (r3.2.1<Int.ofNat r3.1.length)) (.bn (zju (r3.1.getD r3.2.1.toNat default).Factors r3.2.2.Factors) fun r2=>.i (r2==0) (.i (decide (0≤r3.2.1)&&decide (r3.2.1<Int.ofNat r3.1.length)) (.i (decide ((([]++List.take (r3.2.1.toNat - Int.toNat 0) (List.drop (Int.toNat 0) r3.1)).length+[TermOf.mk (zqD (r3.1.getD r3.2.1.toNat default).Coeff r3.2.2.Coeff).2 r3.2.2.Factors].length)*32≤zQ)) (.i (decide (0≤IntKind.i64.wrap (r3.2.1+1))&&decide (IntKind.i64.wrap (r3.2.1+1)≤Int.ofNat r3.1.length)&&decide (Int.ofNat r3.1.length≤Int.ofNat r3.1.length)) (.i (decide ((([]++List.take (r3.2.1.toNat - Int.toNat 0) (List.drop (Int.toNat 0) r3.1)++[TermOf.mk (zqD (r3.1.getD r3.2.1.toNat default).Coeff r3.2.2.Coeff).2 r3.2.2.Factors]).length+(List.take ((Int.ofNat r3.1.length).toNat - (IntKind.i64.wrap (r3.2.1+1)).toNat) (List.drop (IntKind.i64.wrap (r3.2.1+1)).toNat r3.1)).length)*32≤zQ)) (.k ([]++List.take (r3.2.1.toNat - Int.toNat 0) (List.drop (Int.toNat 0) r3.1)++[TermOf.mk (zqD (r3.1.getD r3.2.1.toNat default).Coeff r3.2.2.Coeff).2 r3.2.2.Factors]++List.take ((Int.ofNat r3.1.length).toNat - (IntKind.i64.wrap (r3.2.1+1)).toNat) (List.drop (IntKind.i64.wrap (r3.2.1+1)).toNat r3.1))) .d) .d) .d) .d) (.i (decide ((([]++List.take (r3.2.1.toNat - Int.toNat 0) (List.drop (Int.toNat 0) r3.1)).length+[r3.2.2].length)*32≤zQ)) (.i (decide (0≤r3.2.1)&&decide (r3.2.1≤Int.ofNat r3.1.length)&&decide (Int.ofNat r3.1.length≤Int.ofNat r3.1.length)) (.i (decide ((([]++List.take (r3.2.1.toNat - Int.toNat 0) (List.drop (Int.toNat 0) r3.1)++[r3.2.2]).length+(List.take ((Int.ofNat r3.1.length).toNat - r3.2.1.toNat) (List.drop r3.2.1.toNat r3.1)).length)*32≤zQ)) (.k ([]++List.take (r3.2.1.toNat - Int.toNat 0) (List.drop (Int.toNat 0) r3.1)++[r3.2.2]++List.take ((Int.ofNat r3.1.length).toNat - r3.2.1.toNat) (List.drop r3.2.1.toNat r3.1))) .d) .d) .d)) .d) (.i (decide ((([]++List.take (r3.2.1.toNat - Int.toNat 0) (List.drop (Int.toNat 0) r3.1)).length+[r3.2.2].length)*32≤zQ)) (.i (decide (0≤r3.2.1)&&decide (r3.2.1≤Int.ofNat r3.1.length)&&decide (Int.ofNat r3.1.length≤Int.ofNat r3.1.length)) (.i (decide ((([]++List.take (r3.2.1.toNat - Int.toNat 0) (List.drop (Int.toNat 0) r3.1)++[r3.2.2]).length+(List.take ((Int.ofNat r3.1.length).toNat - r3.2.1.toNat) (List.drop r3.2.1.toNat r3.1)).length)*32≤zQ)) (.k ([]++List.take (r3.2.1.toNat - Int.toNat 0) (List.drop (Int.toNat 0) r3.1)++[r3.2.2]++List.take ((Int.ofNat r3.1.length).toNat - r3.2.1.toNat) (List.drop r3.2.1.toNat r3.1))) .d) .d) .d)) .d) .d
def zwE (a:List Term) (t:Term):Bool×List Term:=(zG2 a t).fin default
def zJX (r:List Term):ARes ty:=⟨[.own 42 r],[]⟩
def zNW:AL base (List Term×Term×Unit):=zf (zg (vSl 42)) (zf (zg (vAgg 42)) aNil)
def zzN:Ab.Spec ty:=zk zNW fun x=>((zwE x.1 x.2.1).1,zJX (zwE x.1 x.2.1).2)
theorem zGu:Sound Tryz.prog base 113 zzN:=
 zn (cx':=zLZ) zJ zl zw (zm ⟨zq6,zOq,trivial⟩) Tryz.call113 Tryz.func113 (c:=body Tryz.f113) (by kernel_rfl) (zh (l:=[lp (body Tryz.f113) 0]) (by kernel_rfl) ⟨zRD,trivial⟩) (sg:=⟨[.own 42],[]⟩) (A:=zNW) (res:=zJX) (W:=fun x=>zG2 x.1 x.2.1) (z:=default)
abbrev ttTref05Sum0:=List Term×List Term×Int×Unit
def zs6 (a:List Term) (b:List Term) (i:Int):Wy ttTref05Sum0 (Unit) (List Term):=.i (decide (i<Int.ofNat b.length)) (.i (decide (0≤i)&&decide (i<Int.ofNat b.length)) (.bn (zwE a (b.getD i.toNat default)) fun r0=>.h ((r0),b,(IntKind.i64.wrap (i+1)),()) ()) .d) (.k a)
def zxp (x:ttTref05Sum0) (y:Unit):Wy ttTref05Sum0 (Unit) (List Term):=zs6 x.1 x.2.1 x.2.2.1
def zLl (n:Nat) (a:List Term) (b:List Term) (i:Int):Bool×List Term:=zX (zxp) default n (a,b,i,()) ()
def zJ7 (r:List Term):LTree ty:=.done (.exit 0) [.sl 42 r] []
def zMq:LL ty ttTref05Sum0:=za (lSl 42) (za (lSl 42) (za (lInt .i64) zH))
def zL9:BL ty (Unit):=bNil
def zKo (x:ttTref05Sum0) (y:Unit):Nat:=(x.1.length+x.2.1.length+Int.toNat x.2.2.1+1)
def zK4:Cx ty:=mkCx base 19 [(113,zzN)] [] [(2,[(0,.sl 42),(1,.keep),(5,.keep)])] [(2,1,[(0,.keep)])] [(2,spW zMq zL9 (zxp) default zJ7 zKo)] []
theorem zRO:zW zK4 (lp (body Tryz.f57) 0):=zK (id:=2) (V:=zMq) (B:=zL9) (W:=zxp) (z:=default) (tr:=zJ7) (m:=zKo)
def zGC (a:List Term) (b:List Term):Wy0 (List Term):=.bn (zLl (a.length+b.length+Int.toNat 0+1) a b 0) fun r2=>.k r2
def zAI (a:List Term) (b:List Term):Bool×List Term:=(zGC a b).fin default
def zJY (r:List Term):ARes ty:=⟨[.pure (.sl 42 r)],[]⟩
def zNI:AL base (List Term×List Term×Unit):=zf (zg (vSl 42)) (zf (zg (vSl 42)) aNil)
def zHY:Ab.Spec ty:=zk zNI fun x=>((zAI x.1 x.2.1).1,zJY (zAI x.1 x.2.1).2)
theorem zPh:Sound Tryz.prog base 57 zHY:=
 zn (cx':=zK4) zJ zl zw (zm ⟨zGu,trivial⟩) Tryz.call57 Tryz.func57 (c:=body Tryz.f57) (by kernel_rfl) (zh (l:=[lp (body Tryz.f57) 0]) (by kernel_rfl) ⟨zRO,trivial⟩) (sg:=⟨[.pure],[]⟩) (A:=zNI) (res:=zJY) (W:=fun x=>zGC x.1 x.2.1) (z:=default)
def zTA:Cx ty:=mkCx base 20 [(46,ref05_Valid_spec),(56,zkx),(57,zHY)] [] [] [] [] []
def zGP (a:List Term) (b:List Term):Wy0 (List Term×Int):=.bn (zeL a) fun r3=>.i (!r3) (.k ([],1)) (.bn (zeL b) fun r2=>.i (!r2) (.k ([],1)) (.bn (zAI a b) fun r1=>.bn (zkT r1) fun r0=>.k (r0.1,r0.2)))
def zBh (a:List Term) (b:List Term):Bool×(List Term×Int):=(zGP a b).fin default
def zJ1 (r:List Term×Int):ARes ty:=⟨[.pure (.sl 42 r.1),.pure (.lit (.int .i64 r.2))],[]⟩
def zNT:AL base (List Term×List Term×Unit):=zf (zg (vSl 42)) (zf (zg (vSl 42)) aNil)
def zIl:Ab.Spec ty:=zk zNT fun x=>((zBh x.1 x.2.1).1,zJ1 (zBh x.1 x.2.1).2)
theorem zOC:Sound Tryz.prog base 14 zIl:=
 zn (cx':=zTA) zJ zl zw (zm ⟨zhV,zln,zPh,trivial⟩) Tryz.call14 Tryz.func14 (c:=body Tryz.f14) (by kernel_rfl) (zh (l:=[]) (by kernel_rfl) trivial) (sg:=⟨[.pure,.pure],[]⟩) (A:=zNT) (res:=zJ1) (W:=fun x=>zGP x.1 x.2.1) (z:=default)
def zQg:Cx ty:=mkCx base 9 [] [] [] [] [] []
def zBG (n_:Int):Wy0 (List Term):=.i (decide (n_<1)) (.k []) (.k [TermOf.mk (if 1152921504606846976<n_ then 1152921504606846976 else n_) []])
def zvl (n_:Int):Bool×List Term:=(zBG n_).fin default
def zF6 (r:List Term):ARes ty:=⟨[.own 42 r],[]⟩
def zJE:AL base (Int×Unit):=zf (zg (vInt .i64)) aNil
def zEs:Ab.Spec ty:=zk zJE fun x=>((zvl x.1).1,zF6 (zvl x.1).2)
theorem zNh:Sound Tryz.prog base 26 zEs:=
 zn (cx':=zQg) zJ zl zw (zm trivial) Tryz.call26 Tryz.func26 (c:=body Tryz.f26) (by kernel_rfl) (zh (l:=[]) (by kernel_rfl) trivial) (sg:=⟨[.own 42],[]⟩) (A:=zJE) (res:=zF6) (W:=fun x=>zBG x.1) (z:=default)
abbrev ttTref05factor0:=List Factor×Unit×Int×Unit
abbrev ttTref05factor1:=List Factor×Int×Factor
def zoh (l:List Factor) (i:Int) (f:Factor):Wy ttTref05factor0 (Factor×Unit) ttTref05factor1:=.i (decide (i<Int.ofNat l.length)) (.i (decide (0≤i)&&decide (i<Int.ofNat l.length)) (.bn (zjQ (Atom.mk (l.getD i.toNat default).Atom.Kind (l.getD i.toNat default).Atom.Row (l.getD i.toNat default).Atom.Args (l.getD i.toNat default).Atom.Func (l.getD i.toNat default).Atom.Items (l.getD i.toNat default).Atom.Op (l.getD i.toNat default).Atom.Bound) (Atom.mk f.Atom.Kind f.Atom.Row f.Atom.Args f.Atom.Func f.Atom.Items f.Atom.Op f.Atom.Bound)) fun r0=>.i (decide (r0<0)) (.h (l,(),(IntKind.i64.wrap (i+1)),()) (f,())) (.k (l,i,f))) .d) (.k (l,i,f))
def zse (x:ttTref05factor0) (y:Factor×Unit):Wy ttTref05factor0 (Factor×Unit) ttTref05factor1:=zoh x.1 x.2.2.1 y.1
def zFC (n:Nat) (l:List Factor) (i:Int) (f:Factor):Bool×ttTref05factor1:=zX (zse) default n (l,(),i,()) (f,())
def zEc (r:ttTref05factor1):LTree ty:=.done (.exit 0) [.sl 50 r.1,.ptr 296 0,.lit (.int .i64 r.2.1)] [.box (base.enc 50 r.2.2) false]
def zF4:LL ty ttTref05factor0:=za (lSl 50) (za (ze9 296 0) (za (lInt .i64) zH))
def zGj:BL ty (Factor×Unit):=bBox (zgz (fun x=>(⟨⟨x.1,⟨x.2.1,x.2.2.1⟩,x.2.2.2.1,x.2.2.2.2.1,x.2.2.2.2.2.1,x.2.2.2.2.2.2.1,⟨x.2.2.2.2.2.2.2.1,x.2.2.2.2.2.2.2.2.1,x.2.2.2.2.2.2.2.2.2.1⟩⟩,x.2.2.2.2.2.2.2.2.2.2.1⟩:Factor)) (fun x=>(x.Atom.Kind,x.Atom.Row.Table,x.Atom.Row.Seq,x.Atom.Args,x.Atom.Func,x.Atom.Items,x.Atom.Op,x.Atom.Bound.Kind,x.Atom.Bound.Int,x.Atom.Bound.Text,x.Exp,())) (fun _=>rfl) (za (lInt .i64) (za (lInt .i64) (za (lInt .i64) (za (lSl 23) (za (lInt .i64) (za (lSl 52) (za (lInt .i64) (za (lInt .i64) (za (lInt .i64) (za lStr (za (lInt .i64) zH)))))))))))) false (bNil)
def zER (x:ttTref05factor0) (y:Factor×Unit):Nat:=(x.1.length+Int.toNat x.2.2.1+y.1.Atom.Args.length+y.1.Atom.Items.length+1)
def zFV:Cx ty:=mkCx base 74 [(104,ref05_CompareAtom_spec)] [] [(2,[(0,.keep),(3,.keep),(5,.keep)])] [(2,1,[(0,.keep),(3,.keep),(5,.keep)])] [(2,spW zF4 zGj (zse) default zEc zER)] []
theorem zN6:zW zFV (lp (body Tryz.f116) 0):=zK (id:=2) (V:=zF4) (B:=zGj) (W:=zse) (z:=default) (tr:=zEc) (m:=zER)
def zzs (l:List Factor) (f:Factor):Wy0 (List Factor):=.bn (zFC (l.length+Int.toNat 0+f.Atom.Args.length+f.Atom.Items.length+1) l 0 (FactorOf.mk (Atom.mk f.Atom.Kind f.Atom.Row f.Atom.Args f.Atom.Func f.Atom.Items f.Atom.Op f.Atom.Bound) f.Exp)) fun r3=>.i (decide ((0:Int)≤(0:Int))&&decide (0≤r3.2.1)&&decide (r3.2.1≤Int.ofNat r3.1.length)) (.i (decide ((0+(List.take (r3.2.1.toNat - Int.toNat 0) (List.drop (Int.toNat 0) r3.1)).length)*128≤zQ)) (.i (decide (r3.2.1<Int.ofNat r3.1.length)) (.i (decide (0≤r3.2.1)&&decide (r3.2.1<Int.ofNat r3.1.length)) (.bn (zjQ (Atom.mk (r3.1.getD r3.2.1.toNat default).Atom.Kind (r3.1.getD r3.2.1.toNat default).Atom.Row (r3.1.getD r3.2.1.toNat default).Atom.Args (r3.1.getD r3.2.1.toNat default).Atom.Func (r3.1.getD r3.2.1.toNat default).Atom.Items (r3.1.getD r3.2.1.toNat default).Atom.Op (r3.1.getD r3.2.1.toNat default).Atom.Bound) (Atom.mk r3.2.2.Atom.Kind r3.2.2.Atom.Row r3.2.2.Atom.Args r3.2.2.Atom.Func r3.2.2.Atom.Items r3.2.2.Atom.Op r3.2.2.Atom.Bound)) fun r2=>.i (r2==0) (.i (decide (r3.2.2.Atom.Kind<3)) (.i (decide (0≤r3.2.1)&&decide (r3.2.1<Int.ofNat r3.1.length)) (.i (decide ((([]++List.take (r3.2.1.toNat - Int.toNat 0) (List.drop (Int.toNat 0) r3.1)).length+[FactorOf.mk (Atom.mk r3.2.2.Atom.Kind r3.2.2.Atom.Row r3.2.2.Atom.Args r3.2.2.Atom.Func r3.2.2.Atom.Items r3.2.2.Atom.Op r3.2.2.Atom.Bound) (IntKind.i64.wrap ((r3.1.getD r3.2.1.toNat default).Exp+r3.2.2.Exp))].length)*128≤zQ)) (.i (decide (0≤IntKind.i64.wrap (r3.2.1+1))&&decide (IntKind.i64.wrap (r3.2.1+1)≤Int.ofNat r3.1.length)&&decide (Int.ofNat r3.1.length≤Int.ofNat r3.1.length)) (.i (decide ((([]++List.take (r3.2.1.toNat - Int.toNat 0) (List.drop (Int.toNat 0) r3.1)++[FactorOf.mk (Atom.mk r3.2.2.Atom.Kind r3.2.2.Atom.Row r3.2.2.Atom.Args r3.2.2.Atom.Func r3.2.2.Atom.Items r3.2.2.Atom.Op r3.2.2.Atom.Bound) (IntKind.i64.wrap ((r3.1.getD r3.2.1.toNat default).Exp+r3.2.2.Exp))]).length+(List.take ((Int.ofNat r3.1.length).toNat - (IntKind.i64.wrap (r3.2.1+1)).toNat) (List.drop (IntKind.i64.wrap (r3.2.1+1)).toNat r3.1)).length)*128≤zQ)) (.k ([]++List.take (r3.2.1.toNat - Int.toNat 0) (List.drop (Int.toNat 0) r3.1)++[FactorOf.mk (Atom.mk r3.2.2.Atom.Kind r3.2.2.Atom.Row r3.2.2.Atom.Args r3.2.2.Atom.Func r3.2.2.Atom.Items r3.2.2.Atom.Op r3.2.2.Atom.Bound) (IntKind.i64.wrap ((r3.1.getD r3.2.1.toNat default).Exp+r3.2.2.Exp))]++List.take ((Int.ofNat r3.1.length).toNat - (IntKind.i64.wrap (r3.2.1+1)).toNat) (List.drop (IntKind.i64.wrap (r3.2.1+1)).toNat r3.1))) .d) .d) .d) .d) (.i (decide ((([]++List.take (r3.2.1.toNat - Int.toNat 0) (List.drop (Int.toNat 0) r3.1)).length+[FactorOf.mk (Atom.mk r3.2.2.Atom.Kind r3.2.2.Atom.Row r3.2.2.Atom.Args r3.2.2.Atom.Func r3.2.2.Atom.Items r3.2.2.Atom.Op r3.2.2.Atom.Bound) r3.2.2.Exp].length)*128≤zQ)) (.i (decide (0≤IntKind.i64.wrap (r3.2.1+1))&&decide (IntKind.i64.wrap (r3.2.1+1)≤Int.ofNat r3.1.length)&&decide (Int.ofNat r3.1.length≤Int.ofNat r3.1.length)) (.i (decide ((([]++List.take (r3.2.1.toNat - Int.toNat 0) (List.drop (Int.toNat 0) r3.1)++[FactorOf.mk (Atom.mk r3.2.2.Atom.Kind r3.2.2.Atom.Row r3.2.2.Atom.Args r3.2.2.Atom.Func r3.2.2.Atom.Items r3.2.2.Atom.Op r3.2.2.Atom.Bound) r3.2.2.Exp]).length+(List.take ((Int.ofNat r3.1.length).toNat - (IntKind.i64.wrap (r3.2.1+1)).toNat) (List.drop (IntKind.i64.wrap (r3.2.1+1)).toNat r3.1)).length)*128≤zQ)) (.k ([]++List.take (r3.2.1.toNat - Int.toNat 0) (List.drop (Int.toNat 0) r3.1)++[FactorOf.mk (Atom.mk r3.2.2.Atom.Kind r3.2.2.Atom.Row r3.2.2.Atom.Args r3.2.2.Atom.Func r3.2.2.Atom.Items r3.2.2.Atom.Op r3.2.2.Atom.Bound) r3.2.2.Exp]++List.take ((Int.ofNat r3.1.length).toNat - (IntKind.i64.wrap (r3.2.1+1)).toNat) (List.drop (IntKind.i64.wrap (r3.2.1+1)).toNat r3.1))) .d) .d) .d)) (.i (decide ((([]++List.take (r3.2.1.toNat - Int.toNat 0) (List.drop (Int.toNat 0) r3.1)).length+[FactorOf.mk (Atom.mk r3.2.2.Atom.Kind r3.2.2.Atom.Row r3.2.2.Atom.Args r3.2.2.Atom.Func r3.2.2.Atom.Items r3.2.2.Atom.Op r3.2.2.Atom.Bound) r3.2.2.Exp].length)*128≤zQ)) (.i (decide (0≤r3.2.1)&&decide (r3.2.1≤Int.ofNat r3.1.length)&&decide (Int.ofNat r3.1.length≤Int.ofNat r3.1.length)) (.i (decide ((([]++List.take (r3.2.1.toNat - Int.toNat 0) (List.drop (Int.toNat 0) r3.1)++[FactorOf.mk (Atom.mk r3.2.2.Atom.Kind r3.2.2.Atom.Row r3.2.2.Atom.Args r3.2.2.Atom.Func r3.2.2.Atom.Items r3.2.2.Atom.Op r3.2.2.Atom.Bound) r3.2.2.Exp]).length+(List.take ((Int.ofNat r3.1.length).toNat - r3.2.1.toNat) (List.drop r3.2.1.toNat r3.1)).length)*128≤zQ)) (.k ([]++List.take (r3.2.1.toNat - Int.toNat 0) (List.drop (Int.toNat 0) r3.1)++[FactorOf.mk (Atom.mk r3.2.2.Atom.Kind r3.2.2.Atom.Row r3.2.2.Atom.Args r3.2.2.Atom.Func r3.2.2.Atom.Items r3.2.2.Atom.Op r3.2.2.Atom.Bound) r3.2.2.Exp]++List.take ((Int.ofNat r3.1.length).toNat - r3.2.1.toNat) (List.drop r3.2.1.toNat r3.1))) .d) .d) .d)) .d) (.i (decide ((([]++List.take (r3.2.1.toNat - Int.toNat 0) (List.drop (Int.toNat 0) r3.1)).length+[FactorOf.mk (Atom.mk r3.2.2.Atom.Kind r3.2.2.Atom.Row r3.2.2.Atom.Args r3.2.2.Atom.Func r3.2.2.Atom.Items r3.2.2.Atom.Op r3.2.2.Atom.Bound) r3.2.2.Exp].length)*128≤zQ)) (.i (decide (0≤r3.2.1)&&decide (r3.2.1≤Int.ofNat r3.1.length)&&decide (Int.ofNat r3.1.length≤Int.ofNat r3.1.length)) (.i (decide ((([]++List.take (r3.2.1.toNat - Int.toNat 0) (List.drop (Int.toNat 0) r3.1)++[FactorOf.mk (Atom.mk r3.2.2.Atom.Kind r3.2.2.Atom.Row r3.2.2.Atom.Args r3.2.2.Atom.Func r3.2.2.Atom.Items r3.2.2.Atom.Op r3.2.2.Atom.Bound) r3.2.2.Exp]).length+(List.take ((Int.ofNat r3.1.length).toNat - r3.2.1.toNat) (List.drop r3.2.1.toNat r3.1)).length)*128≤zQ)) (.k ([]++List.take (r3.2.1.toNat - Int.toNat 0) (List.drop (Int.toNat 0) r3.1)++[FactorOf.mk (Atom.mk r3.2.2.Atom.Kind r3.2.2.Atom.Row r3.2.2.Atom.Args r3.2.2.Atom.Func r3.2.2.Atom.Items r3.2.2.Atom.Op r3.2.2.Atom.Bound) r3.2.2.Exp]++List.take ((Int.ofNat r3.1.length).toNat - r3.2.1.toNat) (List.drop r3.2.1.toNat r3.1))) .d) .d) .d)) .d) .d
def zsC (l:List Factor) (f:Factor):Bool×List Factor:=(zzs l f).fin default
def zEj (r:List Factor):ARes ty:=⟨[.pure (.sl 50 r)],[]⟩
def zHR:AL base (List Factor×Factor×Unit):=zf (zg (vSl 50)) (zf (zg (vAgg 50)) aNil)
def zCA:Ab.Spec ty:=zk zHR fun x=>((zsC x.1 x.2.1).1,zEj (zsC x.1 x.2.1).2)
theorem zLT:Sound Tryz.prog base 116 zCA:=
 zn (cx':=zFV) zJ zl zw (zm ⟨ztU,trivial⟩) Tryz.call116 Tryz.func116 (c:=body Tryz.f116) (by kernel_rfl) (zh (l:=[lp (body Tryz.f116) 0]) (by kernel_rfl) ⟨zN6,trivial⟩) (sg:=⟨[.pure],[]⟩) (A:=zHR) (res:=zEj) (W:=fun x=>zzs x.1 x.2.1) (z:=default)
def zQK:Cx ty:=mkCx base 12 [] [] [] [] [] []
def zB0 (a:Int) (b:Int):Wy0 (Int):=.i (!decide (b=0)) (.i (decide (a>IntKind.i64.wrap (Int.tdiv 1152921504606846976 b))) (.k 1152921504606846976) (.k (IntKind.i64.wrap (a*b)))) .d
def zu7 (a:Int) (b:Int):Bool×Int:=(zB0 a b).fin default
def zGe (r:Int):ARes ty:=⟨[.pure (.lit (.int .i64 r))],[]⟩
def zKd:AL base (Int×Int×Unit):=zf (zg (vInt .i64)) (zf (zg (vInt .i64)) aNil)
def zD7:Ab.Spec ty:=zk zKd fun x=>((zu7 x.1 x.2.1).1,zGe (zu7 x.1 x.2.1).2)
theorem zNa:Sound Tryz.prog base 115 zD7:=
 zn (cx':=zQK) zJ zl zw (zm trivial) Tryz.call115 Tryz.func115 (c:=body Tryz.f115) (by kernel_rfl) (zh (l:=[]) (by kernel_rfl) trivial) (sg:=⟨[.pure],[]⟩) (A:=zKd) (res:=zGe) (W:=fun x=>zB0 x.1 x.2.1) (z:=default)
end Go.Proofs.YtnolcogncjijpaaGreatDoor
end
