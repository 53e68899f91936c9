/- Texts of this claim, joined (the program, its functions in plain words, and what they compute). -/
import Derived.Test.YtljlfiomikifjaaGreatDoorProg
import Derived.Test.YtljlfiomikifjaaGreatDoorGC1
import Derived.Test.YtljlfiomikifjaaGreatDoorGB1
set_option autoImplicit false
set_option linter.unusedVariables false
set_option linter.unusedSectionVars false
set_option linter.unusedSimpArgs false
set_option maxRecDepth 1000000
set_option maxHeartbeats 0
noncomputable section
namespace Go.Proofs.YtljlfiomikifjaaGreatDoor
open Go Go.Ab
abbrev zxz:=Int×List Int×Int×Int×Unit
def zFy (zero:Int) (t6:List Int) (t7:Int) (t8:Int):Wy zxz (Unit) (Int⊕Int):=.i (decide (t8<t7)) (.i (decide (0≤t8)&&decide (t8<Int.ofNat t6.length)) (.i (t6.getD t8.toNat default != zero) (.k (.inl (t6.getD t8.toNat default))) (.h (zero,t6,t7,(IntKind.i64.wrap (t8+1)),()) ())) .d) (.k (.inr zero))
def zPR (x:zxz) (y:Unit):Wy zxz (Unit) (Int⊕Int):=zFy x.1 x.2.1 x.2.2.1 x.2.2.2.1
def zFe (n:Nat) (zero:Int) (t6:List Int) (t7:Int) (t8:Int):Bool×(Int⊕Int):=zJ (zPR) (.inl default) n (zero,t6,t7,t8,()) ()
def zZ9 (r:Int⊕Int):LTree ty:=.ite (isL r) (.done .ret [.lit (.int .i64 (getL r))] []) (.done (.exit 0) [.lit (.int .i64 (getR r))] [])
def z1y:LL ty zxz:=za lI64 (za (lSl 3) (za lI64 (za lI64 zn)))
def z0k (x:zxz) (y:Unit):Nat:=(Int.toNat x.1+x.2.1.length+Int.toNat x.2.2.1+Int.toNat x.2.2.2.1+1)
def zP8:Cx ty:=mkCx base 18 [] [] [(3,(kpL [3,6,7,8]))] [(3,1,(kpL [3])),(3,0,(kpL [2]))] [(3,spW z1y zSV (zPR) (.inl default) zZ9 z0k)] []
theorem z0l:zI zP8 (lp (body Tryz.f120) 0):=zt (id:=3) (hl:=rfl)
def zTj (vals:List Int):Wy0 (Int):=.bn (zFe (Int.toNat 0+vals.length+(Int.ofNat vals.length).toNat +Int.toNat 0+1) 0 vals (Int.ofNat vals.length) 0) fun r0=>.i (isL r0) (.k (getL r0)) (.k (getR r0))
def zlG (vals:List Int):Bool×Int:=(zTj vals).fin default
def z3d:AL base (List Int×Unit):=zd (ze (vSl 3)) aNil
def zkt:Ab.Spec ty:=zh z3d fun x=>((zlG x.1).1,zVk (zlG x.1).2)
theorem zlo:SdP 120 zkt:=
 sW (cx':=zP8) zq zi zk (zj trivial) Tryz.call120 Tryz.func120 (c:=body Tryz.f120) (lOK (aC z0l aN))
def zFK (zcG:Term→Term→Bool×Int):Cx ty:=mkCx base 15 [(63,(zfo zcG)),(120,zkt),(138,zlE)] [] [] [] [] []
def zwM (zcG:Term→Term→Bool×Int) (x_:Term) (y_:Term):Wy0 (Int):=.bn (zcG x_ y_) fun r2=>.bn (zib x_.Coeff y_.Coeff) fun r1=>.bn (zlG [r2,r1]) fun r0=>.k r0
def zkV (zcG:Term→Term→Bool×Int) (x_:Term) (y_:Term):Bool×Int:=(zwM zcG x_ y_).fin default
theorem zB3 (zcG:Term→Term→Bool×Int) (zEP:SdP 63 (zfo zcG)):SdP 137 (zfo (zkV zcG)):=
 sW (cx':=(zFK zcG)) zq zi zk (zj ⟨zEP,zlo,zq2,trivial⟩) Tryz.call137 Tryz.func137 (c:=body Tryz.f137) (lOK aN)
def zWw:Cx ty:=mkCx base 6 [] [] [] [] [] []
def zKP (x_:Int):Wy0 (Bool):=.k (x_ != x_)
def zrn (x_:Int):Bool×Bool:=(zKP x_).fin default
def zEA:Ab.Spec ty:=zh zU2 fun x=>((zrn x.1).1,zY8 (zrn x.1).2)
theorem zQA:SdP 159 zEA:=
 sW (cx':=zWw) zq zi zk (zj trivial) Tryz.call159 Tryz.func159 (c:=body Tryz.f159) (lOK aN)
def zSk:Cx ty:=mkCx base 20 [(159,zEA)] [] [] [] [] []
def zGd (x_:Int) (y_:Int):Wy0 (Int):=.i ((zrn x_).2) (.i ((zrn y_).2) (.k 0) (.k (-1:Int))) (.i ((zrn y_).2) (.k 1) (.i (decide (x_<y_)) (.k (-1:Int)) (.i (decide (x_>y_)) (.k 1) (.k 0))))
def zdG (x_:Int) (y_:Int):Bool×Int:=(zGd x_ y_).fin default
def zkr:Ab.Spec ty:=zh z0o fun x=>((zdG x.1 x.2.1).1,zVk (zdG x.1 x.2.1).2)
theorem zmC:SdP 121 zkr:=
 sW (cx':=zSk) zq zi zk (zj ⟨zQA,trivial⟩) Tryz.call121 Tryz.func121 (c:=body Tryz.f121) (lOK aN)
end Go.Proofs.YtljlfiomikifjaaGreatDoor
/-
 DERIVED:THE SHELF's CONTRACTS AT THIS DUMP,IN PLAIN WORDS (tools/lay-plain.mjs out of 'TryzShelf.lean',which tools/lay-shelf.mjs wrote):THE SAME DECLARATIONS UNDER THE SAME NAMES:'import','namespace','open','def','theorem' AND NOTHING ELSE:no command of the shelf's:FOR A HAND-IN. Each laying:the table of numbers ('.._ren') and one theorem,a field a fact of the dump's own or the kernel's comparison; each contract:ONE APPLICATION.
-/
namespace Go.Proofs
open Go.Shelf
def Tryz.sortRow_ren:Go.Shelf.Ren:=⟨fun | 6=>232 | 15=>156 | 14=>251 | 28=>192 | 29=>193 | 20=>270 | 21=>271 | 22=>272 | 23=>273 | 24=>274 | 25=>275 | 26=>276 | 27=>277 | 46=>289 | 47=>222 | 48=>223 | 49=>290 | 50=>291 | 57=>298 | n=>n,fun | 22=>43 | 24=>49 | 25=>102 | 3=>3 | 39=>135 | 0=>0 | 53=>163 | 55=>165 | 4=>4 | 46=>157 | 45=>156 | 50=>123 | 5=>5 | 9=>9 | 66=>191 | 70=>195 | 76=>206 | 77=>207 | n=>n,fun | n=>n⟩
theorem Tryz.sortRow:Go.Proofs.SlLaysF0.n6 Tryz.prog Tryz.sortRow_ren:={
 mixed:=by kernel_rfl
 f6:=⟨Tryz.f232.name,by decide,Tryz.func232.trans (congrArg some (by kernel_rfl))⟩
 f14:=⟨Tryz.f251.name,by decide,Tryz.func251.trans (congrArg some (by kernel_rfl))⟩
 f15:=Tryz.func156.trans (congrArg some (by kernel_rfl))
 f20:=⟨Tryz.f270.name,by decide,Tryz.func270.trans (congrArg some (by kernel_rfl))⟩
 f21:=⟨Tryz.f271.name,by decide,Tryz.func271.trans (congrArg some (by kernel_rfl))⟩
 f22:=⟨Tryz.f272.name,by decide,Tryz.func272.trans (congrArg some (by kernel_rfl))⟩
 f23:=⟨Tryz.f273.name,by decide,Tryz.func273.trans (congrArg some (by kernel_rfl))⟩
 f24:=⟨Tryz.f274.name,by decide,Tryz.func274.trans (congrArg some (by kernel_rfl))⟩
 f25:=⟨Tryz.f275.name,by decide,Tryz.func275.trans (congrArg some (by kernel_rfl))⟩
 f26:=⟨Tryz.f276.name,by decide,Tryz.func276.trans (congrArg some (by kernel_rfl))⟩
 f27:=⟨Tryz.f277.name,by decide,Tryz.func277.trans (congrArg some (by kernel_rfl))⟩
 f28:=Tryz.func192.trans (congrArg some (by kernel_rfl))
 f29:=Tryz.func193.trans (congrArg some (by kernel_rfl))
 f46:=⟨Tryz.f289.name,by decide,Tryz.func289.trans (congrArg some (by kernel_rfl))⟩
 f47:=Tryz.func222.trans (congrArg some (by kernel_rfl))
 f48:=Tryz.func223.trans (congrArg some (by kernel_rfl))
 f49:=⟨Tryz.f290.name,by decide,Tryz.func290.trans (congrArg some (by kernel_rfl))⟩
 f50:=⟨Tryz.f291.name,by decide,Tryz.func291.trans (congrArg some (by kernel_rfl))⟩
 f57:=⟨Tryz.f298.name,by decide,Tryz.func298.trans (congrArg some (by kernel_rfl))⟩
 t0:=Tryz.underlying0
 a0:=Tryz.isAgg0
 z0:=Tryz.sizeOf0
 v0:=Tryz.zeroValue0
 t3:=Tryz.underlying3
 a3:=Tryz.isAgg3
 z3:=Tryz.sizeOf3
 v3:=Tryz.zeroValue3
 t4:=Tryz.underlying4
 a4:=Tryz.isAgg4
 z4:=Tryz.sizeOf4
 v4:=Tryz.zeroValue4
 t5:=Tryz.underlying5
 a5:=Tryz.isAgg5
 z5:=Tryz.sizeOf5
 v5:=Tryz.zeroValue5
 t9:=Tryz.underlying9
 a9:=Tryz.isAgg9
 z9:=Tryz.sizeOf9
 v9:=Tryz.zeroValue9
 t22:=Tryz.underlying43
 a22:=Tryz.isAgg43
 z22:=Tryz.sizeOf43
 v22:=Tryz.zeroValue43
 t25:=Tryz.underlying102
 a25:=Tryz.isAgg102
 z25:=Tryz.sizeOf102
 v25:=Tryz.zeroValue102
 t39:=Tryz.underlying135
 a39:=Tryz.isAgg135
 z39:=Tryz.sizeOf135
 v39:=Tryz.zeroValue135
 t45:=Tryz.underlying156
 a45:=Tryz.isAgg156
 z45:=Tryz.sizeOf156
 v45:=Tryz.zeroValue156
 t46:=Tryz.underlying157
 a46:=Tryz.isAgg157
 z46:=Tryz.sizeOf157
 v46:=Tryz.zeroValue157
 t50:=Tryz.underlying123
 a50:=Tryz.isAgg123
 z50:=Tryz.sizeOf123
 v50:=Tryz.zeroValue123
 t53:=Tryz.underlying163
 a53:=Tryz.isAgg163
 z53:=Tryz.sizeOf163
 v53:=Tryz.zeroValue163
 t55:=Tryz.underlying165
 a55:=Tryz.isAgg165
 z55:=Tryz.sizeOf165
 v55:=Tryz.zeroValue165
 t66:=Tryz.underlying191
 a66:=Tryz.isAgg191
 z66:=Tryz.sizeOf191
 v66:=Tryz.zeroValue191
 t70:=Tryz.underlying195
 a70:=Tryz.isAgg195
 z70:=Tryz.sizeOf195
 v70:=Tryz.zeroValue195
 t76:=Tryz.underlying206
 a76:=Tryz.isAgg206
 z76:=Tryz.sizeOf206
 v76:=Tryz.zeroValue206
 t77:=Tryz.underlying207
 a77:=Tryz.isAgg207
 z77:=Tryz.sizeOf207
 v77:=Tryz.zeroValue207 }
def Tryz.sortSet_ren:Go.Shelf.Ren:=⟨fun | 6=>205 | 15=>156 | 14=>235 | 28=>192 | 29=>193 | 20=>252 | 21=>253 | 22=>254 | 23=>255 | 24=>256 | 25=>257 | 26=>258 | 27=>259 | 46=>278 | 47=>222 | 48=>223 | 49=>279 | 50=>280 | 57=>292 | n=>n,fun | 22=>39 | 24=>43 | 25=>86 | 3=>3 | 39=>135 | 0=>0 | 53=>163 | 55=>165 | 4=>4 | 46=>157 | 45=>156 | 50=>123 | 5=>5 | 9=>9 | 66=>191 | 70=>195 | 76=>206 | 77=>207 | n=>n,fun | n=>n⟩
theorem Tryz.sortSet:Go.Proofs.SlLaysF.n6 Tryz.prog Tryz.sortSet_ren:={
 mixed:=by kernel_rfl
 f6:=⟨Tryz.f205.name,by decide,Tryz.func205.trans (congrArg some (by kernel_rfl))⟩
 f14:=⟨Tryz.f235.name,by decide,Tryz.func235.trans (congrArg some (by kernel_rfl))⟩
 f15:=Tryz.func156.trans (congrArg some (by kernel_rfl))
 f20:=⟨Tryz.f252.name,by decide,Tryz.func252.trans (congrArg some (by kernel_rfl))⟩
 f21:=⟨Tryz.f253.name,by decide,Tryz.func253.trans (congrArg some (by kernel_rfl))⟩
 f22:=⟨Tryz.f254.name,by decide,Tryz.func254.trans (congrArg some (by kernel_rfl))⟩
 f23:=⟨Tryz.f255.name,by decide,Tryz.func255.trans (congrArg some (by kernel_rfl))⟩
 f24:=⟨Tryz.f256.name,by decide,Tryz.func256.trans (congrArg some (by kernel_rfl))⟩
 f25:=⟨Tryz.f257.name,by decide,Tryz.func257.trans (congrArg some (by kernel_rfl))⟩
 f26:=⟨Tryz.f258.name,by decide,Tryz.func258.trans (congrArg some (by kernel_rfl))⟩
 f27:=⟨Tryz.f259.name,by decide,Tryz.func259.trans (congrArg some (by kernel_rfl))⟩
 f28:=Tryz.func192.trans (congrArg some (by kernel_rfl))
 f29:=Tryz.func193.trans (congrArg some (by kernel_rfl))
 f46:=⟨Tryz.f278.name,by decide,Tryz.func278.trans (congrArg some (by kernel_rfl))⟩
 f47:=Tryz.func222.trans (congrArg some (by kernel_rfl))
 f48:=Tryz.func223.trans (congrArg some (by kernel_rfl))
 f49:=⟨Tryz.f279.name,by decide,Tryz.func279.trans (congrArg some (by kernel_rfl))⟩
 f50:=⟨Tryz.f280.name,by decide,Tryz.func280.trans (congrArg some (by kernel_rfl))⟩
 f57:=⟨Tryz.f292.name,by decide,Tryz.func292.trans (congrArg some (by kernel_rfl))⟩
 t0:=Tryz.underlying0
 a0:=Tryz.isAgg0
 z0:=Tryz.sizeOf0
 v0:=Tryz.zeroValue0
 t3:=Tryz.underlying3
 a3:=Tryz.isAgg3
 z3:=Tryz.sizeOf3
 v3:=Tryz.zeroValue3
 t4:=Tryz.underlying4
 a4:=Tryz.isAgg4
 z4:=Tryz.sizeOf4
 v4:=Tryz.zeroValue4
 t5:=Tryz.underlying5
 a5:=Tryz.isAgg5
 z5:=Tryz.sizeOf5
 v5:=Tryz.zeroValue5
 t9:=Tryz.underlying9
 a9:=Tryz.isAgg9
 z9:=Tryz.sizeOf9
 v9:=Tryz.zeroValue9
 t22:=Tryz.underlying39
 a22:=Tryz.isAgg39
 z22:=Tryz.sizeOf39
 v22:=Tryz.zeroValue39
 a24:=Tryz.isAgg43
 z24:=Tryz.sizeOf43
 t25:=Tryz.underlying86
 a25:=Tryz.isAgg86
 z25:=Tryz.sizeOf86
 v25:=Tryz.zeroValue86
 t39:=Tryz.underlying135
 a39:=Tryz.isAgg135
 z39:=Tryz.sizeOf135
 v39:=Tryz.zeroValue135
 t45:=Tryz.underlying156
 a45:=Tryz.isAgg156
 z45:=Tryz.sizeOf156
 v45:=Tryz.zeroValue156
 t46:=Tryz.underlying157
 a46:=Tryz.isAgg157
 z46:=Tryz.sizeOf157
 v46:=Tryz.zeroValue157
 t50:=Tryz.underlying123
 a50:=Tryz.isAgg123
 z50:=Tryz.sizeOf123
 v50:=Tryz.zeroValue123
 t53:=Tryz.underlying163
 a53:=Tryz.isAgg163
 z53:=Tryz.sizeOf163
 v53:=Tryz.zeroValue163
 t55:=Tryz.underlying165
 a55:=Tryz.isAgg165
 z55:=Tryz.sizeOf165
 v55:=Tryz.zeroValue165
 t66:=Tryz.underlying191
 a66:=Tryz.isAgg191
 z66:=Tryz.sizeOf191
 v66:=Tryz.zeroValue191
 t70:=Tryz.underlying195
 a70:=Tryz.isAgg195
 z70:=Tryz.sizeOf195
 v70:=Tryz.zeroValue195
 t76:=Tryz.underlying206
 a76:=Tryz.isAgg206
 z76:=Tryz.sizeOf206
 v76:=Tryz.zeroValue206
 t77:=Tryz.underlying207
 a77:=Tryz.isAgg207
 z77:=Tryz.sizeOf207
 v77:=Tryz.zeroValue207 }
def Tryz.pdqTerm_ren:Go.Shelf.Ren:=⟨fun | 14=>155 | 20=>184 | 21=>185 | 22=>186 | 23=>187 | 24=>188 | 25=>189 | 26=>190 | 27=>191 | 46=>221 | 47=>222 | 48=>223 | 49=>224 | 50=>225 | 15=>156 | 57=>243 | 28=>192 | 29=>193 | n=>n,fun | 24=>28 | 22=>22 | 3=>3 | 25=>79 | 4=>4 | 0=>0 | 46=>157 | 45=>156 | 50=>123 | 66=>191 | 39=>135 | 55=>165 | 70=>195 | 76=>206 | 77=>207 | 53=>163 | 5=>5 | 9=>9 | n=>n,fun | n=>n⟩
theorem Tryz.pdqTerm:Go.Proofs.SlLaysF0.n14 Tryz.prog Tryz.pdqTerm_ren:={
 mixed:=by kernel_rfl
 f14:=⟨Tryz.f155.name,by decide,Tryz.func155.trans (congrArg some (by kernel_rfl))⟩
 f15:=Tryz.func156.trans (congrArg some (by kernel_rfl))
 f20:=⟨Tryz.f184.name,by decide,Tryz.func184.trans (congrArg some (by kernel_rfl))⟩
 f21:=⟨Tryz.f185.name,by decide,Tryz.func185.trans (congrArg some (by kernel_rfl))⟩
 f22:=⟨Tryz.f186.name,by decide,Tryz.func186.trans (congrArg some (by kernel_rfl))⟩
 f23:=⟨Tryz.f187.name,by decide,Tryz.func187.trans (congrArg some (by kernel_rfl))⟩
 f24:=⟨Tryz.f188.name,by decide,Tryz.func188.trans (congrArg some (by kernel_rfl))⟩
 f25:=⟨Tryz.f189.name,by decide,Tryz.func189.trans (congrArg some (by kernel_rfl))⟩
 f26:=⟨Tryz.f190.name,by decide,Tryz.func190.trans (congrArg some (by kernel_rfl))⟩
 f27:=⟨Tryz.f191.name,by decide,Tryz.func191.trans (congrArg some (by kernel_rfl))⟩
 f28:=Tryz.func192.trans (congrArg some (by kernel_rfl))
 f29:=Tryz.func193.trans (congrArg some (by kernel_rfl))
 f46:=⟨Tryz.f221.name,by decide,Tryz.func221.trans (congrArg some (by kernel_rfl))⟩
 f47:=Tryz.func222.trans (congrArg some (by kernel_rfl))
 f48:=Tryz.func223.trans (congrArg some (by kernel_rfl))
 f49:=⟨Tryz.f224.name,by decide,Tryz.func224.trans (congrArg some (by kernel_rfl))⟩
 f50:=⟨Tryz.f225.name,by decide,Tryz.func225.trans (congrArg some (by kernel_rfl))⟩
 f57:=⟨Tryz.f243.name,by decide,Tryz.func243.trans (congrArg some (by kernel_rfl))⟩
 t0:=Tryz.underlying0
 a0:=Tryz.isAgg0
 z0:=Tryz.sizeOf0
 v0:=Tryz.zeroValue0
 t3:=Tryz.underlying3
 a3:=Tryz.isAgg3
 z3:=Tryz.sizeOf3
 v3:=Tryz.zeroValue3
 t4:=Tryz.underlying4
 a4:=Tryz.isAgg4
 z4:=Tryz.sizeOf4
 v4:=Tryz.zeroValue4
 t5:=Tryz.underlying5
 a5:=Tryz.isAgg5
 z5:=Tryz.sizeOf5
 v5:=Tryz.zeroValue5
 t9:=Tryz.underlying9
 a9:=Tryz.isAgg9
 z9:=Tryz.sizeOf9
 v9:=Tryz.zeroValue9
 t22:=Tryz.underlying22
 a22:=Tryz.isAgg22
 z22:=Tryz.sizeOf22
 v22:=Tryz.zeroValue22
 t25:=Tryz.underlying79
 a25:=Tryz.isAgg79
 z25:=Tryz.sizeOf79
 v25:=Tryz.zeroValue79
 t39:=Tryz.underlying135
 a39:=Tryz.isAgg135
 z39:=Tryz.sizeOf135
 v39:=Tryz.zeroValue135
 t45:=Tryz.underlying156
 a45:=Tryz.isAgg156
 z45:=Tryz.sizeOf156
 v45:=Tryz.zeroValue156
 t46:=Tryz.underlying157
 a46:=Tryz.isAgg157
 z46:=Tryz.sizeOf157
 v46:=Tryz.zeroValue157
 t50:=Tryz.underlying123
 a50:=Tryz.isAgg123
 z50:=Tryz.sizeOf123
 v50:=Tryz.zeroValue123
 t53:=Tryz.underlying163
 a53:=Tryz.isAgg163
 z53:=Tryz.sizeOf163
 v53:=Tryz.zeroValue163
 t55:=Tryz.underlying165
 a55:=Tryz.isAgg165
 z55:=Tryz.sizeOf165
 v55:=Tryz.zeroValue165
 t66:=Tryz.underlying191
 a66:=Tryz.isAgg191
 z66:=Tryz.sizeOf191
 v66:=Tryz.zeroValue191
 t70:=Tryz.underlying195
 a70:=Tryz.isAgg195
 z70:=Tryz.sizeOf195
 v70:=Tryz.zeroValue195
 t76:=Tryz.underlying206
 a76:=Tryz.isAgg206
 z76:=Tryz.sizeOf206
 v76:=Tryz.zeroValue206
 t77:=Tryz.underlying207
 a77:=Tryz.isAgg207
 z77:=Tryz.sizeOf207
 v77:=Tryz.zeroValue207 }
def Tryz.insW_ren:Go.Shelf.Ren:=⟨fun | 20=>281 | n=>n,fun | 24=>100 | 22=>63 | 3=>3 | 25=>114 | 4=>4 | 0=>0 | n=>n,fun | n=>n⟩
theorem Tryz.insW:Go.Proofs.SlLaysF0.n20 Tryz.prog Tryz.insW_ren:={
 mixed:=by kernel_rfl
 f20:=⟨Tryz.f281.name,by decide,Tryz.func281.trans (congrArg some (by kernel_rfl))⟩
 t0:=Tryz.underlying0
 a0:=Tryz.isAgg0
 z0:=Tryz.sizeOf0
 v0:=Tryz.zeroValue0
 t3:=Tryz.underlying3
 a3:=Tryz.isAgg3
 z3:=Tryz.sizeOf3
 v3:=Tryz.zeroValue3
 t4:=Tryz.underlying4
 a4:=Tryz.isAgg4
 z4:=Tryz.sizeOf4
 v4:=Tryz.zeroValue4
 t22:=Tryz.underlying63
 a22:=Tryz.isAgg63
 z22:=Tryz.sizeOf63
 v22:=Tryz.zeroValue63
 t25:=Tryz.underlying114
 a25:=Tryz.isAgg114
 z25:=Tryz.sizeOf114
 v25:=Tryz.zeroValue114 }
def Tryz.lays106_ren:Go.Shelf.Ren:=⟨fun | 106=>160 | 213=>194 | 265=>226 | n=>n,fun | 9=>9 | 3=>3 | n=>n,fun | n=>n⟩
theorem Tryz.lays106:Go.Proofs.Lays.n106 Tryz.prog Tryz.lays106_ren:={
 mixed:=by kernel_rfl
 f106:=Tryz.func160.trans (congrArg some (by kernel_rfl))
 f213:=Tryz.func194.trans (congrArg some (by kernel_rfl))
 f265:=Tryz.func226.trans (congrArg some (by kernel_rfl))
 t3:=Tryz.underlying3
 a3:=Tryz.isAgg3
 z3:=Tryz.sizeOf3
 v3:=Tryz.zeroValue3
 t9:=Tryz.underlying9
 a9:=Tryz.isAgg9
 z9:=Tryz.sizeOf9
 v9:=Tryz.zeroValue9 }
def Tryz.lays125_ren:Go.Shelf.Ren:=⟨fun | 125=>156 | 128=>192 | 129=>193 | n=>n,fun | 46=>135 | 3=>3 | 51=>163 | 53=>165 | 4=>4 | 5=>5 | 9=>9 | n=>n,fun | n=>n⟩
theorem Tryz.lays125:Go.Proofs.Lays.n125 Tryz.prog Tryz.lays125_ren:={
 mixed:=by kernel_rfl
 f125:=Tryz.func156.trans (congrArg some (by kernel_rfl))
 f128:=Tryz.func192.trans (congrArg some (by kernel_rfl))
 f129:=Tryz.func193.trans (congrArg some (by kernel_rfl))
 t3:=Tryz.underlying3
 a3:=Tryz.isAgg3
 z3:=Tryz.sizeOf3
 v3:=Tryz.zeroValue3
 t4:=Tryz.underlying4
 a4:=Tryz.isAgg4
 z4:=Tryz.sizeOf4
 v4:=Tryz.zeroValue4
 t5:=Tryz.underlying5
 a5:=Tryz.isAgg5
 z5:=Tryz.sizeOf5
 v5:=Tryz.zeroValue5
 t9:=Tryz.underlying9
 a9:=Tryz.isAgg9
 z9:=Tryz.sizeOf9
 v9:=Tryz.zeroValue9
 t46:=Tryz.underlying135
 a46:=Tryz.isAgg135
 z46:=Tryz.sizeOf135
 v46:=Tryz.zeroValue135
 t51:=Tryz.underlying163
 a51:=Tryz.isAgg163
 z51:=Tryz.sizeOf163
 v51:=Tryz.zeroValue163
 t53:=Tryz.underlying165
 a53:=Tryz.isAgg165
 z53:=Tryz.sizeOf165
 v53:=Tryz.zeroValue165 }
def Tryz.laysM173_ren:Go.Shelf.Ren:=⟨fun | 173=>227 | 246=>229 | 283=>245 | 284=>246 | 285=>247 | 286=>248 | 129=>193 | 317=>266 | 318=>267 | 319=>268 | 320=>269 | 337=>287 | 338=>288 | n=>n,fun | 2=>2 | 3=>3 | 9=>9 | 4=>4 | 171=>210 | 0=>0 | 53=>165 | 37=>171 | 5=>5 | 173=>212 | 212=>229 | 51=>163 | 20=>20 | 213=>230 | 46=>135 | 232=>249 | 233=>250 | n=>n,fun | 17=>1 | 18=>4 | 19=>5 | n=>n⟩
theorem Tryz.laysM173:Go.Proofs.LaysM.n173 Tryz.prog Tryz.laysM173_ren:={
 mixed:=by kernel_rfl
 f129:=Tryz.func193.trans (congrArg some (by kernel_rfl))
 f173:=Tryz.func227.trans (congrArg some (by kernel_rfl))
 f246:=Tryz.func229.trans (congrArg some (by kernel_rfl))
 f283:=Tryz.func245.trans (congrArg some (by kernel_rfl))
 f284:=Tryz.func246.trans (congrArg some (by kernel_rfl))
 f285:=Tryz.func247.trans (congrArg some (by kernel_rfl))
 f286:=Tryz.func248.trans (congrArg some (by kernel_rfl))
 f317:=Tryz.func266.trans (congrArg some (by kernel_rfl))
 f318:=Tryz.func267.trans (congrArg some (by kernel_rfl))
 f319:=Tryz.func268.trans (congrArg some (by kernel_rfl))
 f320:=Tryz.func269.trans (congrArg some (by kernel_rfl))
 f337:=Tryz.func287.trans (congrArg some (by kernel_rfl))
 f338:=Tryz.func288.trans (congrArg some (by kernel_rfl))
 t0:=Tryz.underlying0
 a0:=Tryz.isAgg0
 z0:=Tryz.sizeOf0
 v0:=Tryz.zeroValue0
 t2:=Tryz.underlying2
 a2:=Tryz.isAgg2
 z2:=Tryz.sizeOf2
 v2:=Tryz.zeroValue2
 t3:=Tryz.underlying3
 a3:=Tryz.isAgg3
 z3:=Tryz.sizeOf3
 v3:=Tryz.zeroValue3
 t4:=Tryz.underlying4
 a4:=Tryz.isAgg4
 z4:=Tryz.sizeOf4
 v4:=Tryz.zeroValue4
 t5:=Tryz.underlying5
 a5:=Tryz.isAgg5
 z5:=Tryz.sizeOf5
 v5:=Tryz.zeroValue5
 t9:=Tryz.underlying9
 a9:=Tryz.isAgg9
 z9:=Tryz.sizeOf9
 v9:=Tryz.zeroValue9
 t20:=Tryz.underlying20
 a20:=Tryz.isAgg20
 z20:=Tryz.sizeOf20
 v20:=Tryz.zeroValue20
 t37:=Tryz.underlying171
 a37:=Tryz.isAgg171
 z37:=Tryz.sizeOf171
 v37:=Tryz.zeroValue171
 t46:=Tryz.underlying135
 a46:=Tryz.isAgg135
 z46:=Tryz.sizeOf135
 v46:=Tryz.zeroValue135
 t51:=Tryz.underlying163
 a51:=Tryz.isAgg163
 z51:=Tryz.sizeOf163
 v51:=Tryz.zeroValue163
 t53:=Tryz.underlying165
 a53:=Tryz.isAgg165
 z53:=Tryz.sizeOf165
 v53:=Tryz.zeroValue165
 t171:=Tryz.underlying210
 a171:=Tryz.isAgg210
 z171:=Tryz.sizeOf210
 v171:=Tryz.zeroValue210
 t173:=Tryz.underlying212
 a173:=Tryz.isAgg212
 z173:=Tryz.sizeOf212
 v173:=Tryz.zeroValue212
 t212:=Tryz.underlying229
 a212:=Tryz.isAgg229
 z212:=Tryz.sizeOf229
 v212:=Tryz.zeroValue229
 t213:=Tryz.underlying230
 a213:=Tryz.isAgg230
 z213:=Tryz.sizeOf230
 t232:=Tryz.underlying249
 a232:=Tryz.isAgg249
 z232:=Tryz.sizeOf249
 v232:=Tryz.zeroValue249
 t233:=Tryz.underlying250
 a233:=Tryz.isAgg250
 z233:=Tryz.sizeOf250
 v233:=Tryz.zeroValue250
 g17:=by kernel_rfl
 g18:=by kernel_rfl
 g19:=by kernel_rfl
 i0:=by kernel_rfl
 i2:=by kernel_rfl
 i3:=by kernel_rfl
 i4:=by kernel_rfl
 i5:=by kernel_rfl
 i9:=by kernel_rfl
 i20:=by kernel_rfl
 i37:=by kernel_rfl
 i46:=by kernel_rfl
 i51:=by kernel_rfl
 i53:=by kernel_rfl
 i171:=by kernel_rfl
 i173:=by kernel_rfl
 i212:=by kernel_rfl
 i232:=by kernel_rfl
 i233:=by kernel_rfl
 m17:=by kernel_rfl
 m18:=by kernel_rfl
 m19:=by kernel_rfl }
def Tryz.laysM171_ren:Go.Shelf.Ren:=⟨fun | 171=>168 | 243=>200 | 246=>229 | 283=>245 | 284=>246 | 285=>247 | 286=>248 | 129=>193 | 317=>266 | 318=>267 | 319=>268 | 320=>269 | 337=>287 | 338=>288 | n=>n,fun | 3=>3 | 9=>9 | 2=>2 | 4=>4 | 171=>210 | 0=>0 | 53=>165 | 37=>171 | 5=>5 | 173=>212 | 212=>229 | 51=>163 | 20=>20 | 213=>230 | 46=>135 | 232=>249 | 233=>250 | n=>n,fun | 17=>1 | 18=>4 | 19=>5 | n=>n⟩
theorem Tryz.laysM171:Go.Proofs.LaysM.n171 Tryz.prog Tryz.laysM171_ren:={
 mixed:=by kernel_rfl
 f129:=Tryz.func193.trans (congrArg some (by kernel_rfl))
 f171:=Tryz.func168.trans (congrArg some (by kernel_rfl))
 f243:=Tryz.func200.trans (congrArg some (by kernel_rfl))
 f246:=Tryz.func229.trans (congrArg some (by kernel_rfl))
 f283:=Tryz.func245.trans (congrArg some (by kernel_rfl))
 f284:=Tryz.func246.trans (congrArg some (by kernel_rfl))
 f285:=Tryz.func247.trans (congrArg some (by kernel_rfl))
 f286:=Tryz.func248.trans (congrArg some (by kernel_rfl))
 f317:=Tryz.func266.trans (congrArg some (by kernel_rfl))
 f318:=Tryz.func267.trans (congrArg some (by kernel_rfl))
 f319:=Tryz.func268.trans (congrArg some (by kernel_rfl))
 f320:=Tryz.func269.trans (congrArg some (by kernel_rfl))
 f337:=Tryz.func287.trans (congrArg some (by kernel_rfl))
 f338:=Tryz.func288.trans (congrArg some (by kernel_rfl))
 t0:=Tryz.underlying0
 a0:=Tryz.isAgg0
 z0:=Tryz.sizeOf0
 v0:=Tryz.zeroValue0
 t2:=Tryz.underlying2
 a2:=Tryz.isAgg2
 z2:=Tryz.sizeOf2
 v2:=Tryz.zeroValue2
 t3:=Tryz.underlying3
 a3:=Tryz.isAgg3
 z3:=Tryz.sizeOf3
 v3:=Tryz.zeroValue3
 t4:=Tryz.underlying4
 a4:=Tryz.isAgg4
 z4:=Tryz.sizeOf4
 v4:=Tryz.zeroValue4
 t5:=Tryz.underlying5
 a5:=Tryz.isAgg5
 z5:=Tryz.sizeOf5
 v5:=Tryz.zeroValue5
 t9:=Tryz.underlying9
 a9:=Tryz.isAgg9
 z9:=Tryz.sizeOf9
 v9:=Tryz.zeroValue9
 t20:=Tryz.underlying20
 a20:=Tryz.isAgg20
 z20:=Tryz.sizeOf20
 v20:=Tryz.zeroValue20
 t37:=Tryz.underlying171
 a37:=Tryz.isAgg171
 z37:=Tryz.sizeOf171
 v37:=Tryz.zeroValue171
 t46:=Tryz.underlying135
 a46:=Tryz.isAgg135
 z46:=Tryz.sizeOf135
 v46:=Tryz.zeroValue135
 t51:=Tryz.underlying163
 a51:=Tryz.isAgg163
 z51:=Tryz.sizeOf163
 v51:=Tryz.zeroValue163
 t53:=Tryz.underlying165
 a53:=Tryz.isAgg165
 z53:=Tryz.sizeOf165
 v53:=Tryz.zeroValue165
 t171:=Tryz.underlying210
 a171:=Tryz.isAgg210
 z171:=Tryz.sizeOf210
 v171:=Tryz.zeroValue210
 t173:=Tryz.underlying212
 a173:=Tryz.isAgg212
 z173:=Tryz.sizeOf212
 v173:=Tryz.zeroValue212
 t212:=Tryz.underlying229
 a212:=Tryz.isAgg229
 z212:=Tryz.sizeOf229
 v212:=Tryz.zeroValue229
 t213:=Tryz.underlying230
 a213:=Tryz.isAgg230
 z213:=Tryz.sizeOf230
 t232:=Tryz.underlying249
 a232:=Tryz.isAgg249
 z232:=Tryz.sizeOf249
 v232:=Tryz.zeroValue249
 t233:=Tryz.underlying250
 a233:=Tryz.isAgg250
 z233:=Tryz.sizeOf250
 v233:=Tryz.zeroValue250
 g17:=by kernel_rfl
 g18:=by kernel_rfl
 g19:=by kernel_rfl
 i0:=by kernel_rfl
 i2:=by kernel_rfl
 i3:=by kernel_rfl
 i4:=by kernel_rfl
 i5:=by kernel_rfl
 i9:=by kernel_rfl
 i20:=by kernel_rfl
 i37:=by kernel_rfl
 i46:=by kernel_rfl
 i51:=by kernel_rfl
 i53:=by kernel_rfl
 i171:=by kernel_rfl
 i173:=by kernel_rfl
 i212:=by kernel_rfl
 i232:=by kernel_rfl
 i233:=by kernel_rfl
 m17:=by kernel_rfl
 m18:=by kernel_rfl
 m19:=by kernel_rfl }
def Tryz.lays155_ren:Go.Shelf.Ren:=⟨fun | 155=>228 | 154=>244 | 138=>263 | 165=>201 | 143=>264 | 166=>202 | 197=>265 | 169=>203 | 195=>283 | 218=>284 | 240=>230 | 241=>231 | 219=>285 | 260=>286 | 276=>249 | 277=>250 | 217=>294 | 225=>295 | 224=>296 | 267=>297 | 266=>300 | 314=>301 | n=>n,fun | 9=>9 | 3=>3 | 4=>4 | 72=>173 | 0=>0 | 76=>177 | 105=>226 | 21=>21 | 5=>5 | 70=>170 | 20=>20 | 37=>171 | 75=>176 | 127=>199 | 164=>214 | 46=>135 | 119=>245 | 139=>248 | 138=>247 | 146=>252 | 51=>163 | 80=>179 | n=>n,fun | 1=>0 | 3=>2 | 4=>3 | n=>n⟩
theorem Tryz.lays155:Go.Proofs.Lays.n155 Tryz.prog Tryz.lays155_ren:={
 mixed:=by kernel_rfl
 f138:=Tryz.func263.trans (congrArg some (by kernel_rfl))
 f143:=Tryz.func264.trans (congrArg some (by kernel_rfl))
 f154:=Tryz.func244.trans (congrArg some (by kernel_rfl))
 f155:=Tryz.func228.trans (congrArg some (by kernel_rfl))
 f165:=Tryz.func201.trans (congrArg some (by kernel_rfl))
 f166:=Tryz.func202.trans (congrArg some (by kernel_rfl))
 f169:=Tryz.func203.trans (congrArg some (by kernel_rfl))
 f195:=Tryz.func283.trans (congrArg some (by kernel_rfl))
 f197:=Tryz.func265.trans (congrArg some (by kernel_rfl))
 f217:=Tryz.func294.trans (congrArg some (by kernel_rfl))
 f218:=Tryz.func284.trans (congrArg some (by kernel_rfl))
 f219:=Tryz.func285.trans (congrArg some (by kernel_rfl))
 f224:=Tryz.func296.trans (congrArg some (by kernel_rfl))
 f225:=Tryz.func295.trans (congrArg some (by kernel_rfl))
 f240:=Tryz.func230.trans (congrArg some (by kernel_rfl))
 f241:=Tryz.func231.trans (congrArg some (by kernel_rfl))
 f260:=Tryz.func286.trans (congrArg some (by kernel_rfl))
 f266:=Tryz.func300.trans (congrArg some (by kernel_rfl))
 f267:=Tryz.func297.trans (congrArg some (by kernel_rfl))
 f276:=Tryz.func249.trans (congrArg some (by kernel_rfl))
 f277:=Tryz.func250.trans (congrArg some (by kernel_rfl))
 f314:=Tryz.func301.trans (congrArg some (by kernel_rfl))
 t0:=Tryz.underlying0
 a0:=Tryz.isAgg0
 z0:=Tryz.sizeOf0
 v0:=Tryz.zeroValue0
 t3:=Tryz.underlying3
 a3:=Tryz.isAgg3
 z3:=Tryz.sizeOf3
 v3:=Tryz.zeroValue3
 t4:=Tryz.underlying4
 a4:=Tryz.isAgg4
 z4:=Tryz.sizeOf4
 v4:=Tryz.zeroValue4
 t5:=Tryz.underlying5
 a5:=Tryz.isAgg5
 z5:=Tryz.sizeOf5
 v5:=Tryz.zeroValue5
 t9:=Tryz.underlying9
 a9:=Tryz.isAgg9
 z9:=Tryz.sizeOf9
 v9:=Tryz.zeroValue9
 t20:=Tryz.underlying20
 a20:=Tryz.isAgg20
 z20:=Tryz.sizeOf20
 v20:=Tryz.zeroValue20
 t21:=Tryz.underlying21
 a21:=Tryz.isAgg21
 z21:=Tryz.sizeOf21
 v21:=Tryz.zeroValue21
 t37:=Tryz.underlying171
 a37:=Tryz.isAgg171
 z37:=Tryz.sizeOf171
 v37:=Tryz.zeroValue171
 t46:=Tryz.underlying135
 a46:=Tryz.isAgg135
 z46:=Tryz.sizeOf135
 v46:=Tryz.zeroValue135
 t51:=Tryz.underlying163
 a51:=Tryz.isAgg163
 z51:=Tryz.sizeOf163
 v51:=Tryz.zeroValue163
 t70:=Tryz.underlying170
 a70:=Tryz.isAgg170
 z70:=Tryz.sizeOf170
 v70:=Tryz.zeroValue170
 t72:=Tryz.underlying173
 a72:=Tryz.isAgg173
 z72:=Tryz.sizeOf173
 v72:=Tryz.zeroValue173
 t75:=Tryz.underlying176
 a75:=Tryz.isAgg176
 z75:=Tryz.sizeOf176
 v75:=Tryz.zeroValue176
 t76:=Tryz.underlying177
 a76:=Tryz.isAgg177
 z76:=Tryz.sizeOf177
 v76:=Tryz.zeroValue177
 t105:=Tryz.underlying226
 a105:=Tryz.isAgg226
 z105:=Tryz.sizeOf226
 v105:=Tryz.zeroValue226
 t119:=Tryz.underlying245
 a119:=Tryz.isAgg245
 z119:=Tryz.sizeOf245
 t127:=Tryz.underlying199
 a127:=Tryz.isAgg199
 z127:=Tryz.sizeOf199
 v127:=Tryz.zeroValue199
 t138:=Tryz.underlying247
 a138:=Tryz.isAgg247
 z138:=Tryz.sizeOf247
 v138:=Tryz.zeroValue247
 t139:=Tryz.underlying248
 a139:=Tryz.isAgg248
 z139:=Tryz.sizeOf248
 v139:=Tryz.zeroValue248
 t146:=Tryz.underlying252
 a146:=Tryz.isAgg252
 z146:=Tryz.sizeOf252
 v146:=Tryz.zeroValue252
 t164:=Tryz.underlying214
 a164:=Tryz.isAgg214
 z164:=Tryz.sizeOf214
 v164:=Tryz.zeroValue214
 g1:=by kernel_rfl
 g3:=by kernel_rfl
 g4:=by kernel_rfl }
theorem Tryz.Builder_Extra_155:Builder.Extra Tryz.prog Tryz.lays155_ren:={
 sizeBuilder:=by kernel_rfl
 liesBuilder:=by kernel_rfl
 t5:=Tryz.underlying5
 a5:=Tryz.isAgg5
 z5:=Tryz.sizeOf5
 v5:=Tryz.zeroValue5
 infoByte:=by kernel_rfl
 cellsByte:=by kernel_rfl
 sizeByte:=by kernel_rfl
 neB5:=by decide }
def Tryz.lays156_ren:Go.Shelf.Ren:=⟨fun | 156=>169 | 165=>201 | 166=>202 | 169=>203 | 240=>230 | 241=>231 | 276=>249 | 277=>250 | n=>n,fun | 31=>144 | 9=>9 | 3=>3 | 4=>4 | 0=>0 | 20=>20 | 72=>173 | 76=>177 | 70=>170 | 37=>171 | 75=>176 | 127=>199 | 164=>214 | 5=>5 | 80=>179 | n=>n,fun | n=>n⟩
theorem Tryz.lays156:Go.Proofs.Lays.n156 Tryz.prog Tryz.lays156_ren:={
 mixed:=by kernel_rfl
 f156:=Tryz.func169.trans (congrArg some (by kernel_rfl))
 f165:=Tryz.func201.trans (congrArg some (by kernel_rfl))
 f166:=Tryz.func202.trans (congrArg some (by kernel_rfl))
 f169:=Tryz.func203.trans (congrArg some (by kernel_rfl))
 f240:=Tryz.func230.trans (congrArg some (by kernel_rfl))
 f241:=Tryz.func231.trans (congrArg some (by kernel_rfl))
 f276:=Tryz.func249.trans (congrArg some (by kernel_rfl))
 f277:=Tryz.func250.trans (congrArg some (by kernel_rfl))
 t0:=Tryz.underlying0
 a0:=Tryz.isAgg0
 z0:=Tryz.sizeOf0
 v0:=Tryz.zeroValue0
 t3:=Tryz.underlying3
 a3:=Tryz.isAgg3
 z3:=Tryz.sizeOf3
 v3:=Tryz.zeroValue3
 t4:=Tryz.underlying4
 a4:=Tryz.isAgg4
 z4:=Tryz.sizeOf4
 v4:=Tryz.zeroValue4
 t9:=Tryz.underlying9
 a9:=Tryz.isAgg9
 z9:=Tryz.sizeOf9
 v9:=Tryz.zeroValue9
 t20:=Tryz.underlying20
 a20:=Tryz.isAgg20
 z20:=Tryz.sizeOf20
 v20:=Tryz.zeroValue20
 t31:=Tryz.underlying144
 a31:=Tryz.isAgg144
 z31:=Tryz.sizeOf144
 v31:=Tryz.zeroValue144
 t37:=Tryz.underlying171
 a37:=Tryz.isAgg171
 z37:=Tryz.sizeOf171
 v37:=Tryz.zeroValue171
 t70:=Tryz.underlying170
 a70:=Tryz.isAgg170
 z70:=Tryz.sizeOf170
 v70:=Tryz.zeroValue170
 t72:=Tryz.underlying173
 a72:=Tryz.isAgg173
 z72:=Tryz.sizeOf173
 v72:=Tryz.zeroValue173
 t75:=Tryz.underlying176
 a75:=Tryz.isAgg176
 z75:=Tryz.sizeOf176
 v75:=Tryz.zeroValue176
 t76:=Tryz.underlying177
 a76:=Tryz.isAgg177
 z76:=Tryz.sizeOf177
 v76:=Tryz.zeroValue177
 t127:=Tryz.underlying199
 a127:=Tryz.isAgg199
 z127:=Tryz.sizeOf199
 v127:=Tryz.zeroValue199
 t164:=Tryz.underlying214
 a164:=Tryz.isAgg214
 z164:=Tryz.sizeOf214
 v164:=Tryz.zeroValue214 }
theorem Tryz.Builder_Extra_156:Builder.Extra Tryz.prog Tryz.lays156_ren:={
 sizeBuilder:=by kernel_rfl
 liesBuilder:=by kernel_rfl
 t5:=Tryz.underlying5
 a5:=Tryz.isAgg5
 z5:=Tryz.sizeOf5
 v5:=Tryz.zeroValue5
 infoByte:=by kernel_rfl
 cellsByte:=by kernel_rfl
 sizeByte:=by kernel_rfl
 neB5:=by decide }
end Go.Proofs
namespace Go.Proofs.YtljlfiomikifjaaGreatDoor
open Go Go.Ab
def strings_Compare (s p:ByteArray):Bool×Int:=zIB s p
def strings_Compare_spec:Ab.Spec ty:=zh (cx:=base) (zd (ze vStr) (zd (ze vStr) aNil)) fun x=>((strings_Compare x.1 x.2.1).1,⟨[.pure (.lit (.int .i64 (strings_Compare x.1 x.2.1).2))],[]⟩)
theorem zNk:SdP 160 strings_Compare_spec:=z1T zi Go.Proofs.Tryz.lays106 Tryz.call160
end Go.Proofs.YtljlfiomikifjaaGreatDoor
namespace Go.Proofs.YtljlfiomikifjaaGreatDoor
open Go Go.Ab
def zWD:Cx ty:=mkCx base 22 [(120,zkt),(121,zkr),(138,zlE),(160,strings_Compare_spec)] [] [] [] [] []
def zKx (a:Value) (b:Value):Wy0 (Int):=.bn (zdG a.Kind b.Kind) fun r2=>.bn (zib a.Int b.Int) fun r1=>.bn (zlG [r2,r1,(strings_Compare a.Text b.Text).2]) fun r0=>.k r0
def zrp (a:Value) (b:Value):Bool×Int:=(zKx a b).fin default
def zxc:Ab.Spec ty:=zh zZe fun x=>((zrp x.1 x.2.1).1,zVk (zrp x.1 x.2.1).2)
theorem zCt:SdP 125 zxc:=
 sW (cx':=zWD) zq zi zk (zj ⟨zlo,zmC,zq2,zNk,trivial⟩) Tryz.call125 Tryz.func125 (c:=body Tryz.f125) (lOK aN)
def zCx (zx:yC→yC→Bool×Int) (zu:yA→yA→Bool×Int) (zC:yE→yE→Bool×Int) (zD:Weighted→Weighted→Bool×Int):Cx ty:=mkCx base 51 [(67,(zkw zx)),(120,zkt),(121,zkr),(122,(zbj zu)),(123,(zbB zC)),(124,(zdT zD)),(125,zxc)] [] [] [] [] []
def zul (zx:yC→yC→Bool×Int) (zu:yA→yA→Bool×Int) (zC:yE→yE→Bool×Int) (zD:Weighted→Weighted→Bool×Int) (a:Atom) (b:Atom):Wy0 (Int):=.bn (zdG a.Kind b.Kind) fun r8=>.bn (zdG a.Row.Table b.Row.Table) fun r7=>.bn (zdG a.Row.Seq b.Row.Seq) fun r6=>.bn (zu a.Args b.Args) fun r5=>.bn (zdG a.Func b.Func) fun r4=>.bn (zC a.Items b.Items) fun r3=>.bn (zdG a.Op b.Op) fun r2=>.bn (zrp a.Bound b.Bound) fun r1=>.bn (zlG [r8,r7,r6,r5,r4,r3,r2,r1]) fun r0=>.k r0
def zjK (zx:yC→yC→Bool×Int) (zu:yA→yA→Bool×Int) (zC:yE→yE→Bool×Int) (zD:Weighted→Weighted→Bool×Int) (a:Atom) (b:Atom):Bool×Int:=(zul zx zu zC zD a b).fin default
theorem zAJ (zx:yC→yC→Bool×Int) (zu:yA→yA→Bool×Int) (zC:yE→yE→Bool×Int) (zD:Weighted→Weighted→Bool×Int) (ziJ:SdP 67 (zkw zx)) (zeV:SdP 122 (zbj zu)) (zf0:SdP 123 (zbB zC)) (zmf:SdP 124 (zdT zD)):SdP 65 (zk6 (zjK zx zu zC zD)):=
 sW (cx':=(zCx zx zu zC zD)) zq zi zk (zj ⟨ziJ,zlo,zmC,zeV,zf0,zmf,zCt,trivial⟩) Tryz.call65 Tryz.func65 (c:=body Tryz.f65) (lOK aN)
def zBo (zcI:Atom→Atom→Bool×Int):Cx ty:=mkCx base 17 [(65,(zk6 zcI)),(120,zkt),(121,zkr)] [] [] [] [] []
def zsN (zcI:Atom→Atom→Bool×Int) (a:Factor) (b:Factor):Wy0 (Int):=.bn (zcI (Atom.mk a.Atom.Kind a.Atom.Row a.Atom.Args a.Atom.Func a.Atom.Items a.Atom.Op a.Atom.Bound) (Atom.mk b.Atom.Kind b.Atom.Row b.Atom.Args b.Atom.Func b.Atom.Items b.Atom.Op b.Atom.Bound)) fun r2=>.bn (zdG a.Exp b.Exp) fun r1=>.bn (zlG [r2,r1]) fun r0=>.k r0
def zir (zcI:Atom→Atom→Bool×Int) (a:Factor) (b:Factor):Bool×Int:=(zsN zcI a b).fin default
theorem zzg (zcI:Atom→Atom→Bool×Int) (zEU:SdP 65 (zk6 zcI)):SdP 119 (zd9 (zir zcI)):=
 sW (cx':=(zBo zcI)) zq zi zk (zj ⟨zEU,zlo,zmC,trivial⟩) Tryz.call119 Tryz.func119 (c:=body Tryz.f119) (lOK aN)
def zCX (zx:yC→yC→Bool×Int):Cx ty:=mkCx base 17 [(67,(zkw zx)),(120,zkt),(125,zxc)] [] [] [] [] []
def zuA (zx:yC→yC→Bool×Int) (a:Weighted) (b:Weighted):Wy0 (Int):=.bn (zrp a.Value b.Value) fun r2=>.bn (zx a.Ann b.Ann) fun r1=>.bn (zlG [r2,r1]) fun r0=>.k r0
def zjD (zx:yC→yC→Bool×Int) (a:Weighted) (b:Weighted):Bool×Int:=(zuA zx a b).fin default
theorem zAF (zx:yC→yC→Bool×Int) (ziJ:SdP 67 (zkw zx)):SdP 124 (zdT (zjD zx)):=
 sW (cx':=(zCX zx)) zq zi zk (zj ⟨ziJ,zlo,zCt,trivial⟩) Tryz.call124 Tryz.func124 (c:=body Tryz.f124) (lOK aN)
def zDu (zM:yD→yD→Bool×Int) (zw:Factor→Factor→Bool×Int):Cx ty:=mkCx base 10 [(118,(zbR zM)),(119,(zd9 zw))] [] [] [] [] []
def zuB (zM:yD→yD→Bool×Int) (zw:Factor→Factor→Bool×Int) (a:Term) (b:Term):Wy0 (Int):=.bn (zM a.Factors b.Factors) fun r0=>.k r0
def zjG (zM:yD→yD→Bool×Int) (zw:Factor→Factor→Bool×Int) (a:Term) (b:Term):Bool×Int:=(zuB zM zw a b).fin default
theorem zAG (zM:yD→yD→Bool×Int) (zw:Factor→Factor→Bool×Int) (zh4:SdP 118 (zbR zM)) (zkS:SdP 119 (zd9 zw)):SdP 63 (zfo (zjG zM zw)):=
 sW (cx':=(zDu zM zw)) zq zi zk (zj ⟨zh4,zkS,trivial⟩) Tryz.call63 Tryz.func63 (c:=body Tryz.f63) (lOK aN)
abbrev zbc:=yA×yA×Unit×yA×Int×Int×Unit
abbrev zby:=Int⊕(yA×yA)
def zeN (zx:yC→yC→Bool×Int) (s1:yA) (s2:yA) (t11:yA) (t12:Int) (t13:Int):Wy zbc (Unit) zby:=.i (decide (t13<t12)) (.i (decide (0≤t13)&&decide (t13<Int.ofNat t11.length)) (.i (decide (t13≥Int.ofNat s2.length)) (.k (.inl 1)) (.i (decide (0≤t13)&&decide (t13<Int.ofNat s2.length)) (.bn (zx (t11.getD t13.toNat default) (s2.getD t13.toNat default)) fun r0=>.i (r0 != 0) (.k (.inl (r0))) (.h (s1,s2,(),t11,t12,(IntKind.i64.wrap (t13+1)),()) ())) .d)) .d) (.k (.inr (s1,s2)))
def zcw (zx:yC→yC→Bool×Int) (x:zbc) (y:Unit):Wy zbc (Unit) zby:=zeN zx x.1 x.2.1 x.2.2.2.1 x.2.2.2.2.1 x.2.2.2.2.2.1
def zeR (zx:yC→yC→Bool×Int) (n:Nat) (s1:yA) (s2:yA) (t11:yA) (t12:Int) (t13:Int):Bool×zby:=zJ (zcw zx) (.inl default) n (s1,s2,(),t11,t12,t13,()) ()
def zeE (r:zby):LTree ty:=.ite (isL r) (.done .ret [.lit (.int .i64 (getL r))] []) (.done (.exit 0) [.sl 23 (getR r).1,.sl 23 (getR r).2] [])
def zeS:LL ty zbc:=za (lSl 23) (za (lSl 23) (za (lFn 67 (zn)) (za (lSl 23) (za lI64 (za lI64 zn)))))
def zeI (x:zbc) (y:Unit):Nat:=(x.1.length+x.2.1.length+x.2.2.2.1.length+Int.toNat x.2.2.2.2.1+Int.toNat x.2.2.2.2.2.1+1)
def zcz (zx:yC→yC→Bool×Int):Cx ty:=mkCx base 39 [(67,(zkw zx))] [] [(2,(kpL [0,1,2,11,12,13]))] [(2,1,(kpL [0,1])),(2,0,(kpL [6]))] [(2,spW zeS zSV (zcw zx) (.inl default) zeE zeI)] []
theorem zeH (zx:yC→yC→Bool×Int):zI (zcz zx) (lp (body Tryz.f122) 0):=zt (id:=2) (hl:=rfl)
def ze2 (zx:yC→yC→Bool×Int) (s1:yA) (s2:yA):Wy0 (Int):=.bn (zeR zx (s1.length+s2.length+s1.length+(Int.ofNat s1.length).toNat +Int.toNat 0+1) s1 s2 s1 (Int.ofNat s1.length) 0) fun r2=>.i (isL r2) (.k (getL r2)) (.i (decide (Int.ofNat (getR r2).1.length<Int.ofNat (getR r2).2.length)) (.k (-1:Int)) (.k 0))
def zbl (zx:yC→yC→Bool×Int) (s1:yA) (s2:yA):Bool×Int:=(ze2 zx s1 s2).fin default
theorem zer (zx:yC→yC→Bool×Int) (ziJ:SdP 67 (zkw zx)):SdP 122 (zbj (zbl zx)):=
 sW (cx':=(zcz zx)) zq zi zk (zj ⟨ziJ,trivial⟩) Tryz.call122 Tryz.func122 (c:=body Tryz.f122) (lOK (aC (zeH zx) aN))
abbrev zbH:=yD×yD×Unit×yD×Int×Int×Unit
abbrev zbY:=Int⊕(yD×yD)
def zdN (zw:Factor→Factor→Bool×Int) (s1:yD) (s2:yD) (t11:yD) (t12:Int) (t13:Int):Wy zbH (Unit) zbY:=.i (decide (t13<t12)) (.i (decide (0≤t13)&&decide (t13<Int.ofNat t11.length)) (.i (decide (t13≥Int.ofNat s2.length)) (.k (.inl 1)) (.i (decide (0≤t13)&&decide (t13<Int.ofNat s2.length)) (.bn (zw (FactorOf.mk (Atom.mk (t11.getD t13.toNat default).Atom.Kind (t11.getD t13.toNat default).Atom.Row (t11.getD t13.toNat default).Atom.Args (t11.getD t13.toNat default).Atom.Func (t11.getD t13.toNat default).Atom.Items (t11.getD t13.toNat default).Atom.Op (t11.getD t13.toNat default).Atom.Bound) (t11.getD t13.toNat default).Exp) (FactorOf.mk (Atom.mk (s2.getD t13.toNat default).Atom.Kind (s2.getD t13.toNat default).Atom.Row (s2.getD t13.toNat default).Atom.Args (s2.getD t13.toNat default).Atom.Func (s2.getD t13.toNat default).Atom.Items (s2.getD t13.toNat default).Atom.Op (s2.getD t13.toNat default).Atom.Bound) (s2.getD t13.toNat default).Exp)) fun r0=>.i (r0 != 0) (.k (.inl (r0))) (.h (s1,s2,(),t11,t12,(IntKind.i64.wrap (t13+1)),()) ())) .d)) .d) (.k (.inr (s1,s2)))
def zbI (zw:Factor→Factor→Bool×Int) (x:zbH) (y:Unit):Wy zbH (Unit) zbY:=zdN zw x.1 x.2.1 x.2.2.2.1 x.2.2.2.2.1 x.2.2.2.2.2.1
def zdL (zw:Factor→Factor→Bool×Int) (n:Nat) (s1:yD) (s2:yD) (t11:yD) (t12:Int) (t13:Int):Bool×zbY:=zJ (zbI zw) (.inl default) n (s1,s2,(),t11,t12,t13,()) ()
def zhB (r:zbY):LTree ty:=.ite (isL r) (.done .ret [.lit (.int .i64 (getL r))] []) (.done (.exit 0) [.sl 69 (getR r).1,.sl 69 (getR r).2] [])
def zhG:LL ty zbH:=za (lSl 69) (za (lSl 69) (za (lFn 119 (zn)) (za (lSl 69) (za lI64 (za lI64 zn)))))
def zht (x:zbH) (y:Unit):Nat:=(x.1.length+x.2.1.length+x.2.2.2.1.length+Int.toNat x.2.2.2.2.1+Int.toNat x.2.2.2.2.2.1+1)
def zdM (zw:Factor→Factor→Bool×Int):Cx ty:=mkCx base 39 [(119,(zd9 zw))] [] [(2,(kpL [0,1,2,11,12,13]))] [(2,1,(kpL [0,1])),(2,0,(kpL [6]))] [(2,spW zhG zSV (zbI zw) (.inl default) zhB zht)] []
theorem zhC (zw:Factor→Factor→Bool×Int):zI (zdM zw) (lp (body Tryz.f118) 0):=zt (id:=2) (hl:=rfl)
def zdP (zw:Factor→Factor→Bool×Int) (s1:yD) (s2:yD):Wy0 (Int):=.bn (zdL zw (s1.length+s2.length+s1.length+(Int.ofNat s1.length).toNat +Int.toNat 0+1) s1 s2 s1 (Int.ofNat s1.length) 0) fun r2=>.i (isL r2) (.k (getL r2)) (.i (decide (Int.ofNat (getR r2).1.length<Int.ofNat (getR r2).2.length)) (.k (-1:Int)) (.k 0))
def zbr (zw:Factor→Factor→Bool×Int) (s1:yD) (s2:yD):Bool×Int:=(zdP zw s1 s2).fin default
theorem zgM (zw:Factor→Factor→Bool×Int) (zkS:SdP 119 (zd9 zw)):SdP 118 (zbR (zbr zw)):=
 sW (cx':=(zdM zw)) zq zi zk (zj ⟨zkS,trivial⟩) Tryz.call118 Tryz.func118 (c:=body Tryz.f118) (lOK (aC (zhC zw) aN))
abbrev zbo:=yE×yE×Unit×yE×Int×Int×Unit
abbrev zbN:=Int⊕(yE×yE)
def zfH (zD:Weighted→Weighted→Bool×Int) (s1:yE) (s2:yE) (t11:yE) (t12:Int) (t13:Int):Wy zbo (Unit) zbN:=.i (decide (t13<t12)) (.i (decide (0≤t13)&&decide (t13<Int.ofNat t11.length)) (.i (decide (t13≥Int.ofNat s2.length)) (.k (.inl 1)) (.i (decide (0≤t13)&&decide (t13<Int.ofNat s2.length)) (.bn (zD (t11.getD t13.toNat default) (s2.getD t13.toNat default)) fun r0=>.i (r0 != 0) (.k (.inl (r0))) (.h (s1,s2,(),t11,t12,(IntKind.i64.wrap (t13+1)),()) ())) .d)) .d) (.k (.inr (s1,s2)))
def zc6 (zD:Weighted→Weighted→Bool×Int) (x:zbo) (y:Unit):Wy zbo (Unit) zbN:=zfH zD x.1 x.2.1 x.2.2.2.1 x.2.2.2.2.1 x.2.2.2.2.2.1
def zfI (zD:Weighted→Weighted→Bool×Int) (n:Nat) (s1:yE) (s2:yE) (t11:yE) (t12:Int) (t13:Int):Bool×zbN:=zJ (zc6 zD) (.inl default) n (s1,s2,(),t11,t12,t13,()) ()
def zfF (r:zbN):LTree ty:=.ite (isL r) (.done .ret [.lit (.int .i64 (getL r))] []) (.done (.exit 0) [.sl 100 (getR r).1,.sl 100 (getR r).2] [])
def zfJ:LL ty zbo:=za (lSl 100) (za (lSl 100) (za (lFn 124 (zn)) (za (lSl 100) (za lI64 (za lI64 zn)))))
def zfz (x:zbo) (y:Unit):Nat:=(x.1.length+x.2.1.length+x.2.2.2.1.length+Int.toNat x.2.2.2.2.1+Int.toNat x.2.2.2.2.2.1+1)
def zc4 (zD:Weighted→Weighted→Bool×Int):Cx ty:=mkCx base 39 [(124,(zdT zD))] [] [(2,(kpL [0,1,2,11,12,13]))] [(2,1,(kpL [0,1])),(2,0,(kpL [6]))] [(2,spW zfJ zSV (zc6 zD) (.inl default) zfF zfz)] []
theorem zfC (zD:Weighted→Weighted→Bool×Int):zI (zc4 zD) (lp (body Tryz.f123) 0):=zt (id:=2) (hl:=rfl)
def zf4 (zD:Weighted→Weighted→Bool×Int) (s1:yE) (s2:yE):Wy0 (Int):=.bn (zfI zD (s1.length+s2.length+s1.length+(Int.ofNat s1.length).toNat +Int.toNat 0+1) s1 s2 s1 (Int.ofNat s1.length) 0) fun r2=>.i (isL r2) (.k (getL r2)) (.i (decide (Int.ofNat (getR r2).1.length<Int.ofNat (getR r2).2.length)) (.k (-1:Int)) (.k 0))
def zbD (zD:Weighted→Weighted→Bool×Int) (s1:yE) (s2:yE):Bool×Int:=(zf4 zD s1 s2).fin default
theorem zfv (zD:Weighted→Weighted→Bool×Int) (zmf:SdP 124 (zdT zD)):SdP 123 (zbB (zbD zD)):=
 sW (cx':=(zc4 zD)) zq zi zk (zj ⟨zmf,trivial⟩) Tryz.call123 Tryz.func123 (c:=body Tryz.f123) (lOK (aC (zfC zD) aN))
abbrev zbE:=yC×yC×Unit×yC×Int×Int×Unit
abbrev zbW:=Int⊕(yC×yC)
def zhe (zK:Term→Term→Bool×Int) (s1:yC) (s2:yC) (t11:yC) (t12:Int) (t13:Int):Wy zbE (Unit) zbW:=.i (decide (t13<t12)) (.i (decide (0≤t13)&&decide (t13<Int.ofNat t11.length)) (.i (decide (t13≥Int.ofNat s2.length)) (.k (.inl 1)) (.i (decide (0≤t13)&&decide (t13<Int.ofNat s2.length)) (.bn (zK (t11.getD t13.toNat default) (s2.getD t13.toNat default)) fun r0=>.i (r0 != 0) (.k (.inl (r0))) (.h (s1,s2,(),t11,t12,(IntKind.i64.wrap (t13+1)),()) ())) .d)) .d) (.k (.inr (s1,s2)))
def zdA (zK:Term→Term→Bool×Int) (x:zbE) (y:Unit):Wy zbE (Unit) zbW:=zhe zK x.1 x.2.1 x.2.2.2.1 x.2.2.2.2.1 x.2.2.2.2.2.1
def zha (zK:Term→Term→Bool×Int) (n:Nat) (s1:yC) (s2:yC) (t11:yC) (t12:Int) (t13:Int):Bool×zbW:=zJ (zdA zK) (.inl default) n (s1,s2,(),t11,t12,t13,()) ()
def zg1 (r:zbW):LTree ty:=.ite (isL r) (.done .ret [.lit (.int .i64 (getL r))] []) (.done (.exit 0) [.sl 28 (getR r).1,.sl 28 (getR r).2] [])
def zhc:LL ty zbE:=za (lSl 28) (za (lSl 28) (za (lFn 137 (zn)) (za (lSl 28) (za lI64 (za lI64 zn)))))
def zgP (x:zbE) (y:Unit):Nat:=(x.1.length+x.2.1.length+x.2.2.2.1.length+Int.toNat x.2.2.2.2.1+Int.toNat x.2.2.2.2.2.1+1)
def zdz (zK:Term→Term→Bool×Int):Cx ty:=mkCx base 39 [(137,(zfo zK))] [] [(2,(kpL [0,1,2,11,12,13]))] [(2,1,(kpL [0,1])),(2,0,(kpL [6]))] [(2,spW zhc zSV (zdA zK) (.inl default) zg1 zgP)] []
theorem zgW (zK:Term→Term→Bool×Int):zI (zdz zK) (lp (body Tryz.f136) 0):=zt (id:=2) (hl:=rfl)
def zhz (zK:Term→Term→Bool×Int) (s1:yC) (s2:yC):Wy0 (Int):=.bn (zha zK (s1.length+s2.length+s1.length+(Int.ofNat s1.length).toNat +Int.toNat 0+1) s1 s2 s1 (Int.ofNat s1.length) 0) fun r2=>.i (isL r2) (.k (getL r2)) (.i (decide (Int.ofNat (getR r2).1.length<Int.ofNat (getR r2).2.length)) (.k (-1:Int)) (.k 0))
def zbK (zK:Term→Term→Bool×Int) (s1:yC) (s2:yC):Bool×Int:=(zhz zK s1 s2).fin default
theorem zgk (zK:Term→Term→Bool×Int) (zn9:SdP 137 (zfo zK)):SdP 136 (zbJ (zbK zK)):=
 sW (cx':=(zdz zK)) zq zi zk (zj ⟨zn9,trivial⟩) Tryz.call136 Tryz.func136 (c:=body Tryz.f136) (lOK (aC (zgW zK) aN))
def zb1:Nat→(yC→yC→Bool×Int)×(Term→Term→Bool×Int)×(Term→Term→Bool×Int)×(Factor→Factor→Bool×Int)×(Atom→Atom→Bool×Int)×(Weighted→Weighted→Bool×Int)×(yC→yC→Bool×Int)×(yD→yD→Bool×Int)×(yA→yA→Bool×Int)×(yE→yE→Bool×Int)
 | 0=>(fun _ _=>(false,default),fun _ _=>(false,default),fun _ _=>(false,default),fun _ _=>(false,default),fun _ _=>(false,default),fun _ _=>(false,default),fun _ _=>(false,default),fun _ _=>(false,default),fun _ _=>(false,default),fun _ _=>(false,default))
 | n+1=>(znO ((zb1 n).2.2.2.2.2.2.1) ((zb1 n).2.1),zkV ((zb1 n).2.2.1),zjG ((zb1 n).2.2.2.2.2.2.2.1) ((zb1 n).2.2.2.1),zir ((zb1 n).2.2.2.2.1),zjK ((zb1 n).1) ((zb1 n).2.2.2.2.2.2.2.2.1) ((zb1 n).2.2.2.2.2.2.2.2.2) ((zb1 n).2.2.2.2.2.1),zjD ((zb1 n).1),zbK ((zb1 n).2.1),zbr ((zb1 n).2.2.2.1),zbl ((zb1 n).1),zbD ((zb1 n).2.2.2.2.2.1))
def zfw (n:Nat):yC→yC→Bool×Int:=(zb1 n).1
def zhU (n:Nat):Term→Term→Bool×Int:=(zb1 n).2.1
def zgi (n:Nat):Term→Term→Bool×Int:=(zb1 n).2.2.1
def zfg (n:Nat):Factor→Factor→Bool×Int:=(zb1 n).2.2.2.1
def zf8 (n:Nat):Atom→Atom→Bool×Int:=(zb1 n).2.2.2.2.1
def zeA (n:Nat):Weighted→Weighted→Bool×Int:=(zb1 n).2.2.2.2.2.1
def zbL (n:Nat):yC→yC→Bool×Int:=(zb1 n).2.2.2.2.2.2.1
def zbQ (n:Nat):yD→yD→Bool×Int:=(zb1 n).2.2.2.2.2.2.2.1
def zbi (n:Nat):yA→yA→Bool×Int:=(zb1 n).2.2.2.2.2.2.2.2.1
def zbC (n:Nat):yE→yE→Bool×Int:=(zb1 n).2.2.2.2.2.2.2.2.2
theorem zJS (n:Nat):zfw (n+1)=znO (zbL n) (zhU n):=rfl
theorem zFz (n:Nat):zhU (n+1)=zkV (zgi n):=rfl
theorem zDd (n:Nat):zgi (n+1)=zjG (zbQ n) (zfg n):=rfl
theorem zAQ (n:Nat):zfg (n+1)=zir (zf8 n):=rfl
theorem zDp (n:Nat):zf8 (n+1)=zjK (zfw n) (zbi n) (zbC n) (zeA n):=rfl
theorem zCM (n:Nat):zeA (n+1)=zjD (zfw n):=rfl
theorem zhb (n:Nat):zbL (n+1)=zbK (zhU n):=rfl
theorem zhF (n:Nat):zbQ (n+1)=zbr (zfg n):=rfl
theorem zeO (n:Nat):zbi (n+1)=zbl (zfw n):=rfl
theorem zfL (n:Nat):zbC (n+1)=zbD (zeA n):=rfl
theorem zvF:∀ n,SdP 67 (zkw (zfw n))∧SdP 137 (zfo (zhU n))∧SdP 63 (zfo (zgi n))∧SdP 119 (zd9 (zfg n))∧SdP 65 (zk6 (zf8 n))∧SdP 124 (zdT (zeA n))∧SdP 136 (zbJ (zbL n))∧SdP 118 (zbR (zbQ n))∧SdP 122 (zbj (zbi n))∧SdP 123 (zbB (zbC n))
 | 0=>⟨zY Tryz.call67 (fun _=>rfl),zY Tryz.call137 (fun _=>rfl),zY Tryz.call63 (fun _=>rfl),zY Tryz.call119 (fun _=>rfl),zY Tryz.call65 (fun _=>rfl),zY Tryz.call124 (fun _=>rfl),zY Tryz.call136 (fun _=>rfl),zY Tryz.call118 (fun _=>rfl),zY Tryz.call122 (fun _=>rfl),zY Tryz.call123 (fun _=>rfl)⟩
 | n+1=>by
  have ih:=zvF n;exact ⟨zFr _ _ (ih.2.2.2.2.2.2.1) (ih.2.1),zB3 _ (ih.2.2.1),zAG _ _ (ih.2.2.2.2.2.2.2.1) (ih.2.2.2.1),zzg _ (ih.2.2.2.2.1),zAJ _ _ _ _ (ih.1) (ih.2.2.2.2.2.2.2.2.1) (ih.2.2.2.2.2.2.2.2.2) (ih.2.2.2.2.2.1),zAF _ (ih.1),zgk _ (ih.2.1),zgM _ (ih.2.2.2.1),zer _ (ih.1),zfv _ (ih.2.2.2.2.2.1)⟩
def zxo:yC→yC→Bool×Int:=zfw 1000
def annotation_Compare_spec:Ab.Spec ty:=zkw zxo
theorem zHO:SdP 67 annotation_Compare_spec:=(zvF 1000).1
def zb7:Term→Term→Bool×Int:=zgi 1000
def annotation_compareLists_spec:Ab.Spec ty:=zfo zb7
theorem zkR:SdP 63 annotation_compareLists_spec:=(zvF 1000).2.2.1
def zhM:Atom→Atom→Bool×Int:=zf8 1000
def annotation_compareAtoms_spec:Ab.Spec ty:=zk6 zhM
theorem zsQ:SdP 65 annotation_compareAtoms_spec:=(zvF 1000).2.2.2.2.1
def zbt:Weighted→Weighted→Bool×Int:=zeA 1000
def annotation_compareItems_spec:Ab.Spec ty:=zdT zbt
theorem zgG:SdP 124 annotation_compareItems_spec:=(zvF 1000).2.2.2.2.2.1
def zRb:Cx ty:=mkCx base 9 [(67,annotation_Compare_spec)] [] [] [] [] []
def zEN (a:yC) (b:yC):Wy0 (Bool):=.bn (zxo a b) fun r0=>.k (r0==0)
def zgX (a:yC) (b:yC):Bool×Bool:=(zEN a b).fin default
def zmL:Ab.Spec ty:=zh zYr fun x=>((zgX x.1 x.2.1).1,zY8 (zgX x.1 x.2.1).2)
theorem zsr:SdP 21 zmL:=
 sW (cx':=zRb) zq zi zk (zj ⟨zHO,trivial⟩) Tryz.call21 Tryz.func21 (c:=body Tryz.f21) (lOK aN)
def zLI:Cx ty:=mkCx base 13 [(21,zmL),(104,zuv)] [] [] [] [] []
def zAp (x_:Atom) (y_:Atom):Wy0 (Bool):=.bn (zgX (zfK (Atom.mk x_.Kind x_.Row x_.Args x_.Func x_.Items x_.Op x_.Bound)).2 (zfK (Atom.mk y_.Kind y_.Row y_.Args y_.Func y_.Items y_.Op y_.Bound)).2) fun r0=>.k r0
def zlg (x_:Atom) (y_:Atom):Bool×Bool:=(zAp x_ y_).fin default
def zx0:Ab.Spec ty:=zh zRi fun x=>((zlg x.1 x.2.1).1,zY8 (zlg x.1 x.2.1).2)
theorem zGL:SdP 52 zx0:=
 sW (cx':=zLI) zq zi zk (zj ⟨zsr,zCA,trivial⟩) Tryz.call52 Tryz.func52 (c:=body Tryz.f52) (lOK aN)
def zEc:Cx ty:=mkCx base 16 [(52,zx0)] [] [] [] [] []
def zv3 (g:Factor) (p1:Factor):Wy0 (Bool):=.i (decide (p1.Exp≤g.Exp)) (.bn (zlg (Atom.mk p1.Atom.Kind p1.Atom.Row p1.Atom.Args p1.Atom.Func p1.Atom.Items p1.Atom.Op p1.Atom.Bound) (Atom.mk g.Atom.Kind g.Atom.Row g.Atom.Args g.Atom.Func g.Atom.Items g.Atom.Op g.Atom.Bound)) fun r0=>.k r0) (.k false)
def zd2 (g:Factor) (p1:Factor):Bool×Bool:=(zv3 g p1).fin default
def zFx:AL base (Factor×Factor×Unit):=zd (ze (vAgg 69)) (zd (ze (zwI 69)) aNil)
def zgF:Ab.Spec ty:=zh zFx fun x=>((zd2 x.1 x.2.1).1,zY8 (zd2 x.1 x.2.1).2)
theorem zj9:SdP 51 zgF:=
 sW (cx':=zEc) zq zi zk (zj ⟨zGL,trivial⟩) Tryz.call51 Tryz.func51 (c:=body Tryz.f51) (lOK aN)
abbrev zcY:=yD×(Factor×Unit)×Int×Int×Unit
def zik (s:yD) (f:Factor) (t7:Int) (t8:Int):Wy zcY (Unit) (Int⊕Unit):=.i (decide (t8<t7)) (.i (decide (0≤t8)&&decide (t8<Int.ofNat s.length)) (.bn (zd2 (FactorOf.mk (Atom.mk (s.getD t8.toNat default).Atom.Kind (s.getD t8.toNat default).Atom.Row (s.getD t8.toNat default).Atom.Args (s.getD t8.toNat default).Atom.Func (s.getD t8.toNat default).Atom.Items (s.getD t8.toNat default).Atom.Op (s.getD t8.toNat default).Atom.Bound) (s.getD t8.toNat default).Exp) (FactorOf.mk (Atom.mk f.Atom.Kind f.Atom.Row f.Atom.Args f.Atom.Func f.Atom.Items f.Atom.Op f.Atom.Bound) f.Exp)) fun r0=>.i (r0) (.k (.inl t8)) (.h (s,(f,()),t7,(IntKind.i64.wrap (t8+1)),()) ())) .d) (.k (.inr ()))
def zdf (x:zcY) (y:Unit):Wy zcY (Unit) (Int⊕Unit):=zik x.1 x.2.1.1 x.2.2.1 x.2.2.2.1
def zis (n:Nat) (s:yD) (f:Factor) (t7:Int) (t8:Int):Bool×(Int⊕Unit):=zJ (zdf) (.inl default) n (s,(f,()),t7,t8,()) ()
def zq1 (r:Int⊕Unit):LTree ty:=.ite (isL r) (.done .ret [.lit (.int .i64 (getL r))] []) (.done (.exit 0) [] [])
def zry:LL ty zcY:=za (lSl 69) (za (lFn 51 (za (zlS (zd6 (fun x=>(⟨⟨x.1,⟨x.2.1,x.2.2.1⟩,x.2.2.2.1,x.2.2.2.2.1,x.2.2.2.2.2.1,x.2.2.2.2.2.2.1,⟨x.2.2.2.2.2.2.2.1,x.2.2.2.2.2.2.2.2.1,x.2.2.2.2.2.2.2.2.2.1⟩⟩,x.2.2.2.2.2.2.2.2.2.2.1⟩:Factor)) (fun x=>(x.Atom.Kind,x.Atom.Row.Table,x.Atom.Row.Seq,x.Atom.Args,x.Atom.Func,x.Atom.Items,x.Atom.Op,x.Atom.Bound.Kind,x.Atom.Bound.Int,x.Atom.Bound.Text,x.Exp,())) (fun _=>rfl) (za lI64 (za lI64 (za lI64 (za (lSl 23) (za lI64 (za (lSl 100) (za lI64 (za lI64 (za lI64 (za lStr (za lI64 zn)))))))))))) 0) zn)) (za lI64 (za lI64 zn)))
def zrc (x:zcY) (y:Unit):Nat:=(x.1.length+x.2.1.1.Atom.Args.length+x.2.1.1.Atom.Items.length+Int.toNat x.2.2.1+Int.toNat x.2.2.2.1+1000)
def zit:Cx ty:=mkCx base 19 [(51,zgF)] [] [(2,(kpL [0,1,7,8]))] [(2,1,[]),(2,0,(kpL [4]))] [(2,spW zry zSV (zdf) (.inl default) zq1 zrc)] []
theorem zq6:zI zit (lp (body Tryz.f103) 0):=zt (id:=2) (hl:=rfl)
def ziN (s:yD) (f:Factor):Wy0 (Int):=.bn (zis (s.length+f.Atom.Args.length+f.Atom.Items.length+(Int.ofNat s.length).toNat +Int.toNat 0+1000) s (FactorOf.mk (Atom.mk f.Atom.Kind f.Atom.Row f.Atom.Args f.Atom.Func f.Atom.Items f.Atom.Op f.Atom.Bound) f.Exp) (Int.ofNat s.length) 0) fun r2=>.i (isL r2) (.k (getL r2)) (.k (-1:Int))
def zcE (s:yD) (f:Factor):Bool×Int:=(ziN s f).fin default
def zsL:AL base (yD×(Factor×Unit)×Unit):=zd (ze (vSl 69)) (zd (ze (vFn 51 (zdj (zwI 69) vNil))) aNil)
def zhg:Ab.Spec ty:=zh zsL fun x=>((zcE x.1 x.2.1.1).1,zVk (zcE x.1 x.2.1.1).2)
theorem zpH:SdP 103 zhg:=
 sW (cx':=zit) zq zi zk (zj ⟨zj9,trivial⟩) Tryz.call103 Tryz.func103 (c:=body Tryz.f103) (lOK (aC zq6 aN))
def zo5:Cx ty:=mkCx base 9 [(51,zgF),(103,zhg)] [] [] [] [] []
def zhi (s:yD) (f:Factor):Wy0 (Bool):=.bn (zcE s (FactorOf.mk (Atom.mk f.Atom.Kind f.Atom.Row f.Atom.Args f.Atom.Func f.Atom.Items f.Atom.Op f.Atom.Bound) f.Exp)) fun r0=>.k (decide (r0≥0))
def zcf (s:yD) (f:Factor):Bool×Bool:=(zhi s f).fin default
def zgb:Ab.Spec ty:=zh zsL fun x=>((zcf x.1 x.2.1.1).1,zY8 (zcf x.1 x.2.1.1).2)
theorem znu:SdP 49 zgb:=
 sW (cx':=zo5) zq zi zk (zj ⟨zj9,zpH,trivial⟩) Tryz.call49 Tryz.func49 (c:=body Tryz.f49) (lOK aN)
def zI9:Cx ty:=mkCx base 9 [(49,zgb),(51,zgF)] [] [] [] [] []
def zyH (f:Factor) (p1:Term):Wy0 (Bool):=.bn (zcf p1.Factors (FactorOf.mk (Atom.mk f.Atom.Kind f.Atom.Row f.Atom.Args f.Atom.Func f.Atom.Items f.Atom.Op f.Atom.Bound) f.Exp)) fun r0=>.k (!r0)
def zeY (f:Factor) (p1:Term):Bool×Bool:=(zyH f p1).fin default
def zJ5:AL base (Factor×Term×Unit):=zd (ze (vAgg 69)) (zd (ze (zwI 28)) aNil)
def ziT:Ab.Spec ty:=zh zJ5 fun x=>((zeY x.1 x.2.1).1,zY8 (zeY x.1 x.2.1).2)
theorem zlW:SdP 50 ziT:=
 sW (cx':=zI9) zq zi zk (zj ⟨znu,zj9,trivial⟩) Tryz.call50 Tryz.func50 (c:=body Tryz.f50) (lOK aN)
abbrev zc2:=yD×(Term×Unit)×Int×Int×Unit
def ziC (s:yD) (f:Term) (t7:Int) (t8:Int):Wy zc2 (Unit) (Int⊕Unit):=.i (decide (t8<t7)) (.i (decide (0≤t8)&&decide (t8<Int.ofNat s.length)) (.bn (zeY (FactorOf.mk (Atom.mk (s.getD t8.toNat default).Atom.Kind (s.getD t8.toNat default).Atom.Row (s.getD t8.toNat default).Atom.Args (s.getD t8.toNat default).Atom.Func (s.getD t8.toNat default).Atom.Items (s.getD t8.toNat default).Atom.Op (s.getD t8.toNat default).Atom.Bound) (s.getD t8.toNat default).Exp) f) fun r0=>.i (r0) (.k (.inl t8)) (.h (s,(f,()),t7,(IntKind.i64.wrap (t8+1)),()) ())) .d) (.k (.inr ()))
def zdp (x:zc2) (y:Unit):Wy zc2 (Unit) (Int⊕Unit):=ziC x.1 x.2.1.1 x.2.2.1 x.2.2.2.1
def ziK (n:Nat) (s:yD) (f:Term) (t7:Int) (t8:Int):Bool×(Int⊕Unit):=zJ (zdp) (.inl default) n (s,(f,()),t7,t8,()) ()
def zsx:LL ty zc2:=za (lSl 69) (za (lFn 50 (za (zlS (zd6 (fun x=>(⟨x.1,x.2.1⟩:Term)) (fun x=>(x.Coeff,x.Factors,())) (fun _=>rfl) (za lI64 (za (lSl 69) zn))) 0) zn)) (za lI64 (za lI64 zn)))
def zrx (x:zc2) (y:Unit):Nat:=(x.1.length+x.2.1.1.Factors.length+Int.toNat x.2.2.1+Int.toNat x.2.2.2.1+1000)
def ziF:Cx ty:=mkCx base 19 [(50,ziT)] [] [(2,(kpL [0,1,7,8]))] [(2,1,[]),(2,0,(kpL [4]))] [(2,spW zsx zSV (zdp) (.inl default) zq1 zrx)] []
theorem zsc:zI ziF (lp (body Tryz.f103) 0):=zt (id:=2) (hl:=rfl)
def ziY (s:yD) (f:Term):Wy0 (Int):=.bn (ziK (s.length+f.Factors.length+(Int.ofNat s.length).toNat +Int.toNat 0+1000) s f (Int.ofNat s.length) 0) fun r2=>.i (isL r2) (.k (getL r2)) (.k (-1:Int))
def zcK (s:yD) (f:Term):Bool×Int:=(ziY s f).fin default
def zsW:AL base (yD×(Term×Unit)×Unit):=zd (ze (vSl 69)) (zd (ze (vFn 50 (zdj (zwI 28) vNil))) aNil)
def zhJ:Ab.Spec ty:=zh zsW fun x=>((zcK x.1 x.2.1.1).1,zVk (zcK x.1 x.2.1.1).2)
theorem zp5:SdP 103 zhJ:=
 sW (cx':=ziF) zq zi zk (zj ⟨zlW,trivial⟩) Tryz.call103 Tryz.func103 (c:=body Tryz.f103) (lOK (aC zsc aN))
def zqs:Cx ty:=mkCx base 9 [(50,ziT),(103,zhJ)] [] [] [] [] []
def zh3 (s:yD) (f:Term):Wy0 (Bool):=.bn (zcK s f) fun r0=>.k (decide (r0≥0))
def zcp (s:yD) (f:Term):Bool×Bool:=(zh3 s f).fin default
def zgq:Ab.Spec ty:=zh zsW fun x=>((zcp x.1 x.2.1.1).1,zY8 (zcp x.1 x.2.1.1).2)
theorem zol:SdP 49 zgq:=
 sW (cx':=zqs) zq zi zk (zj ⟨zlW,zp5,trivial⟩) Tryz.call49 Tryz.func49 (c:=body Tryz.f49) (lOK aN)
def zNd:Cx ty:=mkCx base 10 [(49,zgq),(50,ziT)] [] [] [] [] []
def zBN (a:Term) (b:Term):Wy0 (Bool):=.bn (zcp a.Factors b) fun r0=>.k (!r0)
def zci (a:Term) (b:Term):Bool×Bool:=(zBN a b).fin default
def zh0:Ab.Spec ty:=zh zJD fun x=>((zci x.1 x.2.1).1,zY8 (zci x.1 x.2.1).2)
theorem zkk:SdP 14 zh0:=
 sW (cx':=zNd) zq zi zk (zj ⟨zol,zlW,trivial⟩) Tryz.call14 Tryz.func14 (c:=body Tryz.f14) (lOK aN)
def zGz:AL base (Weighted×Unit):=zd (ze (vAgg 100)) aNil
def zdh (F:Weighted→Bool×Bool):Ab.Spec ty:=zh zGz fun x=>((F x.1).1,zY8 (F x.1).2)
def zm1:AL base (yA×Unit×Unit):=zd (ze (vSl 23)) (zd (ze (vFn 127 vNil)) aNil)
def zcr (F:yA→Bool×Int):Ab.Spec ty:=zh zm1 fun x=>((F x.1).1,zVk (F x.1).2)
def zcb (F:yA→Bool×Bool):Ab.Spec ty:=zh zm1 fun x=>((F x.1).1,zY8 (F x.1).2)
def zpy:AL base (yE×Unit×Unit):=zd (ze (vSl 100)) (zd (ze (vFn 133 vNil)) aNil)
def zcZ (F:yE→Bool×Int):Ab.Spec ty:=zh zpy fun x=>((F x.1).1,zVk (F x.1).2)
def zcx (F:yE→Bool×Bool):Ab.Spec ty:=zh zpy fun x=>((F x.1).1,zY8 (F x.1).2)
def zI8:Cx ty:=mkCx base 11 [] [] [] [] [] []
def zyF (x_:Atom):Wy0 (Bool):=.i (x_.Kind==3) (.k true) (.k (x_.Kind==4))
def zeZ (x_:Atom):Bool×Bool:=(zyF x_).fin default
def ziR:Ab.Spec ty:=zh zUv fun x=>((zeZ x.1).1,zY8 (zeZ x.1).2)
theorem zmg:SdP 64 ziR:=
 sW (cx':=zI8) zq zi zk (zj trivial) Tryz.call64 Tryz.func64 (c:=body Tryz.f64) (lOK aN)
abbrev zmr:=Int×Unit×yC×Int×Int×yD×Int×Int×yA×Int×Int×Unit
abbrev zrA:=Int×yC×Int×Int×yD×Int×Int×Factor
abbrev zl7:=Int×yC×Int×Int×yD×Int×Int×yE×Int×Int×Unit
abbrev zr3:=Int×yC×Int×Int×yD×Int×Int
abbrev zlM:=Int×yC×Int×Int×yD×Int×Int×Unit
abbrev zrZ:=Int×yC×Int×Int
abbrev zms:=Int×yC×Int×Int×Unit
def zjB (zr:yC→Bool×Int) (n_:Int) (t12:yC) (t13:Int) (t14:Int) (t25:yD) (t26:Int) (t27:Int) (t33:yA) (t34:Int) (t35:Int) (f:Factor):Wy zmr (Factor×Unit) zrA:=.i (decide (t35<t34)) (.i (decide (0≤t35)&&decide (t35<Int.ofNat t33.length)) (.bn (zr (t33.getD t35.toNat default)) fun r0=>.h ((IntKind.i64.wrap (n_+r0)),(),t12,t13,t14,t25,t26,t27,t33,t34,(IntKind.i64.wrap (t35+1)),()) (f,())) .d) (.k (n_,t12,t13,t14,t25,t26,t27,f))
def ztF (zr:yC→Bool×Int) (x:zmr) (y:Factor×Unit):Wy zmr (Factor×Unit) zrA:=zjB zr x.1 x.2.2.1 x.2.2.2.1 x.2.2.2.2.1 x.2.2.2.2.2.1 x.2.2.2.2.2.2.1 x.2.2.2.2.2.2.2.1 x.2.2.2.2.2.2.2.2.1 x.2.2.2.2.2.2.2.2.2.1 x.2.2.2.2.2.2.2.2.2.2.1 y.1
def zAx (zr:yC→Bool×Int) (n:Nat) (n_:Int) (t12:yC) (t13:Int) (t14:Int) (t25:yD) (t26:Int) (t27:Int) (t33:yA) (t34:Int) (t35:Int) (f:Factor):Bool×zrA:=zJ (ztF zr) default n (n_,(),t12,t13,t14,t25,t26,t27,t33,t34,t35,()) (f,())
def zK4 (r:zrA):LTree ty:=.done (.exit 4) [.lit (.int .i64 r.1),.ptr 248 0,.sl 28 r.2.1,.lit (.int .i64 r.2.2.1),.lit (.int .i64 r.2.2.2.1),.sl 69 r.2.2.2.2.1,.lit (.int .i64 r.2.2.2.2.2.1),.lit (.int .i64 r.2.2.2.2.2.2.1)] [.box (base.enc 69 r.2.2.2.2.2.2.2) false]
def zMD:LL ty zmr:=za lI64 (za (zdC 248 0) (za (lSl 28) (za lI64 (za lI64 (za (lSl 69) (za lI64 (za lI64 (za (lSl 23) (za lI64 (za lI64 zn))))))))))
def zM2:BL ty (Factor×Unit):=bBox (zd6 (fun x=>(⟨⟨x.1,⟨x.2.1,x.2.2.1⟩,x.2.2.2.1,x.2.2.2.2.1,x.2.2.2.2.2.1,x.2.2.2.2.2.2.1,⟨x.2.2.2.2.2.2.2.1,x.2.2.2.2.2.2.2.2.1,x.2.2.2.2.2.2.2.2.2.1⟩⟩,x.2.2.2.2.2.2.2.2.2.2.1⟩:Factor)) (fun x=>(x.Atom.Kind,x.Atom.Row.Table,x.Atom.Row.Seq,x.Atom.Args,x.Atom.Func,x.Atom.Items,x.Atom.Op,x.Atom.Bound.Kind,x.Atom.Bound.Int,x.Atom.Bound.Text,x.Exp,())) (fun _=>rfl) (za (lInt .i64) (za (lInt .i64) (za (lInt .i64) (za (lSl 23) (za (lInt .i64) (za (lSl 100) (za (lInt .i64) (za (lInt .i64) (za (lInt .i64) (za lStr (za (lInt .i64) zn)))))))))))) false (bNil)
def zjk (zr:yC→Bool×Int) (n_:Int) (t12:yC) (t13:Int) (t14:Int) (t25:yD) (t26:Int) (t27:Int) (t46:yE) (t47:Int) (t48:Int):Wy zl7 (Unit) zr3:=.i (decide (t48<t47)) (.i (decide (0≤t48)&&decide (t48<Int.ofNat t46.length)) (.bn (zr (t46.getD t48.toNat default).Ann) fun r2=>.h ((IntKind.i64.wrap (n_+IntKind.i64.wrap (1+r2))),t12,t13,t14,t25,t26,t27,t46,t47,(IntKind.i64.wrap (t48+1)),()) ()) .d) (.k (n_,t12,t13,t14,t25,t26,t27))
def ztS (zr:yC→Bool×Int) (x:zl7) (y:Unit):Wy zl7 (Unit) zr3:=zjk zr x.1 x.2.1 x.2.2.1 x.2.2.2.1 x.2.2.2.2.1 x.2.2.2.2.2.1 x.2.2.2.2.2.2.1 x.2.2.2.2.2.2.2.1 x.2.2.2.2.2.2.2.2.1 x.2.2.2.2.2.2.2.2.2.1
def zAd (zr:yC→Bool×Int) (n:Nat) (n_:Int) (t12:yC) (t13:Int) (t14:Int) (t25:yD) (t26:Int) (t27:Int) (t46:yE) (t47:Int) (t48:Int):Bool×zr3:=zJ (ztS zr) default n (n_,t12,t13,t14,t25,t26,t27,t46,t47,t48,()) ()
def zL0 (r:zr3):LTree ty:=.done (.exit 6) [.lit (.int .i64 r.1),.sl 28 r.2.1,.lit (.int .i64 r.2.2.1),.lit (.int .i64 r.2.2.2.1),.sl 69 r.2.2.2.2.1,.lit (.int .i64 r.2.2.2.2.2.1),.lit (.int .i64 r.2.2.2.2.2.2)] []
def zNG:LL ty zl7:=za lI64 (za (lSl 28) (za lI64 (za lI64 (za (lSl 69) (za lI64 (za lI64 (za (lSl 100) (za lI64 (za lI64 zn)))))))))
def zjV (zr:yC→Bool×Int) (n_:Int) (t12:yC) (t13:Int) (t14:Int) (t25:yD) (t26:Int) (t27:Int):Wy zlM (Unit) zrZ:=.i (decide (t27<t26)) (.i (decide (0≤t27)&&decide (t27<Int.ofNat t25.length)) (.bn (zAx zr (n_.toNat +t12.length+t13.toNat +t14.toNat +t25.length+t26.toNat +t27.toNat +(t25.getD t27.toNat default).Atom.Args.length+(Int.ofNat (t25.getD t27.toNat default).Atom.Args.length).toNat +Int.toNat 0+(t25.getD t27.toNat default).Atom.Args.length+(t25.getD t27.toNat default).Atom.Items.length+1) n_ t12 t13 t14 t25 t26 t27 (t25.getD t27.toNat default).Atom.Args (Int.ofNat (t25.getD t27.toNat default).Atom.Args.length) 0 (FactorOf.mk (Atom.mk (t25.getD t27.toNat default).Atom.Kind (t25.getD t27.toNat default).Atom.Row (t25.getD t27.toNat default).Atom.Args (t25.getD t27.toNat default).Atom.Func (t25.getD t27.toNat default).Atom.Items (t25.getD t27.toNat default).Atom.Op (t25.getD t27.toNat default).Atom.Bound) (t25.getD t27.toNat default).Exp)) fun r5=>.bn (zAd zr (r5.1.toNat +r5.2.1.length+r5.2.2.1.toNat +r5.2.2.2.1.toNat +r5.2.2.2.2.1.length+r5.2.2.2.2.2.1.toNat +r5.2.2.2.2.2.2.1.toNat +r5.2.2.2.2.2.2.2.Atom.Items.length+(Int.ofNat r5.2.2.2.2.2.2.2.Atom.Items.length).toNat +Int.toNat 0+1) r5.1 r5.2.1 r5.2.2.1 r5.2.2.2.1 r5.2.2.2.2.1 r5.2.2.2.2.2.1 r5.2.2.2.2.2.2.1 r5.2.2.2.2.2.2.2.Atom.Items (Int.ofNat r5.2.2.2.2.2.2.2.Atom.Items.length) 0) fun r4=>.h ((r4.1),(r4.2.1),(r4.2.2.1),(r4.2.2.2.1),(r4.2.2.2.2.1),(r4.2.2.2.2.2.1),(IntKind.i64.wrap (r4.2.2.2.2.2.2+1)),()) ()) .d) (.k (n_,t12,t13,t14))
def zuS (zr:yC→Bool×Int) (x:zlM) (y:Unit):Wy zlM (Unit) zrZ:=zjV zr x.1 x.2.1 x.2.2.1 x.2.2.2.1 x.2.2.2.2.1 x.2.2.2.2.2.1 x.2.2.2.2.2.2.1
def zA4 (zr:yC→Bool×Int) (n:Nat) (n_:Int) (t12:yC) (t13:Int) (t14:Int) (t25:yD) (t26:Int) (t27:Int):Bool×zrZ:=zJ (zuS zr) default n (n_,t12,t13,t14,t25,t26,t27,()) ()
def zNj (r:zrZ):LTree ty:=.done (.exit 2) [.lit (.int .i64 r.1),.sl 28 r.2.1,.lit (.int .i64 r.2.2.1),.lit (.int .i64 r.2.2.2)] []
def zOa:LL ty zlM:=za lI64 (za (lSl 28) (za lI64 (za lI64 (za (lSl 69) (za lI64 (za lI64 zn))))))
def zjZ (zr:yC→Bool×Int) (n_:Int) (t12:yC) (t13:Int) (t14:Int):Wy zms (Unit) (Int):=.i (decide (t14<t13)) (.i (decide (0≤t14)&&decide (t14<Int.ofNat t12.length)) (.bn (zA4 zr ((IntKind.i64.wrap (n_+IntKind.i64.wrap (1+Int.ofNat (t12.getD t14.toNat default).Factors.length))).toNat +t12.length+t13.toNat +t14.toNat +(t12.getD t14.toNat default).Factors.length+(Int.ofNat (t12.getD t14.toNat default).Factors.length).toNat +Int.toNat 0+1) (IntKind.i64.wrap (n_+IntKind.i64.wrap (1+Int.ofNat (t12.getD t14.toNat default).Factors.length))) t12 t13 t14 (t12.getD t14.toNat default).Factors (Int.ofNat (t12.getD t14.toNat default).Factors.length) 0) fun r8=>.h ((r8.1),(r8.2.1),(r8.2.2.1),(IntKind.i64.wrap (r8.2.2.2+1)),()) ()) .d) (.k n_)
def zvc (zr:yC→Bool×Int) (x:zms) (y:Unit):Wy zms (Unit) (Int):=zjZ zr x.1 x.2.1 x.2.2.1 x.2.2.2.1
def zBr (zr:yC→Bool×Int) (n:Nat) (n_:Int) (t12:yC) (t13:Int) (t14:Int):Bool×Int:=zJ (zvc zr) default n (n_,t12,t13,t14,()) ()
def zPs:LL ty zms:=za lI64 (za (lSl 28) (za lI64 (za lI64 zn)))
def zLq (x:zmr) (y:Factor×Unit):Nat:=(Int.toNat x.1+x.2.2.1.length+Int.toNat x.2.2.2.1+Int.toNat x.2.2.2.2.1+x.2.2.2.2.2.1.length+Int.toNat x.2.2.2.2.2.2.1+Int.toNat x.2.2.2.2.2.2.2.1+x.2.2.2.2.2.2.2.2.1.length+Int.toNat x.2.2.2.2.2.2.2.2.2.1+Int.toNat x.2.2.2.2.2.2.2.2.2.2.1+y.1.Atom.Args.length+y.1.Atom.Items.length+1)
def zL1 (x:zl7) (y:Unit):Nat:=(Int.toNat x.1+x.2.1.length+Int.toNat x.2.2.1+Int.toNat x.2.2.2.1+x.2.2.2.2.1.length+Int.toNat x.2.2.2.2.2.1+Int.toNat x.2.2.2.2.2.2.1+x.2.2.2.2.2.2.2.1.length+Int.toNat x.2.2.2.2.2.2.2.2.1+Int.toNat x.2.2.2.2.2.2.2.2.2.1+1)
def zNE (x:zlM) (y:Unit):Nat:=(Int.toNat x.1+x.2.1.length+Int.toNat x.2.2.1+Int.toNat x.2.2.2.1+x.2.2.2.2.1.length+Int.toNat x.2.2.2.2.2.1+Int.toNat x.2.2.2.2.2.2.1+1)
def zMi (x:zms) (y:Unit):Nat:=(Int.toNat x.1+x.2.1.length+Int.toNat x.2.2.1+Int.toNat x.2.2.2.1+1)
def zke (zr:yC→Bool×Int):Cx ty:=mkCx base 62 [(115,(zsf zr))] [] [(3,(kpL [3,12,13,14])),(7,(kpL [3,12,13,14,25,26,27])),(10,(kpL [3,7,12,13,14,25,26,27,33,34,35])),(15,(kpL [3,12,13,14,25,26,27,46,47,48]))] [(3,1,(kpL [3])),(7,3,(kpL [3,12,13,14])),(10,5,(kpL [3,7,12,13,14,25,26,27])),(15,7,(kpL [3,12,13,14,25,26,27]))] [(10,spW zMD zM2 (ztF zr) default zK4 zLq),(15,spW zNG zSV (ztS zr) default zL0 zL1),(7,spW zOa zSV (zuS zr) default zNj zNE),(3,spW zPs zSV (zvc zr) default zQS zMi)] []
theorem zLb (zr:yC→Bool×Int):zI (zke zr) (lp (body Tryz.f115) 2):=zt (id:=10) (hl:=rfl)
theorem zLy (zr:yC→Bool×Int):zI (zke zr) (lp (body Tryz.f115) 3):=zt (id:=15) (hl:=rfl)
theorem zNB (zr:yC→Bool×Int):zI (zke zr) (lp (body Tryz.f115) 1):=zt (id:=7) (hl:=rfl)
theorem zMK (zr:yC→Bool×Int):zI (zke zr) (lp (body Tryz.f115) 0):=zt (id:=3) (hl:=rfl)
def zCn (zr:yC→Bool×Int) (a:yC):Wy0 (Int):=.bn (zBr zr (Int.toNat 0+a.length+(Int.ofNat a.length).toNat +Int.toNat 0+1) 0 a (Int.ofNat a.length) 0) fun r10=>.k r10
def zsX (zr:yC→Bool×Int) (a:yC):Bool×Int:=(zCn zr a).fin default
theorem zKa (zr:yC→Bool×Int) (zQ0:SdP 115 (zsf zr)):SdP 115 (zsf (zsX zr)):=
 sW (cx':=(zke zr)) zq zi zk (zj ⟨zQ0,trivial⟩) Tryz.call115 Tryz.func115 (c:=body Tryz.f115) (lOK (aC (zMK zr) (aC (zNB zr) (aC (zLb zr) (aC (zLy zr) aN)))))
def z3g:Nat→(yC→Bool×Int)
 | 0=>fun _=>(false,default)
 | n+1=>zsX (z3g n)
def zkC (n:Nat):yC→Bool×Int:=z3g n
theorem zO6 (n:Nat):zkC (n+1)=zsX (zkC n):=rfl
theorem zYt:∀ n,SdP 115 (zsf (zkC n))
 | 0=>zY Tryz.call115 (fun _=>rfl)
 | n+1=>by
  have ih:=zYt n;exact zKa _ (ih)
def zBm:yC→Bool×Int:=zkC 1000
def annotation_Size_spec:Ab.Spec ty:=zsf zBm
theorem zNr:SdP 115 annotation_Size_spec:=(zYt 1000)
end Go.Proofs.YtljlfiomikifjaaGreatDoor
end
