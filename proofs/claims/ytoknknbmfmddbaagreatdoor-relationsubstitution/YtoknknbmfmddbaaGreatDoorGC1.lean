/- Texts of this claim, joined (the program, its functions in plain words, and what they compute). -/
import Derived.KernelRfl
import Derived.Test.YtoknknbmfmddbaaGreatDoorChecked
import Derived.Test.YtoknknbmfmddbaaGreatDoorProg
import Derived.Test.YtoknknbmfmddbaaGreatDoorGB1
set_option autoImplicit false
set_option linter.unusedVariables false
set_option linter.unusedSectionVars false
set_option linter.unusedSimpArgs false
set_option maxRecDepth 1000000
set_option maxHeartbeats 0
/- The types of the program, as plain data. -/
noncomputable section
namespace Go.Proofs.YtoknknbmfmddbaaGreatDoor
open Go Go.Ab
open Go.Proofs Go.Shelf
open Go.Proofs.Tryz
structure Column where
 Name:ByteArray
 Type_:Int
 deriving DecidableEq,Inhabited
structure Value where
 Kind:Int
 Int:Int
 Text:ByteArray
 deriving DecidableEq,Inhabited
structure RowID where
 Table:Int
 Seq:Int
 deriving DecidableEq,Inhabited
structure FO (A:Type) where
 At:A
 Exp:Int
structure TO (A:Type) where
 Cf:Int
 Fs:List (FO A)
structure WO (A:Type) where
 Value:Value
 Ann:List (TO A)
structure At where
 Kind:Int
 Row:RowID
 Ag:List (List (TO At))
 Func:Int
 Items:List (WO At)
 Op:Int
 Bd:Value
abbrev Fc:=FO At
abbrev Term:=TO At
abbrev Wd:=WO At
instance:Inhabited At:=⟨⟨0,default,[],0,[],0,default⟩⟩
instance:Inhabited Fc:=⟨⟨default,0⟩⟩
instance:Inhabited Term:=⟨⟨0,[]⟩⟩
instance:Inhabited Wd:=⟨⟨default,[]⟩⟩
theorem At.eta (x:At):(⟨x.Kind,x.Row,x.Ag,x.Func,x.Items,x.Op,x.Bd⟩:At)=x:=by cases x; rfl
mutual
def zbfC:(x y:At)->Decidable (x=y)
 | ⟨k,r,a,f,i,o,b⟩,⟨k',r',a',f',i',o',b'⟩=>
  match decEq k k',decEq r r',zbfR a a',decEq f f',zbde i i',decEq o o',decEq b b' with
  | .isTrue h1,.isTrue h2,.isTrue h3,.isTrue h4,.isTrue h5,.isTrue h6,.isTrue h7=>.isTrue (by subst h1 h2 h3 h4 h5 h6 h7; rfl)
  | .isFalse h,_,_,_,_,_,_=>.isFalse (λe=>by cases e; exact h rfl)
  | _,.isFalse h,_,_,_,_,_=>.isFalse (λe=>by cases e; exact h rfl)
  | _,_,.isFalse h,_,_,_,_=>.isFalse (λe=>by cases e; exact h rfl)
  | _,_,_,.isFalse h,_,_,_=>.isFalse (λe=>by cases e; exact h rfl)
  | _,_,_,_,.isFalse h,_,_=>.isFalse (λe=>by cases e; exact h rfl)
  | _,_,_,_,_,.isFalse h,_=>.isFalse (λe=>by cases e; exact h rfl)
  | _,_,_,_,_,_,.isFalse h=>.isFalse (λe=>by cases e; exact h rfl)
def z9E:(x y:Fc)->Decidable (x=y)
 | ⟨a,e⟩,⟨a',e'⟩=>match zbfC a a',decEq e e' with
  | .isTrue h1,.isTrue h2=>.isTrue (by subst h1 h2; rfl)
  | .isFalse h,_=>.isFalse (λe=>by cases e; exact h rfl)
  | _,.isFalse h=>.isFalse (λe=>by cases e; exact h rfl)
def z5b:(x y:List Fc)->Decidable (x=y)
 | [],[]=>.isTrue rfl
 | [],_::_=>.isFalse (by simp)
 | _::_,[]=>.isFalse (by simp)
 | x::r,y::s=>match z9E x y,z5b r s with
  | .isTrue h1,.isTrue h2=>.isTrue (by subst h1 h2; rfl)
  | .isFalse h,_=>.isFalse (λe=>by cases e; exact h rfl)
  | _,.isFalse h=>.isFalse (λe=>by cases e; exact h rfl)
def zbe1:(x y:Term)->Decidable (x=y)
 | ⟨a,e⟩,⟨a',e'⟩=>match decEq a a',z5b e e' with
  | .isTrue h1,.isTrue h2=>.isTrue (by subst h1 h2; rfl)
  | .isFalse h,_=>.isFalse (λe=>by cases e; exact h rfl)
  | _,.isFalse h=>.isFalse (λe=>by cases e; exact h rfl)
def zbdn:(x y:List Term)->Decidable (x=y)
 | [],[]=>.isTrue rfl
 | [],_::_=>.isFalse (by simp)
 | _::_,[]=>.isFalse (by simp)
 | x::r,y::s=>match zbe1 x y,zbdn r s with
  | .isTrue h1,.isTrue h2=>.isTrue (by subst h1 h2; rfl)
  | .isFalse h,_=>.isFalse (λe=>by cases e; exact h rfl)
  | _,.isFalse h=>.isFalse (λe=>by cases e; exact h rfl)
def zbfR:(x y:List (List Term))->Decidable (x=y)
 | [],[]=>.isTrue rfl
 | [],_::_=>.isFalse (by simp)
 | _::_,[]=>.isFalse (by simp)
 | x::r,y::s=>match zbdn x y,zbfR r s with
  | .isTrue h1,.isTrue h2=>.isTrue (by subst h1 h2; rfl)
  | .isFalse h,_=>.isFalse (λe=>by cases e; exact h rfl)
  | _,.isFalse h=>.isFalse (λe=>by cases e; exact h rfl)
def zbfv:(x y:Wd)->Decidable (x=y)
 | ⟨a,e⟩,⟨a',e'⟩=>match decEq a a',zbdn e e' with
  | .isTrue h1,.isTrue h2=>.isTrue (by subst h1 h2; rfl)
  | .isFalse h,_=>.isFalse (λe=>by cases e; exact h rfl)
  | _,.isFalse h=>.isFalse (λe=>by cases e; exact h rfl)
def zbde:(x y:List Wd)->Decidable (x=y)
 | [],[]=>.isTrue rfl
 | [],_::_=>.isFalse (by simp)
 | _::_,[]=>.isFalse (by simp)
 | x::r,y::s=>match zbfv x y,zbde r s with
  | .isTrue h1,.isTrue h2=>.isTrue (by subst h1 h2; rfl)
  | .isFalse h,_=>.isFalse (λe=>by cases e; exact h rfl)
  | _,.isFalse h=>.isFalse (λe=>by cases e; exact h rfl)
end
instance:DecidableEq At:=zbfC
instance:DecidableEq Fc:=z9E
instance:DecidableEq Term:=zbe1
instance:DecidableEq Wd:=zbfv
structure Row where
 Values:List Value
 Ann:List Term
 deriving DecidableEq,Inhabited
structure Relation where
 Columns:List Column
 Rows:List Row
 deriving DecidableEq,Inhabited
structure Table where
 ID:Int
 Name:ByteArray
 Columns:List Column
 Rows:List Row
 deriving DecidableEq,Inhabited
structure Bg where
 Row:RowID
 To:List Term
 deriving DecidableEq,Inhabited
structure pair where
 c:Column
 v:Value
 deriving DecidableEq,Inhabited
abbrev yA:=List (List Term)
abbrev yB:=List Term
abbrev yC:=List Fc
abbrev yD:=List Wd
abbrev yE:=List Bg
abbrev yF:=List Row
abbrev yG:=List Value
abbrev yH:=List Column
def ty:Nat->Type
 | 2=>Int
 | 3=>Int
 | 4=>Bool
 | 5=>Int
 | 9=>ByteArray
 | 22=>yH
 | 23=>yF
 | 25=>Relation
 | 28=>List ByteArray
 | 32=>List (yG)
 | 34=>yG
 | 36=>Table
 | 39=>Int
 | 50=>yB
 | 51=>yB
 | 54=>Row
 | 60=>yE
 | 63=>RowID
 | 65=>Bg
 | 69=>List RowID
 | 73=>List Relation
 | 75=>Column
 | 79=>Value
 | 105=>yC
 | 107=>Term
 | 110=>yA
 | 120=>List Int
 | 135=>List pair
 | 137=>pair
 | 141=>yD
 | 143=>At
 | 145=>Fc
 | 155=>List (yF)
 | 169=>Wd
 | 207=>Unit
 | 218=>Int
 | 223=>Int
 | 234=>List Int
 | 282=>List (yC)
 | _=>Unit
instance:(T:Nat)->Inhabited (ty T):=λT=>by
 unfold ty;split <;>infer_instance
def zbmd:DT ty Column:=zCn (λx=>⟨x.1,x.2⟩) (λx=>(x.Name,x.Type_)) (λ_=>rfl) (zkF (zbbA) (ztp .i64))
def zbgj:DT ty Value:=zCn (λx=>⟨x.1,x.2.1,x.2.2⟩) (λx=>(x.Kind,x.Int,x.Text)) (λ_=>rfl) (zkF (ztp .i64) (zkF (ztp .i64) (zbbA)))
def zbjf:DT ty RowID:=zCn (λx=>⟨x.1,x.2⟩) (λx=>(x.Table,x.Seq)) (λ_=>rfl) (zkF (ztp .i64) (ztp .i64))
def zbj0:DT ty At:=zCn (λx=>⟨x.1,x.2.1,x.2.2.1,x.2.2.2.1,x.2.2.2.2.1,x.2.2.2.2.2.1,x.2.2.2.2.2.2⟩) (λx=>(x.Kind,x.Row,x.Ag,x.Func,x.Items,x.Op,x.Bd)) (λ_=>rfl) (zkF (ztp .i64) (zkF (zbjf) (zkF (zlK 51) (zkF (ztp .i64) (zkF (zlK 169) (zkF (ztp .i64) (zbgj)))))))
def zbno:DT ty Fc:=zCn (λx=>⟨x.1,x.2⟩) (λx=>(x.At,x.Exp)) (λ_=>rfl) (zkF (zbj0) (ztp .i64))
def zbnN:DT ty Term:=zCn (λx=>⟨x.1,x.2⟩) (λx=>(x.Cf,x.Fs)) (λ_=>rfl) (zkF (ztp .i64) (zlK 145))
def zbng:DT ty Wd:=zCn (λx=>⟨x.1,x.2⟩) (λx=>(x.Value,x.Ann)) (λ_=>rfl) (zkF (zbgj) (zlK 107))
def zbnU:DT ty Row:=zCn (λx=>⟨x.1,x.2⟩) (λx=>(x.Values,x.Ann)) (λ_=>rfl) (zkF (zlK 79) (zlK 107))
def zbn5:DT ty Relation:=zCn (λx=>⟨x.1,x.2⟩) (λx=>(x.Columns,x.Rows)) (λ_=>rfl) (zkF (zlK 75) (zlK 54))
def zbn6:DT ty Table:=zCn (λx=>⟨x.1,x.2.1,x.2.2.1,x.2.2.2⟩) (λx=>(x.ID,x.Name,x.Columns,x.Rows)) (λ_=>rfl) (zkF (ztp .i64) (zkF (zbbA) (zkF (zlK 75) (zlK 54))))
def zbn4:DT ty Bg:=zCn (λx=>⟨x.1,x.2⟩) (λx=>(x.Row,x.To)) (λ_=>rfl) (zkF (zbjf) (zlK 107))
def zbnJ:DT ty pair:=zCn (λx=>⟨x.1,x.2⟩) (λx=>(x.c,x.v)) (λ_=>rfl) (zkF (zbmd) (zbgj))
def z5m:List ((T:Nat)×DT ty (ty T)):=[⟨2,(ztp .i64:DT ty Int)⟩,⟨3,(ztp .i64:DT ty Int)⟩,⟨4,(zblY:DT ty Bool)⟩,⟨5,(ztp .u8:DT ty Int)⟩,⟨9,(zbbA:DT ty ByteArray)⟩,⟨22,(zlK 75:DT ty (yH))⟩,⟨23,(zlK 54:DT ty (yF))⟩,⟨25,(zbn5:DT ty Relation)⟩,⟨28,(zlK 9:DT ty (List ByteArray))⟩,⟨32,(zlK 34:DT ty (List (yG)))⟩,⟨34,(zlK 79:DT ty (yG))⟩,⟨36,(zbn6:DT ty Table)⟩,⟨39,(ztp .i64:DT ty Int)⟩,⟨50,(zlK 107:DT ty (yB))⟩,⟨51,(zlK 107:DT ty (yB))⟩,⟨54,(zbnU:DT ty Row)⟩,⟨60,(zlK 65:DT ty (yE))⟩,⟨63,(zbjf:DT ty RowID)⟩,⟨65,(zbn4:DT ty Bg)⟩,⟨69,(zlK 63:DT ty (List RowID))⟩,⟨73,(zlK 25:DT ty (List Relation))⟩,⟨75,(zbmd:DT ty Column)⟩,⟨79,(zbgj:DT ty Value)⟩,⟨105,(zlK 145:DT ty (yC))⟩,⟨107,(zbnN:DT ty Term)⟩,⟨110,(zlK 51:DT ty (yA))⟩,⟨120,(zlK 5:DT ty (List Int))⟩,⟨135,(zlK 137:DT ty (List pair))⟩,⟨137,(zbnJ:DT ty pair)⟩,⟨141,(zlK 169:DT ty (yD))⟩,⟨143,(zbj0:DT ty At)⟩,⟨145,(zbno:DT ty Fc)⟩,⟨155,(zlK 23:DT ty (List (yF)))⟩,⟨169,(zbng:DT ty Wd)⟩,⟨207,(zbnX:DT ty Unit)⟩,⟨218,(ztp .u64:DT ty Int)⟩,⟨223,(ztp .u64:DT ty Int)⟩,⟨234,(zlK 3:DT ty (List Int))⟩,⟨282,(zlK 105:DT ty (List (yC)))⟩]
def zbbz:List (Nat×TInfo):=[(2,⟨.int .i64,1,8,[.int .i64 (0)]⟩),
 (3,⟨.int .i64,1,8,[.int .i64 (0)]⟩),
 (4,⟨.bool,1,1,[.bool false]⟩),
 (5,⟨.int .u8,1,1,[.int .u8 (0)]⟩),
 (9,⟨.str,1,16,[.string ⟨#[]⟩]⟩),
 (22,⟨.slice 75,1,24,[.slice none 0 0]⟩),
 (23,⟨.slice 54,1,24,[.slice none 0 0]⟩),
 (25,⟨.struct [(0,22),(1,23)],2,48,[.slice none 0 0,.slice none 0 0]⟩),
 (28,⟨.slice 9,1,24,[.slice none 0 0]⟩),
 (32,⟨.slice 34,1,24,[.slice none 0 0]⟩),
 (34,⟨.slice 79,1,24,[.slice none 0 0]⟩),
 (36,⟨.struct [(0,3),(1,9),(2,22),(3,23)],4,72,[.int .i64 (0),.string ⟨#[]⟩,.slice none 0 0,.slice none 0 0]⟩),
 (39,⟨.int .i64,1,8,[.int .i64 (0)]⟩),
 (50,⟨.slice 107,1,24,[.slice none 0 0]⟩),
 (51,⟨.slice 107,1,24,[.slice none 0 0]⟩),
 (54,⟨.struct [(0,34),(1,51)],2,48,[.slice none 0 0,.slice none 0 0]⟩),
 (60,⟨.slice 65,1,24,[.slice none 0 0]⟩),
 (63,⟨.struct [(0,3),(1,3)],2,16,[.int .i64 (0),.int .i64 (0)]⟩),
 (65,⟨.struct [(0,63),(2,51)],3,40,[.int .i64 (0),.int .i64 (0),.slice none 0 0]⟩),
 (69,⟨.slice 63,1,24,[.slice none 0 0]⟩),
 (73,⟨.slice 25,1,24,[.slice none 0 0]⟩),
 (75,⟨.struct [(0,9),(1,3)],2,24,[.string ⟨#[]⟩,.int .i64 (0)]⟩),
 (79,⟨.struct [(0,3),(1,2),(2,9)],3,32,[.int .i64 (0),.int .i64 (0),.string ⟨#[]⟩]⟩),
 (105,⟨.slice 145,1,24,[.slice none 0 0]⟩),
 (107,⟨.struct [(0,2),(1,105)],2,32,[.int .i64 (0),.slice none 0 0]⟩),
 (110,⟨.slice 51,1,24,[.slice none 0 0]⟩),
 (120,⟨.slice 5,1,24,[.slice none 0 0]⟩),
 (135,⟨.slice 137,1,24,[.slice none 0 0]⟩),
 (137,⟨.struct [(0,75),(2,79)],5,56,[.string ⟨#[]⟩,.int .i64 (0),.int .i64 (0),.int .i64 (0),.string ⟨#[]⟩]⟩),
 (141,⟨.slice 169,1,24,[.slice none 0 0]⟩),
 (143,⟨.struct [(0,3),(1,63),(3,110),(4,3),(5,141),(6,3),(7,79)],10,120,[.int .i64 (0),.int .i64 (0),.int .i64 (0),.slice none 0 0,.int .i64 (0),.slice none 0 0,.int .i64 (0),.int .i64 (0),.int .i64 (0),.string ⟨#[]⟩]⟩),
 (145,⟨.struct [(0,143),(10,3)],11,128,[.int .i64 (0),.int .i64 (0),.int .i64 (0),.slice none 0 0,.int .i64 (0),.slice none 0 0,.int .i64 (0),.int .i64 (0),.int .i64 (0),.string ⟨#[]⟩,.int .i64 (0)]⟩),
 (155,⟨.slice 23,1,24,[.slice none 0 0]⟩),
 (169,⟨.struct [(0,79),(3,51)],4,56,[.int .i64 (0),.int .i64 (0),.string ⟨#[]⟩,.slice none 0 0]⟩),
 (207,⟨.map 9 3,1,8,[.map none]⟩),
 (218,⟨.int .u64,1,8,[.int .u64 (0)]⟩),
 (223,⟨.int .u64,1,8,[.int .u64 (0)]⟩),
 (234,⟨.slice 3,1,24,[.slice none 0 0]⟩),
 (282,⟨.slice 105,1,24,[.slice none 0 0]⟩)]
def zXK:List (Nat×List TD):=[(75,[.str,.int .i64]),(79,[.int .i64,.int .i64,.str]),(63,[.int .i64,.int .i64])]
def inv (w:World):Prop:=Lib.TabIs Tryz.prog w "internal/strconv.uint64pow10" .u64 Lib.pow10Tab/\(∃ m,w.cell? ⟨0,0,none⟩=some (.int .i64 m))
theorem zbiw {n:String} {g:Nat} {w w':World} (hg:Tryz.prog.globalNamed n=some g) (h:w'.heap[g]? =w.heap[g]?):w'.var? Tryz.prog n=w.var? Tryz.prog n:=by
 unfold World.var?; rw [hg]; simp only [q1g,h]
theorem zbgd (w w':World) (hi:inv w) (hb:∀ b,b<4->w'.heap[b]? =w.heap[b]?):inv w':=by
 obtain ⟨h1,⟨m,h2⟩⟩:=hi;refine ⟨(zbiw (g:=1) (by kernel_rfl) (hb 1 (by omega))).trans h1,⟨m, ?_⟩⟩
 rw [<- h2]; exact World.cell?_of_block (a:=⟨0,0,none⟩) (hb 0 (by omega))
def base:Cx ty:={ ti:=λT=>zbbz.lookup T,dflt:=λ_=>default,enc:=λT=>(zbdd z5m T).enc,dec:=λT=>(zbdd z5m T).dec,spec:=λ_=>none,io:=λ_=>[],eqs:=λT us vs=>match zXK.lookup T with | some ts=>zbm ts us vs | none=>none,nt:=0,head:=λ_=>[],out:=λ_ _=>[],loops:=λ_=>none,ng:=4,inv:=inv }
theorem zbgZ:Tryz.prog.info? 2=some Tryz.t2:=by kernel_rfl
theorem zHU:Tryz.prog.info? 3=some Tryz.t3:=by kernel_rfl
theorem zbnt:Tryz.prog.info? 4=some Tryz.t4:=by kernel_rfl
theorem zbnx:Tryz.prog.info? 5=some Tryz.t5:=by kernel_rfl
theorem zbbt:Tryz.prog.info? 9=some Tryz.t9:=by kernel_rfl
theorem zbdw:Tryz.prog.info? 22=some Tryz.t22:=by kernel_rfl
theorem zbc7:Tryz.prog.info? 23=some Tryz.t23:=by kernel_rfl
theorem zbm5:Tryz.prog.info? 25=some Tryz.t25:=by kernel_rfl
theorem zbmQ:Tryz.prog.info? 28=some Tryz.t28:=by kernel_rfl
theorem zbm4:Tryz.prog.info? 32=some Tryz.t32:=by kernel_rfl
theorem zbhF:Tryz.prog.info? 34=some Tryz.t34:=by kernel_rfl
theorem zbmi:Tryz.prog.info? 36=some Tryz.t36:=by kernel_rfl
theorem zbnd:Tryz.prog.info? 39=some Tryz.t39:=by kernel_rfl
theorem zbmR:Tryz.prog.info? 50=some Tryz.t50:=by kernel_rfl
theorem z5j:Tryz.prog.info? 51=some Tryz.t51:=by kernel_rfl
theorem zbmu:Tryz.prog.info? 54=some Tryz.t54:=by kernel_rfl
theorem zbmJ:Tryz.prog.info? 60=some Tryz.t60:=by kernel_rfl
theorem zbcp:Tryz.prog.info? 63=some Tryz.t63:=by kernel_rfl
theorem zblP:Tryz.prog.info? 65=some Tryz.t65:=by kernel_rfl
theorem zbml:Tryz.prog.info? 69=some Tryz.t69:=by kernel_rfl
theorem zblQ:Tryz.prog.info? 73=some Tryz.t73:=by kernel_rfl
theorem zbh6:Tryz.prog.info? 75=some Tryz.t75:=by kernel_rfl
theorem z6O:Tryz.prog.info? 79=some Tryz.t79:=by kernel_rfl
theorem zbfp:Tryz.prog.info? 105=some Tryz.t105:=by kernel_rfl
theorem zbll:Tryz.prog.info? 107=some Tryz.t107:=by kernel_rfl
theorem zbfE:Tryz.prog.info? 110=some Tryz.t110:=by kernel_rfl
theorem zbky:Tryz.prog.info? 120=some Tryz.t120:=by kernel_rfl
theorem zblb:Tryz.prog.info? 135=some Tryz.t135:=by kernel_rfl
theorem zbkf:Tryz.prog.info? 137=some Tryz.t137:=by kernel_rfl
theorem zbfe:Tryz.prog.info? 141=some Tryz.t141:=by kernel_rfl
theorem zbeY:Tryz.prog.info? 143=some Tryz.t143:=by kernel_rfl
theorem zblp:Tryz.prog.info? 145=some Tryz.t145:=by kernel_rfl
theorem zblI:Tryz.prog.info? 155=some Tryz.t155:=by kernel_rfl
theorem zblD:Tryz.prog.info? 169=some Tryz.t169:=by kernel_rfl
theorem zbkh:Tryz.prog.info? 207=some Tryz.t207:=by kernel_rfl
theorem zblu:Tryz.prog.info? 218=some Tryz.t218:=by kernel_rfl
theorem zbkV:Tryz.prog.info? 223=some Tryz.t223:=by kernel_rfl
theorem zbkC:Tryz.prog.info? 234=some Tryz.t234:=by kernel_rfl
theorem zblx:Tryz.prog.info? 282=some Tryz.t282:=by kernel_rfl
theorem zblf:∀ T i,zbbz.lookup T=some i->InfoOK Tryz.prog T i:=by
 intro T i h;have h:=zJO _ _ _ h;simp only [zbbz,q8,q16,or_false,qe] at h;rcases h with ⟨rfl,rfl⟩ | ⟨rfl,rfl⟩ | ⟨rfl,rfl⟩ | ⟨rfl,rfl⟩ | ⟨rfl,rfl⟩ | ⟨rfl,rfl⟩ | ⟨rfl,rfl⟩ | ⟨rfl,rfl⟩ | ⟨rfl,rfl⟩ | ⟨rfl,rfl⟩ | ⟨rfl,rfl⟩ | ⟨rfl,rfl⟩ | ⟨rfl,rfl⟩ | ⟨rfl,rfl⟩ | ⟨rfl,rfl⟩ | ⟨rfl,rfl⟩ | ⟨rfl,rfl⟩ | ⟨rfl,rfl⟩ | ⟨rfl,rfl⟩ | ⟨rfl,rfl⟩ | ⟨rfl,rfl⟩ | ⟨rfl,rfl⟩ | ⟨rfl,rfl⟩ | ⟨rfl,rfl⟩ | ⟨rfl,rfl⟩ | ⟨rfl,rfl⟩ | ⟨rfl,rfl⟩ | ⟨rfl,rfl⟩ | ⟨rfl,rfl⟩ | ⟨rfl,rfl⟩ | ⟨rfl,rfl⟩ | ⟨rfl,rfl⟩ | ⟨rfl,rfl⟩ | ⟨rfl,rfl⟩ | ⟨rfl,rfl⟩ | ⟨rfl,rfl⟩ | ⟨rfl,rfl⟩ | ⟨rfl,rfl⟩ | ⟨rfl,rfl⟩
 ·exact ⟨Tryz.t2,_,_,zbgZ,underlying2,rfl,rfl,rfl,rfl,rfl,⟨by simp [zbJ],λ_=>rfl⟩,rfl⟩
 ·exact ⟨Tryz.t3,_,_,zHU,underlying3,rfl,rfl,rfl,rfl,rfl,⟨by simp [zbJ],λ_=>rfl⟩,rfl⟩
 ·exact ⟨Tryz.t4,_,_,zbnt,underlying4,rfl,rfl,rfl,rfl,rfl,⟨by simp [zbJ],λ_=>rfl⟩,rfl⟩
 ·exact ⟨Tryz.t5,_,_,zbnx,underlying5,rfl,rfl,rfl,rfl,rfl,⟨by simp [zbJ],λ_=>rfl⟩,rfl⟩
 ·exact ⟨Tryz.t9,_,_,zbbt,underlying9,rfl,rfl,rfl,rfl,rfl,⟨by simp [zbJ],λ_=>rfl⟩,rfl⟩
 ·exact ⟨Tryz.t22,_,_,zbdw,underlying22,rfl,rfl,rfl,rfl,rfl,⟨by simp [zbJ],λ_=>rfl⟩,rfl⟩
 ·exact ⟨Tryz.t23,_,_,zbc7,underlying23,rfl,rfl,rfl,rfl,rfl,⟨by simp [zbJ],λ_=>rfl⟩,rfl⟩
 ·exact ⟨Tryz.t25,_,_,zbm5,underlying25,rfl,rfl,rfl,rfl,rfl,⟨by simp [zbJ],λh=>by cases h⟩,⟨_,rfl,rfl,λf hf=>by
   simp only [q8,q16,or_false] at hf;rcases hf with rfl | rfl
   ·exact qm.2 ⟨_,zbdw⟩
   ·exact qm.2 ⟨_,zbc7⟩⟩⟩
 ·exact ⟨Tryz.t28,_,_,zbmQ,underlying28,rfl,rfl,rfl,rfl,rfl,⟨by simp [zbJ],λ_=>rfl⟩,rfl⟩
 ·exact ⟨Tryz.t32,_,_,zbm4,underlying32,rfl,rfl,rfl,rfl,rfl,⟨by simp [zbJ],λ_=>rfl⟩,rfl⟩
 ·exact ⟨Tryz.t34,_,_,zbhF,underlying34,rfl,rfl,rfl,rfl,rfl,⟨by simp [zbJ],λ_=>rfl⟩,rfl⟩
 ·exact ⟨Tryz.t36,_,_,zbmi,underlying36,rfl,rfl,rfl,rfl,rfl,⟨by simp [zbJ],λh=>by cases h⟩,⟨_,rfl,rfl,λf hf=>by
   simp only [q8,q16,or_false] at hf;rcases hf with rfl | rfl | rfl | rfl
   ·exact qm.2 ⟨_,zHU⟩
   ·exact qm.2 ⟨_,zbbt⟩
   ·exact qm.2 ⟨_,zbdw⟩
   ·exact qm.2 ⟨_,zbc7⟩⟩⟩
 ·exact ⟨Tryz.t39,_,_,zbnd,underlying39,rfl,rfl,rfl,rfl,rfl,⟨by simp [zbJ],λ_=>rfl⟩,rfl⟩
 ·exact ⟨Tryz.t50,_,_,zbmR,underlying50,rfl,rfl,rfl,rfl,rfl,⟨by simp [zbJ],λ_=>rfl⟩,rfl⟩
 ·exact ⟨Tryz.t51,_,_,z5j,underlying51,rfl,rfl,rfl,rfl,rfl,⟨by simp [zbJ],λ_=>rfl⟩,rfl⟩
 ·exact ⟨Tryz.t54,_,_,zbmu,underlying54,rfl,rfl,rfl,rfl,rfl,⟨by simp [zbJ],λh=>by cases h⟩,⟨_,rfl,rfl,λf hf=>by
   simp only [q8,q16,or_false] at hf;rcases hf with rfl | rfl
   ·exact qm.2 ⟨_,zbhF⟩
   ·exact qm.2 ⟨_,z5j⟩⟩⟩
 ·exact ⟨Tryz.t60,_,_,zbmJ,underlying60,rfl,rfl,rfl,rfl,rfl,⟨by simp [zbJ],λ_=>rfl⟩,rfl⟩
 ·exact ⟨Tryz.t63,_,_,zbcp,underlying63,rfl,rfl,rfl,rfl,rfl,⟨by simp [zbJ],λh=>by cases h⟩,⟨_,rfl,rfl,λf hf=>by
   simp only [q8,q16,or_false] at hf;rcases hf with rfl | rfl
   ·exact qm.2 ⟨_,zHU⟩
   ·exact qm.2 ⟨_,zHU⟩⟩⟩
 ·exact ⟨Tryz.t65,_,_,zblP,underlying65,rfl,rfl,rfl,rfl,rfl,⟨by simp [zbJ],λh=>by cases h⟩,⟨_,rfl,rfl,λf hf=>by
   simp only [q8,q16,or_false] at hf;rcases hf with rfl | rfl
   ·exact qm.2 ⟨_,zbcp⟩
   ·exact qm.2 ⟨_,z5j⟩⟩⟩
 ·exact ⟨Tryz.t69,_,_,zbml,underlying69,rfl,rfl,rfl,rfl,rfl,⟨by simp [zbJ],λ_=>rfl⟩,rfl⟩
 ·exact ⟨Tryz.t73,_,_,zblQ,underlying73,rfl,rfl,rfl,rfl,rfl,⟨by simp [zbJ],λ_=>rfl⟩,rfl⟩
 ·exact ⟨Tryz.t75,_,_,zbh6,underlying75,rfl,rfl,rfl,rfl,rfl,⟨by simp [zbJ],λh=>by cases h⟩,⟨_,rfl,rfl,λf hf=>by
   simp only [q8,q16,or_false] at hf;rcases hf with rfl | rfl
   ·exact qm.2 ⟨_,zbbt⟩
   ·exact qm.2 ⟨_,zHU⟩⟩⟩
 ·exact ⟨Tryz.t79,_,_,z6O,underlying79,rfl,rfl,rfl,rfl,rfl,⟨by simp [zbJ],λh=>by cases h⟩,⟨_,rfl,rfl,λf hf=>by
   simp only [q8,q16,or_false] at hf;rcases hf with rfl | rfl | rfl
   ·exact qm.2 ⟨_,zHU⟩
   ·exact qm.2 ⟨_,zbgZ⟩
   ·exact qm.2 ⟨_,zbbt⟩⟩⟩
 ·exact ⟨Tryz.t105,_,_,zbfp,underlying105,rfl,rfl,rfl,rfl,rfl,⟨by simp [zbJ],λ_=>rfl⟩,rfl⟩
 ·exact ⟨Tryz.t107,_,_,zbll,underlying107,rfl,rfl,rfl,rfl,rfl,⟨by simp [zbJ],λh=>by cases h⟩,⟨_,rfl,rfl,λf hf=>by
   simp only [q8,q16,or_false] at hf;rcases hf with rfl | rfl
   ·exact qm.2 ⟨_,zbgZ⟩
   ·exact qm.2 ⟨_,zbfp⟩⟩⟩
 ·exact ⟨Tryz.t110,_,_,zbfE,underlying110,rfl,rfl,rfl,rfl,rfl,⟨by simp [zbJ],λ_=>rfl⟩,rfl⟩
 ·exact ⟨Tryz.t120,_,_,zbky,underlying120,rfl,rfl,rfl,rfl,rfl,⟨by simp [zbJ],λ_=>rfl⟩,rfl⟩
 ·exact ⟨Tryz.t135,_,_,zblb,underlying135,rfl,rfl,rfl,rfl,rfl,⟨by simp [zbJ],λ_=>rfl⟩,rfl⟩
 ·exact ⟨Tryz.t137,_,_,zbkf,underlying137,rfl,rfl,rfl,rfl,rfl,⟨by simp [zbJ],λh=>by cases h⟩,⟨_,rfl,rfl,λf hf=>by
   simp only [q8,q16,or_false] at hf;rcases hf with rfl | rfl
   ·exact qm.2 ⟨_,zbh6⟩
   ·exact qm.2 ⟨_,z6O⟩⟩⟩
 ·exact ⟨Tryz.t141,_,_,zbfe,underlying141,rfl,rfl,rfl,rfl,rfl,⟨by simp [zbJ],λ_=>rfl⟩,rfl⟩
 ·exact ⟨Tryz.t143,_,_,zbeY,underlying143,rfl,rfl,rfl,rfl,rfl,⟨by simp [zbJ],λh=>by cases h⟩,⟨_,rfl,rfl,λf hf=>by
   simp only [q8,q16,or_false] at hf;rcases hf with rfl | rfl | rfl | rfl | rfl | rfl | rfl
   ·exact qm.2 ⟨_,zHU⟩
   ·exact qm.2 ⟨_,zbcp⟩
   ·exact qm.2 ⟨_,zbfE⟩
   ·exact qm.2 ⟨_,zHU⟩
   ·exact qm.2 ⟨_,zbfe⟩
   ·exact qm.2 ⟨_,zHU⟩
   ·exact qm.2 ⟨_,z6O⟩⟩⟩
 ·exact ⟨Tryz.t145,_,_,zblp,underlying145,rfl,rfl,rfl,rfl,rfl,⟨by simp [zbJ],λh=>by cases h⟩,⟨_,rfl,rfl,λf hf=>by
   simp only [q8,q16,or_false] at hf;rcases hf with rfl | rfl
   ·exact qm.2 ⟨_,zbeY⟩
   ·exact qm.2 ⟨_,zHU⟩⟩⟩
 ·exact ⟨Tryz.t155,_,_,zblI,underlying155,rfl,rfl,rfl,rfl,rfl,⟨by simp [zbJ],λ_=>rfl⟩,rfl⟩
 ·exact ⟨Tryz.t169,_,_,zblD,underlying169,rfl,rfl,rfl,rfl,rfl,⟨by simp [zbJ],λh=>by cases h⟩,⟨_,rfl,rfl,λf hf=>by
   simp only [q8,q16,or_false] at hf;rcases hf with rfl | rfl
   ·exact qm.2 ⟨_,z6O⟩
   ·exact qm.2 ⟨_,z5j⟩⟩⟩
 ·exact ⟨Tryz.t207,_,_,zbkh,underlying207,rfl,rfl,rfl,rfl,rfl,⟨by simp [zbJ],λ_=>rfl⟩,rfl⟩
 ·exact ⟨Tryz.t218,_,_,zblu,underlying218,rfl,rfl,rfl,rfl,rfl,⟨by simp [zbJ],λ_=>rfl⟩,rfl⟩
 ·exact ⟨Tryz.t223,_,_,zbkV,underlying223,rfl,rfl,rfl,rfl,rfl,⟨by simp [zbJ],λ_=>rfl⟩,rfl⟩
 ·exact ⟨Tryz.t234,_,_,zbkC,underlying234,rfl,rfl,rfl,rfl,rfl,⟨by simp [zbJ],λ_=>rfl⟩,rfl⟩
 ·exact ⟨Tryz.t282,_,_,zblx,underlying282,rfl,rfl,rfl,rfl,rfl,⟨by simp [zbJ],λ_=>rfl⟩,rfl⟩
theorem zbjn:∀ T us vs b,(match zXK.lookup T with | some ts=>zbm ts us vs | none=>none)=some b->∀ w,zbgn Tryz.prog T us vs b w:=by
 intro T us vs b h w;split at h
 ·rename_i ts hl;have hl:=zJO _ _ _ hl;simp only [zXK,q8,q16,or_false,qe] at hl;rcases hl with ⟨rfl,rfl⟩ | ⟨rfl,rfl⟩ | ⟨rfl,rfl⟩
  ·refine zTA _ _ underlying75 (by kernel_rfl) (by kernel_rfl) rfl ?_ h w
   intro j f t hj ht;rcases j with _ | j
   ·simp at hj ht; subst hj ht; exact ⟨rfl,by decide,_,underlying9,rfl⟩
   rcases j with _ | j
   ·simp at hj ht; subst hj ht; exact ⟨rfl,by decide,_,underlying3,rfl⟩
   simp at hj
  ·refine zTA _ _ underlying79 (by kernel_rfl) (by kernel_rfl) rfl ?_ h w
   intro j f t hj ht;rcases j with _ | j
   ·simp at hj ht; subst hj ht; exact ⟨rfl,by decide,_,underlying3,rfl⟩
   rcases j with _ | j
   ·simp at hj ht; subst hj ht; exact ⟨rfl,by decide,_,underlying2,rfl⟩
   rcases j with _ | j
   ·simp at hj ht; subst hj ht; exact ⟨rfl,by decide,_,underlying9,rfl⟩
   simp at hj
  ·refine zTA _ _ underlying63 (by kernel_rfl) (by kernel_rfl) rfl ?_ h w
   intro j f t hj ht;rcases j with _ | j
   ·simp at hj ht; subst hj ht; exact ⟨rfl,by decide,_,underlying3,rfl⟩
   rcases j with _ | j
   ·simp at hj ht; subst hj ht; exact ⟨rfl,by decide,_,underlying3,rfl⟩
   simp at hj
 ·cases h
theorem zbi4:∀ T us vs,base.eqs T us us=some true->base.eqs T vs vs=some true->base.eqs T us vs=some (zxQ us vs)/\(zxQ us vs=true->us=vs)/\∀ u∈us,∀ n,Instr.sameBits n u u=true:=by
 intro T us vs h1 h2;simp only [base] at h1 h2 ⊢;cases hl:zXK.lookup T with
 | none=>rw [hl] at h1; cases h1
 | some ts=>rw [hl] at h1 h2; exact z6f ts us vs h1 h2
theorem zbjE:∀ T us b,base.eqs T us us=some b->b=true:=by
 intro T us b h;simp only [base] at h;cases hl:zXK.lookup T with
 | none=>rw [hl] at h; cases h
 | some ts=>rw [hl] at h; exact z2u ts us b h
abbrev SdP:=Sound Tryz.prog base
theorem ze3:CxOK Tryz.prog base:={ ti:=zblf,len:=(λT x=>by rw [show zt base T=_ from (zbci z5m zbbz rfl T).symm]; exact DT.len _ x),cell:=(λT x c h=>by have:=DT.cell _ _ c h; revert this; cases c <;>exact id),dec:=(λT cs x h F w us hr=>DT.ok _ base F w us cs x h hr),eqs:=zbjn,eqk:=zbi4,eqr:=zbjE,stable:=zbgd }
def zby:Cx ty:={ base with dr:=false }
theorem zU7:CxOK Tryz.prog zby:=CxOK.cg (cx:=base) (cx':=zby) ⟨rfl,rfl,rfl,rfl,rfl,rfl⟩ ze3
theorem zCq:Tryz.prog.follows .mixedOrders=true:=by kernel_rfl
theorem sT {cx':Cx ty} {α ρ:Type} (hspec:∀ g s,cx'.spec g=some s->SdP g s) {f:Nat} {fn:Func} (hent:∀ args w,(callFunc f args).run Tryz.prog w=.ok (.enter f args) w) (hf:Tryz.prog.funcs[f]? =some fn) (hl:ziV cx' (body fn)) (sg:Sig:=⟨[.pure],[]⟩) {A:AL base α} {res:ρ->ARes ty} {W:α->Wy0 ρ} {z:ρ}
  (hb:fn.body=some (body fn):=by kernel_rfl)
  (hrun:∀ x,zeQ cx' fn (body fn) sg (A.enc x)=(W x).ev noH (λr=>some (res r)) none:=by intro _; kernel_rfl)
  (hchk:∀ x,(Nat.ble (A.enc x).length fn.ntmps&&zNg (body fn) (A.enc x) sg.upd)=true:=by intro _; kernel_rfl) (hsame:base.Same cx':=by exact zbcA):
  SdP f (zh A λx=>(((W x).fin z).1,res ((W x).fin z).2)):=sW zCq ze3 hsame hspec hent hf hl sg hb hrun hchk
theorem sU {cx':Cx ty} {α ρ:Type} (hspec:∀ g s,cx'.spec g=some s->Sound Tryz.prog zby g s) {f:Nat} {fn:Func} (hent:∀ args w,(callFunc f args).run Tryz.prog w=.ok (.enter f args) w) (hf:Tryz.prog.funcs[f]? =some fn) (hl:ziV cx' (body fn)) (sg:Sig:=⟨[.pure],[]⟩) {A:AL zby α} {res:ρ->ARes ty} {W:α->Wy0 ρ} {z:ρ}
  (hb:fn.body=some (body fn):=by kernel_rfl)
  (hrun:∀ x,zeQ cx' fn (body fn) sg (A.enc x)=(W x).ev noH (λr=>some (res r)) none:=by intro _; kernel_rfl)
  (hchk:∀ x,(Nat.ble (A.enc x).length fn.ntmps&&zNg (body fn) (A.enc x) sg.upd)=true:=by intro _; kernel_rfl) (hsame:zby.Same cx':=by exact zbcA):
  Sound Tryz.prog zby f (zh A λx=>(((W x).fin z).1,res ((W x).fin z).2)):=sW zCq zU7 hsame hspec hent hf hl sg hb hrun hchk
def At.et (x:At):At:=At.mk x.Kind x.Row x.Ag x.Func x.Items x.Op x.Bd
end Go.Proofs.YtoknknbmfmddbaaGreatDoor
/- What is read of an argument, as typed data. -/
namespace Go.Proofs.YtoknknbmfmddbaaGreatDoor
open Go Go.Ab
open Go.Proofs.Tryz
def wf2 (x:Int):Prop:=(Lit.int .i64 x).wf=true
def wf3 (x:Int):Prop:=(Lit.int .i64 x).wf=true
def wf4 (x:Bool):Prop:=True
def wf5 (x:Int):Prop:=(Lit.int .u8 x).wf=true
def wf9 (x:ByteArray):Prop:=ByteArray.size x<=z6
def zbmw (x:Column):Prop:=wf9 x.Name/\wf3 x.Type_
def zbnb (x:yH):Prop:=(∀ y∈x,zbmw y)/\List.length x<=z6
def zRf (x:Value):Prop:=wf3 x.Kind/\wf2 x.Int/\wf9 x.Text
def zbjp (x:yG):Prop:=(∀ y∈x,zRf y)/\List.length x<=z6
def z4n (x:RowID):Prop:=wf3 x.Table/\wf3 x.Seq
mutual
def zgn:At->Prop
 | ⟨k,r,a,f,i,o,b⟩=>wf3 k/\z4n r/\(zxK a/\a.length<=z6)/\wf3 f/\(zta i/\i.length<=z6)/\wf3 o/\zRf b
def zw1:Fc->Prop
 | ⟨a,e⟩=>zgn a/\wf3 e
def zuc:yC->Prop
 | []=>True
 | x::r=>zw1 x/\zuc r
def zB1:Term->Prop
 | ⟨c,f⟩=>wf2 c/\(zuc f/\f.length<=z6)
def zgz:yB->Prop
 | []=>True
 | x::r=>zB1 x/\zgz r
def zxK:yA->Prop
 | []=>True
 | x::r=>(zgz x/\x.length<=z6)/\zxK r
def zId:Wd->Prop
 | ⟨v,a⟩=>zRf v/\(zgz a/\a.length<=z6)
def zta:yD->Prop
 | []=>True
 | x::r=>zId x/\zta r
end
theorem zMG:∀ l:yC,(∀ x∈l,zw1 x)->zuc l
 | [],_=>by unfold zuc; trivial
 | x::r,h=>by unfold zuc; exact ⟨h x (by simp),zMG r λy hy=>h y (by simp [hy])⟩
theorem zHK:∀ l:yB,(∀ x∈l,zB1 x)->zgz l
 | [],_=>by unfold zgz; trivial
 | x::r,h=>by unfold zgz; exact ⟨h x (by simp),zHK r λy hy=>h y (by simp [hy])⟩
theorem zYR:∀ l:yA,(∀ x∈l,zgz x/\x.length<=z6)->zxK l
 | [],_=>by unfold zxK; trivial
 | x::r,h=>by unfold zxK; exact ⟨h x (by simp),zYR r λy hy=>h y (by simp [hy])⟩
theorem zT3:∀ l:yD,(∀ x∈l,zId x)->zta l
 | [],_=>by unfold zta; trivial
 | x::r,h=>by unfold zta; exact ⟨h x (by simp),zT3 r λy hy=>h y (by simp [hy])⟩
def zbcQ (x:yB):Prop:=zgz x/\List.length x<=z6
def zbnq (x:yC):Prop:=zuc x/\List.length x<=z6
def zbnj (x:Term):Prop:=zB1 x
def zbnk (x:yA):Prop:=zxK x/\List.length x<=z6
def zbnL (x:yD):Prop:=zta x/\List.length x<=z6
def zbnO (x:At):Prop:=zgn x
def zbni (x:Fc):Prop:=zw1 x
def zbnu (x:Wd):Prop:=zId x
def zbjo (x:Row):Prop:=zbjp x.Values/\zbcQ x.Ann
def zbmM (x:yF):Prop:=(∀ y∈x,zbjo y)/\List.length x<=z6
def zbdq (x:Relation):Prop:=zbnb x.Columns/\zbmM x.Rows
def zbnW (x:List (yG)):Prop:=(∀ y∈x,zbjp y)/\List.length x<=z6
def zbmt (x:Bg):Prop:=z4n x.Row/\zbcQ x.To
def zbmS (x:yE):Prop:=(∀ y∈x,zbmt y)/\List.length x<=z6
def wf (T:Nat):ty T->Prop:=match T with
 | 2=>wf2
 | 3=>wf3
 | 4=>wf4
 | 5=>wf5
 | 9=>wf9
 | 22=>zbnb
 | 23=>zbmM
 | 25=>zbdq
 | 32=>zbnW
 | 34=>zbjp
 | 51=>zbcQ
 | 54=>zbjo
 | 60=>zbmS
 | 63=>z4n
 | 65=>zbmt
 | 75=>zbmw
 | 79=>zRf
 | 105=>zbnq
 | 107=>zbnj
 | 110=>zbnk
 | 141=>zbnL
 | 143=>zbnO
 | 145=>zbni
 | 169=>zbnu
 | _=>λ_=>True
theorem zbhm:zlL Tryz.prog base wf 2:=zbac underlying2 (λn=>n) (λ_=>rfl) (λ_ h=>h)
theorem zIr:zlL Tryz.prog base wf 3:=zbac underlying3 (λn=>n) (λ_=>rfl) (λ_ h=>h)
theorem zbhW:zlL Tryz.prog base wf 9:=zbhL underlying9 (λn=>n) (λ_=>rfl) (λ_ h=>h)
theorem zbk0:zlL Tryz.prog base wf 75:=by
 intro H en w sp held fuel cs y h hz;obtain ⟨xs,n,_,hy,hl,hlen,hf⟩:=DataW.trod_struct underlying75 h;have hs:=zg7 underlying75 hy hz;obtain ⟨x0,h0,w0⟩:=zha (off:=0) zbhW (by kernel_rfl) hlen hf hs 0 _ rfl rfl rfl
 obtain ⟨x1,h1,w1⟩:=zha (off:=1) zIr (by kernel_rfl) hlen hf hs 1 _ rfl rfl rfl
 have hl:cs.length=2:=hl.trans (by kernel_rfl)
 have:=zfG h0 (zuj h1 hl);exact ⟨(⟨x0,x1⟩:Column),this,⟨w0,w1⟩⟩
theorem zbkv:zlL Tryz.prog base wf 22:=zHS ze3 underlying22 (by kernel_rfl) (by decide) (λl=>l) (λ_=>rfl) (of_decide_eq_true (by kernel_rfl)) zbk0 (λ_ h h2=>⟨h,h2⟩)
theorem z78:zlL Tryz.prog base wf 79:=by
 intro H en w sp held fuel cs y h hz;obtain ⟨xs,n,_,hy,hl,hlen,hf⟩:=DataW.trod_struct underlying79 h;have hs:=zg7 underlying79 hy hz;obtain ⟨x0,h0,w0⟩:=zha (off:=0) zIr (by kernel_rfl) hlen hf hs 0 _ rfl rfl rfl
 obtain ⟨x1,h1,w1⟩:=zha (off:=1) zbhm (by kernel_rfl) hlen hf hs 1 _ rfl rfl rfl
 obtain ⟨x2,h2,w2⟩:=zha (off:=2) zbhW (by kernel_rfl) hlen hf hs 2 _ rfl rfl rfl
 have hl:cs.length=3:=hl.trans (by kernel_rfl)
 have:=zfG h0 (zfG h1 (zuj h2 hl));exact ⟨(⟨x0,x1,x2⟩:Value),this,⟨w0,w1,w2⟩⟩
theorem zbkj:zlL Tryz.prog base wf 34:=zHS ze3 underlying34 (by kernel_rfl) (by decide) (λl=>l) (λ_=>rfl) (of_decide_eq_true (by kernel_rfl)) z78 (λ_ h h2=>⟨h,h2⟩)
theorem zbfG:zlL Tryz.prog base wf 63:=by
 intro H en w sp held fuel cs y h hz;obtain ⟨xs,n,_,hy,hl,hlen,hf⟩:=DataW.trod_struct underlying63 h;have hs:=zg7 underlying63 hy hz;obtain ⟨x0,h0,w0⟩:=zha (off:=0) zIr (by kernel_rfl) hlen hf hs 0 _ rfl rfl rfl
 obtain ⟨x1,h1,w1⟩:=zha (off:=1) zIr (by kernel_rfl) hlen hf hs 1 _ rfl rfl rfl
 have hl:cs.length=2:=hl.trans (by kernel_rfl)
 have:=zfG h0 (zuj h1 hl);exact ⟨(⟨x0,x1⟩:RowID),this,⟨w0,w1⟩⟩
theorem zbdu:∀ m,zt3 Tryz.prog base wf m 51/\zt3 Tryz.prog base wf m 105/\zt3 Tryz.prog base wf m 107/\zt3 Tryz.prog base wf m 110/\zt3 Tryz.prog base wf m 141/\zt3 Tryz.prog base wf m 143/\zt3 Tryz.prog base wf m 145/\zt3 Tryz.prog base wf m 169
 | 0=>⟨zqH,zqH,zqH,zqH,zqH,zqH,zqH,zqH⟩
 | m+1=>by
  obtain ⟨h51,h105,h107,h110,h141,h143,h145,h169⟩:=zbdu m;refine ⟨?_, ?_, ?_, ?_, ?_, ?_, ?_, ?_⟩
  ·exact zzz ze3 underlying51 (by kernel_rfl) (by decide) (λl=>l) (λ_=>rfl) (of_decide_eq_true (by kernel_rfl)) h107 (λl h h2=>⟨zHK l h,h2⟩)
  ·exact zzz ze3 underlying105 (by kernel_rfl) (by decide) (λl=>l) (λ_=>rfl) (of_decide_eq_true (by kernel_rfl)) h145 (λl h h2=>⟨zMG l h,h2⟩)
  ·intro H en w sp held fuel cs y hfu h hz;obtain ⟨xs,n,hn,hy,hl,hlen,hf⟩:=DataW.trod_struct underlying107 h;have hs:=zg7 underlying107 hy hz;have hn:n<=m:=by omega
   obtain ⟨x0,hx0,w0⟩:=zfQ (off:=0) (zbhm.at m) (by kernel_rfl) hn hlen hf hs 0 _ rfl rfl rfl
   obtain ⟨x1,hx1,w1⟩:=zfQ (off:=1) h105 (by kernel_rfl) hn hlen hf hs 1 _ rfl rfl rfl
   have hl:cs.length=2:=hl.trans (by kernel_rfl)
   have:=zfG hx0 (zuj hx1 hl);exact ⟨(⟨x0,x1⟩:Term),this,by show zB1 (⟨x0,x1⟩:Term); unfold zB1; exact ⟨w0,w1⟩⟩
  ·exact zzz ze3 underlying110 (by kernel_rfl) (by decide) (λl=>l) (λ_=>rfl) (of_decide_eq_true (by kernel_rfl)) h51 (λl h h2=>⟨zYR l h,h2⟩)
  ·exact zzz ze3 underlying141 (by kernel_rfl) (by decide) (λl=>l) (λ_=>rfl) (of_decide_eq_true (by kernel_rfl)) h169 (λl h h2=>⟨zT3 l h,h2⟩)
  ·intro H en w sp held fuel cs y hfu h hz;obtain ⟨xs,n,hn,hy,hl,hlen,hf⟩:=DataW.trod_struct underlying143 h;have hs:=zg7 underlying143 hy hz;have hn:n<=m:=by omega
   obtain ⟨x0,hx0,w0⟩:=zfQ (off:=0) (zIr.at m) (by kernel_rfl) hn hlen hf hs 0 _ rfl rfl rfl
   obtain ⟨x1,hx1,w1⟩:=zfQ (off:=1) (zbfG.at m) (by kernel_rfl) hn hlen hf hs 1 _ rfl rfl rfl
   obtain ⟨x2,hx2,w2⟩:=zfQ (off:=3) h110 (by kernel_rfl) hn hlen hf hs 2 _ rfl rfl rfl
   obtain ⟨x3,hx3,w3⟩:=zfQ (off:=4) (zIr.at m) (by kernel_rfl) hn hlen hf hs 3 _ rfl rfl rfl
   obtain ⟨x4,hx4,w4⟩:=zfQ (off:=5) h141 (by kernel_rfl) hn hlen hf hs 4 _ rfl rfl rfl
   obtain ⟨x5,hx5,w5⟩:=zfQ (off:=6) (zIr.at m) (by kernel_rfl) hn hlen hf hs 5 _ rfl rfl rfl
   obtain ⟨x6,hx6,w6⟩:=zfQ (off:=7) (z78.at m) (by kernel_rfl) hn hlen hf hs 6 _ rfl rfl rfl
   have hl:cs.length=10:=hl.trans (by kernel_rfl)
   have:=zfG hx0 (zfG hx1 (zfG hx2 (zfG hx3 (zfG hx4 (zfG hx5 (zuj hx6 hl))))));exact ⟨(⟨x0,x1,x2,x3,x4,x5,x6⟩:At),this,by show zgn (⟨x0,x1,x2,x3,x4,x5,x6⟩:At); unfold zgn; exact ⟨w0,w1,w2,w3,w4,w5,w6⟩⟩
  ·intro H en w sp held fuel cs y hfu h hz;obtain ⟨xs,n,hn,hy,hl,hlen,hf⟩:=DataW.trod_struct underlying145 h;have hs:=zg7 underlying145 hy hz;have hn:n<=m:=by omega
   obtain ⟨x0,hx0,w0⟩:=zfQ (off:=0) h143 (by kernel_rfl) hn hlen hf hs 0 _ rfl rfl rfl
   obtain ⟨x1,hx1,w1⟩:=zfQ (off:=10) (zIr.at m) (by kernel_rfl) hn hlen hf hs 1 _ rfl rfl rfl
   have hl:cs.length=11:=hl.trans (by kernel_rfl)
   have:=zfG hx0 (zuj hx1 hl);exact ⟨(⟨x0,x1⟩:Fc),this,by show zw1 (⟨x0,x1⟩:Fc); unfold zw1; exact ⟨w0,w1⟩⟩
  ·intro H en w sp held fuel cs y hfu h hz;obtain ⟨xs,n,hn,hy,hl,hlen,hf⟩:=DataW.trod_struct underlying169 h;have hs:=zg7 underlying169 hy hz;have hn:n<=m:=by omega
   obtain ⟨x0,hx0,w0⟩:=zfQ (off:=0) (z78.at m) (by kernel_rfl) hn hlen hf hs 0 _ rfl rfl rfl
   obtain ⟨x1,hx1,w1⟩:=zfQ (off:=3) h51 (by kernel_rfl) hn hlen hf hs 1 _ rfl rfl rfl
   have hl:cs.length=4:=hl.trans (by kernel_rfl)
   have:=zfG hx0 (zuj hx1 hl);exact ⟨(⟨x0,x1⟩:Wd),this,by show zId (⟨x0,x1⟩:Wd); unfold zId; exact ⟨w0,w1⟩⟩
theorem zbfA:zlL Tryz.prog base wf 51:=zbhu λm=>(zbdu m).1
theorem zbkc:zlL Tryz.prog base wf 54:=by
 intro H en w sp held fuel cs y h hz;obtain ⟨xs,n,_,hy,hl,hlen,hf⟩:=DataW.trod_struct underlying54 h;have hs:=zg7 underlying54 hy hz;obtain ⟨x0,h0,w0⟩:=zha (off:=0) zbkj (by kernel_rfl) hlen hf hs 0 _ rfl rfl rfl
 obtain ⟨x1,h1,w1⟩:=zha (off:=1) zbfA (by kernel_rfl) hlen hf hs 1 _ rfl rfl rfl
 have hl:cs.length=2:=hl.trans (by kernel_rfl)
 have:=zfG h0 (zuj h1 hl);exact ⟨(⟨x0,x1⟩:Row),this,⟨w0,w1⟩⟩
theorem zbkd:zlL Tryz.prog base wf 23:=zHS ze3 underlying23 (by kernel_rfl) (by decide) (λl=>l) (λ_=>rfl) (of_decide_eq_true (by kernel_rfl)) zbkc (λ_ h h2=>⟨h,h2⟩)
theorem zbfs:zlL Tryz.prog base wf 25:=by
 intro H en w sp held fuel cs y h hz;obtain ⟨xs,n,_,hy,hl,hlen,hf⟩:=DataW.trod_struct underlying25 h;have hs:=zg7 underlying25 hy hz;obtain ⟨x0,h0,w0⟩:=zha (off:=0) zbkv (by kernel_rfl) hlen hf hs 0 _ rfl rfl rfl
 obtain ⟨x1,h1,w1⟩:=zha (off:=1) zbkd (by kernel_rfl) hlen hf hs 1 _ rfl rfl rfl
 have hl:cs.length=2:=hl.trans (by kernel_rfl)
 have:=zfG h0 (zuj h1 hl);exact ⟨(⟨x0,x1⟩:Relation),this,⟨w0,w1⟩⟩
theorem zblN:zlL Tryz.prog base wf 65:=by
 intro H en w sp held fuel cs y h hz;obtain ⟨xs,n,_,hy,hl,hlen,hf⟩:=DataW.trod_struct underlying65 h;have hs:=zg7 underlying65 hy hz;obtain ⟨x0,h0,w0⟩:=zha (off:=0) zbfG (by kernel_rfl) hlen hf hs 0 _ rfl rfl rfl
 obtain ⟨x1,h1,w1⟩:=zha (off:=2) zbfA (by kernel_rfl) hlen hf hs 1 _ rfl rfl rfl
 have hl:cs.length=3:=hl.trans (by kernel_rfl)
 have:=zfG h0 (zuj h1 hl);exact ⟨(⟨x0,x1⟩:Bg),this,⟨w0,w1⟩⟩
theorem zbkX:zlL Tryz.prog base wf 60:=zHS ze3 underlying60 (by kernel_rfl) (by decide) (λl=>l) (λ_=>rfl) (of_decide_eq_true (by kernel_rfl)) zblN (λ_ h h2=>⟨h,h2⟩)
def zbaQ:=zbp base 8 []
def z0b (x_:At):Wy0 (yB):=.k [TO.mk 1 [FO.mk (At.et x_) 1]]
def znh (x_:At):=(z0b x_).fin default
def z7K (r:yB):ARes ty:=⟨[.own 107 r],[]⟩
def zbcy:AL base (At×Unit):=zd (ze (zb7 143)) zp
def zov:=zh zbcy λx=>((znh x.1).1,z7K (znh x.1).2)
theorem zrn:SdP 118 zov:=
 sT (cx':=zbaQ) (zi trivial) call118 func118 (lOK aN) (sg:=⟨[.own 107],[]⟩)
def zbdz:=zbp base 14 [(118,zov)]
def z2L (id:RowID):Wy0 (yB):=.i (decide (id.Table<1)) (.k []) (.i (decide (id.Seq<1)) (.k []) (.k ((znh (At.mk 0 id [] 0 [] 0 (Value.mk 0 0 (ByteArray.mk #[])))).2)))
def zDw (id:RowID):=(z2L id).fin default
def zbeA:AL base (RowID×Unit):=zd (ze (zb7 63)) zp
def zGZ:=zh zbeA λx=>((zDw x.1).1,z7K (zDw x.1).2)
theorem zPq:SdP 64 zGZ:=
 sT (cx':=zbdz) (zi ⟨zrn,trivial⟩) call64 func64 (lOK aN) (sg:=⟨[.own 107],[]⟩)
def zZt:=zbp base 11 [(64,zGZ)]
def z1d (v:Value) (seq:Int):Wy0 (Row):=.bn (zDw (RowID.mk 1 seq)) λr0=>.k (⟨[v],r0⟩:Row)
def ztS (v:Value) (seq:Int):=(z1d v seq).fin default
def zXr (r:Row):ARes ty:=⟨[.pure (.agg (base.enc 54 r))],[]⟩
def z10:AL base (Value×Int×Unit):=zd (ze (zb7 79)) (zd (ze zeZ) zp)
def zF1:=zh z10 λx=>((ztS x.1 x.2.1).1,zXr (ztS x.1 x.2.1).2)
theorem zSE:SdP 86 zF1:=
 sT (cx':=zZt) (zi ⟨zPq,trivial⟩) call86 func86 (lOK aN)
def z6r:=zbp base 19 [(86,zF1)]
def z7z:Wy0 (Relation):=.k (⟨[Column.mk (ByteArray.mk #[(97:UInt8)]) 0],[(ztS (Value.mk 0 1 (ByteArray.mk #[])) 1).2,(ztS (Value.mk 0 0 (ByteArray.mk #[])) 2).2,(ztS (Value.mk 0 1 (ByteArray.mk #[])) 3).2]⟩:Relation)
def zZC:Bool×Relation:=(z7z).fin default
def z3q (r:Relation):ARes ty:=⟨[.pure (.agg (base.enc 25 r))],[]⟩
def z9e:AL base (Unit):=zp
def zKF:=zh z9e λx=>((zZC ).1,z3q (zZC ).2)
theorem zZk:SdP 42 zKF:=
 sT (cx':=z6r) (zi ⟨zSE,trivial⟩) call42 func42 (lOK aN)
def zQ3 (r:Int):ARes ty:=⟨[.pure (.lit (.int .i64 r))],[]⟩
def zTO:AL base (yB×yB×Unit):=zd (ze (vSl 107)) (zd (ze (vSl 107)) zp)
def zey (F:yB->yB->Bool×Int):Ab.Spec ty:=zh zTO λx=>((F x.1 x.2.1).1,zQ3 (F x.1 x.2.1).2)
def zOu:AL base (Term×Term×Unit):=zd (ze (zb7 107)) (zd (ze (zb7 107)) zp)
def zgq (F:Term->Term->Bool×Int):Ab.Spec ty:=zh zOu λx=>((F x.1 x.2.1).1,zQ3 (F x.1 x.2.1).2)
def zII:AL base (Fc×Fc×Unit):=zd (ze (zb7 145)) (zd (ze (zb7 145)) zp)
def zeS (F:Fc->Fc->Bool×Int):Ab.Spec ty:=zh zII λx=>((F x.1 x.2.1).1,zQ3 (F x.1 x.2.1).2)
def zK9:AL base (At×At×Unit):=zd (ze (zb7 143)) (zd (ze (zb7 143)) zp)
def zhE (F:At->At->Bool×Int):Ab.Spec ty:=zh zK9 λx=>((F x.1 x.2.1).1,zQ3 (F x.1 x.2.1).2)
def zLi:AL base (Wd×Wd×Unit):=zd (ze (zb7 169)) (zd (ze (zb7 169)) zp)
def zew (F:Wd->Wd->Bool×Int):Ab.Spec ty:=zh zLi λx=>((F x.1 x.2.1).1,zQ3 (F x.1 x.2.1).2)
def zjt:AL base (yB×yB×Unit×Unit):=zd (ze (vSl 107)) (zd (ze (vSl 107)) (zd (ze (vFn 225 zdg)) zp))
def zbU (F:yB->yB->Bool×Int):Ab.Spec ty:=zh zjt λx=>((F x.1 x.2.1).1,zQ3 (F x.1 x.2.1).2)
def zj3:AL base (yC×yC×Unit×Unit):=zd (ze (vSl 145)) (zd (ze (vSl 145)) (zd (ze (vFn 166 zdg)) zp))
def zbZ (F:yC->yC->Bool×Int):Ab.Spec ty:=zh zj3 λx=>((F x.1 x.2.1).1,zQ3 (F x.1 x.2.1).2)
def zge:AL base (yA×yA×Unit×Unit):=zd (ze (vSl 51)) (zd (ze (vSl 51)) (zd (ze (vFn 170 zdg)) zp))
def zbs (F:yA->yA->Bool×Int):Ab.Spec ty:=zh zge λx=>((F x.1 x.2.1).1,zQ3 (F x.1 x.2.1).2)
def zhQ:AL base (yD×yD×Unit×Unit):=zd (ze (vSl 169)) (zd (ze (vSl 169)) (zd (ze (vFn 172 zdg)) zp))
def zbL (F:yD->yD->Bool×Int):Ab.Spec ty:=zh zhQ λx=>((F x.1 x.2.1).1,zQ3 (F x.1 x.2.1).2)
def zOs (zM:yB->yB->Bool×Int) (zN:Term->Term->Bool×Int):=zbp base 8 [(224,(zbU zM)),(225,(zgq zN))]
def zBY (zM:yB->yB->Bool×Int) (zN:Term->Term->Bool×Int) (a:yB) (b:yB):Wy0 (Int):=.bn (zM a b) λr0=>.k r0
def zqq (zM:yB->yB->Bool×Int) (zN:Term->Term->Bool×Int) (a:yB) (b:yB):=(zBY zM zN a b).fin default
theorem zKi (zM:yB->yB->Bool×Int) (zN:Term->Term->Bool×Int) (ziW:SdP 224 (zbU zM)) (zqs:SdP 225 (zgq zN)):SdP 170 (zey (zqq zM zN)):=
 sT (cx':=(zOs zM zN)) (zi ⟨ziW,zqs,trivial⟩) call170 func170 (lOK aN)
def zXY:=zbp base 6 []
def zK1 (x_:Int):Wy0 (Bool):=.k (x_ != x_)
def zoI (x_:Int):=(zK1 x_).fin default
def zXz (r:Bool):ARes ty:=⟨[.pure (.lit (.bool r))],[]⟩
def z16:AL base (Int×Unit):=zd (ze zeZ) zp
def zEM:=zh z16 λx=>((zoI x.1).1,zXz (zoI x.1).2)
theorem zS2:SdP 232 zEM:=
 sT (cx':=zXY) (zi trivial) call232 func232 (lOK aN)
def zT2:=zbp base 20 [(232,zEM)]
def zGI (x_:Int) (y_:Int):Wy0 (Int):=.i ((zoI x_).2) (.i ((zoI y_).2) (.k 0) (.k (-1:Int))) (.i ((zoI y_).2) (.k 1) (.i (decide (x_<y_)) (.k (-1:Int)) (.i (decide (x_>y_)) (.k 1) (.k 0))))
def zjr (x_:Int) (y_:Int):=(zGI x_ y_).fin default
def zW3:AL base (Int×Int×Unit):=zd (ze zeZ) (zd (ze zeZ) zp)
def znl:=zh zW3 λx=>((zjr x.1 x.2.1).1,zQ3 (zjr x.1 x.2.1).2)
theorem zsX:SdP 195 znl:=
 sT (cx':=zT2) (zi ⟨zS2,trivial⟩) call195 func195 (lOK aN)
abbrev zFK:=Int×List Int×Int×Int×Unit
def zJG (zero:Int) (t6:List Int) (t7:Int) (t8:Int):Wy zFK Unit (Int⊕Int):=.i (decide (t8<t7)) (.ix t8 t6.length (.i (t6.getD t8.toNat default != zero) (.k (.inl (t6.getD t8.toNat default))) (.h (zero,t6,t7,(IntKind.i64.wrap (t8+1)),()) ()))) (.k (.inr zero))
def zVs (x:zFK) (y:Unit):=zJG x.1 x.2.1 x.2.2.1 x.2.2.2.1
def zKe (n:Nat) (zero:Int) (t6:List Int) (t7:Int) (t8:Int):=zy (zVs) (.inl default) n (zero,t6,t7,t8,()) ()
def z7x (r:Int⊕Int):LTree ty:=.ite (isL r) (.done .ret [.lit (.int .i64 (getL r))] []) (.done (.exit 0) [.lit (.int .i64 (getR r))] [])
def zba6:LL ty zFK:=za zj (za (lSl 3) (za zj (za zj zk)))
def zbaJ:BL ty (Unit):=zY
def z8C (x:zFK) (y:Unit):Nat:=(Int.toNat x.1+x.2.1.length+Int.toNat x.2.2.1+Int.toNat x.2.2.2.1+1)
def zVv:=zbV base 18 [] [] [(3,(kpL [3,6,7,8]))] [(3,1,(kpL [3])),(3,0,(kpL [2]))] [(3,spW zba6 zbaJ (zVs) (.inl default) z7x z8C)] []
theorem z7A:zC zVv (lp (body f167) 0):=zn (id:=3) (hl:=rfl)
def zZa (vals:List Int):Wy0 (Int):=.bn (zKe (Int.toNat 0+vals.length+(Int.ofNat vals.length).toNat +Int.toNat 0+1) 0 vals (Int.ofNat vals.length) 0) λr0=>.i (isL r0) (.k (getL r0)) (.k (getR r0))
def zqe (vals:List Int):=(zZa vals).fin default
def zbc2:AL base (List Int×Unit):=zd (ze (vSl 3)) zp
def zoB:=zh zbc2 λx=>((zqe x.1).1,zQ3 (zqe x.1).2)
theorem zrG:SdP 167 zoB:=
 sT (cx':=zVv) (zi trivial) call167 func167 (lOK (aC z7A aN))
def zKu (zc4:Term->Term->Bool×Int):=zbp base 15 [(104,(zgq zc4)),(167,zoB),(195,znl)]
def zy3 (zc4:Term->Term->Bool×Int) (x_:Term) (y_:Term):Wy0 (Int):=.bn (zc4 x_ y_) λr2=>.bn (zjr x_.Cf y_.Cf) λr1=>.bn (zqe [r2,r1]) λr0=>.k r0
def zmp (zc4:Term->Term->Bool×Int) (x_:Term) (y_:Term):=(zy3 zc4 x_ y_).fin default
theorem zGj (zc4:Term->Term->Bool×Int) (zIy:SdP 104 (zgq zc4)):SdP 225 (zgq (zmp zc4)):=
 sT (cx':=(zKu zc4)) (zi ⟨zIy,zrG,zsX,trivial⟩) call225 func225 (lOK aN)
def z3E:=zbp base 6 []
def zPp (x_:Int):Wy0 (Bool):=.k (x_ != x_)
def zs9 (x_:Int):=(zPp x_).fin default
def zJa:=zh z16 λx=>((zs9 x.1).1,zXz (zs9 x.1).2)
theorem zXv:SdP 223 zJa:=
 sT (cx':=z3E) (zi trivial) call223 func223 (lOK aN)
def zXW:=zbp base 20 [(223,zJa)]
def zKK (x_:Int) (y_:Int):Wy0 (Int):=.i ((zs9 x_).2) (.i ((zs9 y_).2) (.k 0) (.k (-1:Int))) (.i ((zs9 y_).2) (.k 1) (.i (decide (x_<y_)) (.k (-1:Int)) (.i (decide (x_>y_)) (.k 1) (.k 0))))
def zfg (x_:Int) (y_:Int):=(zKK x_ y_).fin default
def zpO:=zh zW3 λx=>((zfg x.1 x.2.1).1,zQ3 (zfg x.1 x.2.1).2)
theorem zvN:SdP 168 zpO:=
 sT (cx':=zXW) (zi ⟨zXv,trivial⟩) call168 func168 (lOK aN)
end Go.Proofs.YtoknknbmfmddbaaGreatDoor
/-
 DERIVED:THE SHELF's CONTRACTS AT THIS DUMP,IN PLAIN WORDS (tools/lay-plain.mjs out of 'TryzShelf.lean',which tools/lay-shelf.mjs wrote):THE SAME DECLARATIONS UNDER THE SAME NAMES:'import','namespace','open','def','theorem' AND NOTHING ELSE:no command of the shelf's:FOR A HAND-IN. Each laying:the table of numbers ('.._ren') and one theorem,a field a fact of the dump's own or the kernel's comparison; each contract:ONE APPLICATION.
-/
namespace Go.Proofs
open Go.Shelf
def Tryz.pdqTerm_ren:Go.Shelf.Ren:=⟨λ| 14=>231 | 20=>269 | 21=>270 | 22=>271 | 23=>272 | 24=>273 | 25=>274 | 26=>275 | 27=>276 | 46=>299 | 47=>289 | 48=>290 | 49=>300 | 50=>301 | 15=>205 | 57=>307 | 28=>254 | 29=>255 | n=>n,λ| 24=>107 | 22=>50 | 3=>3 | 25=>140 | 4=>4 | 0=>0 | 46=>247 | 45=>246 | 50=>208 | 66=>269 | 39=>218 | 55=>223 | 70=>273 | 76=>284 | 77=>285 | 53=>253 | 5=>5 | 9=>9 | n=>n,λ| n=>n⟩
theorem Tryz.pdqTerm:Go.Proofs.SlLaysF0.n14 Tryz.prog Tryz.pdqTerm_ren:={
 mixed:=by kernel_rfl
 f14:=⟨f231.name,by decide,func231.trans (congrArg some (by kernel_rfl))⟩
 f15:=func205.trans (congrArg some (by kernel_rfl))
 f20:=⟨f269.name,by decide,func269.trans (congrArg some (by kernel_rfl))⟩
 f21:=⟨f270.name,by decide,func270.trans (congrArg some (by kernel_rfl))⟩
 f22:=⟨f271.name,by decide,func271.trans (congrArg some (by kernel_rfl))⟩
 f23:=⟨f272.name,by decide,func272.trans (congrArg some (by kernel_rfl))⟩
 f24:=⟨f273.name,by decide,func273.trans (congrArg some (by kernel_rfl))⟩
 f25:=⟨f274.name,by decide,func274.trans (congrArg some (by kernel_rfl))⟩
 f26:=⟨f275.name,by decide,func275.trans (congrArg some (by kernel_rfl))⟩
 f27:=⟨f276.name,by decide,func276.trans (congrArg some (by kernel_rfl))⟩
 f28:=func254.trans (congrArg some (by kernel_rfl))
 f29:=func255.trans (congrArg some (by kernel_rfl))
 f46:=⟨f299.name,by decide,func299.trans (congrArg some (by kernel_rfl))⟩
 f47:=func289.trans (congrArg some (by kernel_rfl))
 f48:=func290.trans (congrArg some (by kernel_rfl))
 f49:=⟨f300.name,by decide,func300.trans (congrArg some (by kernel_rfl))⟩
 f50:=⟨f301.name,by decide,func301.trans (congrArg some (by kernel_rfl))⟩
 f57:=⟨f307.name,by decide,func307.trans (congrArg some (by kernel_rfl))⟩
 t0:=underlying0
 a0:=Tryz.isAgg0
 z0:=Tryz.sizeOf0
 v0:=Tryz.zeroValue0
 t3:=underlying3
 a3:=Tryz.isAgg3
 z3:=Tryz.sizeOf3
 v3:=Tryz.zeroValue3
 t4:=underlying4
 a4:=Tryz.isAgg4
 z4:=Tryz.sizeOf4
 v4:=Tryz.zeroValue4
 t5:=underlying5
 a5:=Tryz.isAgg5
 z5:=Tryz.sizeOf5
 v5:=Tryz.zeroValue5
 t9:=underlying9
 a9:=Tryz.isAgg9
 z9:=Tryz.sizeOf9
 v9:=Tryz.zeroValue9
 t22:=underlying50
 a22:=Tryz.isAgg50
 z22:=Tryz.sizeOf50
 v22:=Tryz.zeroValue50
 t25:=underlying140
 a25:=Tryz.isAgg140
 z25:=Tryz.sizeOf140
 v25:=Tryz.zeroValue140
 t39:=underlying218
 a39:=Tryz.isAgg218
 z39:=Tryz.sizeOf218
 v39:=Tryz.zeroValue218
 t45:=underlying246
 a45:=Tryz.isAgg246
 z45:=Tryz.sizeOf246
 v45:=Tryz.zeroValue246
 t46:=underlying247
 a46:=Tryz.isAgg247
 z46:=Tryz.sizeOf247
 v46:=Tryz.zeroValue247
 t50:=underlying208
 a50:=Tryz.isAgg208
 z50:=Tryz.sizeOf208
 v50:=Tryz.zeroValue208
 t53:=underlying253
 a53:=Tryz.isAgg253
 z53:=Tryz.sizeOf253
 v53:=Tryz.zeroValue253
 t55:=underlying223
 a55:=Tryz.isAgg223
 z55:=Tryz.sizeOf223
 v55:=Tryz.zeroValue223
 t66:=underlying269
 a66:=Tryz.isAgg269
 z66:=Tryz.sizeOf269
 v66:=Tryz.zeroValue269
 t70:=underlying273
 a70:=Tryz.isAgg273
 z70:=Tryz.sizeOf273
 v70:=Tryz.zeroValue273
 t76:=underlying284
 a76:=Tryz.isAgg284
 z76:=Tryz.sizeOf284
 v76:=Tryz.zeroValue284
 t77:=underlying285
 a77:=Tryz.isAgg285
 z77:=Tryz.sizeOf285
 v77:=Tryz.zeroValue285 }
def Tryz.insW_ren:Go.Shelf.Ren:=⟨λ| 20=>309 | n=>n,λ| 24=>169 | 22=>141 | 3=>3 | 25=>198 | 4=>4 | 0=>0 | n=>n,λ| n=>n⟩
theorem Tryz.insW:Go.Proofs.SlLaysF0.n20 Tryz.prog Tryz.insW_ren:={
 mixed:=by kernel_rfl
 f20:=⟨f309.name,by decide,func309.trans (congrArg some (by kernel_rfl))⟩
 t0:=underlying0
 a0:=Tryz.isAgg0
 z0:=Tryz.sizeOf0
 v0:=Tryz.zeroValue0
 t3:=underlying3
 a3:=Tryz.isAgg3
 z3:=Tryz.sizeOf3
 v3:=Tryz.zeroValue3
 t4:=underlying4
 a4:=Tryz.isAgg4
 z4:=Tryz.sizeOf4
 v4:=Tryz.zeroValue4
 t22:=underlying141
 a22:=Tryz.isAgg141
 z22:=Tryz.sizeOf141
 v22:=Tryz.zeroValue141
 t25:=underlying198
 a25:=Tryz.isAgg198
 z25:=Tryz.sizeOf198
 v25:=Tryz.zeroValue198 }
def Tryz.lays106_ren:Go.Shelf.Ren:=⟨λ| 106=>196 | 213=>233 | 265=>277 | n=>n,λ| 9=>9 | 3=>3 | n=>n,λ| n=>n⟩
theorem Tryz.lays106:Go.Proofs.Lays.n106 Tryz.prog Tryz.lays106_ren:={
 mixed:=by kernel_rfl
 f106:=func196.trans (congrArg some (by kernel_rfl))
 f213:=func233.trans (congrArg some (by kernel_rfl))
 f265:=func277.trans (congrArg some (by kernel_rfl))
 t3:=underlying3
 a3:=Tryz.isAgg3
 z3:=Tryz.sizeOf3
 v3:=Tryz.zeroValue3
 t9:=underlying9
 a9:=Tryz.isAgg9
 z9:=Tryz.sizeOf9
 v9:=Tryz.zeroValue9 }
def Tryz.lays125_ren:Go.Shelf.Ren:=⟨λ| 125=>205 | 128=>254 | 129=>255 | n=>n,λ| 46=>218 | 3=>3 | 51=>253 | 53=>223 | 4=>4 | 5=>5 | 9=>9 | n=>n,λ| n=>n⟩
theorem Tryz.lays125:Go.Proofs.Lays.n125 Tryz.prog Tryz.lays125_ren:={
 mixed:=by kernel_rfl
 f125:=func205.trans (congrArg some (by kernel_rfl))
 f128:=func254.trans (congrArg some (by kernel_rfl))
 f129:=func255.trans (congrArg some (by kernel_rfl))
 t3:=underlying3
 a3:=Tryz.isAgg3
 z3:=Tryz.sizeOf3
 v3:=Tryz.zeroValue3
 t4:=underlying4
 a4:=Tryz.isAgg4
 z4:=Tryz.sizeOf4
 v4:=Tryz.zeroValue4
 t5:=underlying5
 a5:=Tryz.isAgg5
 z5:=Tryz.sizeOf5
 v5:=Tryz.zeroValue5
 t9:=underlying9
 a9:=Tryz.isAgg9
 z9:=Tryz.sizeOf9
 v9:=Tryz.zeroValue9
 t46:=underlying218
 a46:=Tryz.isAgg218
 z46:=Tryz.sizeOf218
 v46:=Tryz.zeroValue218
 t51:=underlying253
 a51:=Tryz.isAgg253
 z51:=Tryz.sizeOf253
 v51:=Tryz.zeroValue253
 t53:=underlying223
 a53:=Tryz.isAgg223
 z53:=Tryz.sizeOf223
 v53:=Tryz.zeroValue223 }
def Tryz.laysM173_ren:Go.Shelf.Ren:=⟨λ| 173=>92 | 246=>152 | 283=>208 | 284=>209 | 285=>210 | 286=>211 | 129=>255 | 317=>256 | 318=>257 | 319=>258 | 320=>259 | 337=>293 | 338=>294 | n=>n,λ| 2=>2 | 3=>3 | 9=>9 | 4=>4 | 171=>222 | 0=>0 | 53=>223 | 37=>120 | 5=>5 | 173=>226 | 212=>255 | 51=>253 | 20=>20 | 213=>256 | 46=>218 | 232=>287 | 233=>288 | n=>n,λ| 17=>1 | 18=>4 | 19=>5 | n=>n⟩
theorem Tryz.laysM173:Go.Proofs.LaysM.n173 Tryz.prog Tryz.laysM173_ren:={
 mixed:=by kernel_rfl
 f129:=func255.trans (congrArg some (by kernel_rfl))
 f173:=func92.trans (congrArg some (by kernel_rfl))
 f246:=func152.trans (congrArg some (by kernel_rfl))
 f283:=func208.trans (congrArg some (by kernel_rfl))
 f284:=func209.trans (congrArg some (by kernel_rfl))
 f285:=func210.trans (congrArg some (by kernel_rfl))
 f286:=func211.trans (congrArg some (by kernel_rfl))
 f317:=func256.trans (congrArg some (by kernel_rfl))
 f318:=func257.trans (congrArg some (by kernel_rfl))
 f319:=func258.trans (congrArg some (by kernel_rfl))
 f320:=func259.trans (congrArg some (by kernel_rfl))
 f337:=func293.trans (congrArg some (by kernel_rfl))
 f338:=func294.trans (congrArg some (by kernel_rfl))
 t0:=underlying0
 a0:=Tryz.isAgg0
 z0:=Tryz.sizeOf0
 v0:=Tryz.zeroValue0
 t2:=underlying2
 a2:=Tryz.isAgg2
 z2:=Tryz.sizeOf2
 v2:=Tryz.zeroValue2
 t3:=underlying3
 a3:=Tryz.isAgg3
 z3:=Tryz.sizeOf3
 v3:=Tryz.zeroValue3
 t4:=underlying4
 a4:=Tryz.isAgg4
 z4:=Tryz.sizeOf4
 v4:=Tryz.zeroValue4
 t5:=underlying5
 a5:=Tryz.isAgg5
 z5:=Tryz.sizeOf5
 v5:=Tryz.zeroValue5
 t9:=underlying9
 a9:=Tryz.isAgg9
 z9:=Tryz.sizeOf9
 v9:=Tryz.zeroValue9
 t20:=underlying20
 a20:=Tryz.isAgg20
 z20:=Tryz.sizeOf20
 v20:=Tryz.zeroValue20
 t37:=underlying120
 a37:=Tryz.isAgg120
 z37:=Tryz.sizeOf120
 v37:=Tryz.zeroValue120
 t46:=underlying218
 a46:=Tryz.isAgg218
 z46:=Tryz.sizeOf218
 v46:=Tryz.zeroValue218
 t51:=underlying253
 a51:=Tryz.isAgg253
 z51:=Tryz.sizeOf253
 v51:=Tryz.zeroValue253
 t53:=underlying223
 a53:=Tryz.isAgg223
 z53:=Tryz.sizeOf223
 v53:=Tryz.zeroValue223
 t171:=underlying222
 a171:=Tryz.isAgg222
 z171:=Tryz.sizeOf222
 v171:=Tryz.zeroValue222
 t173:=underlying226
 a173:=Tryz.isAgg226
 z173:=Tryz.sizeOf226
 v173:=Tryz.zeroValue226
 t212:=underlying255
 a212:=Tryz.isAgg255
 z212:=Tryz.sizeOf255
 v212:=Tryz.zeroValue255
 t213:=underlying256
 a213:=Tryz.isAgg256
 z213:=Tryz.sizeOf256
 t232:=underlying287
 a232:=Tryz.isAgg287
 z232:=Tryz.sizeOf287
 v232:=Tryz.zeroValue287
 t233:=underlying288
 a233:=Tryz.isAgg288
 z233:=Tryz.sizeOf288
 v233:=Tryz.zeroValue288
 g17:=by kernel_rfl
 g18:=by kernel_rfl
 g19:=by kernel_rfl
 i0:=by kernel_rfl
 i2:=by kernel_rfl
 i3:=by kernel_rfl
 i4:=by kernel_rfl
 i5:=by kernel_rfl
 i9:=by kernel_rfl
 i20:=by kernel_rfl
 i37:=by kernel_rfl
 i46:=by kernel_rfl
 i51:=by kernel_rfl
 i53:=by kernel_rfl
 i171:=by kernel_rfl
 i173:=by kernel_rfl
 i212:=by kernel_rfl
 i232:=by kernel_rfl
 i233:=by kernel_rfl
 m17:=by kernel_rfl
 m18:=by kernel_rfl
 m19:=by kernel_rfl }
def Tryz.laysM171_ren:Go.Shelf.Ren:=⟨λ| 171=>216 | 243=>267 | 246=>152 | 283=>208 | 284=>209 | 285=>210 | 286=>211 | 129=>255 | 317=>256 | 318=>257 | 319=>258 | 320=>259 | 337=>293 | 338=>294 | n=>n,λ| 3=>3 | 9=>9 | 2=>2 | 4=>4 | 171=>222 | 0=>0 | 53=>223 | 37=>120 | 5=>5 | 173=>226 | 212=>255 | 51=>253 | 20=>20 | 213=>256 | 46=>218 | 232=>287 | 233=>288 | n=>n,λ| 17=>1 | 18=>4 | 19=>5 | n=>n⟩
theorem Tryz.laysM171:Go.Proofs.LaysM.n171 Tryz.prog Tryz.laysM171_ren:={
 mixed:=by kernel_rfl
 f129:=func255.trans (congrArg some (by kernel_rfl))
 f171:=func216.trans (congrArg some (by kernel_rfl))
 f243:=func267.trans (congrArg some (by kernel_rfl))
 f246:=func152.trans (congrArg some (by kernel_rfl))
 f283:=func208.trans (congrArg some (by kernel_rfl))
 f284:=func209.trans (congrArg some (by kernel_rfl))
 f285:=func210.trans (congrArg some (by kernel_rfl))
 f286:=func211.trans (congrArg some (by kernel_rfl))
 f317:=func256.trans (congrArg some (by kernel_rfl))
 f318:=func257.trans (congrArg some (by kernel_rfl))
 f319:=func258.trans (congrArg some (by kernel_rfl))
 f320:=func259.trans (congrArg some (by kernel_rfl))
 f337:=func293.trans (congrArg some (by kernel_rfl))
 f338:=func294.trans (congrArg some (by kernel_rfl))
 t0:=underlying0
 a0:=Tryz.isAgg0
 z0:=Tryz.sizeOf0
 v0:=Tryz.zeroValue0
 t2:=underlying2
 a2:=Tryz.isAgg2
 z2:=Tryz.sizeOf2
 v2:=Tryz.zeroValue2
 t3:=underlying3
 a3:=Tryz.isAgg3
 z3:=Tryz.sizeOf3
 v3:=Tryz.zeroValue3
 t4:=underlying4
 a4:=Tryz.isAgg4
 z4:=Tryz.sizeOf4
 v4:=Tryz.zeroValue4
 t5:=underlying5
 a5:=Tryz.isAgg5
 z5:=Tryz.sizeOf5
 v5:=Tryz.zeroValue5
 t9:=underlying9
 a9:=Tryz.isAgg9
 z9:=Tryz.sizeOf9
 v9:=Tryz.zeroValue9
 t20:=underlying20
 a20:=Tryz.isAgg20
 z20:=Tryz.sizeOf20
 v20:=Tryz.zeroValue20
 t37:=underlying120
 a37:=Tryz.isAgg120
 z37:=Tryz.sizeOf120
 v37:=Tryz.zeroValue120
 t46:=underlying218
 a46:=Tryz.isAgg218
 z46:=Tryz.sizeOf218
 v46:=Tryz.zeroValue218
 t51:=underlying253
 a51:=Tryz.isAgg253
 z51:=Tryz.sizeOf253
 v51:=Tryz.zeroValue253
 t53:=underlying223
 a53:=Tryz.isAgg223
 z53:=Tryz.sizeOf223
 v53:=Tryz.zeroValue223
 t171:=underlying222
 a171:=Tryz.isAgg222
 z171:=Tryz.sizeOf222
 v171:=Tryz.zeroValue222
 t173:=underlying226
 a173:=Tryz.isAgg226
 z173:=Tryz.sizeOf226
 v173:=Tryz.zeroValue226
 t212:=underlying255
 a212:=Tryz.isAgg255
 z212:=Tryz.sizeOf255
 v212:=Tryz.zeroValue255
 t213:=underlying256
 a213:=Tryz.isAgg256
 z213:=Tryz.sizeOf256
 t232:=underlying287
 a232:=Tryz.isAgg287
 z232:=Tryz.sizeOf287
 v232:=Tryz.zeroValue287
 t233:=underlying288
 a233:=Tryz.isAgg288
 z233:=Tryz.sizeOf288
 v233:=Tryz.zeroValue288
 g17:=by kernel_rfl
 g18:=by kernel_rfl
 g19:=by kernel_rfl
 i0:=by kernel_rfl
 i2:=by kernel_rfl
 i3:=by kernel_rfl
 i4:=by kernel_rfl
 i5:=by kernel_rfl
 i9:=by kernel_rfl
 i20:=by kernel_rfl
 i37:=by kernel_rfl
 i46:=by kernel_rfl
 i51:=by kernel_rfl
 i53:=by kernel_rfl
 i171:=by kernel_rfl
 i173:=by kernel_rfl
 i212:=by kernel_rfl
 i232:=by kernel_rfl
 i233:=by kernel_rfl
 m17:=by kernel_rfl
 m18:=by kernel_rfl
 m19:=by kernel_rfl }
def Tryz.lays155_ren:Go.Shelf.Ren:=⟨λ| 155=>93 | 154=>153 | 138=>212 | 165=>88 | 143=>213 | 166=>89 | 197=>214 | 169=>90 | 195=>260 | 218=>261 | 240=>150 | 241=>151 | 219=>262 | 260=>263 | 276=>206 | 277=>207 | 217=>295 | 225=>296 | 224=>297 | 267=>298 | 266=>305 | 314=>306 | n=>n,λ| 9=>9 | 3=>3 | 4=>4 | 72=>122 | 0=>0 | 76=>126 | 105=>228 | 21=>21 | 5=>5 | 70=>119 | 20=>20 | 37=>120 | 75=>125 | 127=>180 | 164=>219 | 46=>218 | 119=>275 | 139=>278 | 138=>277 | 146=>289 | 51=>253 | 80=>128 | n=>n,λ| 1=>0 | 3=>2 | 4=>3 | n=>n⟩
theorem Tryz.lays155:Go.Proofs.Lays.n155 Tryz.prog Tryz.lays155_ren:={
 mixed:=by kernel_rfl
 f138:=func212.trans (congrArg some (by kernel_rfl))
 f143:=func213.trans (congrArg some (by kernel_rfl))
 f154:=func153.trans (congrArg some (by kernel_rfl))
 f155:=func93.trans (congrArg some (by kernel_rfl))
 f165:=func88.trans (congrArg some (by kernel_rfl))
 f166:=func89.trans (congrArg some (by kernel_rfl))
 f169:=func90.trans (congrArg some (by kernel_rfl))
 f195:=func260.trans (congrArg some (by kernel_rfl))
 f197:=func214.trans (congrArg some (by kernel_rfl))
 f217:=func295.trans (congrArg some (by kernel_rfl))
 f218:=func261.trans (congrArg some (by kernel_rfl))
 f219:=func262.trans (congrArg some (by kernel_rfl))
 f224:=func297.trans (congrArg some (by kernel_rfl))
 f225:=func296.trans (congrArg some (by kernel_rfl))
 f240:=func150.trans (congrArg some (by kernel_rfl))
 f241:=func151.trans (congrArg some (by kernel_rfl))
 f260:=func263.trans (congrArg some (by kernel_rfl))
 f266:=func305.trans (congrArg some (by kernel_rfl))
 f267:=func298.trans (congrArg some (by kernel_rfl))
 f276:=func206.trans (congrArg some (by kernel_rfl))
 f277:=func207.trans (congrArg some (by kernel_rfl))
 f314:=func306.trans (congrArg some (by kernel_rfl))
 t0:=underlying0
 a0:=Tryz.isAgg0
 z0:=Tryz.sizeOf0
 v0:=Tryz.zeroValue0
 t3:=underlying3
 a3:=Tryz.isAgg3
 z3:=Tryz.sizeOf3
 v3:=Tryz.zeroValue3
 t4:=underlying4
 a4:=Tryz.isAgg4
 z4:=Tryz.sizeOf4
 v4:=Tryz.zeroValue4
 t5:=underlying5
 a5:=Tryz.isAgg5
 z5:=Tryz.sizeOf5
 v5:=Tryz.zeroValue5
 t9:=underlying9
 a9:=Tryz.isAgg9
 z9:=Tryz.sizeOf9
 v9:=Tryz.zeroValue9
 t20:=underlying20
 a20:=Tryz.isAgg20
 z20:=Tryz.sizeOf20
 v20:=Tryz.zeroValue20
 t21:=underlying21
 a21:=Tryz.isAgg21
 z21:=Tryz.sizeOf21
 v21:=Tryz.zeroValue21
 t37:=underlying120
 a37:=Tryz.isAgg120
 z37:=Tryz.sizeOf120
 v37:=Tryz.zeroValue120
 t46:=underlying218
 a46:=Tryz.isAgg218
 z46:=Tryz.sizeOf218
 v46:=Tryz.zeroValue218
 t51:=underlying253
 a51:=Tryz.isAgg253
 z51:=Tryz.sizeOf253
 v51:=Tryz.zeroValue253
 t70:=underlying119
 a70:=Tryz.isAgg119
 z70:=Tryz.sizeOf119
 v70:=Tryz.zeroValue119
 t72:=underlying122
 a72:=Tryz.isAgg122
 z72:=Tryz.sizeOf122
 v72:=Tryz.zeroValue122
 t75:=underlying125
 a75:=Tryz.isAgg125
 z75:=Tryz.sizeOf125
 v75:=Tryz.zeroValue125
 t76:=underlying126
 a76:=Tryz.isAgg126
 z76:=Tryz.sizeOf126
 v76:=Tryz.zeroValue126
 t105:=underlying228
 a105:=Tryz.isAgg228
 z105:=Tryz.sizeOf228
 v105:=Tryz.zeroValue228
 t119:=underlying275
 a119:=Tryz.isAgg275
 z119:=Tryz.sizeOf275
 t127:=underlying180
 a127:=Tryz.isAgg180
 z127:=Tryz.sizeOf180
 v127:=Tryz.zeroValue180
 t138:=underlying277
 a138:=Tryz.isAgg277
 z138:=Tryz.sizeOf277
 v138:=Tryz.zeroValue277
 t139:=underlying278
 a139:=Tryz.isAgg278
 z139:=Tryz.sizeOf278
 v139:=Tryz.zeroValue278
 t146:=underlying289
 a146:=Tryz.isAgg289
 z146:=Tryz.sizeOf289
 v146:=Tryz.zeroValue289
 t164:=underlying219
 a164:=Tryz.isAgg219
 z164:=Tryz.sizeOf219
 v164:=Tryz.zeroValue219
 g1:=by kernel_rfl
 g3:=by kernel_rfl
 g4:=by kernel_rfl }
theorem Tryz.Builder_Extra_155:Builder.Extra Tryz.prog Tryz.lays155_ren:={
 sizeBuilder:=by kernel_rfl
 liesBuilder:=by kernel_rfl
 t5:=underlying5
 a5:=Tryz.isAgg5
 z5:=Tryz.sizeOf5
 v5:=Tryz.zeroValue5
 infoByte:=by kernel_rfl
 cellsByte:=by kernel_rfl
 sizeByte:=by kernel_rfl
 neB5:=by decide }
def Tryz.lays156_ren:Go.Shelf.Ren:=⟨λ| 156=>44 | 165=>88 | 166=>89 | 169=>90 | 240=>150 | 241=>151 | 276=>206 | 277=>207 | n=>n,λ| 31=>28 | 9=>9 | 3=>3 | 4=>4 | 0=>0 | 20=>20 | 72=>122 | 76=>126 | 70=>119 | 37=>120 | 75=>125 | 127=>180 | 164=>219 | 5=>5 | 80=>128 | n=>n,λ| n=>n⟩
theorem Tryz.lays156:Go.Proofs.Lays.n156 Tryz.prog Tryz.lays156_ren:={
 mixed:=by kernel_rfl
 f156:=func44.trans (congrArg some (by kernel_rfl))
 f165:=func88.trans (congrArg some (by kernel_rfl))
 f166:=func89.trans (congrArg some (by kernel_rfl))
 f169:=func90.trans (congrArg some (by kernel_rfl))
 f240:=func150.trans (congrArg some (by kernel_rfl))
 f241:=func151.trans (congrArg some (by kernel_rfl))
 f276:=func206.trans (congrArg some (by kernel_rfl))
 f277:=func207.trans (congrArg some (by kernel_rfl))
 t0:=underlying0
 a0:=Tryz.isAgg0
 z0:=Tryz.sizeOf0
 v0:=Tryz.zeroValue0
 t3:=underlying3
 a3:=Tryz.isAgg3
 z3:=Tryz.sizeOf3
 v3:=Tryz.zeroValue3
 t4:=underlying4
 a4:=Tryz.isAgg4
 z4:=Tryz.sizeOf4
 v4:=Tryz.zeroValue4
 t9:=underlying9
 a9:=Tryz.isAgg9
 z9:=Tryz.sizeOf9
 v9:=Tryz.zeroValue9
 t20:=underlying20
 a20:=Tryz.isAgg20
 z20:=Tryz.sizeOf20
 v20:=Tryz.zeroValue20
 t31:=underlying28
 a31:=Tryz.isAgg28
 z31:=Tryz.sizeOf28
 v31:=Tryz.zeroValue28
 t37:=underlying120
 a37:=Tryz.isAgg120
 z37:=Tryz.sizeOf120
 v37:=Tryz.zeroValue120
 t70:=underlying119
 a70:=Tryz.isAgg119
 z70:=Tryz.sizeOf119
 v70:=Tryz.zeroValue119
 t72:=underlying122
 a72:=Tryz.isAgg122
 z72:=Tryz.sizeOf122
 v72:=Tryz.zeroValue122
 t75:=underlying125
 a75:=Tryz.isAgg125
 z75:=Tryz.sizeOf125
 v75:=Tryz.zeroValue125
 t76:=underlying126
 a76:=Tryz.isAgg126
 z76:=Tryz.sizeOf126
 v76:=Tryz.zeroValue126
 t127:=underlying180
 a127:=Tryz.isAgg180
 z127:=Tryz.sizeOf180
 v127:=Tryz.zeroValue180
 t164:=underlying219
 a164:=Tryz.isAgg219
 z164:=Tryz.sizeOf219
 v164:=Tryz.zeroValue219 }
theorem Tryz.Builder_Extra_156:Builder.Extra Tryz.prog Tryz.lays156_ren:={
 sizeBuilder:=by kernel_rfl
 liesBuilder:=by kernel_rfl
 t5:=underlying5
 a5:=Tryz.isAgg5
 z5:=Tryz.sizeOf5
 v5:=Tryz.zeroValue5
 infoByte:=by kernel_rfl
 cellsByte:=by kernel_rfl
 sizeByte:=by kernel_rfl
 neB5:=by decide }
end Go.Proofs
namespace Go.Proofs.YtoknknbmfmddbaaGreatDoor
open Go Go.Ab
open Go.Proofs.Tryz
def strings_Compare (s p:ByteArray):Bool×Int:=zNz s p
def zEY:Ab.Spec ty:=zh (cx:=base) (zd (ze zyP) (zd (ze zyP) zp)) λx=>((strings_Compare x.1 x.2.1).1,⟨[.pure (.lit (.int .i64 (strings_Compare x.1 x.2.1).2))],[]⟩)
theorem zR7:SdP 196 zEY:=zbay ze3 Go.Proofs.Tryz.lays106 call196
end Go.Proofs.YtoknknbmfmddbaaGreatDoor
namespace Go.Proofs.YtoknknbmfmddbaaGreatDoor
open Go Go.Ab
open Go.Proofs.Tryz
def z4s:=zbp base 22 [(167,zoB),(168,zpO),(195,znl),(196,zEY)]
def zPf (a:Value) (b:Value):Wy0 (Int):=.bn (zfg a.Kind b.Kind) λr2=>.bn (zjr a.Int b.Int) λr1=>.bn (zqe [r2,r1,(strings_Compare a.Text b.Text).2]) λr0=>.k r0
def zkd (a:Value) (b:Value):=(zPf a b).fin default
def z4X:AL base (Value×Value×Unit):=zd (ze (zb7 79)) (zd (ze (zb7 79)) zp)
def znY:=zh z4X λx=>((zkd x.1 x.2.1).1,zQ3 (zkd x.1 x.2.1).2)
theorem zr8:SdP 131 znY:=
 sT (cx':=z4s) (zi ⟨zrG,zvN,zsX,zR7,trivial⟩) call131 func131 (lOK aN)
def zG4 (zw:yA->yA->Bool×Int) (zB:yB->yB->Bool×Int) (zH:yD->yD->Bool×Int) (zI:Wd->Wd->Bool×Int):=zbp base 51 [(131,znY),(167,zoB),(168,zpO),(169,(zbs zw)),(170,(zey zB)),(171,(zbL zH)),(172,(zew zI))]
def zwz (zw:yA->yA->Bool×Int) (zB:yB->yB->Bool×Int) (zH:yD->yD->Bool×Int) (zI:Wd->Wd->Bool×Int) (a:At) (b:At):Wy0 (Int):=.bn (zfg a.Kind b.Kind) λr8=>.bn (zfg a.Row.Table b.Row.Table) λr7=>.bn (zfg a.Row.Seq b.Row.Seq) λr6=>.bn (zw a.Ag b.Ag) λr5=>.bn (zfg a.Func b.Func) λr4=>.bn (zH a.Items b.Items) λr3=>.bn (zfg a.Op b.Op) λr2=>.bn (zkd a.Bd b.Bd) λr1=>.bn (zqe [r8,r7,r6,r5,r4,r3,r2,r1]) λr0=>.k r0
def zkJ (zw:yA->yA->Bool×Int) (zB:yB->yB->Bool×Int) (zH:yD->yD->Bool×Int) (zI:Wd->Wd->Bool×Int) (a:At) (b:At):=(zwz zw zB zH zI a b).fin default
theorem zEf (zw:yA->yA->Bool×Int) (zB:yB->yB->Bool×Int) (zH:yD->yD->Bool×Int) (zI:Wd->Wd->Bool×Int) (zf1:SdP 169 (zbs zw)) (zjO:SdP 170 (zey zB)) (zhy:SdP 171 (zbL zH)) (znC:SdP 172 (zew zI)):SdP 106 (zhE (zkJ zw zB zH zI)):=
 sT (cx':=(zG4 zw zB zH zI)) (zi ⟨zr8,zrG,zvN,zf1,zjO,zhy,znC,trivial⟩) call106 func106 (lOK aN)
def zFb (zc2:At->At->Bool×Int):=zbp base 17 [(106,(zhE zc2)),(167,zoB),(168,zpO)]
def zuV (zc2:At->At->Bool×Int) (a:Fc) (b:Fc):Wy0 (Int):=.bn (zc2 (At.et a.At) (At.et b.At)) λr2=>.bn (zfg a.Exp b.Exp) λr1=>.bn (zqe [r2,r1]) λr0=>.k r0
def zjG (zc2:At->At->Bool×Int) (a:Fc) (b:Fc):=(zuV zc2 a b).fin default
theorem zB5 (zc2:At->At->Bool×Int) (zIB:SdP 106 (zhE zc2)):SdP 166 (zeS (zjG zc2)):=
 sT (cx':=(zFb zc2)) (zi ⟨zIB,zrG,zvN,trivial⟩) call166 func166 (lOK aN)
def zHq (zB:yB->yB->Bool×Int):=zbp base 17 [(131,znY),(167,zoB),(170,(zey zB))]
def zwk (zB:yB->yB->Bool×Int) (a:Wd) (b:Wd):Wy0 (Int):=.bn (zkd a.Value b.Value) λr2=>.bn (zB a.Ann b.Ann) λr1=>.bn (zqe [r2,r1]) λr0=>.k r0
def zkQ (zB:yB->yB->Bool×Int) (a:Wd) (b:Wd):=(zwk zB a b).fin default
theorem zEv (zB:yB->yB->Bool×Int) (zjO:SdP 170 (zey zB)):SdP 172 (zew (zkQ zB)):=
 sT (cx':=(zHq zB)) (zi ⟨zr8,zrG,zjO,trivial⟩) call172 func172 (lOK aN)
def zHL (zP:yC->yC->Bool×Int) (zA:Fc->Fc->Bool×Int):=zbp base 10 [(165,(zbZ zP)),(166,(zeS zA))]
def zwn (zP:yC->yC->Bool×Int) (zA:Fc->Fc->Bool×Int) (a:Term) (b:Term):Wy0 (Int):=.bn (zP a.Fs b.Fs) λr0=>.k r0
def zkM (zP:yC->yC->Bool×Int) (zA:Fc->Fc->Bool×Int) (a:Term) (b:Term):=(zwn zP zA a b).fin default
theorem zEm (zP:yC->yC->Bool×Int) (zA:Fc->Fc->Bool×Int) (zju:SdP 165 (zbZ zP)) (zmb:SdP 166 (zeS zA)):SdP 104 (zgq (zkM zP zA)):=
 sT (cx':=(zHL zP zA)) (zi ⟨zju,zmb,trivial⟩) call104 func104 (lOK aN)
abbrev zbH:=yA×yA×Unit×yA×Int×Int×Unit
abbrev zdG:=Int⊕(yA×yA)
def zfK (zB:yB->yB->Bool×Int) (s1:yA) (s2:yA) (t11:yA) (t12:Int) (t13:Int):Wy zbH Unit zdG:=.i (decide (t13<t12)) (.ix t13 t11.length (.i (decide (t13≥Int.ofNat s2.length)) (.k (.inl 1)) (.ix t13 s2.length (.bn (zB (t11.getD t13.toNat default) (s2.getD t13.toNat default)) λr0=>.i (r0 != 0) (.k (.inl (r0))) (.h (s1,s2,(),t11,t12,(IntKind.i64.wrap (t13+1)),()) ()))))) (.k (.inr (s1,s2)))
def zcX (zB:yB->yB->Bool×Int) (x:zbH) (y:Unit):=zfK zB x.1 x.2.1 x.2.2.2.1 x.2.2.2.2.1 x.2.2.2.2.2.1
def zfF (zB:yB->yB->Bool×Int) (n:Nat) (s1:yA) (s2:yA) (t11:yA) (t12:Int) (t13:Int):=zy (zcX zB) (.inl default) n (s1,s2,(),t11,t12,t13,()) ()
def zfA (r:zdG):LTree ty:=.ite (isL r) (.done .ret [.lit (.int .i64 (getL r))] []) (.done (.exit 0) [.sl 51 (getR r).1,.sl 51 (getR r).2] [])
def zfJ:LL ty zbH:=za (lSl 51) (za (lSl 51) (za (lFn 170 (zk)) (za (lSl 51) (za zj (za zj zk)))))
def zfB (x:zbH) (y:Unit):Nat:=(x.1.length+x.2.1.length+x.2.2.2.1.length+Int.toNat x.2.2.2.2.1+Int.toNat x.2.2.2.2.2.1+1)
def zcU (zB:yB->yB->Bool×Int):=zbV base 39 [(170,(zey zB))] [] [(2,(kpL [0,1,2,11,12,13]))] [(2,1,(kpL [0,1])),(2,0,(kpL [6]))] [(2,spW zfJ zbaJ (zcX zB) (.inl default) zfA zfB)] []
theorem zfz (zB:yB->yB->Bool×Int):zC (zcU zB) (lp (body f169) 0):=zn (id:=2) (hl:=rfl)
def zfU (zB:yB->yB->Bool×Int) (s1:yA) (s2:yA):Wy0 (Int):=.bn (zfF zB (s1.length+s2.length+s1.length+(Int.ofNat s1.length).toNat +Int.toNat 0+1) s1 s2 s1 (Int.ofNat s1.length) 0) λr2=>.i (isL r2) (.k (getL r2)) (.i (decide (Int.ofNat (getR r2).1.length<Int.ofNat (getR r2).2.length)) (.k (-1:Int)) (.k 0))
def zbr (zB:yB->yB->Bool×Int) (s1:yA) (s2:yA):=(zfU zB s1 s2).fin default
theorem zfl (zB:yB->yB->Bool×Int) (zjO:SdP 170 (zey zB)):SdP 169 (zbs (zbr zB)):=
 sT (cx':=(zcU zB)) (zi ⟨zjO,trivial⟩) call169 func169 (lOK (aC (zfz zB) aN))
abbrev zcg:=yC×yC×Unit×yC×Int×Int×Unit
abbrev zfh:=Int⊕(yC×yC)
def zeh (zA:Fc->Fc->Bool×Int) (s1:yC) (s2:yC) (t11:yC) (t12:Int) (t13:Int):Wy zcg Unit zfh:=.i (decide (t13<t12)) (.ix t13 t11.length (.i (decide (t13≥Int.ofNat s2.length)) (.k (.inl 1)) (.ix t13 s2.length (.bn (zA (FO.mk (At.et ((t11.getD t13.toNat default).At)) (t11.getD t13.toNat default).Exp) (FO.mk (At.et ((s2.getD t13.toNat default).At)) (s2.getD t13.toNat default).Exp)) λr0=>.i (r0 != 0) (.k (.inl (r0))) (.h (s1,s2,(),t11,t12,(IntKind.i64.wrap (t13+1)),()) ()))))) (.k (.inr (s1,s2)))
def zbR (zA:Fc->Fc->Bool×Int) (x:zcg) (y:Unit):=zeh zA x.1 x.2.1 x.2.2.2.1 x.2.2.2.2.1 x.2.2.2.2.2.1
def zei (zA:Fc->Fc->Bool×Int) (n:Nat) (s1:yC) (s2:yC) (t11:yC) (t12:Int) (t13:Int):=zy (zbR zA) (.inl default) n (s1,s2,(),t11,t12,t13,()) ()
def zi5 (r:zfh):LTree ty:=.ite (isL r) (.done .ret [.lit (.int .i64 (getL r))] []) (.done (.exit 0) [.sl 145 (getR r).1,.sl 145 (getR r).2] [])
def zi7:LL ty zcg:=za (lSl 145) (za (lSl 145) (za (lFn 166 (zk)) (za (lSl 145) (za zj (za zj zk)))))
def zi1 (x:zcg) (y:Unit):Nat:=(x.1.length+x.2.1.length+x.2.2.2.1.length+Int.toNat x.2.2.2.2.1+Int.toNat x.2.2.2.2.2.1+1)
def zeg (zA:Fc->Fc->Bool×Int):=zbV base 39 [(166,(zeS zA))] [] [(2,(kpL [0,1,2,11,12,13]))] [(2,1,(kpL [0,1])),(2,0,(kpL [6]))] [(2,spW zi7 zbaJ (zbR zA) (.inl default) zi5 zi1)] []
theorem ziU (zA:Fc->Fc->Bool×Int):zC (zeg zA) (lp (body f165) 0):=zn (id:=2) (hl:=rfl)
def zeq (zA:Fc->Fc->Bool×Int) (s1:yC) (s2:yC):Wy0 (Int):=.bn (zei zA (s1.length+s2.length+s1.length+(Int.ofNat s1.length).toNat +Int.toNat 0+1) s1 s2 s1 (Int.ofNat s1.length) 0) λr2=>.i (isL r2) (.k (getL r2)) (.i (decide (Int.ofNat (getR r2).1.length<Int.ofNat (getR r2).2.length)) (.k (-1:Int)) (.k 0))
def zbA (zA:Fc->Fc->Bool×Int) (s1:yC) (s2:yC):=(zeq zA s1 s2).fin default
theorem ziq (zA:Fc->Fc->Bool×Int) (zmb:SdP 166 (zeS zA)):SdP 165 (zbZ (zbA zA)):=
 sT (cx':=(zeg zA)) (zi ⟨zmb,trivial⟩) call165 func165 (lOK (aC (ziU zA) aN))
abbrev zbW:=yD×yD×Unit×yD×Int×Int×Unit
abbrev zeu:=Int⊕(yD×yD)
def zg3 (zI:Wd->Wd->Bool×Int) (s1:yD) (s2:yD) (t11:yD) (t12:Int) (t13:Int):Wy zbW Unit zeu:=.i (decide (t13<t12)) (.ix t13 t11.length (.i (decide (t13≥Int.ofNat s2.length)) (.k (.inl 1)) (.ix t13 s2.length (.bn (zI (t11.getD t13.toNat default) (s2.getD t13.toNat default)) λr0=>.i (r0 != 0) (.k (.inl (r0))) (.h (s1,s2,(),t11,t12,(IntKind.i64.wrap (t13+1)),()) ()))))) (.k (.inr (s1,s2)))
def zdo (zI:Wd->Wd->Bool×Int) (x:zbW) (y:Unit):=zg3 zI x.1 x.2.1 x.2.2.2.1 x.2.2.2.2.1 x.2.2.2.2.2.1
def zhb (zI:Wd->Wd->Bool×Int) (n:Nat) (s1:yD) (s2:yD) (t11:yD) (t12:Int) (t13:Int):=zy (zdo zI) (.inl default) n (s1,s2,(),t11,t12,t13,()) ()
def zgU (r:zeu):LTree ty:=.ite (isL r) (.done .ret [.lit (.int .i64 (getL r))] []) (.done (.exit 0) [.sl 169 (getR r).1,.sl 169 (getR r).2] [])
def zg8:LL ty zbW:=za (lSl 169) (za (lSl 169) (za (lFn 172 (zk)) (za (lSl 169) (za zj (za zj zk)))))
def zgQ (x:zbW) (y:Unit):Nat:=(x.1.length+x.2.1.length+x.2.2.2.1.length+Int.toNat x.2.2.2.2.1+Int.toNat x.2.2.2.2.2.1+1)
def zdn (zI:Wd->Wd->Bool×Int):=zbV base 39 [(172,(zew zI))] [] [(2,(kpL [0,1,2,11,12,13]))] [(2,1,(kpL [0,1])),(2,0,(kpL [6]))] [(2,spW zg8 zbaJ (zdo zI) (.inl default) zgU zgQ)] []
theorem zgN (zI:Wd->Wd->Bool×Int):zC (zdn zI) (lp (body f171) 0):=zn (id:=2) (hl:=rfl)
def zhu (zI:Wd->Wd->Bool×Int) (s1:yD) (s2:yD):Wy0 (Int):=.bn (zhb zI (s1.length+s2.length+s1.length+(Int.ofNat s1.length).toNat +Int.toNat 0+1) s1 s2 s1 (Int.ofNat s1.length) 0) λr2=>.i (isL r2) (.k (getL r2)) (.i (decide (Int.ofNat (getR r2).1.length<Int.ofNat (getR r2).2.length)) (.k (-1:Int)) (.k 0))
def zbM (zI:Wd->Wd->Bool×Int) (s1:yD) (s2:yD):=(zhu zI s1 s2).fin default
theorem zgu (zI:Wd->Wd->Bool×Int) (znC:SdP 172 (zew zI)):SdP 171 (zbL (zbM zI)):=
 sT (cx':=(zdn zI)) (zi ⟨znC,trivial⟩) call171 func171 (lOK (aC (zgN zI) aN))
abbrev zcb:=yB×yB×Unit×yB×Int×Int×Unit
abbrev ze1:=Int⊕(yB×yB)
def ziI (zN:Term->Term->Bool×Int) (s1:yB) (s2:yB) (t11:yB) (t12:Int) (t13:Int):Wy zcb Unit ze1:=.i (decide (t13<t12)) (.ix t13 t11.length (.i (decide (t13≥Int.ofNat s2.length)) (.k (.inl 1)) (.ix t13 s2.length (.bn (zN (t11.getD t13.toNat default) (s2.getD t13.toNat default)) λr0=>.i (r0 != 0) (.k (.inl (r0))) (.h (s1,s2,(),t11,t12,(IntKind.i64.wrap (t13+1)),()) ()))))) (.k (.inr (s1,s2)))
def zd2 (zN:Term->Term->Bool×Int) (x:zcb) (y:Unit):=ziI zN x.1 x.2.1 x.2.2.2.1 x.2.2.2.2.1 x.2.2.2.2.2.1
def ziG (zN:Term->Term->Bool×Int) (n:Nat) (s1:yB) (s2:yB) (t11:yB) (t12:Int) (t13:Int):=zy (zd2 zN) (.inl default) n (s1,s2,(),t11,t12,t13,()) ()
def zix (r:ze1):LTree ty:=.ite (isL r) (.done .ret [.lit (.int .i64 (getL r))] []) (.done (.exit 0) [.sl 107 (getR r).1,.sl 107 (getR r).2] [])
def ziH:LL ty zcb:=za (lSl 107) (za (lSl 107) (za (lFn 225 (zk)) (za (lSl 107) (za zj (za zj zk)))))
def zir (x:zcb) (y:Unit):Nat:=(x.1.length+x.2.1.length+x.2.2.2.1.length+Int.toNat x.2.2.2.2.1+Int.toNat x.2.2.2.2.2.1+1)
def zd1 (zN:Term->Term->Bool×Int):=zbV base 39 [(225,(zgq zN))] [] [(2,(kpL [0,1,2,11,12,13]))] [(2,1,(kpL [0,1])),(2,0,(kpL [6]))] [(2,spW ziH zbaJ (zd2 zN) (.inl default) zix zir)] []
theorem zih (zN:Term->Term->Bool×Int):zC (zd1 zN) (lp (body f224) 0):=zn (id:=2) (hl:=rfl)
def zi0 (zN:Term->Term->Bool×Int) (s1:yB) (s2:yB):Wy0 (Int):=.bn (ziG zN (s1.length+s2.length+s1.length+(Int.ofNat s1.length).toNat +Int.toNat 0+1) s1 s2 s1 (Int.ofNat s1.length) 0) λr2=>.i (isL r2) (.k (getL r2)) (.i (decide (Int.ofNat (getR r2).1.length<Int.ofNat (getR r2).2.length)) (.k (-1:Int)) (.k 0))
def zbT (zN:Term->Term->Bool×Int) (s1:yB) (s2:yB):=(zi0 zN s1 s2).fin default
theorem zhN (zN:Term->Term->Bool×Int) (zqs:SdP 225 (zgq zN)):SdP 224 (zbU (zbT zN)):=
 sT (cx':=(zd1 zN)) (zi ⟨zqs,trivial⟩) call224 func224 (lOK (aC (zih zN) aN))
def zck:Nat->(yB->yB->Bool×Int)×(Term->Term->Bool×Int)×(Term->Term->Bool×Int)×(Fc->Fc->Bool×Int)×(At->At->Bool×Int)×(Wd->Wd->Bool×Int)×(yB->yB->Bool×Int)×(yC->yC->Bool×Int)×(yA->yA->Bool×Int)×(yD->yD->Bool×Int)
 | 0=>(λ_ _=>(false,default),λ_ _=>(false,default),λ_ _=>(false,default),λ_ _=>(false,default),λ_ _=>(false,default),λ_ _=>(false,default),λ_ _=>(false,default),λ_ _=>(false,default),λ_ _=>(false,default),λ_ _=>(false,default))
 | n+1=>(zqq ((zck n).2.2.2.2.2.2.1) ((zck n).2.1),zmp ((zck n).2.2.1),zkM ((zck n).2.2.2.2.2.2.2.1) ((zck n).2.2.2.1),zjG ((zck n).2.2.2.2.1),zkJ ((zck n).2.2.2.2.2.2.2.2.1) ((zck n).1) ((zck n).2.2.2.2.2.2.2.2.2) ((zck n).2.2.2.2.2.1),zkQ ((zck n).1),zbT ((zck n).2.1),zbA ((zck n).2.2.2.1),zbr ((zck n).1),zbM ((zck n).2.2.2.2.2.1))
def zgC (n:Nat):yB->yB->Bool×Int:=(zck n).1
def zi6 (n:Nat):Term->Term->Bool×Int:=(zck n).2.1
def zhC (n:Nat):Term->Term->Bool×Int:=(zck n).2.2.1
def zgg (n:Nat):Fc->Fc->Bool×Int:=(zck n).2.2.2.1
def zhG (n:Nat):At->At->Bool×Int:=(zck n).2.2.2.2.1
def zfv (n:Nat):Wd->Wd->Bool×Int:=(zck n).2.2.2.2.2.1
def zbS (n:Nat):yB->yB->Bool×Int:=(zck n).2.2.2.2.2.2.1
def zbX (n:Nat):yC->yC->Bool×Int:=(zck n).2.2.2.2.2.2.2.1
def zbq (n:Nat):yA->yA->Bool×Int:=(zck n).2.2.2.2.2.2.2.2.1
def zbN (n:Nat):yD->yD->Bool×Int:=(zck n).2.2.2.2.2.2.2.2.2
theorem zOI (n:Nat):zgC (n+1)=zqq (zbS n) (zi6 n):=rfl
theorem zJS (n:Nat):zi6 (n+1)=zmp (zhC n):=rfl
theorem zHJ (n:Nat):zhC (n+1)=zkM (zbX n) (zgg n):=rfl
theorem zFH (n:Nat):zgg (n+1)=zjG (zhG n):=rfl
theorem zHm (n:Nat):zhG (n+1)=zkJ (zbq n) (zgC n) (zbN n) (zfv n):=rfl
theorem zHR (n:Nat):zfv (n+1)=zkQ (zgC n):=rfl
theorem ziF (n:Nat):zbS (n+1)=zbT (zi6 n):=rfl
theorem zi9 (n:Nat):zbX (n+1)=zbA (zgg n):=rfl
theorem zfE (n:Nat):zbq (n+1)=zbr (zgC n):=rfl
theorem zg6 (n:Nat):zbN (n+1)=zbM (zfv n):=rfl
theorem zxS:∀ n,SdP 170 (zey (zgC n))/\SdP 225 (zgq (zi6 n))/\SdP 104 (zgq (zhC n))/\SdP 166 (zeS (zgg n))/\SdP 106 (zhE (zhG n))/\SdP 172 (zew (zfv n))/\SdP 224 (zbU (zbS n))/\SdP 165 (zbZ (zbX n))/\SdP 169 (zbs (zbq n))/\SdP 171 (zbL (zbN n))
 | 0=>⟨zbl call170 (λ_=>rfl),zbl call225 (λ_=>rfl),zbl call104 (λ_=>rfl),zbl call166 (λ_=>rfl),zbl call106 (λ_=>rfl),zbl call172 (λ_=>rfl),zbl call224 (λ_=>rfl),zbl call165 (λ_=>rfl),zbl call169 (λ_=>rfl),zbl call171 (λ_=>rfl)⟩
 | n+1=>by
  have ih:=zxS n;exact ⟨zKi _ _ (ih.2.2.2.2.2.2.1) (ih.2.1),zGj _ (ih.2.2.1),zEm _ _ (ih.2.2.2.2.2.2.2.1) (ih.2.2.2.1),zB5 _ (ih.2.2.2.2.1),zEf _ _ _ _ (ih.2.2.2.2.2.2.2.2.1) (ih.1) (ih.2.2.2.2.2.2.2.2.2) (ih.2.2.2.2.2.1),zEv _ (ih.1),zhN _ (ih.2.1),ziq _ (ih.2.2.2.1),zfl _ (ih.1),zgu _ (ih.2.2.2.2.2.1)⟩
def zzX:yB->yB->Bool×Int:=zgC 1000
def zBg:Ab.Spec ty:=zey zzX
theorem zNf:SdP 170 zBg:=(zxS 1000).1
def zb4:Term->Term->Bool×Int:=zhC 1000
def ziT:Ab.Spec ty:=zgq zb4
theorem zl5:SdP 104 ziT:=(zxS 1000).2.2.1
def zjl:At->At->Bool×Int:=zhG 1000
def zmW:Ab.Spec ty:=zhE zjl
theorem zuR:SdP 106 zmW:=(zxS 1000).2.2.2.2.1
def z7:Wd->Wd->Bool×Int:=zfv 1000
def zfO:Ab.Spec ty:=zew z7
theorem zic:SdP 172 zfO:=(zxS 1000).2.2.2.2.2.1
def zXg:=zbp base 9 [(170,zBg)]
def zJp (a:yB) (b:yB):Wy0 (Bool):=.bn (zzX a b) λr0=>.k (r0==0)
def zgx (a:yB) (b:yB):=(zJp a b).fin default
def zot:=zh zTO λx=>((zgx x.1 x.2.1).1,zXz (zgx x.1 x.2.1).2)
theorem zul:SdP 115 zot:=
 sT (cx':=zXg) (zi ⟨zNf,trivial⟩) call115 func115 (lOK aN)
end Go.Proofs.YtoknknbmfmddbaaGreatDoor
end
