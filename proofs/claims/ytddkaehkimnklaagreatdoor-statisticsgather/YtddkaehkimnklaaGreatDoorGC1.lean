/- Texts of this claim, joined (the program, its functions in plain words, and what they compute). -/
import Derived.KernelRfl
import Derived.Shelf.Strconv.Itoa3
import Derived.Stop.LaidErr
import Derived.JoinedOf
import Derived.Shelf.Vars
import Derived.Shelf.SlSortCmp.NoneTotal
import Derived.Shelf.Strings.OnBuilder
import Derived.Shelf.Strconv.Itoa4
import Derived.Shelf.Small.Strs
import Derived.Shelf.Strings.Replace
import Derived.Test.YtddkaehkimnklaaGreatDoorChecked
import Derived.Test.YtddkaehkimnklaaGreatDoorRows
import Derived.Test.YtddkaehkimnklaaGreatDoorCards
import Derived.Test.YtddkaehkimnklaaGreatDoorProg
import Derived.Test.YtddkaehkimnklaaGreatDoorGA2
import Derived.Test.YtddkaehkimnklaaGreatDoorGA3
import Derived.Test.YtddkaehkimnklaaGreatDoorGB1
set_option autoImplicit false
set_option linter.unusedVariables false
set_option linter.unusedSectionVars false
set_option linter.unusedSimpArgs false
set_option maxRecDepth 1000000
set_option maxHeartbeats 0
/- The types of the program, as plain data. -/
noncomputable section
namespace Go.Proofs.YtddkaehkimnklaaGreatDoor
open Go Go.Ab
open Go.Proofs Go.Shelf
structure Column where
 Name:ByteArray
 Type_:Int
 deriving DecidableEq,Inhabited
structure Value where
 Kind:Int
 Int:Int
 Text:ByteArray
 deriving DecidableEq,Inhabited
structure RowID where
 Table:Int
 Seq:Int
 deriving DecidableEq,Inhabited
structure FactorOf (A:Type) where
 Atom:A
 Exp:Int
structure TermOf (A:Type) where
 Coeff:Int
 Factors:List (FactorOf A)
structure WeightedOf (A:Type) where
 Value:Value
 Ann:List (TermOf A)
structure Atom where
 Kind:Int
 Row:RowID
 Args:List (List (TermOf Atom))
 Func:Int
 Items:List (WeightedOf Atom)
 Op:Int
 Bound:Value
abbrev Factor:=FactorOf Atom
abbrev Term:=TermOf Atom
abbrev Weighted:=WeightedOf Atom
instance:Inhabited Atom:=⟨⟨0,default,[],0,[],0,default⟩⟩
instance:Inhabited Factor:=⟨⟨default,0⟩⟩
instance:Inhabited Term:=⟨⟨0,[]⟩⟩
instance:Inhabited Weighted:=⟨⟨default,[]⟩⟩
theorem Atom.eta (x:Atom):(⟨x.Kind,x.Row,x.Args,x.Func,x.Items,x.Op,x.Bound⟩:Atom)=x:=by cases x; rfl
mutual
def zHF:(x y:Atom)→Decidable (x=y)
 | ⟨k,r,a,f,i,o,b⟩,⟨k',r',a',f',i',o',b'⟩=>
  match decEq k k',decEq r r',zHN a a',decEq f f',zHd i i',decEq o o',decEq b b' with
  | .isTrue h1,.isTrue h2,.isTrue h3,.isTrue h4,.isTrue h5,.isTrue h6,.isTrue h7=>.isTrue (by subst h1 h2 h3 h4 h5 h6 h7; rfl)
  | .isFalse h,_,_,_,_,_,_=>.isFalse (fun e=>by cases e; exact h rfl)
  | _,.isFalse h,_,_,_,_,_=>.isFalse (fun e=>by cases e; exact h rfl)
  | _,_,.isFalse h,_,_,_,_=>.isFalse (fun e=>by cases e; exact h rfl)
  | _,_,_,.isFalse h,_,_,_=>.isFalse (fun e=>by cases e; exact h rfl)
  | _,_,_,_,.isFalse h,_,_=>.isFalse (fun e=>by cases e; exact h rfl)
  | _,_,_,_,_,.isFalse h,_=>.isFalse (fun e=>by cases e; exact h rfl)
  | _,_,_,_,_,_,.isFalse h=>.isFalse (fun e=>by cases e; exact h rfl)
def zFB:(x y:Factor)→Decidable (x=y)
 | ⟨a,e⟩,⟨a',e'⟩=>match zHF a a',decEq e e' with
  | .isTrue h1,.isTrue h2=>.isTrue (by subst h1 h2; rfl)
  | .isFalse h,_=>.isFalse (fun e=>by cases e; exact h rfl)
  | _,.isFalse h=>.isFalse (fun e=>by cases e; exact h rfl)
def zEg:(x y:List Factor)→Decidable (x=y)
 | [],[]=>.isTrue rfl
 | [],_::_=>.isFalse (by simp)
 | _::_,[]=>.isFalse (by simp)
 | x::r,y::s=>match zFB x y,zEg r s with
  | .isTrue h1,.isTrue h2=>.isTrue (by subst h1 h2; rfl)
  | .isFalse h,_=>.isFalse (fun e=>by cases e; exact h rfl)
  | _,.isFalse h=>.isFalse (fun e=>by cases e; exact h rfl)
def zHD:(x y:Term)→Decidable (x=y)
 | ⟨a,e⟩,⟨a',e'⟩=>match decEq a a',zEg e e' with
  | .isTrue h1,.isTrue h2=>.isTrue (by subst h1 h2; rfl)
  | .isFalse h,_=>.isFalse (fun e=>by cases e; exact h rfl)
  | _,.isFalse h=>.isFalse (fun e=>by cases e; exact h rfl)
def zGr:(x y:List Term)→Decidable (x=y)
 | [],[]=>.isTrue rfl
 | [],_::_=>.isFalse (by simp)
 | _::_,[]=>.isFalse (by simp)
 | x::r,y::s=>match zHD x y,zGr r s with
  | .isTrue h1,.isTrue h2=>.isTrue (by subst h1 h2; rfl)
  | .isFalse h,_=>.isFalse (fun e=>by cases e; exact h rfl)
  | _,.isFalse h=>.isFalse (fun e=>by cases e; exact h rfl)
def zHN:(x y:List (List Term))→Decidable (x=y)
 | [],[]=>.isTrue rfl
 | [],_::_=>.isFalse (by simp)
 | _::_,[]=>.isFalse (by simp)
 | x::r,y::s=>match zGr x y,zHN r s with
  | .isTrue h1,.isTrue h2=>.isTrue (by subst h1 h2; rfl)
  | .isFalse h,_=>.isFalse (fun e=>by cases e; exact h rfl)
  | _,.isFalse h=>.isFalse (fun e=>by cases e; exact h rfl)
def zH3:(x y:Weighted)→Decidable (x=y)
 | ⟨a,e⟩,⟨a',e'⟩=>match decEq a a',zGr e e' with
  | .isTrue h1,.isTrue h2=>.isTrue (by subst h1 h2; rfl)
  | .isFalse h,_=>.isFalse (fun e=>by cases e; exact h rfl)
  | _,.isFalse h=>.isFalse (fun e=>by cases e; exact h rfl)
def zHd:(x y:List Weighted)→Decidable (x=y)
 | [],[]=>.isTrue rfl
 | [],_::_=>.isFalse (by simp)
 | _::_,[]=>.isFalse (by simp)
 | x::r,y::s=>match zH3 x y,zHd r s with
  | .isTrue h1,.isTrue h2=>.isTrue (by subst h1 h2; rfl)
  | .isFalse h,_=>.isFalse (fun e=>by cases e; exact h rfl)
  | _,.isFalse h=>.isFalse (fun e=>by cases e; exact h rfl)
end
instance:DecidableEq Atom:=zHF
instance:DecidableEq Factor:=zFB
instance:DecidableEq Term:=zHD
instance:DecidableEq Weighted:=zH3
structure Row where
 Values:List Value
 Ann:List Term
 deriving DecidableEq,Inhabited
structure Table where
 ID:Int
 Name:ByteArray
 Columns:List Column
 Rows:List Row
 deriving DecidableEq,Inhabited
structure ColumnStats where
 Distinct:Int
 Min:Value
 Max:Value
 Bounds:List Value
 deriving DecidableEq,Inhabited
structure Stats where
 Table:Int
 Rows:Int
 Columns:List ColumnStats
 deriving DecidableEq,Inhabited
structure Scalar where
 Kind:Int
 Column:Int
 Value:Value
 Op:Int
 Args:List Scalar
instance:Inhabited Scalar:=⟨⟨0,0,default,0,[]⟩⟩
theorem Scalar.eta (x:Scalar):(⟨x.Kind,x.Column,x.Value,x.Op,x.Args⟩:Scalar)=x:=by cases x; rfl
mutual
def zFl:(x y:Scalar)→Decidable (x=y)
 | ⟨k,c,v,o,a⟩,⟨k',c',v',o',a'⟩=>
  match decEq k k',decEq c c',decEq v v',decEq o o',zDx a a' with
  | .isTrue h1,.isTrue h2,.isTrue h3,.isTrue h4,.isTrue h5=>.isTrue (by subst h1 h2 h3 h4 h5; rfl)
  | .isFalse h,_,_,_,_=>.isFalse (fun e=>by cases e; exact h rfl)
  | _,.isFalse h,_,_,_=>.isFalse (fun e=>by cases e; exact h rfl)
  | _,_,.isFalse h,_,_=>.isFalse (fun e=>by cases e; exact h rfl)
  | _,_,_,.isFalse h,_=>.isFalse (fun e=>by cases e; exact h rfl)
  | _,_,_,_,.isFalse h=>.isFalse (fun e=>by cases e; exact h rfl)
def zDx:(x y:List Scalar)→Decidable (x=y)
 | [],[]=>.isTrue rfl
 | [],_::_=>.isFalse (by simp)
 | _::_,[]=>.isFalse (by simp)
 | x::r,y::s=>match zFl x y,zDx r s with
  | .isTrue h1,.isTrue h2=>.isTrue (by subst h1 h2; rfl)
  | .isFalse h,_=>.isFalse (fun e=>by cases e; exact h rfl)
  | _,.isFalse h=>.isFalse (fun e=>by cases e; exact h rfl)
end
instance:DecidableEq Scalar:=zFl
structure Relation where
 Columns:List Column
 Rows:List Row
 deriving DecidableEq,Inhabited
structure estimator where
 s:Stats
 deriving DecidableEq,Inhabited
structure pair where
 c:Column
 v:Value
 deriving DecidableEq,Inhabited
structure Binding where
 Row:RowID
 To:List Term
 deriving DecidableEq,Inhabited
def ty:Nat→Type
 | 2=>Int
 | 3=>Int
 | 4=>Bool
 | 5=>Int
 | 9=>ByteArray
 | 22=>List Column
 | 23=>List Row
 | 25=>Table
 | 28=>List ColumnStats
 | 30=>Stats
 | 34=>List Value
 | 35=>List Term
 | 36=>List Term
 | 38=>Row
 | 40=>Value
 | 43=>ColumnStats
 | 45=>List Scalar
 | 47=>Scalar
 | 53=>List Int
 | 57=>List Stats
 | 58=>List ByteArray
 | 67=>Column
 | 68=>List Int
 | 73=>Relation
 | 74=>Int
 | 88=>estimator
 | 103=>List Relation
 | 116=>Unit
 | 129=>List Int
 | 139=>Int
 | 140=>List (List Term)
 | 145=>List pair
 | 147=>pair
 | 150=>List Factor
 | 152=>Term
 | 155=>RowID
 | 156=>List Weighted
 | 158=>Atom
 | 160=>Factor
 | 171=>Int
 | 182=>Weighted
 | 207=>List Binding
 | 210=>Binding
 | 232=>Unit
 | _=>Unit
instance:(T:Nat)→Inhabited (ty T):=fun T=>by
 unfold ty
 split <;>infer_instance
def dt67:DT ty Column:=zkL (fun x=>⟨x.1,x.2⟩) (fun x=>(x.Name,x.Type_)) (fun _=>rfl) (zc5 (zFY) (zhe .i64))
def dt40:DT ty Value:=zkL (fun x=>⟨x.1,x.2.1,x.2.2⟩) (fun x=>(x.Kind,x.Int,x.Text)) (fun _=>rfl) (zc5 (zhe .i64) (zc5 (zhe .i64) (zFY)))
def zIP:DT ty RowID:=zkL (fun x=>⟨x.1,x.2⟩) (fun x=>(x.Table,x.Seq)) (fun _=>rfl) (zc5 (zhe .i64) (zhe .i64))
def zKo:DT ty Atom:=zkL (fun x=>⟨x.1,x.2.1,x.2.2.1,x.2.2.2.1,x.2.2.2.2.1,x.2.2.2.2.2.1,x.2.2.2.2.2.2⟩) (fun x=>(x.Kind,x.Row,x.Args,x.Func,x.Items,x.Op,x.Bound)) (fun _=>rfl) (zc5 (zhe .i64) (zc5 (zIP) (zc5 (dtSl 36) (zc5 (zhe .i64) (zc5 (dtSl 182) (zc5 (zhe .i64) (dt40)))))))
def zLD:DT ty Factor:=zkL (fun x=>⟨x.1,x.2⟩) (fun x=>(x.Atom,x.Exp)) (fun _=>rfl) (zc5 (zKo) (zhe .i64))
def zLF:DT ty Term:=zkL (fun x=>⟨x.1,x.2⟩) (fun x=>(x.Coeff,x.Factors)) (fun _=>rfl) (zc5 (zhe .i64) (dtSl 160))
def zLJ:DT ty Weighted:=zkL (fun x=>⟨x.1,x.2⟩) (fun x=>(x.Value,x.Ann)) (fun _=>rfl) (zc5 (dt40) (dtSl 152))
def dt38:DT ty Row:=zkL (fun x=>⟨x.1,x.2⟩) (fun x=>(x.Values,x.Ann)) (fun _=>rfl) (zc5 (dtSl 40) (dtSl 152))
def dt25:DT ty Table:=zkL (fun x=>⟨x.1,x.2.1,x.2.2.1,x.2.2.2⟩) (fun x=>(x.ID,x.Name,x.Columns,x.Rows)) (fun _=>rfl) (zc5 (zhe .i64) (zc5 (zFY) (zc5 (dtSl 67) (dtSl 38))))
def dt43:DT ty ColumnStats:=zkL (fun x=>⟨x.1,x.2.1,x.2.2.1,x.2.2.2⟩) (fun x=>(x.Distinct,x.Min,x.Max,x.Bounds)) (fun _=>rfl) (zc5 (zhe .i64) (zc5 (dt40) (zc5 (dt40) (dtSl 40))))
def dt30:DT ty Stats:=zkL (fun x=>⟨x.1,x.2.1,x.2.2⟩) (fun x=>(x.Table,x.Rows,x.Columns)) (fun _=>rfl) (zc5 (zhe .i64) (zc5 (zhe .i64) (dtSl 43)))
def dt47:DT ty Scalar:=zkL (fun x=>⟨x.1,x.2.1,x.2.2.1,x.2.2.2.1,x.2.2.2.2⟩) (fun x=>(x.Kind,x.Column,x.Value,x.Op,x.Args)) (fun _=>rfl) (zc5 (zhe .i64) (zc5 (zhe .i64) (zc5 (dt40) (zc5 (zhe .i64) (dtSl 47)))))
def dt73:DT ty Relation:=zkL (fun x=>⟨x.1,x.2⟩) (fun x=>(x.Columns,x.Rows)) (fun _=>rfl) (zc5 (dtSl 67) (dtSl 38))
def dt88:DT ty estimator:=zkL (fun x=>⟨x⟩) (fun x=>(x.s)) (fun _=>rfl) (dt30)
def zLR:DT ty pair:=zkL (fun x=>⟨x.1,x.2⟩) (fun x=>(x.c,x.v)) (fun _=>rfl) (zc5 (dt67) (dt40))
def zLS:DT ty Binding:=zkL (fun x=>⟨x.1,x.2⟩) (fun x=>(x.Row,x.To)) (fun _=>rfl) (zc5 (zIP) (dtSl 152))
def zEe:List ((T:Nat)×DT ty (ty T)):=[⟨2,(zhe .i64:DT ty Int)⟩,⟨3,(zhe .i64:DT ty Int)⟩,⟨4,(zLc:DT ty Bool)⟩,⟨5,(zhe .u8:DT ty Int)⟩,⟨9,(zFY:DT ty ByteArray)⟩,⟨22,(dtSl 67:DT ty (List Column))⟩,⟨23,(dtSl 38:DT ty (List Row))⟩,⟨25,(dt25:DT ty Table)⟩,⟨28,(dtSl 43:DT ty (List ColumnStats))⟩,⟨30,(dt30:DT ty Stats)⟩,⟨34,(dtSl 40:DT ty (List Value))⟩,⟨35,(dtSl 152:DT ty (List Term))⟩,⟨36,(dtSl 152:DT ty (List Term))⟩,⟨38,(dt38:DT ty Row)⟩,⟨40,(dt40:DT ty Value)⟩,⟨43,(dt43:DT ty ColumnStats)⟩,⟨45,(dtSl 47:DT ty (List Scalar))⟩,⟨47,(dt47:DT ty Scalar)⟩,⟨53,(dtSl 3:DT ty (List Int))⟩,⟨57,(dtSl 30:DT ty (List Stats))⟩,⟨58,(dtSl 9:DT ty (List ByteArray))⟩,⟨67,(dt67:DT ty Column)⟩,⟨68,(dtSl 2:DT ty (List Int))⟩,⟨73,(dt73:DT ty Relation)⟩,⟨74,(zhe .i64:DT ty Int)⟩,⟨88,(dt88:DT ty estimator)⟩,⟨103,(dtSl 73:DT ty (List Relation))⟩,⟨116,(dtMp:DT ty Unit)⟩,⟨129,(dtSl 5:DT ty (List Int))⟩,⟨139,(zhe .u64:DT ty Int)⟩,⟨140,(dtSl 36:DT ty (List (List Term)))⟩,⟨145,(dtSl 147:DT ty (List pair))⟩,⟨147,(zLR:DT ty pair)⟩,⟨150,(dtSl 160:DT ty (List Factor))⟩,⟨152,(zLF:DT ty Term)⟩,⟨155,(zIP:DT ty RowID)⟩,⟨156,(dtSl 182:DT ty (List Weighted))⟩,⟨158,(zKo:DT ty Atom)⟩,⟨160,(zLD:DT ty Factor)⟩,⟨171,(zhe .u64:DT ty Int)⟩,⟨182,(zLJ:DT ty Weighted)⟩,⟨207,(dtSl 210:DT ty (List Binding))⟩,⟨210,(zLS:DT ty Binding)⟩,⟨232,(dtMp:DT ty Unit)⟩]
def zF2:List (Nat×TInfo):=[(2,⟨.int .i64,1,8,[.int .i64 (0)]⟩),
 (3,⟨.int .i64,1,8,[.int .i64 (0)]⟩),
 (4,⟨.bool,1,1,[.bool false]⟩),
 (5,⟨.int .u8,1,1,[.int .u8 (0)]⟩),
 (9,⟨.str,1,16,[.string ⟨#[]⟩]⟩),
 (22,⟨.slice 67,1,24,[.slice none 0 0]⟩),
 (23,⟨.slice 38,1,24,[.slice none 0 0]⟩),
 (25,⟨.struct [(0,3),(1,9),(2,22),(3,23)],4,72,[.int .i64 (0),.string ⟨#[]⟩,.slice none 0 0,.slice none 0 0]⟩),
 (28,⟨.slice 43,1,24,[.slice none 0 0]⟩),
 (30,⟨.struct [(0,3),(1,3),(2,28)],3,40,[.int .i64 (0),.int .i64 (0),.slice none 0 0]⟩),
 (34,⟨.slice 40,1,24,[.slice none 0 0]⟩),
 (35,⟨.slice 152,1,24,[.slice none 0 0]⟩),
 (36,⟨.slice 152,1,24,[.slice none 0 0]⟩),
 (38,⟨.struct [(0,34),(1,36)],2,48,[.slice none 0 0,.slice none 0 0]⟩),
 (40,⟨.struct [(0,3),(1,2),(2,9)],3,32,[.int .i64 (0),.int .i64 (0),.string ⟨#[]⟩]⟩),
 (43,⟨.struct [(0,3),(1,40),(4,40),(7,34)],8,96,[.int .i64 (0),.int .i64 (0),.int .i64 (0),.string ⟨#[]⟩,.int .i64 (0),.int .i64 (0),.string ⟨#[]⟩,.slice none 0 0]⟩),
 (45,⟨.slice 47,1,24,[.slice none 0 0]⟩),
 (47,⟨.struct [(0,3),(1,3),(2,40),(5,3),(6,45)],7,80,[.int .i64 (0),.int .i64 (0),.int .i64 (0),.int .i64 (0),.string ⟨#[]⟩,.int .i64 (0),.slice none 0 0]⟩),
 (53,⟨.slice 3,1,24,[.slice none 0 0]⟩),
 (57,⟨.slice 30,1,24,[.slice none 0 0]⟩),
 (58,⟨.slice 9,1,24,[.slice none 0 0]⟩),
 (67,⟨.struct [(0,9),(1,3)],2,24,[.string ⟨#[]⟩,.int .i64 (0)]⟩),
 (68,⟨.slice 2,1,24,[.slice none 0 0]⟩),
 (73,⟨.struct [(0,22),(1,23)],2,48,[.slice none 0 0,.slice none 0 0]⟩),
 (74,⟨.int .i64,1,8,[.int .i64 (0)]⟩),
 (88,⟨.struct [(0,30)],3,40,[.int .i64 (0),.int .i64 (0),.slice none 0 0]⟩),
 (103,⟨.slice 73,1,24,[.slice none 0 0]⟩),
 (116,⟨.map 40 4,1,8,[.map none]⟩),
 (129,⟨.slice 5,1,24,[.slice none 0 0]⟩),
 (139,⟨.int .u64,1,8,[.int .u64 (0)]⟩),
 (140,⟨.slice 36,1,24,[.slice none 0 0]⟩),
 (145,⟨.slice 147,1,24,[.slice none 0 0]⟩),
 (147,⟨.struct [(0,67),(2,40)],5,56,[.string ⟨#[]⟩,.int .i64 (0),.int .i64 (0),.int .i64 (0),.string ⟨#[]⟩]⟩),
 (150,⟨.slice 160,1,24,[.slice none 0 0]⟩),
 (152,⟨.struct [(0,2),(1,150)],2,32,[.int .i64 (0),.slice none 0 0]⟩),
 (155,⟨.struct [(0,3),(1,3)],2,16,[.int .i64 (0),.int .i64 (0)]⟩),
 (156,⟨.slice 182,1,24,[.slice none 0 0]⟩),
 (158,⟨.struct [(0,3),(1,155),(3,140),(4,3),(5,156),(6,3),(7,40)],10,120,[.int .i64 (0),.int .i64 (0),.int .i64 (0),.slice none 0 0,.int .i64 (0),.slice none 0 0,.int .i64 (0),.int .i64 (0),.int .i64 (0),.string ⟨#[]⟩]⟩),
 (160,⟨.struct [(0,158),(10,3)],11,128,[.int .i64 (0),.int .i64 (0),.int .i64 (0),.slice none 0 0,.int .i64 (0),.slice none 0 0,.int .i64 (0),.int .i64 (0),.int .i64 (0),.string ⟨#[]⟩,.int .i64 (0)]⟩),
 (171,⟨.int .u64,1,8,[.int .u64 (0)]⟩),
 (182,⟨.struct [(0,40),(3,36)],4,56,[.int .i64 (0),.int .i64 (0),.string ⟨#[]⟩,.slice none 0 0]⟩),
 (207,⟨.slice 210,1,24,[.slice none 0 0]⟩),
 (210,⟨.struct [(0,155),(2,36)],3,40,[.int .i64 (0),.int .i64 (0),.slice none 0 0]⟩),
 (232,⟨.map 3 3,1,8,[.map none]⟩)]
def zBF:List (Nat×List TD):=[(67,[.str,.int .i64]),(40,[.int .i64,.int .i64,.str]),(155,[.int .i64,.int .i64])]
def inv (w:World):Prop:=Lib.TabIs Tryz.prog w "internal/strconv.uint64pow10" .u64 Lib.pow10Tab∧(∃ m,w.cell? ⟨0,0,none⟩=some (.int .i64 m))
theorem zJ4 {n:String} {g:Nat} {w w':World} (hg:Tryz.prog.globalNamed n=some g) (h:w'.heap[g]? =w.heap[g]?):w'.var? Tryz.prog n=w.var? Tryz.prog n:=by
 unfold World.var?; rw [hg]; simp only [Option.bind_some,h]
theorem zIj (w w':World) (hi:inv w) (hb:∀ b,b<4→w'.heap[b]? =w.heap[b]?):inv w':=by
 obtain ⟨h1,⟨m,h2⟩⟩:=hi
 refine ⟨(zJ4 (g:=1) (by kernel_rfl) (hb 1 (by omega))).trans h1,⟨m, ?_⟩⟩
 rw [← h2]; exact World.cell?_of_block (a:=⟨0,0,none⟩) (hb 0 (by omega))
def base:Cx ty:={ ti:=fun T=>zF2.lookup T,dflt:=fun _=>default,enc:=fun T=>(tabT zEe T).enc,dec:=fun T=>(tabT zEe T).dec,spec:=fun _=>none,io:=fun _=>[],eqs:=fun T us vs=>match zBF.lookup T with | some ts=>zP ts us vs | none=>none,nt:=0,head:=fun _=>[],out:=fun _ _=>[],loops:=fun _=>none,ng:=4,inv:=inv }
theorem zIl:Tryz.prog.info? 2=some Tryz.t2:=by kernel_rfl
theorem zkO:Tryz.prog.info? 3=some Tryz.t3:=by kernel_rfl
theorem zL2:Tryz.prog.info? 4=some Tryz.t4:=by kernel_rfl
theorem zLN:Tryz.prog.info? 5=some Tryz.t5:=by kernel_rfl
theorem zFZ:Tryz.prog.info? 9=some Tryz.t9:=by kernel_rfl
theorem zGM:Tryz.prog.info? 22=some Tryz.t22:=by kernel_rfl
theorem zGk:Tryz.prog.info? 23=some Tryz.t23:=by kernel_rfl
theorem zLm:Tryz.prog.info? 25=some Tryz.t25:=by kernel_rfl
theorem zJC:Tryz.prog.info? 28=some Tryz.t28:=by kernel_rfl
theorem zJy:Tryz.prog.info? 30=some Tryz.t30:=by kernel_rfl
theorem zF5:Tryz.prog.info? 34=some Tryz.t34:=by kernel_rfl
theorem zLh:Tryz.prog.info? 35=some Tryz.t35:=by kernel_rfl
theorem zEi:Tryz.prog.info? 36=some Tryz.t36:=by kernel_rfl
theorem zLg:Tryz.prog.info? 38=some Tryz.t38:=by kernel_rfl
theorem zv3:Tryz.prog.info? 40=some Tryz.t40:=by kernel_rfl
theorem zLw:Tryz.prog.info? 43=some Tryz.t43:=by kernel_rfl
theorem zJB:Tryz.prog.info? 45=some Tryz.t45:=by kernel_rfl
theorem zLa:Tryz.prog.info? 47=some Tryz.t47:=by kernel_rfl
theorem zLz:Tryz.prog.info? 53=some Tryz.t53:=by kernel_rfl
theorem zLq:Tryz.prog.info? 57=some Tryz.t57:=by kernel_rfl
theorem zLk:Tryz.prog.info? 58=some Tryz.t58:=by kernel_rfl
theorem zIZ:Tryz.prog.info? 67=some Tryz.t67:=by kernel_rfl
theorem zLo:Tryz.prog.info? 68=some Tryz.t68:=by kernel_rfl
theorem zLl:Tryz.prog.info? 73=some Tryz.t73:=by kernel_rfl
theorem zLf:Tryz.prog.info? 74=some Tryz.t74:=by kernel_rfl
theorem zLn:Tryz.prog.info? 88=some Tryz.t88:=by kernel_rfl
theorem zK1:Tryz.prog.info? 103=some Tryz.t103:=by kernel_rfl
theorem zK8:Tryz.prog.info? 116=some Tryz.t116:=by kernel_rfl
theorem zKO:Tryz.prog.info? 129=some Tryz.t129:=by kernel_rfl
theorem zKp:Tryz.prog.info? 139=some Tryz.t139:=by kernel_rfl
theorem zHT:Tryz.prog.info? 140=some Tryz.t140:=by kernel_rfl
theorem zKs:Tryz.prog.info? 145=some Tryz.t145:=by kernel_rfl
theorem zKQ:Tryz.prog.info? 147=some Tryz.t147:=by kernel_rfl
theorem zHX:Tryz.prog.info? 150=some Tryz.t150:=by kernel_rfl
theorem zK7:Tryz.prog.info? 152=some Tryz.t152:=by kernel_rfl
theorem zEA:Tryz.prog.info? 155=some Tryz.t155:=by kernel_rfl
theorem zHS:Tryz.prog.info? 156=some Tryz.t156:=by kernel_rfl
theorem zH2:Tryz.prog.info? 158=some Tryz.t158:=by kernel_rfl
theorem zKF:Tryz.prog.info? 160=some Tryz.t160:=by kernel_rfl
theorem zKz:Tryz.prog.info? 171=some Tryz.t171:=by kernel_rfl
theorem zKZ:Tryz.prog.info? 182=some Tryz.t182:=by kernel_rfl
theorem zKN:Tryz.prog.info? 207=some Tryz.t207:=by kernel_rfl
theorem zKB:Tryz.prog.info? 210=some Tryz.t210:=by kernel_rfl
theorem zKy:Tryz.prog.info? 232=some Tryz.t232:=by kernel_rfl
theorem zKt:∀ T i,zF2.lookup T=some i→InfoOK Tryz.prog T i:=by
 intro T i h
 have h:=zuv _ _ _ h
 simp only [zF2,List.mem_cons,List.not_mem_nil,or_false,Prod.mk.injEq] at h
 rcases h with ⟨rfl,rfl⟩ | ⟨rfl,rfl⟩ | ⟨rfl,rfl⟩ | ⟨rfl,rfl⟩ | ⟨rfl,rfl⟩ | ⟨rfl,rfl⟩ | ⟨rfl,rfl⟩ | ⟨rfl,rfl⟩ | ⟨rfl,rfl⟩ | ⟨rfl,rfl⟩ | ⟨rfl,rfl⟩ | ⟨rfl,rfl⟩ | ⟨rfl,rfl⟩ | ⟨rfl,rfl⟩ | ⟨rfl,rfl⟩ | ⟨rfl,rfl⟩ | ⟨rfl,rfl⟩ | ⟨rfl,rfl⟩ | ⟨rfl,rfl⟩ | ⟨rfl,rfl⟩ | ⟨rfl,rfl⟩ | ⟨rfl,rfl⟩ | ⟨rfl,rfl⟩ | ⟨rfl,rfl⟩ | ⟨rfl,rfl⟩ | ⟨rfl,rfl⟩ | ⟨rfl,rfl⟩ | ⟨rfl,rfl⟩ | ⟨rfl,rfl⟩ | ⟨rfl,rfl⟩ | ⟨rfl,rfl⟩ | ⟨rfl,rfl⟩ | ⟨rfl,rfl⟩ | ⟨rfl,rfl⟩ | ⟨rfl,rfl⟩ | ⟨rfl,rfl⟩ | ⟨rfl,rfl⟩ | ⟨rfl,rfl⟩ | ⟨rfl,rfl⟩ | ⟨rfl,rfl⟩ | ⟨rfl,rfl⟩ | ⟨rfl,rfl⟩ | ⟨rfl,rfl⟩ | ⟨rfl,rfl⟩
 ·exact ⟨Tryz.t2,_,_,zIl,Tryz.underlying2,rfl,rfl,rfl,rfl,rfl,⟨by simp [zR],fun _=>rfl⟩,rfl⟩
 ·exact ⟨Tryz.t3,_,_,zkO,Tryz.underlying3,rfl,rfl,rfl,rfl,rfl,⟨by simp [zR],fun _=>rfl⟩,rfl⟩
 ·exact ⟨Tryz.t4,_,_,zL2,Tryz.underlying4,rfl,rfl,rfl,rfl,rfl,⟨by simp [zR],fun _=>rfl⟩,rfl⟩
 ·exact ⟨Tryz.t5,_,_,zLN,Tryz.underlying5,rfl,rfl,rfl,rfl,rfl,⟨by simp [zR],fun _=>rfl⟩,rfl⟩
 ·exact ⟨Tryz.t9,_,_,zFZ,Tryz.underlying9,rfl,rfl,rfl,rfl,rfl,⟨by simp [zR],fun _=>rfl⟩,rfl⟩
 ·exact ⟨Tryz.t22,_,_,zGM,Tryz.underlying22,rfl,rfl,rfl,rfl,rfl,⟨by simp [zR],fun _=>rfl⟩,rfl⟩
 ·exact ⟨Tryz.t23,_,_,zGk,Tryz.underlying23,rfl,rfl,rfl,rfl,rfl,⟨by simp [zR],fun _=>rfl⟩,rfl⟩
 ·exact ⟨Tryz.t25,_,_,zLm,Tryz.underlying25,rfl,rfl,rfl,rfl,rfl,⟨by simp [zR],fun h=>by cases h⟩,⟨_,rfl,rfl,fun f hf=>by
   simp only [List.mem_cons,List.not_mem_nil,or_false] at hf
   rcases hf with rfl | rfl | rfl | rfl
   ·exact Option.isSome_iff_exists.2 ⟨_,zkO⟩
   ·exact Option.isSome_iff_exists.2 ⟨_,zFZ⟩
   ·exact Option.isSome_iff_exists.2 ⟨_,zGM⟩
   ·exact Option.isSome_iff_exists.2 ⟨_,zGk⟩⟩⟩
 ·exact ⟨Tryz.t28,_,_,zJC,Tryz.underlying28,rfl,rfl,rfl,rfl,rfl,⟨by simp [zR],fun _=>rfl⟩,rfl⟩
 ·exact ⟨Tryz.t30,_,_,zJy,Tryz.underlying30,rfl,rfl,rfl,rfl,rfl,⟨by simp [zR],fun h=>by cases h⟩,⟨_,rfl,rfl,fun f hf=>by
   simp only [List.mem_cons,List.not_mem_nil,or_false] at hf
   rcases hf with rfl | rfl | rfl
   ·exact Option.isSome_iff_exists.2 ⟨_,zkO⟩
   ·exact Option.isSome_iff_exists.2 ⟨_,zkO⟩
   ·exact Option.isSome_iff_exists.2 ⟨_,zJC⟩⟩⟩
 ·exact ⟨Tryz.t34,_,_,zF5,Tryz.underlying34,rfl,rfl,rfl,rfl,rfl,⟨by simp [zR],fun _=>rfl⟩,rfl⟩
 ·exact ⟨Tryz.t35,_,_,zLh,Tryz.underlying35,rfl,rfl,rfl,rfl,rfl,⟨by simp [zR],fun _=>rfl⟩,rfl⟩
 ·exact ⟨Tryz.t36,_,_,zEi,Tryz.underlying36,rfl,rfl,rfl,rfl,rfl,⟨by simp [zR],fun _=>rfl⟩,rfl⟩
 ·exact ⟨Tryz.t38,_,_,zLg,Tryz.underlying38,rfl,rfl,rfl,rfl,rfl,⟨by simp [zR],fun h=>by cases h⟩,⟨_,rfl,rfl,fun f hf=>by
   simp only [List.mem_cons,List.not_mem_nil,or_false] at hf
   rcases hf with rfl | rfl
   ·exact Option.isSome_iff_exists.2 ⟨_,zF5⟩
   ·exact Option.isSome_iff_exists.2 ⟨_,zEi⟩⟩⟩
 ·exact ⟨Tryz.t40,_,_,zv3,Tryz.underlying40,rfl,rfl,rfl,rfl,rfl,⟨by simp [zR],fun h=>by cases h⟩,⟨_,rfl,rfl,fun f hf=>by
   simp only [List.mem_cons,List.not_mem_nil,or_false] at hf
   rcases hf with rfl | rfl | rfl
   ·exact Option.isSome_iff_exists.2 ⟨_,zkO⟩
   ·exact Option.isSome_iff_exists.2 ⟨_,zIl⟩
   ·exact Option.isSome_iff_exists.2 ⟨_,zFZ⟩⟩⟩
 ·exact ⟨Tryz.t43,_,_,zLw,Tryz.underlying43,rfl,rfl,rfl,rfl,rfl,⟨by simp [zR],fun h=>by cases h⟩,⟨_,rfl,rfl,fun f hf=>by
   simp only [List.mem_cons,List.not_mem_nil,or_false] at hf
   rcases hf with rfl | rfl | rfl | rfl
   ·exact Option.isSome_iff_exists.2 ⟨_,zkO⟩
   ·exact Option.isSome_iff_exists.2 ⟨_,zv3⟩
   ·exact Option.isSome_iff_exists.2 ⟨_,zv3⟩
   ·exact Option.isSome_iff_exists.2 ⟨_,zF5⟩⟩⟩
 ·exact ⟨Tryz.t45,_,_,zJB,Tryz.underlying45,rfl,rfl,rfl,rfl,rfl,⟨by simp [zR],fun _=>rfl⟩,rfl⟩
 ·exact ⟨Tryz.t47,_,_,zLa,Tryz.underlying47,rfl,rfl,rfl,rfl,rfl,⟨by simp [zR],fun h=>by cases h⟩,⟨_,rfl,rfl,fun f hf=>by
   simp only [List.mem_cons,List.not_mem_nil,or_false] at hf
   rcases hf with rfl | rfl | rfl | rfl | rfl
   ·exact Option.isSome_iff_exists.2 ⟨_,zkO⟩
   ·exact Option.isSome_iff_exists.2 ⟨_,zkO⟩
   ·exact Option.isSome_iff_exists.2 ⟨_,zv3⟩
   ·exact Option.isSome_iff_exists.2 ⟨_,zkO⟩
   ·exact Option.isSome_iff_exists.2 ⟨_,zJB⟩⟩⟩
 ·exact ⟨Tryz.t53,_,_,zLz,Tryz.underlying53,rfl,rfl,rfl,rfl,rfl,⟨by simp [zR],fun _=>rfl⟩,rfl⟩
 ·exact ⟨Tryz.t57,_,_,zLq,Tryz.underlying57,rfl,rfl,rfl,rfl,rfl,⟨by simp [zR],fun _=>rfl⟩,rfl⟩
 ·exact ⟨Tryz.t58,_,_,zLk,Tryz.underlying58,rfl,rfl,rfl,rfl,rfl,⟨by simp [zR],fun _=>rfl⟩,rfl⟩
 ·exact ⟨Tryz.t67,_,_,zIZ,Tryz.underlying67,rfl,rfl,rfl,rfl,rfl,⟨by simp [zR],fun h=>by cases h⟩,⟨_,rfl,rfl,fun f hf=>by
   simp only [List.mem_cons,List.not_mem_nil,or_false] at hf
   rcases hf with rfl | rfl
   ·exact Option.isSome_iff_exists.2 ⟨_,zFZ⟩
   ·exact Option.isSome_iff_exists.2 ⟨_,zkO⟩⟩⟩
 ·exact ⟨Tryz.t68,_,_,zLo,Tryz.underlying68,rfl,rfl,rfl,rfl,rfl,⟨by simp [zR],fun _=>rfl⟩,rfl⟩
 ·exact ⟨Tryz.t73,_,_,zLl,Tryz.underlying73,rfl,rfl,rfl,rfl,rfl,⟨by simp [zR],fun h=>by cases h⟩,⟨_,rfl,rfl,fun f hf=>by
   simp only [List.mem_cons,List.not_mem_nil,or_false] at hf
   rcases hf with rfl | rfl
   ·exact Option.isSome_iff_exists.2 ⟨_,zGM⟩
   ·exact Option.isSome_iff_exists.2 ⟨_,zGk⟩⟩⟩
 ·exact ⟨Tryz.t74,_,_,zLf,Tryz.underlying74,rfl,rfl,rfl,rfl,rfl,⟨by simp [zR],fun _=>rfl⟩,rfl⟩
 ·exact ⟨Tryz.t88,_,_,zLn,Tryz.underlying88,rfl,rfl,rfl,rfl,rfl,⟨by simp [zR],fun h=>by cases h⟩,⟨_,rfl,rfl,fun f hf=>by
   simp only [List.mem_cons,List.not_mem_nil,or_false] at hf
   rcases hf with rfl
   ·exact Option.isSome_iff_exists.2 ⟨_,zJy⟩⟩⟩
 ·exact ⟨Tryz.t103,_,_,zK1,Tryz.underlying103,rfl,rfl,rfl,rfl,rfl,⟨by simp [zR],fun _=>rfl⟩,rfl⟩
 ·exact ⟨Tryz.t116,_,_,zK8,Tryz.underlying116,rfl,rfl,rfl,rfl,rfl,⟨by simp [zR],fun _=>rfl⟩,rfl⟩
 ·exact ⟨Tryz.t129,_,_,zKO,Tryz.underlying129,rfl,rfl,rfl,rfl,rfl,⟨by simp [zR],fun _=>rfl⟩,rfl⟩
 ·exact ⟨Tryz.t139,_,_,zKp,Tryz.underlying139,rfl,rfl,rfl,rfl,rfl,⟨by simp [zR],fun _=>rfl⟩,rfl⟩
 ·exact ⟨Tryz.t140,_,_,zHT,Tryz.underlying140,rfl,rfl,rfl,rfl,rfl,⟨by simp [zR],fun _=>rfl⟩,rfl⟩
 ·exact ⟨Tryz.t145,_,_,zKs,Tryz.underlying145,rfl,rfl,rfl,rfl,rfl,⟨by simp [zR],fun _=>rfl⟩,rfl⟩
 ·exact ⟨Tryz.t147,_,_,zKQ,Tryz.underlying147,rfl,rfl,rfl,rfl,rfl,⟨by simp [zR],fun h=>by cases h⟩,⟨_,rfl,rfl,fun f hf=>by
   simp only [List.mem_cons,List.not_mem_nil,or_false] at hf
   rcases hf with rfl | rfl
   ·exact Option.isSome_iff_exists.2 ⟨_,zIZ⟩
   ·exact Option.isSome_iff_exists.2 ⟨_,zv3⟩⟩⟩
 ·exact ⟨Tryz.t150,_,_,zHX,Tryz.underlying150,rfl,rfl,rfl,rfl,rfl,⟨by simp [zR],fun _=>rfl⟩,rfl⟩
 ·exact ⟨Tryz.t152,_,_,zK7,Tryz.underlying152,rfl,rfl,rfl,rfl,rfl,⟨by simp [zR],fun h=>by cases h⟩,⟨_,rfl,rfl,fun f hf=>by
   simp only [List.mem_cons,List.not_mem_nil,or_false] at hf
   rcases hf with rfl | rfl
   ·exact Option.isSome_iff_exists.2 ⟨_,zIl⟩
   ·exact Option.isSome_iff_exists.2 ⟨_,zHX⟩⟩⟩
 ·exact ⟨Tryz.t155,_,_,zEA,Tryz.underlying155,rfl,rfl,rfl,rfl,rfl,⟨by simp [zR],fun h=>by cases h⟩,⟨_,rfl,rfl,fun f hf=>by
   simp only [List.mem_cons,List.not_mem_nil,or_false] at hf
   rcases hf with rfl | rfl
   ·exact Option.isSome_iff_exists.2 ⟨_,zkO⟩
   ·exact Option.isSome_iff_exists.2 ⟨_,zkO⟩⟩⟩
 ·exact ⟨Tryz.t156,_,_,zHS,Tryz.underlying156,rfl,rfl,rfl,rfl,rfl,⟨by simp [zR],fun _=>rfl⟩,rfl⟩
 ·exact ⟨Tryz.t158,_,_,zH2,Tryz.underlying158,rfl,rfl,rfl,rfl,rfl,⟨by simp [zR],fun h=>by cases h⟩,⟨_,rfl,rfl,fun f hf=>by
   simp only [List.mem_cons,List.not_mem_nil,or_false] at hf
   rcases hf with rfl | rfl | rfl | rfl | rfl | rfl | rfl
   ·exact Option.isSome_iff_exists.2 ⟨_,zkO⟩
   ·exact Option.isSome_iff_exists.2 ⟨_,zEA⟩
   ·exact Option.isSome_iff_exists.2 ⟨_,zHT⟩
   ·exact Option.isSome_iff_exists.2 ⟨_,zkO⟩
   ·exact Option.isSome_iff_exists.2 ⟨_,zHS⟩
   ·exact Option.isSome_iff_exists.2 ⟨_,zkO⟩
   ·exact Option.isSome_iff_exists.2 ⟨_,zv3⟩⟩⟩
 ·exact ⟨Tryz.t160,_,_,zKF,Tryz.underlying160,rfl,rfl,rfl,rfl,rfl,⟨by simp [zR],fun h=>by cases h⟩,⟨_,rfl,rfl,fun f hf=>by
   simp only [List.mem_cons,List.not_mem_nil,or_false] at hf
   rcases hf with rfl | rfl
   ·exact Option.isSome_iff_exists.2 ⟨_,zH2⟩
   ·exact Option.isSome_iff_exists.2 ⟨_,zkO⟩⟩⟩
 ·exact ⟨Tryz.t171,_,_,zKz,Tryz.underlying171,rfl,rfl,rfl,rfl,rfl,⟨by simp [zR],fun _=>rfl⟩,rfl⟩
 ·exact ⟨Tryz.t182,_,_,zKZ,Tryz.underlying182,rfl,rfl,rfl,rfl,rfl,⟨by simp [zR],fun h=>by cases h⟩,⟨_,rfl,rfl,fun f hf=>by
   simp only [List.mem_cons,List.not_mem_nil,or_false] at hf
   rcases hf with rfl | rfl
   ·exact Option.isSome_iff_exists.2 ⟨_,zv3⟩
   ·exact Option.isSome_iff_exists.2 ⟨_,zEi⟩⟩⟩
 ·exact ⟨Tryz.t207,_,_,zKN,Tryz.underlying207,rfl,rfl,rfl,rfl,rfl,⟨by simp [zR],fun _=>rfl⟩,rfl⟩
 ·exact ⟨Tryz.t210,_,_,zKB,Tryz.underlying210,rfl,rfl,rfl,rfl,rfl,⟨by simp [zR],fun h=>by cases h⟩,⟨_,rfl,rfl,fun f hf=>by
   simp only [List.mem_cons,List.not_mem_nil,or_false] at hf
   rcases hf with rfl | rfl
   ·exact Option.isSome_iff_exists.2 ⟨_,zEA⟩
   ·exact Option.isSome_iff_exists.2 ⟨_,zEi⟩⟩⟩
 ·exact ⟨Tryz.t232,_,_,zKy,Tryz.underlying232,rfl,rfl,rfl,rfl,rfl,⟨by simp [zR],fun _=>rfl⟩,rfl⟩
theorem zJ7:∀ T us vs b,(match zBF.lookup T with | some ts=>zP ts us vs | none=>none)=some b→∀ w,zIf Tryz.prog T us vs b w:=by
 intro T us vs b h w
 split at h
 ·rename_i ts hl
  have hl:=zuv _ _ _ hl
  simp only [zBF,List.mem_cons,List.not_mem_nil,or_false,Prod.mk.injEq] at hl
  rcases hl with ⟨rfl,rfl⟩ | ⟨rfl,rfl⟩ | ⟨rfl,rfl⟩
  ·refine zzx _ _ Tryz.underlying67 (by kernel_rfl) (by kernel_rfl) rfl ?_ h w
   intro j f t hj ht
   rcases j with _ | j
   ·simp at hj ht; subst hj ht; exact ⟨rfl,by decide,_,Tryz.underlying9,rfl⟩
   rcases j with _ | j
   ·simp at hj ht; subst hj ht; exact ⟨rfl,by decide,_,Tryz.underlying3,rfl⟩
   simp at hj
  ·refine zzx _ _ Tryz.underlying40 (by kernel_rfl) (by kernel_rfl) rfl ?_ h w
   intro j f t hj ht
   rcases j with _ | j
   ·simp at hj ht; subst hj ht; exact ⟨rfl,by decide,_,Tryz.underlying3,rfl⟩
   rcases j with _ | j
   ·simp at hj ht; subst hj ht; exact ⟨rfl,by decide,_,Tryz.underlying2,rfl⟩
   rcases j with _ | j
   ·simp at hj ht; subst hj ht; exact ⟨rfl,by decide,_,Tryz.underlying9,rfl⟩
   simp at hj
  ·refine zzx _ _ Tryz.underlying155 (by kernel_rfl) (by kernel_rfl) rfl ?_ h w
   intro j f t hj ht
   rcases j with _ | j
   ·simp at hj ht; subst hj ht; exact ⟨rfl,by decide,_,Tryz.underlying3,rfl⟩
   rcases j with _ | j
   ·simp at hj ht; subst hj ht; exact ⟨rfl,by decide,_,Tryz.underlying3,rfl⟩
   simp at hj
 ·cases h
theorem zJ8:∀ T us vs,base.eqs T us us=some true→base.eqs T vs vs=some true→base.eqs T us vs=some (zlb us vs)∧(zlb us vs=true→us=vs)∧∀ u∈us,∀ n,Instr.sameBits n u u=true:=by
 intro T us vs h1 h2
 simp only [base] at h1 h2 ⊢
 cases hl:zBF.lookup T with
 | none=>rw [hl] at h1; cases h1
 | some ts=>rw [hl] at h1 h2; exact zEh ts us vs h1 h2
theorem zKf:∀ T us b,base.eqs T us us=some b→b=true:=by
 intro T us b h
 simp only [base] at h
 cases hl:zBF.lookup T with
 | none=>rw [hl] at h; cases h
 | some ts=>rw [hl] at h; exact zCV ts us b h
theorem zn:CxOK Tryz.prog base:=⟨zKt,fun T x=>by rw [show szOf base T=_ from (zGb zEe zF2 rfl T).symm]; exact DT.len _ x,fun T x c h=>by have:=DT.cell _ _ c h; revert this; cases c <;>exact id,fun T cs x h F w us hr=>DT.ok _ base F w us cs x h hr,zJ7,zJ8,zKf,zIj⟩
def base0:Cx ty:={ base with dr:=false }
theorem zs3:CxOK Tryz.prog base0:=CxOK.cg (cx:=base) (cx':=base0) ⟨rfl,rfl,rfl,rfl,rfl,rfl⟩ zn
theorem zH:Tryz.prog.follows .mixedOrders=true:=by kernel_rfl
end Go.Proofs.YtddkaehkimnklaaGreatDoor
/- What is read of an argument, as typed data. -/
namespace Go.Proofs.YtddkaehkimnklaaGreatDoor
open Go Go.Ab
def wf2 (x:Int):Prop:=(Lit.int .i64 x).wf=true
def wf3 (x:Int):Prop:=(Lit.int .i64 x).wf=true
def wf4 (x:Bool):Prop:=True
def wf5 (x:Int):Prop:=(Lit.int .u8 x).wf=true
def wf9 (x:ByteArray):Prop:=ByteArray.size x≤roomLen
def wf67 (x:Column):Prop:=wf9 x.Name∧wf3 x.Type_
def wf22 (x:List Column):Prop:=(∀ y∈x,wf67 y)∧List.length x≤roomLen
def wf40 (x:Value):Prop:=wf3 x.Kind∧wf2 x.Int∧wf9 x.Text
def wf34 (x:List Value):Prop:=(∀ y∈x,wf40 y)∧List.length x≤roomLen
def zIQ (x:RowID):Prop:=wf3 x.Table∧wf3 x.Seq
mutual
def zwH:Atom→Prop
 | ⟨k,r,a,f,i,o,b⟩=>wf3 k∧zIQ r∧(zrA a∧a.length≤roomLen)∧wf3 f∧(zow i∧i.length≤roomLen)∧wf3 o∧wf40 b
def zof:Factor→Prop
 | ⟨a,e⟩=>zwH a∧wf3 e
def zke:List Factor→Prop
 | []=>True
 | x::r=>zof x∧zke r
def zto:Term→Prop
 | ⟨c,f⟩=>wf2 c∧(zke f∧f.length≤roomLen)
def zkN:List Term→Prop
 | []=>True
 | x::r=>zto x∧zkN r
def zrA:List (List Term)→Prop
 | []=>True
 | x::r=>(zkN x∧x.length≤roomLen)∧zrA r
def zy6:Weighted→Prop
 | ⟨v,a⟩=>wf40 v∧(zkN a∧a.length≤roomLen)
def zow:List Weighted→Prop
 | []=>True
 | x::r=>zy6 x∧zow r
end
theorem zBM:∀ l:List Factor,(∀ x∈l,zof x)→zke l
 | [],_=>by unfold zke; trivial
 | x::r,h=>by unfold zke; exact ⟨h x (by simp),zBM r fun y hy=>h y (by simp [hy])⟩
theorem zGX:∀ l:List Term,(∀ x∈l,zto x)→zkN l
 | [],_=>by unfold zkN; trivial
 | x::r,h=>by unfold zkN; exact ⟨h x (by simp),zGX r fun y hy=>h y (by simp [hy])⟩
theorem zFi:∀ l:List (List Term),(∀ x∈l,zkN x∧x.length≤roomLen)→zrA l
 | [],_=>by unfold zrA; trivial
 | x::r,h=>by unfold zrA; exact ⟨h x (by simp),zFi r fun y hy=>h y (by simp [hy])⟩
theorem zDK:∀ l:List Weighted,(∀ x∈l,zy6 x)→zow l
 | [],_=>by unfold zow; trivial
 | x::r,h=>by unfold zow; exact ⟨h x (by simp),zDK r fun y hy=>h y (by simp [hy])⟩
def wf36 (x:List Term):Prop:=zkN x∧List.length x≤roomLen
def zLM (x:List (List Term)):Prop:=zrA x∧List.length x≤roomLen
def zLI (x:List Factor):Prop:=zke x∧List.length x≤roomLen
def zLE (x:Term):Prop:=zto x
def zLH (x:List Weighted):Prop:=zow x∧List.length x≤roomLen
def zLO (x:Atom):Prop:=zwH x
def zLQ (x:Factor):Prop:=zof x
def zLP (x:Weighted):Prop:=zy6 x
def wf38 (x:Row):Prop:=wf34 x.Values∧wf36 x.Ann
def wf23 (x:List Row):Prop:=(∀ y∈x,wf38 y)∧List.length x≤roomLen
def wf25 (x:Table):Prop:=wf3 x.ID∧wf9 x.Name∧wf22 x.Columns∧wf23 x.Rows
def wf43 (x:ColumnStats):Prop:=wf3 x.Distinct∧wf40 x.Min∧wf40 x.Max∧wf34 x.Bounds
def wf28 (x:List ColumnStats):Prop:=(∀ y∈x,wf43 y)∧List.length x≤roomLen
def wf30 (x:Stats):Prop:=wf3 x.Table∧wf3 x.Rows∧wf28 x.Columns
mutual
def zGB:Scalar→Prop
 | ⟨k,c,v,o,a⟩=>wf3 k∧wf3 c∧wf40 v∧wf3 o∧(zBo a∧a.length≤roomLen)
def zBo:List Scalar→Prop
 | []=>True
 | x::r=>zGB x∧zBo r
end
def wf45 (x:List Scalar):Prop:=zBo x∧List.length x≤roomLen
def wf47 (x:Scalar):Prop:=zGB x
def wf53 (x:List Int):Prop:=(∀ y∈x,wf3 y)∧List.length x≤roomLen
def wf (T:Nat):ty T→Prop:=match T with
 | 2=>wf2
 | 3=>wf3
 | 4=>wf4
 | 5=>wf5
 | 9=>wf9
 | 22=>wf22
 | 23=>wf23
 | 25=>wf25
 | 28=>wf28
 | 30=>wf30
 | 34=>wf34
 | 36=>wf36
 | 38=>wf38
 | 40=>wf40
 | 43=>wf43
 | 45=>wf45
 | 47=>wf47
 | 53=>wf53
 | 67=>wf67
 | 140=>zLM
 | 150=>zLI
 | 152=>zLE
 | 155=>zIQ
 | 156=>zLH
 | 158=>zLO
 | 160=>zLQ
 | 182=>zLP
 | _=>fun _=>True
theorem zJk:zhW Tryz.prog base wf 2:=zE6 Tryz.underlying2 (fun n=>n) (fun _=>rfl) (fun _ h=>h)
theorem zru:zhW Tryz.prog base wf 3:=zE6 Tryz.underlying3 (fun n=>n) (fun _=>rfl) (fun _ h=>h)
theorem zGE:zhW Tryz.prog base wf 9:=zIW Tryz.underlying9 (fun n=>n) (fun _=>rfl) (fun _ h=>h)
theorem zKK:zhW Tryz.prog base wf 67:=by
 intro H en w sp held fuel cs y h hz
 obtain ⟨xs,n,_,hy,hl,hlen,hf⟩:=DataW.trod_struct Tryz.underlying67 h
 have hs:=zfJ Tryz.underlying67 hy hz
 obtain ⟨x0,h0,w0⟩:=zen (off:=0) zGE (by kernel_rfl) hlen hf hs 0 _ rfl rfl rfl
 obtain ⟨x1,h1,w1⟩:=zen (off:=1) zru (by kernel_rfl) hlen hf hs 1 _ rfl rfl rfl
 have hl:cs.length=2:=hl.trans (by kernel_rfl)
 have:=zc9 h0 (zmb h1 hl)
 exact ⟨(⟨x0,x1⟩:Column),this,⟨w0,w1⟩⟩
theorem zKW:zhW Tryz.prog base wf 22:=zx0 zn Tryz.underlying22 (by kernel_rfl) (by decide) (fun l=>l) (fun _=>rfl) (of_decide_eq_true (by kernel_rfl)) zKK (fun _ h h2=>⟨h,h2⟩)
theorem zEM:zhW Tryz.prog base wf 40:=by
 intro H en w sp held fuel cs y h hz
 obtain ⟨xs,n,_,hy,hl,hlen,hf⟩:=DataW.trod_struct Tryz.underlying40 h
 have hs:=zfJ Tryz.underlying40 hy hz
 obtain ⟨x0,h0,w0⟩:=zen (off:=0) zru (by kernel_rfl) hlen hf hs 0 _ rfl rfl rfl
 obtain ⟨x1,h1,w1⟩:=zen (off:=1) zJk (by kernel_rfl) hlen hf hs 1 _ rfl rfl rfl
 obtain ⟨x2,h2,w2⟩:=zen (off:=2) zGE (by kernel_rfl) hlen hf hs 2 _ rfl rfl rfl
 have hl:cs.length=3:=hl.trans (by kernel_rfl)
 have:=zc9 h0 (zc9 h1 (zmb h2 hl))
 exact ⟨(⟨x0,x1,x2⟩:Value),this,⟨w0,w1,w2⟩⟩
theorem zKY:zhW Tryz.prog base wf 34:=zx0 zn Tryz.underlying34 (by kernel_rfl) (by decide) (fun l=>l) (fun _=>rfl) (of_decide_eq_true (by kernel_rfl)) zEM (fun _ h h2=>⟨h,h2⟩)
theorem zJO:zhW Tryz.prog base wf 155:=by
 intro H en w sp held fuel cs y h hz
 obtain ⟨xs,n,_,hy,hl,hlen,hf⟩:=DataW.trod_struct Tryz.underlying155 h
 have hs:=zfJ Tryz.underlying155 hy hz
 obtain ⟨x0,h0,w0⟩:=zen (off:=0) zru (by kernel_rfl) hlen hf hs 0 _ rfl rfl rfl
 obtain ⟨x1,h1,w1⟩:=zen (off:=1) zru (by kernel_rfl) hlen hf hs 1 _ rfl rfl rfl
 have hl:cs.length=2:=hl.trans (by kernel_rfl)
 have:=zc9 h0 (zmb h1 hl)
 exact ⟨(⟨x0,x1⟩:RowID),this,⟨w0,w1⟩⟩
theorem zGY:∀ m,zkm Tryz.prog base wf m 36∧zkm Tryz.prog base wf m 140∧zkm Tryz.prog base wf m 150∧zkm Tryz.prog base wf m 152∧zkm Tryz.prog base wf m 156∧zkm Tryz.prog base wf m 158∧zkm Tryz.prog base wf m 160∧zkm Tryz.prog base wf m 182
 | 0=>⟨zjm,zjm,zjm,zjm,zjm,zjm,zjm,zjm⟩
 | m+1=>by
  obtain ⟨h36,h140,h150,h152,h156,h158,h160,h182⟩:=zGY m
  refine ⟨?_, ?_, ?_, ?_, ?_, ?_, ?_, ?_⟩
  ·exact zoi zn Tryz.underlying36 (by kernel_rfl) (by decide) (fun l=>l) (fun _=>rfl) (of_decide_eq_true (by kernel_rfl)) h152 (fun l h h2=>⟨zGX l h,h2⟩)
  ·exact zoi zn Tryz.underlying140 (by kernel_rfl) (by decide) (fun l=>l) (fun _=>rfl) (of_decide_eq_true (by kernel_rfl)) h36 (fun l h h2=>⟨zFi l h,h2⟩)
  ·exact zoi zn Tryz.underlying150 (by kernel_rfl) (by decide) (fun l=>l) (fun _=>rfl) (of_decide_eq_true (by kernel_rfl)) h160 (fun l h h2=>⟨zBM l h,h2⟩)
  ·intro H en w sp held fuel cs y hfu h hz
   obtain ⟨xs,n,hn,hy,hl,hlen,hf⟩:=DataW.trod_struct Tryz.underlying152 h
   have hs:=zfJ Tryz.underlying152 hy hz
   have hn:n≤m:=by omega
   obtain ⟨x0,hx0,w0⟩:=zdJ (off:=0) (zJk.at m) (by kernel_rfl) hn hlen hf hs 0 _ rfl rfl rfl
   obtain ⟨x1,hx1,w1⟩:=zdJ (off:=1) h150 (by kernel_rfl) hn hlen hf hs 1 _ rfl rfl rfl
   have hl:cs.length=2:=hl.trans (by kernel_rfl)
   have:=zc9 hx0 (zmb hx1 hl)
   exact ⟨(⟨x0,x1⟩:Term),this,by show zto (⟨x0,x1⟩:Term); unfold zto; exact ⟨w0,w1⟩⟩
  ·exact zoi zn Tryz.underlying156 (by kernel_rfl) (by decide) (fun l=>l) (fun _=>rfl) (of_decide_eq_true (by kernel_rfl)) h182 (fun l h h2=>⟨zDK l h,h2⟩)
  ·intro H en w sp held fuel cs y hfu h hz
   obtain ⟨xs,n,hn,hy,hl,hlen,hf⟩:=DataW.trod_struct Tryz.underlying158 h
   have hs:=zfJ Tryz.underlying158 hy hz
   have hn:n≤m:=by omega
   obtain ⟨x0,hx0,w0⟩:=zdJ (off:=0) (zru.at m) (by kernel_rfl) hn hlen hf hs 0 _ rfl rfl rfl
   obtain ⟨x1,hx1,w1⟩:=zdJ (off:=1) (zJO.at m) (by kernel_rfl) hn hlen hf hs 1 _ rfl rfl rfl
   obtain ⟨x2,hx2,w2⟩:=zdJ (off:=3) h140 (by kernel_rfl) hn hlen hf hs 2 _ rfl rfl rfl
   obtain ⟨x3,hx3,w3⟩:=zdJ (off:=4) (zru.at m) (by kernel_rfl) hn hlen hf hs 3 _ rfl rfl rfl
   obtain ⟨x4,hx4,w4⟩:=zdJ (off:=5) h156 (by kernel_rfl) hn hlen hf hs 4 _ rfl rfl rfl
   obtain ⟨x5,hx5,w5⟩:=zdJ (off:=6) (zru.at m) (by kernel_rfl) hn hlen hf hs 5 _ rfl rfl rfl
   obtain ⟨x6,hx6,w6⟩:=zdJ (off:=7) (zEM.at m) (by kernel_rfl) hn hlen hf hs 6 _ rfl rfl rfl
   have hl:cs.length=10:=hl.trans (by kernel_rfl)
   have:=zc9 hx0 (zc9 hx1 (zc9 hx2 (zc9 hx3 (zc9 hx4 (zc9 hx5 (zmb hx6 hl))))))
   exact ⟨(⟨x0,x1,x2,x3,x4,x5,x6⟩:Atom),this,by show zwH (⟨x0,x1,x2,x3,x4,x5,x6⟩:Atom); unfold zwH; exact ⟨w0,w1,w2,w3,w4,w5,w6⟩⟩
  ·intro H en w sp held fuel cs y hfu h hz
   obtain ⟨xs,n,hn,hy,hl,hlen,hf⟩:=DataW.trod_struct Tryz.underlying160 h
   have hs:=zfJ Tryz.underlying160 hy hz
   have hn:n≤m:=by omega
   obtain ⟨x0,hx0,w0⟩:=zdJ (off:=0) h158 (by kernel_rfl) hn hlen hf hs 0 _ rfl rfl rfl
   obtain ⟨x1,hx1,w1⟩:=zdJ (off:=10) (zru.at m) (by kernel_rfl) hn hlen hf hs 1 _ rfl rfl rfl
   have hl:cs.length=11:=hl.trans (by kernel_rfl)
   have:=zc9 hx0 (zmb hx1 hl)
   exact ⟨(⟨x0,x1⟩:Factor),this,by show zof (⟨x0,x1⟩:Factor); unfold zof; exact ⟨w0,w1⟩⟩
  ·intro H en w sp held fuel cs y hfu h hz
   obtain ⟨xs,n,hn,hy,hl,hlen,hf⟩:=DataW.trod_struct Tryz.underlying182 h
   have hs:=zfJ Tryz.underlying182 hy hz
   have hn:n≤m:=by omega
   obtain ⟨x0,hx0,w0⟩:=zdJ (off:=0) (zEM.at m) (by kernel_rfl) hn hlen hf hs 0 _ rfl rfl rfl
   obtain ⟨x1,hx1,w1⟩:=zdJ (off:=3) h36 (by kernel_rfl) hn hlen hf hs 1 _ rfl rfl rfl
   have hl:cs.length=4:=hl.trans (by kernel_rfl)
   have:=zc9 hx0 (zmb hx1 hl)
   exact ⟨(⟨x0,x1⟩:Weighted),this,by show zy6 (⟨x0,x1⟩:Weighted); unfold zy6; exact ⟨w0,w1⟩⟩
theorem zKT:zhW Tryz.prog base wf 36:=zJz fun m=>(zGY m).1
theorem zKX:zhW Tryz.prog base wf 38:=by
 intro H en w sp held fuel cs y h hz
 obtain ⟨xs,n,_,hy,hl,hlen,hf⟩:=DataW.trod_struct Tryz.underlying38 h
 have hs:=zfJ Tryz.underlying38 hy hz
 obtain ⟨x0,h0,w0⟩:=zen (off:=0) zKY (by kernel_rfl) hlen hf hs 0 _ rfl rfl rfl
 obtain ⟨x1,h1,w1⟩:=zen (off:=1) zKT (by kernel_rfl) hlen hf hs 1 _ rfl rfl rfl
 have hl:cs.length=2:=hl.trans (by kernel_rfl)
 have:=zc9 h0 (zmb h1 hl)
 exact ⟨(⟨x0,x1⟩:Row),this,⟨w0,w1⟩⟩
theorem zKR:zhW Tryz.prog base wf 23:=zx0 zn Tryz.underlying23 (by kernel_rfl) (by decide) (fun l=>l) (fun _=>rfl) (of_decide_eq_true (by kernel_rfl)) zKX (fun _ h h2=>⟨h,h2⟩)
theorem zK6:zhW Tryz.prog base wf 25:=by
 intro H en w sp held fuel cs y h hz
 obtain ⟨xs,n,_,hy,hl,hlen,hf⟩:=DataW.trod_struct Tryz.underlying25 h
 have hs:=zfJ Tryz.underlying25 hy hz
 obtain ⟨x0,h0,w0⟩:=zen (off:=0) zru (by kernel_rfl) hlen hf hs 0 _ rfl rfl rfl
 obtain ⟨x1,h1,w1⟩:=zen (off:=1) zGE (by kernel_rfl) hlen hf hs 1 _ rfl rfl rfl
 obtain ⟨x2,h2,w2⟩:=zen (off:=2) zKW (by kernel_rfl) hlen hf hs 2 _ rfl rfl rfl
 obtain ⟨x3,h3,w3⟩:=zen (off:=3) zKR (by kernel_rfl) hlen hf hs 3 _ rfl rfl rfl
 have hl:cs.length=4:=hl.trans (by kernel_rfl)
 have:=zc9 h0 (zc9 h1 (zc9 h2 (zmb h3 hl)))
 exact ⟨(⟨x0,x1,x2,x3⟩:Table),this,⟨w0,w1,w2,w3⟩⟩
end Go.Proofs.YtddkaehkimnklaaGreatDoor
/- A world in which the row's condition holds; what the program's rows share. -/
namespace Go.Proofs.YtddkaehkimnklaaGreatDoor
open Go Go.Ab Go.Lib
theorem own:ownKnob Tryz.prog.godebug=none:=by kernel_rfl
theorem zHP:laidOutB Tryz.prog=true:=by kernel_rfl
def zLV:DataW Unit→Go.Value
 | .lit (.int k n)=>.int k n
 | .lit (.bool b)=>.bool b
 | .lit (.string s)=>.string ⟨s.toArray⟩
 | _=>undef
def zJv:Nat→DataW Unit→List Go.Value
 | n+1,.agg ds=>ds.flatMap (zJv n)
 | _,d=>[zLV d]
def cellsOf (d:DataW Unit):Array Go.Value:=(zJv 3 d).toArray
def zEn (h:Array Obj) (g:Nat) (cs:Array Go.Value):Array Obj:=h.modify g fun
 | .cells _ t fr=>.cells cs t fr
 | o=>o
def zE0 (os:Os):World:=
 let w0:=World.holding Tryz.prog os ⟨#[],#[],[]⟩
 { w0 with heap:=zEn (zEn (zEn (zEn (zEn (w0.heap) 4 (cellsOf Rows.laid_math_bits_deBruijn32tab)) 5 (cellsOf Rows.laid_math_bits_deBruijn64tab)) 1 (cellsOf Rows.laid_internal_strconv_uint64pow10)) 3 (cellsOf Rows.laid_unicode_utf8_acceptRanges)) 2 (cellsOf Rows.laid_unicode_utf8_first) }
def zs9:List (String×DataW Unit):=[("math/bits.deBruijn32tab",Rows.laid_math_bits_deBruijn32tab),("math/bits.deBruijn64tab",Rows.laid_math_bits_deBruijn64tab),("internal/strconv.uint64pow10",Rows.laid_internal_strconv_uint64pow10),("unicode/utf8.acceptRanges",Rows.laid_unicode_utf8_acceptRanges),("unicode/utf8.first",Rows.laid_unicode_utf8_first)]
theorem zFJ (os:Os) (args:Array Go.Value):laidMetH Tryz.prog zs9 ((zE0 os).forCall (fun _ _=>0) ⟨#[],args,[]⟩).memory:=
 laidMetH_of_parts (laidMet_of_run3 8 (by kernel_rfl) (by kernel_rfl) (by kernel_rfl)) (by kernel_rfl)
theorem zJd {w:World} (h:laidMetH Tryz.prog zs9 w):laidMet Tryz.prog zs9 w:=by
 unfold laidMetH at h
 rw [show (zs9.filter fun x=>x.2.handleName?.isSome)=[] by kernel_rfl] at h
 exact h
theorem zLB (w:World) (hsh:w.ShapedOpen Tryz.prog) (h:laidMetH Tryz.prog zs9 w):base.inv w∧base.ng≤w.heap.size:=by
 have h:=zJd h
 have h1:TabIs Tryz.prog w "internal/strconv.uint64pow10" .u64 pow10Tab:=
  tabIs_of_head (g:=1) (by kernel_rfl) (by kernel_rfl) Tryz.underlying260 Tryz.underlying139 (by kernel_rfl) (by kernel_rfl) h.tail.tail
 have h4:=cell_of_shapedOpen_int (g:=0) (t:=3) (zero:=#[.int .i64 0]) hsh (of_decide_eq_true (by kernel_rfl)) (by kernel_rfl) rfl (by kernel_rfl) (by kernel_rfl) Tryz.underlying3
 obtain ⟨ps,⟨g',t',cs,fuel,p,q,hg',_,hvar,_⟩,_⟩:=h.tail
 refine ⟨⟨h1,h4⟩, ?_⟩
 unfold World.var? at hvar
 rw [show Tryz.prog.globalNamed "math/bits.deBruijn64tab"=some 5 by kernel_rfl] at hvar
 simp only [Option.bind_some] at hvar
 show 4≤w.heap.size
 cases hh:w.heap[5]? with
 | none=>rw [hh] at hvar; cases hvar
 | some o=>have:=(Array.getElem?_eq_some_iff.1 hh).1; omega
theorem zLA:mapsRowed Tryz.prog=true:=by kernel_rfl
theorem zKu:Tryz.prog.stopsHeard=true:=by kernel_rfl
theorem zKv:Tryz.prog.mayEnter=true:=by kernel_rfl
theorem zLj:Tryz.prog.liftsFinal=false:=by kernel_rfl
theorem zLd:Tryz.prog.make=some Rows.statisticsGatherRow.make:=by kernel_rfl
end Go.Proofs.YtddkaehkimnklaaGreatDoor
namespace Go.Proofs.YtddkaehkimnklaaGreatDoor
open Go Go.Ab
def zDe:Cx ty:=mkCx base 11 [] [] [] [] [] []
def zxd (op:Int) (v:Value):Wy0 (Scalar):=.k (⟨2,0,(⟨0,0,ByteArray.mk #[]⟩:Value),op,[Scalar.mk 1 0 (Value.mk 0 0 (ByteArray.mk #[])) 0 [],Scalar.mk 0 0 v 0 []]⟩:Scalar)
def zAy (op:Int) (v:Value):Bool×Scalar:=(zxd op v).fin default
def zu6 (r:Scalar):ARes ty:=⟨[.pure (.agg (base.enc 47 r))],[]⟩
def zxf:AL base (Int×Value×Unit):=zf (zg (vInt .i64)) (zf (zg (vAgg 40)) aNil)
def ztu:Ab.Spec ty:=zm zxf fun x=>((zAy x.1 x.2.1).1,zu6 (zAy x.1 x.2.1).2)
theorem zA3:Sound Tryz.prog base 21 ztu:=
 zu (cx':=zDe) zH zn zD (zx trivial) Tryz.call21 Tryz.func21 (c:=body Tryz.f21) (by kernel_rfl) (zh (l:=[]) (by kernel_rfl) trivial) (sg:=⟨[.pure],[]⟩) (A:=zxf) (res:=zu6) (W:=fun x=>zxd x.1 x.2.1) (z:=default)
def zDs:Cx ty:=mkCx base 5 [] [] [] [] [] []
def zxD (n_:Int):Wy0 (Value):=.k (⟨0,n_,ByteArray.mk #[]⟩:Value)
def zp2 (n_:Int):Bool×Value:=(zxD n_).fin default
def zuN (r:Value):ARes ty:=⟨[.pure (.agg (base.enc 40 r))],[]⟩
def zxP:AL base (Int×Unit):=zf (zg (vInt .i64)) aNil
def zud:Ab.Spec ty:=zm zxP fun x=>((zp2 x.1).1,zuN (zp2 x.1).2)
theorem zAY:Sound Tryz.prog base 32 zud:=
 zu (cx':=zDs) zH zn zD (zx trivial) Tryz.call32 Tryz.func32 (c:=body Tryz.f32) (by kernel_rfl) (zh (l:=[]) (by kernel_rfl) trivial) (sg:=⟨[.pure],[]⟩) (A:=zxP) (res:=zuN) (W:=fun x=>zxD x.1) (z:=default)
def zFH:Cx ty:=mkCx base 4 [] [] [] [] [] []
def zwK (less:Bool):Wy0 (Int):=.i (less) (.k (-1:Int)) (.k 1)
def zmi (less:Bool):Bool×Int:=(zwK less).fin default
def zzd (r:Int):ARes ty:=⟨[.pure (.lit (.int .i64 r))],[]⟩
def zBy:AL base (Bool×Unit):=zf (zg zLT) aNil
def zrx:Ab.Spec ty:=zm zBy fun x=>((zmi x.1).1,zzd (zmi x.1).2)
theorem zwL:Sound Tryz.prog base 44 zrx:=
 zu (cx':=zFH) zH zn zD (zx trivial) Tryz.call44 Tryz.func44 (c:=body Tryz.f44) (by kernel_rfl) (zh (l:=[]) (by kernel_rfl) trivial) (sg:=⟨[.pure],[]⟩) (A:=zBy) (res:=zzd) (W:=fun x=>zwK x.1) (z:=default)
def zDc:Cx ty:=mkCx base 38 [(44,zrx)] [] [] [] [] []
def zrz (a:Value) (b:Value):Wy0 (Int):=.i (a.Kind != b.Kind) (.bn (zmi (decide (a.Kind<b.Kind))) fun r0=>.k r0) (.i (a.Int != b.Int) (.bn (zmi (decide (a.Int<b.Int))) fun r1=>.k r1) (.i (!a.Text.toList==b.Text.toList) (.bn (zmi (Op.bytesLess a.Text.toList b.Text.toList)) fun r2=>.k r2) (.k 0)))
def ziK (a:Value) (b:Value):Bool×Int:=(zrz a b).fin default
def zuV (r:Int):ARes ty:=⟨[.pure (.lit (.int .i64 r))],[]⟩
def zxC:AL base (Value×Value×Unit):=zf (zg (vAgg 40)) (zf (zg (vAgg 40)) aNil)
def zn1:Ab.Spec ty:=zm zxC fun x=>((ziK x.1 x.2.1).1,zuV (ziK x.1 x.2.1).2)
theorem zsG:Sound Tryz.prog base 16 zn1:=
 zu (cx':=zDc) zH zn zD (zx ⟨zwL,trivial⟩) Tryz.call16 Tryz.func16 (c:=body Tryz.f16) (by kernel_rfl) (zh (l:=[]) (by kernel_rfl) trivial) (sg:=⟨[.pure],[]⟩) (A:=zxC) (res:=zuV) (W:=fun x=>zrz x.1 x.2.1) (z:=default)
abbrev ttTref01CompareRowsx0:=List Value×List Value×Int×Unit
abbrev ttTref01CompareRowsx1:=Int⊕(List Value×List Value)
def zl1 (a:List Value) (b:List Value) (i:Int):Wy ttTref01CompareRowsx0 (Unit) ttTref01CompareRowsx1:=.i (decide (i<Int.ofNat a.length)) (.i (decide (i<Int.ofNat b.length)) (.i (decide (0≤i)&&decide (i<Int.ofNat a.length)) (.i (decide (0≤i)&&decide (i<Int.ofNat b.length)) (.bn (ziK (a.getD i.toNat default) (b.getD i.toNat default)) fun r0=>.i (r0 != 0) (.k (.inl (r0))) (.h (a,b,(IntKind.i64.wrap (i+1)),()) ())) .d) .d) (.k (.inr (a,b)))) (.k (.inr (a,b)))
def zl6 (x:ttTref01CompareRowsx0) (y:Unit):Wy ttTref01CompareRowsx0 (Unit) ttTref01CompareRowsx1:=zl1 x.1 x.2.1 x.2.2.1
def zl0 (n:Nat) (a:List Value) (b:List Value) (i:Int):Bool×ttTref01CompareRowsx1:=zN (zl6) (.inl default) n (a,b,i,()) ()
def zqU (r:ttTref01CompareRowsx1):LTree ty:=.ite (isL r) (.done .ret [.lit (.int .i64 (getL r))] []) (.done (.exit 0) [.sl 40 (getR r).1,.sl 40 (getR r).2] [])
def zrU:LL ty ttTref01CompareRowsx0:=za (lSl 40) (za (lSl 40) (za (lInt .i64) zG))
def zrG:BL ty (Unit):=bNil
def zqn (x:ttTref01CompareRowsx0) (y:Unit):Nat:=(x.1.length+x.2.1.length+Int.toNat x.2.2.1+1)
def zrP:Cx ty:=mkCx base 42 [(16,zn1),(44,zrx)] [] [(2,[(0,.keep),(1,.keep),(5,.keep)])] [(2,1,[(0,.keep),(1,.keep)]),(2,0,[(4,.keep)])] [(2,spW zrU zrG (zl6) (.inl default) zqU zqn)] []
theorem zyI:zS zrP (lp (body Tryz.f65) 0):=zL (id:=2) (V:=zrU) (B:=zrG) (W:=zl6) (z:=.inl default) (tr:=zqU) (m:=zqn)
def zmS (a:List Value) (b:List Value):Wy0 (Int):=.bn (zl0 (a.length+b.length+Int.toNat 0+1) a b 0) fun r3=>.i (isL r3) (.k (getL r3)) (.i (Int.ofNat (getR r3).1.length==Int.ofNat (getR r3).2.length) (.k 0) (.bn (zmi (decide (Int.ofNat (getR r3).1.length<Int.ofNat (getR r3).2.length))) fun r2=>.k r2))
def zkM (a:List Value) (b:List Value):Bool×Int:=(zmS a b).fin default
def zqO (r:Int):ARes ty:=⟨[.pure (.lit (.int .i64 r))],[]⟩
def zsJ:AL base (List Value×List Value×Unit):=zf (zg (vSl 40)) (zf (zg (vSl 40)) aNil)
def zpX:Ab.Spec ty:=zm zsJ fun x=>((zkM x.1 x.2.1).1,zqO (zkM x.1 x.2.1).2)
theorem zxb:Sound Tryz.prog base 65 zpX:=
 zu (cx':=zrP) zH zn zD (zx ⟨zsG,zwL,trivial⟩) Tryz.call65 Tryz.func65 (c:=body Tryz.f65) (by kernel_rfl) (zh (l:=[lp (body Tryz.f65) 0]) (by kernel_rfl) ⟨zyI,trivial⟩) (sg:=⟨[.pure],[]⟩) (A:=zsJ) (res:=zqO) (W:=fun x=>zmS x.1 x.2.1) (z:=default)
def zFK:Cx ty:=mkCx base 9 [(65,zpX)] [] [] [] [] []
def zwA (a:List Value) (b:List Value):Wy0 (Bool):=.bn (zkM a b) fun r0=>.k (r0==0)
def zsa (a:List Value) (b:List Value):Bool×Bool:=(zwA a b).fin default
def zzo (r:Bool):ARes ty:=⟨[.pure (.lit (.bool r))],[]⟩
def zB8:AL base (List Value×List Value×Unit):=zf (zg (vSl 40)) (zf (zg (vSl 40)) aNil)
def zr8:Ab.Spec ty:=zm zB8 fun x=>((zsa x.1 x.2.1).1,zzo (zsa x.1 x.2.1).2)
theorem zvK:Sound Tryz.prog base 33 zr8:=
 zu (cx':=zFK) zH zn zD (zx ⟨zxb,trivial⟩) Tryz.call33 Tryz.func33 (c:=body Tryz.f33) (by kernel_rfl) (zh (l:=[]) (by kernel_rfl) trivial) (sg:=⟨[.pure],[]⟩) (A:=zB8) (res:=zzo) (W:=fun x=>zwA x.1 x.2.1) (z:=default)
end Go.Proofs.YtddkaehkimnklaaGreatDoor
/-
 DERIVED:THE SHELF's CONTRACTS AT THIS DUMP,IN PLAIN WORDS (tools/lay-plain.mjs out of 'TryzShelf.lean',which tools/lay-shelf.mjs wrote):THE SAME DECLARATIONS UNDER THE SAME NAMES:'import','namespace','open','def','theorem' AND NOTHING ELSE:no command of the shelf's:FOR A HAND-IN. Each laying:the table of numbers ('.._ren') and one theorem,a field a fact of the dump's own or the kernel's comparison; each contract:ONE APPLICATION.
-/
namespace Go.Proofs
open Go.Shelf
def Tryz.sortVal_ren:Go.Shelf.Ren:=⟨fun | 6=>78 | 15=>120 | 14=>119 | 28=>181 | 29=>182 | 20=>173 | 21=>174 | 22=>175 | 23=>176 | 24=>177 | 25=>178 | 26=>179 | 27=>180 | 46=>212 | 47=>213 | 48=>214 | 49=>215 | 50=>216 | 57=>247 | n=>n,fun | 22=>34 | 24=>40 | 25=>41 | 3=>3 | 39=>171 | 0=>0 | 53=>229 | 55=>139 | 4=>4 | 46=>223 | 45=>222 | 50=>218 | 5=>5 | 9=>9 | 66=>254 | 70=>258 | 76=>276 | 77=>277 | n=>n,fun | n=>n⟩
theorem Tryz.sortVal:Go.Proofs.SlLaysF0.n6 Tryz.prog Tryz.sortVal_ren:={
 mixed:=by kernel_rfl
 f6:=⟨Tryz.f78.name,by decide,Tryz.func78.trans (congrArg some (by kernel_rfl))⟩
 f14:=⟨Tryz.f119.name,by decide,Tryz.func119.trans (congrArg some (by kernel_rfl))⟩
 f15:=Tryz.func120.trans (congrArg some (by kernel_rfl))
 f20:=⟨Tryz.f173.name,by decide,Tryz.func173.trans (congrArg some (by kernel_rfl))⟩
 f21:=⟨Tryz.f174.name,by decide,Tryz.func174.trans (congrArg some (by kernel_rfl))⟩
 f22:=⟨Tryz.f175.name,by decide,Tryz.func175.trans (congrArg some (by kernel_rfl))⟩
 f23:=⟨Tryz.f176.name,by decide,Tryz.func176.trans (congrArg some (by kernel_rfl))⟩
 f24:=⟨Tryz.f177.name,by decide,Tryz.func177.trans (congrArg some (by kernel_rfl))⟩
 f25:=⟨Tryz.f178.name,by decide,Tryz.func178.trans (congrArg some (by kernel_rfl))⟩
 f26:=⟨Tryz.f179.name,by decide,Tryz.func179.trans (congrArg some (by kernel_rfl))⟩
 f27:=⟨Tryz.f180.name,by decide,Tryz.func180.trans (congrArg some (by kernel_rfl))⟩
 f28:=Tryz.func181.trans (congrArg some (by kernel_rfl))
 f29:=Tryz.func182.trans (congrArg some (by kernel_rfl))
 f46:=⟨Tryz.f212.name,by decide,Tryz.func212.trans (congrArg some (by kernel_rfl))⟩
 f47:=Tryz.func213.trans (congrArg some (by kernel_rfl))
 f48:=Tryz.func214.trans (congrArg some (by kernel_rfl))
 f49:=⟨Tryz.f215.name,by decide,Tryz.func215.trans (congrArg some (by kernel_rfl))⟩
 f50:=⟨Tryz.f216.name,by decide,Tryz.func216.trans (congrArg some (by kernel_rfl))⟩
 f57:=⟨Tryz.f247.name,by decide,Tryz.func247.trans (congrArg some (by kernel_rfl))⟩
 t0:=Tryz.underlying0
 a0:=Tryz.isAgg0
 z0:=Tryz.sizeOf0
 v0:=Tryz.zeroValue0
 t3:=Tryz.underlying3
 a3:=Tryz.isAgg3
 z3:=Tryz.sizeOf3
 v3:=Tryz.zeroValue3
 t4:=Tryz.underlying4
 a4:=Tryz.isAgg4
 z4:=Tryz.sizeOf4
 v4:=Tryz.zeroValue4
 t5:=Tryz.underlying5
 a5:=Tryz.isAgg5
 z5:=Tryz.sizeOf5
 v5:=Tryz.zeroValue5
 t9:=Tryz.underlying9
 a9:=Tryz.isAgg9
 z9:=Tryz.sizeOf9
 v9:=Tryz.zeroValue9
 t22:=Tryz.underlying34
 a22:=Tryz.isAgg34
 z22:=Tryz.sizeOf34
 v22:=Tryz.zeroValue34
 t25:=Tryz.underlying41
 a25:=Tryz.isAgg41
 z25:=Tryz.sizeOf41
 v25:=Tryz.zeroValue41
 t39:=Tryz.underlying171
 a39:=Tryz.isAgg171
 z39:=Tryz.sizeOf171
 v39:=Tryz.zeroValue171
 t45:=Tryz.underlying222
 a45:=Tryz.isAgg222
 z45:=Tryz.sizeOf222
 v45:=Tryz.zeroValue222
 t46:=Tryz.underlying223
 a46:=Tryz.isAgg223
 z46:=Tryz.sizeOf223
 v46:=Tryz.zeroValue223
 t50:=Tryz.underlying218
 a50:=Tryz.isAgg218
 z50:=Tryz.sizeOf218
 v50:=Tryz.zeroValue218
 t53:=Tryz.underlying229
 a53:=Tryz.isAgg229
 z53:=Tryz.sizeOf229
 v53:=Tryz.zeroValue229
 t55:=Tryz.underlying139
 a55:=Tryz.isAgg139
 z55:=Tryz.sizeOf139
 v55:=Tryz.zeroValue139
 t66:=Tryz.underlying254
 a66:=Tryz.isAgg254
 z66:=Tryz.sizeOf254
 v66:=Tryz.zeroValue254
 t70:=Tryz.underlying258
 a70:=Tryz.isAgg258
 z70:=Tryz.sizeOf258
 v70:=Tryz.zeroValue258
 t76:=Tryz.underlying276
 a76:=Tryz.isAgg276
 z76:=Tryz.sizeOf276
 v76:=Tryz.zeroValue276
 t77:=Tryz.underlying277
 a77:=Tryz.isAgg277
 z77:=Tryz.sizeOf277
 v77:=Tryz.zeroValue277 }
def Tryz.insR_ren:Go.Shelf.Ren:=⟨fun | 20=>159 | n=>n,fun | 24=>38 | 22=>23 | 3=>3 | 25=>110 | 4=>4 | 0=>0 | n=>n,fun | n=>n⟩
theorem Tryz.insR:Go.Proofs.SlLaysF0.n20 Tryz.prog Tryz.insR_ren:={
 mixed:=by kernel_rfl
 f20:=⟨Tryz.f159.name,by decide,Tryz.func159.trans (congrArg some (by kernel_rfl))⟩
 t0:=Tryz.underlying0
 a0:=Tryz.isAgg0
 z0:=Tryz.sizeOf0
 v0:=Tryz.zeroValue0
 t3:=Tryz.underlying3
 a3:=Tryz.isAgg3
 z3:=Tryz.sizeOf3
 v3:=Tryz.zeroValue3
 t4:=Tryz.underlying4
 a4:=Tryz.isAgg4
 z4:=Tryz.sizeOf4
 v4:=Tryz.zeroValue4
 t22:=Tryz.underlying23
 a22:=Tryz.isAgg23
 z22:=Tryz.sizeOf23
 v22:=Tryz.zeroValue23
 t25:=Tryz.underlying110
 a25:=Tryz.isAgg110
 z25:=Tryz.sizeOf110
 v25:=Tryz.zeroValue110 }
def Tryz.lays106_ren:Go.Shelf.Ren:=⟨fun | 106=>124 | 213=>185 | 265=>217 | n=>n,fun | 9=>9 | 3=>3 | n=>n,fun | n=>n⟩
theorem Tryz.lays106:Go.Proofs.Lays.n106 Tryz.prog Tryz.lays106_ren:={
 mixed:=by kernel_rfl
 f106:=Tryz.func124.trans (congrArg some (by kernel_rfl))
 f213:=Tryz.func185.trans (congrArg some (by kernel_rfl))
 f265:=Tryz.func217.trans (congrArg some (by kernel_rfl))
 t3:=Tryz.underlying3
 a3:=Tryz.isAgg3
 z3:=Tryz.sizeOf3
 v3:=Tryz.zeroValue3
 t9:=Tryz.underlying9
 a9:=Tryz.isAgg9
 z9:=Tryz.sizeOf9
 v9:=Tryz.zeroValue9 }
def Tryz.laysM173_ren:Go.Shelf.Ren:=⟨fun | 173=>94 | 246=>129 | 283=>186 | 284=>187 | 285=>188 | 286=>189 | 129=>182 | 317=>218 | 318=>219 | 319=>220 | 320=>221 | 337=>248 | 338=>249 | n=>n,fun | 2=>2 | 3=>3 | 9=>9 | 4=>4 | 171=>233 | 0=>0 | 53=>139 | 37=>129 | 5=>5 | 173=>235 | 212=>260 | 51=>229 | 20=>20 | 213=>261 | 46=>171 | 232=>289 | 233=>290 | n=>n,fun | 17=>1 | 18=>4 | 19=>5 | n=>n⟩
theorem Tryz.laysM173:Go.Proofs.LaysM.n173 Tryz.prog Tryz.laysM173_ren:={
 mixed:=by kernel_rfl
 f129:=Tryz.func182.trans (congrArg some (by kernel_rfl))
 f173:=Tryz.func94.trans (congrArg some (by kernel_rfl))
 f246:=Tryz.func129.trans (congrArg some (by kernel_rfl))
 f283:=Tryz.func186.trans (congrArg some (by kernel_rfl))
 f284:=Tryz.func187.trans (congrArg some (by kernel_rfl))
 f285:=Tryz.func188.trans (congrArg some (by kernel_rfl))
 f286:=Tryz.func189.trans (congrArg some (by kernel_rfl))
 f317:=Tryz.func218.trans (congrArg some (by kernel_rfl))
 f318:=Tryz.func219.trans (congrArg some (by kernel_rfl))
 f319:=Tryz.func220.trans (congrArg some (by kernel_rfl))
 f320:=Tryz.func221.trans (congrArg some (by kernel_rfl))
 f337:=Tryz.func248.trans (congrArg some (by kernel_rfl))
 f338:=Tryz.func249.trans (congrArg some (by kernel_rfl))
 t0:=Tryz.underlying0
 a0:=Tryz.isAgg0
 z0:=Tryz.sizeOf0
 v0:=Tryz.zeroValue0
 t2:=Tryz.underlying2
 a2:=Tryz.isAgg2
 z2:=Tryz.sizeOf2
 v2:=Tryz.zeroValue2
 t3:=Tryz.underlying3
 a3:=Tryz.isAgg3
 z3:=Tryz.sizeOf3
 v3:=Tryz.zeroValue3
 t4:=Tryz.underlying4
 a4:=Tryz.isAgg4
 z4:=Tryz.sizeOf4
 v4:=Tryz.zeroValue4
 t5:=Tryz.underlying5
 a5:=Tryz.isAgg5
 z5:=Tryz.sizeOf5
 v5:=Tryz.zeroValue5
 t9:=Tryz.underlying9
 a9:=Tryz.isAgg9
 z9:=Tryz.sizeOf9
 v9:=Tryz.zeroValue9
 t20:=Tryz.underlying20
 a20:=Tryz.isAgg20
 z20:=Tryz.sizeOf20
 v20:=Tryz.zeroValue20
 t37:=Tryz.underlying129
 a37:=Tryz.isAgg129
 z37:=Tryz.sizeOf129
 v37:=Tryz.zeroValue129
 t46:=Tryz.underlying171
 a46:=Tryz.isAgg171
 z46:=Tryz.sizeOf171
 v46:=Tryz.zeroValue171
 t51:=Tryz.underlying229
 a51:=Tryz.isAgg229
 z51:=Tryz.sizeOf229
 v51:=Tryz.zeroValue229
 t53:=Tryz.underlying139
 a53:=Tryz.isAgg139
 z53:=Tryz.sizeOf139
 v53:=Tryz.zeroValue139
 t171:=Tryz.underlying233
 a171:=Tryz.isAgg233
 z171:=Tryz.sizeOf233
 v171:=Tryz.zeroValue233
 t173:=Tryz.underlying235
 a173:=Tryz.isAgg235
 z173:=Tryz.sizeOf235
 v173:=Tryz.zeroValue235
 t212:=Tryz.underlying260
 a212:=Tryz.isAgg260
 z212:=Tryz.sizeOf260
 v212:=Tryz.zeroValue260
 t213:=Tryz.underlying261
 a213:=Tryz.isAgg261
 z213:=Tryz.sizeOf261
 t232:=Tryz.underlying289
 a232:=Tryz.isAgg289
 z232:=Tryz.sizeOf289
 v232:=Tryz.zeroValue289
 t233:=Tryz.underlying290
 a233:=Tryz.isAgg290
 z233:=Tryz.sizeOf290
 v233:=Tryz.zeroValue290
 g17:=by kernel_rfl
 g18:=by kernel_rfl
 g19:=by kernel_rfl
 i0:=by kernel_rfl
 i2:=by kernel_rfl
 i3:=by kernel_rfl
 i4:=by kernel_rfl
 i5:=by kernel_rfl
 i9:=by kernel_rfl
 i20:=by kernel_rfl
 i37:=by kernel_rfl
 i46:=by kernel_rfl
 i51:=by kernel_rfl
 i53:=by kernel_rfl
 i171:=by kernel_rfl
 i173:=by kernel_rfl
 i212:=by kernel_rfl
 i232:=by kernel_rfl
 i233:=by kernel_rfl
 m17:=by kernel_rfl
 m18:=by kernel_rfl
 m19:=by kernel_rfl }
def Tryz.laysM171_ren:Go.Shelf.Ren:=⟨fun | 171=>52 | 243=>93 | 246=>129 | 283=>186 | 284=>187 | 285=>188 | 286=>189 | 129=>182 | 317=>218 | 318=>219 | 319=>220 | 320=>221 | 337=>248 | 338=>249 | n=>n,fun | 3=>3 | 9=>9 | 2=>2 | 4=>4 | 171=>233 | 0=>0 | 53=>139 | 37=>129 | 5=>5 | 173=>235 | 212=>260 | 51=>229 | 20=>20 | 213=>261 | 46=>171 | 232=>289 | 233=>290 | n=>n,fun | 17=>1 | 18=>4 | 19=>5 | n=>n⟩
theorem Tryz.laysM171:Go.Proofs.LaysM.n171 Tryz.prog Tryz.laysM171_ren:={
 mixed:=by kernel_rfl
 f129:=Tryz.func182.trans (congrArg some (by kernel_rfl))
 f171:=Tryz.func52.trans (congrArg some (by kernel_rfl))
 f243:=Tryz.func93.trans (congrArg some (by kernel_rfl))
 f246:=Tryz.func129.trans (congrArg some (by kernel_rfl))
 f283:=Tryz.func186.trans (congrArg some (by kernel_rfl))
 f284:=Tryz.func187.trans (congrArg some (by kernel_rfl))
 f285:=Tryz.func188.trans (congrArg some (by kernel_rfl))
 f286:=Tryz.func189.trans (congrArg some (by kernel_rfl))
 f317:=Tryz.func218.trans (congrArg some (by kernel_rfl))
 f318:=Tryz.func219.trans (congrArg some (by kernel_rfl))
 f319:=Tryz.func220.trans (congrArg some (by kernel_rfl))
 f320:=Tryz.func221.trans (congrArg some (by kernel_rfl))
 f337:=Tryz.func248.trans (congrArg some (by kernel_rfl))
 f338:=Tryz.func249.trans (congrArg some (by kernel_rfl))
 t0:=Tryz.underlying0
 a0:=Tryz.isAgg0
 z0:=Tryz.sizeOf0
 v0:=Tryz.zeroValue0
 t2:=Tryz.underlying2
 a2:=Tryz.isAgg2
 z2:=Tryz.sizeOf2
 v2:=Tryz.zeroValue2
 t3:=Tryz.underlying3
 a3:=Tryz.isAgg3
 z3:=Tryz.sizeOf3
 v3:=Tryz.zeroValue3
 t4:=Tryz.underlying4
 a4:=Tryz.isAgg4
 z4:=Tryz.sizeOf4
 v4:=Tryz.zeroValue4
 t5:=Tryz.underlying5
 a5:=Tryz.isAgg5
 z5:=Tryz.sizeOf5
 v5:=Tryz.zeroValue5
 t9:=Tryz.underlying9
 a9:=Tryz.isAgg9
 z9:=Tryz.sizeOf9
 v9:=Tryz.zeroValue9
 t20:=Tryz.underlying20
 a20:=Tryz.isAgg20
 z20:=Tryz.sizeOf20
 v20:=Tryz.zeroValue20
 t37:=Tryz.underlying129
 a37:=Tryz.isAgg129
 z37:=Tryz.sizeOf129
 v37:=Tryz.zeroValue129
 t46:=Tryz.underlying171
 a46:=Tryz.isAgg171
 z46:=Tryz.sizeOf171
 v46:=Tryz.zeroValue171
 t51:=Tryz.underlying229
 a51:=Tryz.isAgg229
 z51:=Tryz.sizeOf229
 v51:=Tryz.zeroValue229
 t53:=Tryz.underlying139
 a53:=Tryz.isAgg139
 z53:=Tryz.sizeOf139
 v53:=Tryz.zeroValue139
 t171:=Tryz.underlying233
 a171:=Tryz.isAgg233
 z171:=Tryz.sizeOf233
 v171:=Tryz.zeroValue233
 t173:=Tryz.underlying235
 a173:=Tryz.isAgg235
 z173:=Tryz.sizeOf235
 v173:=Tryz.zeroValue235
 t212:=Tryz.underlying260
 a212:=Tryz.isAgg260
 z212:=Tryz.sizeOf260
 v212:=Tryz.zeroValue260
 t213:=Tryz.underlying261
 a213:=Tryz.isAgg261
 z213:=Tryz.sizeOf261
 t232:=Tryz.underlying289
 a232:=Tryz.isAgg289
 z232:=Tryz.sizeOf289
 v232:=Tryz.zeroValue289
 t233:=Tryz.underlying290
 a233:=Tryz.isAgg290
 z233:=Tryz.sizeOf290
 v233:=Tryz.zeroValue290
 g17:=by kernel_rfl
 g18:=by kernel_rfl
 g19:=by kernel_rfl
 i0:=by kernel_rfl
 i2:=by kernel_rfl
 i3:=by kernel_rfl
 i4:=by kernel_rfl
 i5:=by kernel_rfl
 i9:=by kernel_rfl
 i20:=by kernel_rfl
 i37:=by kernel_rfl
 i46:=by kernel_rfl
 i51:=by kernel_rfl
 i53:=by kernel_rfl
 i171:=by kernel_rfl
 i173:=by kernel_rfl
 i212:=by kernel_rfl
 i232:=by kernel_rfl
 i233:=by kernel_rfl
 m17:=by kernel_rfl
 m18:=by kernel_rfl
 m19:=by kernel_rfl }
def Tryz.lays155_ren:Go.Shelf.Ren:=⟨fun | 155=>95 | 154=>130 | 138=>190 | 165=>96 | 143=>191 | 166=>97 | 197=>192 | 169=>98 | 195=>222 | 218=>223 | 240=>131 | 241=>132 | 219=>224 | 260=>225 | 276=>193 | 277=>194 | 217=>250 | 225=>251 | 224=>252 | 267=>253 | 266=>262 | 314=>263 | n=>n,fun | 9=>9 | 3=>3 | 4=>4 | 72=>131 | 0=>0 | 76=>135 | 105=>237 | 21=>21 | 5=>5 | 70=>128 | 20=>20 | 37=>129 | 75=>134 | 127=>180 | 164=>239 | 46=>171 | 119=>279 | 139=>282 | 138=>281 | 146=>291 | 51=>229 | 80=>137 | n=>n,fun | 1=>0 | 3=>2 | 4=>3 | n=>n⟩
theorem Tryz.lays155:Go.Proofs.Lays.n155 Tryz.prog Tryz.lays155_ren:={
 mixed:=by kernel_rfl
 f138:=Tryz.func190.trans (congrArg some (by kernel_rfl))
 f143:=Tryz.func191.trans (congrArg some (by kernel_rfl))
 f154:=Tryz.func130.trans (congrArg some (by kernel_rfl))
 f155:=Tryz.func95.trans (congrArg some (by kernel_rfl))
 f165:=Tryz.func96.trans (congrArg some (by kernel_rfl))
 f166:=Tryz.func97.trans (congrArg some (by kernel_rfl))
 f169:=Tryz.func98.trans (congrArg some (by kernel_rfl))
 f195:=Tryz.func222.trans (congrArg some (by kernel_rfl))
 f197:=Tryz.func192.trans (congrArg some (by kernel_rfl))
 f217:=Tryz.func250.trans (congrArg some (by kernel_rfl))
 f218:=Tryz.func223.trans (congrArg some (by kernel_rfl))
 f219:=Tryz.func224.trans (congrArg some (by kernel_rfl))
 f224:=Tryz.func252.trans (congrArg some (by kernel_rfl))
 f225:=Tryz.func251.trans (congrArg some (by kernel_rfl))
 f240:=Tryz.func131.trans (congrArg some (by kernel_rfl))
 f241:=Tryz.func132.trans (congrArg some (by kernel_rfl))
 f260:=Tryz.func225.trans (congrArg some (by kernel_rfl))
 f266:=Tryz.func262.trans (congrArg some (by kernel_rfl))
 f267:=Tryz.func253.trans (congrArg some (by kernel_rfl))
 f276:=Tryz.func193.trans (congrArg some (by kernel_rfl))
 f277:=Tryz.func194.trans (congrArg some (by kernel_rfl))
 f314:=Tryz.func263.trans (congrArg some (by kernel_rfl))
 t0:=Tryz.underlying0
 a0:=Tryz.isAgg0
 z0:=Tryz.sizeOf0
 v0:=Tryz.zeroValue0
 t3:=Tryz.underlying3
 a3:=Tryz.isAgg3
 z3:=Tryz.sizeOf3
 v3:=Tryz.zeroValue3
 t4:=Tryz.underlying4
 a4:=Tryz.isAgg4
 z4:=Tryz.sizeOf4
 v4:=Tryz.zeroValue4
 t5:=Tryz.underlying5
 a5:=Tryz.isAgg5
 z5:=Tryz.sizeOf5
 v5:=Tryz.zeroValue5
 t9:=Tryz.underlying9
 a9:=Tryz.isAgg9
 z9:=Tryz.sizeOf9
 v9:=Tryz.zeroValue9
 t20:=Tryz.underlying20
 a20:=Tryz.isAgg20
 z20:=Tryz.sizeOf20
 v20:=Tryz.zeroValue20
 t21:=Tryz.underlying21
 a21:=Tryz.isAgg21
 z21:=Tryz.sizeOf21
 v21:=Tryz.zeroValue21
 t37:=Tryz.underlying129
 a37:=Tryz.isAgg129
 z37:=Tryz.sizeOf129
 v37:=Tryz.zeroValue129
 t46:=Tryz.underlying171
 a46:=Tryz.isAgg171
 z46:=Tryz.sizeOf171
 v46:=Tryz.zeroValue171
 t51:=Tryz.underlying229
 a51:=Tryz.isAgg229
 z51:=Tryz.sizeOf229
 v51:=Tryz.zeroValue229
 t70:=Tryz.underlying128
 a70:=Tryz.isAgg128
 z70:=Tryz.sizeOf128
 v70:=Tryz.zeroValue128
 t72:=Tryz.underlying131
 a72:=Tryz.isAgg131
 z72:=Tryz.sizeOf131
 v72:=Tryz.zeroValue131
 t75:=Tryz.underlying134
 a75:=Tryz.isAgg134
 z75:=Tryz.sizeOf134
 v75:=Tryz.zeroValue134
 t76:=Tryz.underlying135
 a76:=Tryz.isAgg135
 z76:=Tryz.sizeOf135
 v76:=Tryz.zeroValue135
 t105:=Tryz.underlying237
 a105:=Tryz.isAgg237
 z105:=Tryz.sizeOf237
 v105:=Tryz.zeroValue237
 t119:=Tryz.underlying279
 a119:=Tryz.isAgg279
 z119:=Tryz.sizeOf279
 t127:=Tryz.underlying180
 a127:=Tryz.isAgg180
 z127:=Tryz.sizeOf180
 v127:=Tryz.zeroValue180
 t138:=Tryz.underlying281
 a138:=Tryz.isAgg281
 z138:=Tryz.sizeOf281
 v138:=Tryz.zeroValue281
 t139:=Tryz.underlying282
 a139:=Tryz.isAgg282
 z139:=Tryz.sizeOf282
 v139:=Tryz.zeroValue282
 t146:=Tryz.underlying291
 a146:=Tryz.isAgg291
 z146:=Tryz.sizeOf291
 v146:=Tryz.zeroValue291
 t164:=Tryz.underlying239
 a164:=Tryz.isAgg239
 z164:=Tryz.sizeOf239
 v164:=Tryz.zeroValue239
 g1:=by kernel_rfl
 g3:=by kernel_rfl
 g4:=by kernel_rfl }
theorem Tryz.Builder_Extra_155:Builder.Extra Tryz.prog Tryz.lays155_ren:={
 sizeBuilder:=by kernel_rfl
 liesBuilder:=by kernel_rfl
 t5:=Tryz.underlying5
 a5:=Tryz.isAgg5
 z5:=Tryz.sizeOf5
 v5:=Tryz.zeroValue5
 infoByte:=by kernel_rfl
 cellsByte:=by kernel_rfl
 sizeByte:=by kernel_rfl
 neB5:=by decide }
def Tryz.lays156_ren:Go.Shelf.Ren:=⟨fun | 156=>54 | 165=>96 | 166=>97 | 169=>98 | 240=>131 | 241=>132 | 276=>193 | 277=>194 | n=>n,fun | 31=>58 | 9=>9 | 3=>3 | 4=>4 | 0=>0 | 20=>20 | 72=>131 | 76=>135 | 70=>128 | 37=>129 | 75=>134 | 127=>180 | 164=>239 | 5=>5 | 80=>137 | n=>n,fun | n=>n⟩
theorem Tryz.lays156:Go.Proofs.Lays.n156 Tryz.prog Tryz.lays156_ren:={
 mixed:=by kernel_rfl
 f156:=Tryz.func54.trans (congrArg some (by kernel_rfl))
 f165:=Tryz.func96.trans (congrArg some (by kernel_rfl))
 f166:=Tryz.func97.trans (congrArg some (by kernel_rfl))
 f169:=Tryz.func98.trans (congrArg some (by kernel_rfl))
 f240:=Tryz.func131.trans (congrArg some (by kernel_rfl))
 f241:=Tryz.func132.trans (congrArg some (by kernel_rfl))
 f276:=Tryz.func193.trans (congrArg some (by kernel_rfl))
 f277:=Tryz.func194.trans (congrArg some (by kernel_rfl))
 t0:=Tryz.underlying0
 a0:=Tryz.isAgg0
 z0:=Tryz.sizeOf0
 v0:=Tryz.zeroValue0
 t3:=Tryz.underlying3
 a3:=Tryz.isAgg3
 z3:=Tryz.sizeOf3
 v3:=Tryz.zeroValue3
 t4:=Tryz.underlying4
 a4:=Tryz.isAgg4
 z4:=Tryz.sizeOf4
 v4:=Tryz.zeroValue4
 t9:=Tryz.underlying9
 a9:=Tryz.isAgg9
 z9:=Tryz.sizeOf9
 v9:=Tryz.zeroValue9
 t20:=Tryz.underlying20
 a20:=Tryz.isAgg20
 z20:=Tryz.sizeOf20
 v20:=Tryz.zeroValue20
 t31:=Tryz.underlying58
 a31:=Tryz.isAgg58
 z31:=Tryz.sizeOf58
 v31:=Tryz.zeroValue58
 t37:=Tryz.underlying129
 a37:=Tryz.isAgg129
 z37:=Tryz.sizeOf129
 v37:=Tryz.zeroValue129
 t70:=Tryz.underlying128
 a70:=Tryz.isAgg128
 z70:=Tryz.sizeOf128
 v70:=Tryz.zeroValue128
 t72:=Tryz.underlying131
 a72:=Tryz.isAgg131
 z72:=Tryz.sizeOf131
 v72:=Tryz.zeroValue131
 t75:=Tryz.underlying134
 a75:=Tryz.isAgg134
 z75:=Tryz.sizeOf134
 v75:=Tryz.zeroValue134
 t76:=Tryz.underlying135
 a76:=Tryz.isAgg135
 z76:=Tryz.sizeOf135
 v76:=Tryz.zeroValue135
 t127:=Tryz.underlying180
 a127:=Tryz.isAgg180
 z127:=Tryz.sizeOf180
 v127:=Tryz.zeroValue180
 t164:=Tryz.underlying239
 a164:=Tryz.isAgg239
 z164:=Tryz.sizeOf239
 v164:=Tryz.zeroValue239 }
theorem Tryz.Builder_Extra_156:Builder.Extra Tryz.prog Tryz.lays156_ren:={
 sizeBuilder:=by kernel_rfl
 liesBuilder:=by kernel_rfl
 t5:=Tryz.underlying5
 a5:=Tryz.isAgg5
 z5:=Tryz.sizeOf5
 v5:=Tryz.zeroValue5
 infoByte:=by kernel_rfl
 cellsByte:=by kernel_rfl
 sizeByte:=by kernel_rfl
 neB5:=by decide }
end Go.Proofs
namespace Go.Proofs.YtddkaehkimnklaaGreatDoor
open Go Go.Ab
def strconv_Itoa (x:Int):Bool×ByteArray:=zCh x
def strconv_Itoa_spec:Ab.Spec ty:=zm (cx:=base) (zf (zg (vInt .i64)) aNil) fun x=>((strconv_Itoa x.1).1,⟨[.pure (.lit (.string (strconv_Itoa x.1).2))],[]⟩)
theorem zB7:Sound Tryz.prog base 52 strconv_Itoa_spec:=zIT zn Go.Proofs.Tryz.laysM171 Tryz.call52 (fun _ h=>h.1)
end Go.Proofs.YtddkaehkimnklaaGreatDoor
namespace Go.Proofs.YtddkaehkimnklaaGreatDoor
open Go Go.Ab
def strings_Join (l:List ByteArray) (sep:ByteArray):Bool×ByteArray:=zFT l sep
def strings_Join_spec:Ab.Spec ty:=zm (cx:=base0) (zf (zg (vSl 9)) (zf (zg vStr) aNil)) fun x=>((strings_Join x.1 x.2.1).1,⟨[.pure (.lit (.string (strings_Join x.1 x.2.1).2))],[]⟩)
theorem zB3:Sound Tryz.prog base0 54 strings_Join_spec:=zIA (T:=9) zs3 rfl Go.Proofs.Tryz.lays156 Go.Proofs.Tryz.Builder_Extra_156 Tryz.call54 (fun s:ByteArray=>s) (fun _=>rfl) strings_Join (fun l sep=>congrArg (fun l=>zFT l sep) (List.map_id' (α:=ByteArray) l).symm)
def zEP:Cx ty:=mkCx base 36 [] [] [] [] [] []
def zus (v:Value):Wy0 (Bool):=.i (v.Kind==0) (.k (v.Text.toList==(ByteArray.mk #[]).toList)) (.i (v.Kind==1) (.i (v.Int==0) (.k (decide (Int.ofNat v.Text.size≤255))) (.k false)) (.i (v.Kind==2) (.i (v.Int==0) (.k (v.Text.toList==(ByteArray.mk #[]).toList)) (.i (v.Int==1) (.k (v.Text.toList==(ByteArray.mk #[]).toList)) (.k false))) (.k false)))
def zgq (v:Value):Bool×Bool:=(zus v).fin default
def zxj (r:Bool):ARes ty:=⟨[.pure (.lit (.bool r))],[]⟩
def zAf:AL base (Value×Unit):=zf (zg (vAgg 40)) aNil
def zgO:Ab.Spec ty:=zm zAf fun x=>((zgq x.1).1,zxj (zgq x.1).2)
theorem zho:Sound Tryz.prog base 83 zgO:=
 zu (cx':=zEP) zH zn zD (zx trivial) Tryz.call83 Tryz.func83 (c:=body Tryz.f83) (by kernel_rfl) (zh (l:=[]) (by kernel_rfl) trivial) (sg:=⟨[.pure],[]⟩) (A:=zAf) (res:=zxj) (W:=fun x=>zus x.1) (z:=default)
def zs1:Cx ty:=mkCx base 15 [(83,zgO)] [] [] [] [] []
def zij (v:Value) (p1:ColumnStats):Wy0 (Bool):=.bn (zgq v) fun r0=>.i (!r0) (.k true) (.k (v.Kind != p1.Min.Kind))
def zdh (v:Value) (p1:ColumnStats):Bool×Bool:=(zij v p1).fin default
def zkH (r:Bool):ARes ty:=⟨[.pure (.lit (.bool r))],[]⟩
def zlA:AL base (Value×ColumnStats×Unit):=zf (zg (vAgg 40)) (zf (zg (zvw 43)) aNil)
def zeV:Ab.Spec ty:=zm zlA fun x=>((zdh x.1 x.2.1).1,zkH (zdh x.1 x.2.1).2)
theorem zg4:Sound Tryz.prog base 86 zeV:=
 zu (cx':=zs1) zH zn zD (zx ⟨zho,trivial⟩) Tryz.call86 Tryz.func86 (c:=body Tryz.f86) (by kernel_rfl) (zh (l:=[]) (by kernel_rfl) trivial) (sg:=⟨[.pure],[]⟩) (A:=zlA) (res:=zkH) (W:=fun x=>zij x.1 x.2.1) (z:=default)
abbrev ttTslicesIndexFuncLapiValueapiValuevc0:=List Value×(ColumnStats×Unit)×Int×Int×Unit
def zkJ (s:List Value) (f:ColumnStats) (t7:Int) (t8:Int):Wy ttTslicesIndexFuncLapiValueapiValuevc0 (Unit) (Int⊕Unit):=.i (decide (t8<t7)) (.i (decide (0≤t8)&&decide (t8<Int.ofNat s.length)) (.bn (zdh (s.getD t8.toNat default) f) fun r0=>.i (r0) (.k (.inl t8)) (.h (s,(f,()),t7,(IntKind.i64.wrap (t8+1)),()) ())) .d) (.k (.inr ()))
def zdj (x:ttTslicesIndexFuncLapiValueapiValuevc0) (y:Unit):Wy ttTslicesIndexFuncLapiValueapiValuevc0 (Unit) (Int⊕Unit):=zkJ x.1 x.2.1.1 x.2.2.1 x.2.2.2.1
def zkI (n:Nat) (s:List Value) (f:ColumnStats) (t7:Int) (t8:Int):Bool×(Int⊕Unit):=zN (zdj) (.inl default) n (s,(f,()),t7,t8,()) ()
def zgB (r:Int⊕Unit):LTree ty:=.ite (isL r) (.done .ret [.lit (.int .i64 (getL r))] []) (.done (.exit 0) [] [])
def zgI:LL ty ttTslicesIndexFuncLapiValueapiValuevc0:=za (lSl 40) (za (lFn 86 (za (zD0 (zhc (fun x=>(⟨x.1,⟨x.2.1,x.2.2.1,x.2.2.2.1⟩,⟨x.2.2.2.2.1,x.2.2.2.2.2.1,x.2.2.2.2.2.2.1⟩,x.2.2.2.2.2.2.2.1⟩:ColumnStats)) (fun x=>(x.Distinct,x.Min.Kind,x.Min.Int,x.Min.Text,x.Max.Kind,x.Max.Int,x.Max.Text,x.Bounds,())) (fun _=>rfl) (za (lInt .i64) (za (lInt .i64) (za (lInt .i64) (za lStr (za (lInt .i64) (za (lInt .i64) (za lStr (za (lSl 40) zG))))))))) 0) zG)) (za (lInt .i64) (za (lInt .i64) zG)))
def zgM:BL ty (Unit):=bNil
def zgz (x:ttTslicesIndexFuncLapiValueapiValuevc0) (y:Unit):Nat:=(x.1.length+x.2.1.1.Bounds.length+Int.toNat x.2.2.1+Int.toNat x.2.2.2.1+1000)
def zgH:Cx ty:=mkCx base 19 [(86,zeV)] [] [(2,[(0,.keep),(1,.keep),(7,.keep),(8,.keep)])] [(2,1,[]),(2,0,[(4,.keep)])] [(2,spW zgI zgM (zdj) (.inl default) zgB zgz)] []
theorem zkz:zS zgH (lp (body Tryz.f125) 0):=zL (id:=2) (V:=zgI) (B:=zgM) (W:=zdj) (z:=.inl default) (tr:=zgB) (m:=zgz)
def zgZ (s:List Value) (f:ColumnStats):Wy0 (Int):=.bn (zkI (s.length+f.Bounds.length+(Int.ofNat s.length).toNat +Int.toNat 0+1000) s f (Int.ofNat s.length) 0) fun r2=>.i (isL r2) (.k (getL r2)) (.k (-1:Int))
def zcB (s:List Value) (f:ColumnStats):Bool×Int:=(zgZ s f).fin default
def zgt (r:Int):ARes ty:=⟨[.pure (.lit (.int .i64 r))],[]⟩
def zg0:AL base (List Value×(ColumnStats×Unit)×Unit):=zf (zg (vSl 40)) (zf (zg (vFn 86 (zrE (zvw 43) vNil))) aNil)
def zgd:Ab.Spec ty:=zm zg0 fun x=>((zcB x.1 x.2.1.1).1,zgt (zcB x.1 x.2.1.1).2)
theorem zjZ:Sound Tryz.prog base 125 zgd:=
 zu (cx':=zgH) zH zn zD (zx ⟨zg4,trivial⟩) Tryz.call125 Tryz.func125 (c:=body Tryz.f125) (by kernel_rfl) (zh (l:=[lp (body Tryz.f125) 0]) (by kernel_rfl) ⟨zkz,trivial⟩) (sg:=⟨[.pure],[]⟩) (A:=zg0) (res:=zgt) (W:=fun x=>zgZ x.1 x.2.1.1) (z:=default)
def zjW:Cx ty:=mkCx base 9 [(86,zeV),(125,zgd)] [] [] [] [] []
def zda (s:List Value) (f:ColumnStats):Wy0 (Bool):=.bn (zcB s f) fun r0=>.k (decide (r0≥0))
def zbB (s:List Value) (f:ColumnStats):Bool×Bool:=(zda s f).fin default
def zfB (r:Bool):ARes ty:=⟨[.pure (.lit (.bool r))],[]⟩
def zgm:AL base (List Value×(ColumnStats×Unit)×Unit):=zf (zg (vSl 40)) (zf (zg (vFn 86 (zrE (zvw 43) vNil))) aNil)
def zfc:Ab.Spec ty:=zm zgm fun x=>((zbB x.1 x.2.1.1).1,zfB (zbB x.1 x.2.1.1).2)
theorem zjw:Sound Tryz.prog base 85 zfc:=
 zu (cx':=zjW) zH zn zD (zx ⟨zg4,zjZ,trivial⟩) Tryz.call85 Tryz.func85 (c:=body Tryz.f85) (by kernel_rfl) (zh (l:=[]) (by kernel_rfl) trivial) (sg:=⟨[.pure],[]⟩) (A:=zgm) (res:=zfB) (W:=fun x=>zda x.1 x.2.1.1) (z:=default)
def zC5:Cx ty:=mkCx base 6 [] [] [] [] [] []
def zro (x_:Int):Wy0 (Bool):=.k (x_ != x_)
def zj7 (x_:Int):Bool×Bool:=(zro x_).fin default
def zu1 (r:Bool):ARes ty:=⟨[.pure (.lit (.bool r))],[]⟩
def zxo:AL base (Int×Unit):=zf (zg (vInt .i64)) aNil
def zt6:Ab.Spec ty:=zm zxo fun x=>((zj7 x.1).1,zu1 (zj7 x.1).2)
theorem zA2:Sound Tryz.prog base 183 zt6:=
 zu (cx':=zC5) zH zn zD (zx trivial) Tryz.call183 Tryz.func183 (c:=body Tryz.f183) (by kernel_rfl) (zh (l:=[]) (by kernel_rfl) trivial) (sg:=⟨[.pure],[]⟩) (A:=zxo) (res:=zu1) (W:=fun x=>zro x.1) (z:=default)
def zBK:Cx ty:=mkCx base 20 [(183,zt6)] [] [] [] [] []
def zpb (x_:Int) (y_:Int):Wy0 (Int):=.i ((zj7 x_).2) (.i ((zj7 y_).2) (.k 0) (.k (-1:Int))) (.i ((zj7 y_).2) (.k 1) (.i (decide (x_<y_)) (.k (-1:Int)) (.i (decide (x_>y_)) (.k 1) (.k 0))))
def zc8 (x_:Int) (y_:Int):Bool×Int:=(zpb x_ y_).fin default
def zsD (r:Int):ARes ty:=⟨[.pure (.lit (.int .i64 r))],[]⟩
def zuQ:AL base (Int×Int×Unit):=zf (zg (vInt .i64)) (zf (zg (vInt .i64)) aNil)
def zi9:Ab.Spec ty:=zm zuQ fun x=>((zc8 x.1 x.2.1).1,zsD (zc8 x.1 x.2.1).2)
theorem zlh:Sound Tryz.prog base 122 zi9:=
 zu (cx':=zBK) zH zn zD (zx ⟨zA2,trivial⟩) Tryz.call122 Tryz.func122 (c:=body Tryz.f122) (by kernel_rfl) (zh (l:=[]) (by kernel_rfl) trivial) (sg:=⟨[.pure],[]⟩) (A:=zuQ) (res:=zsD) (W:=fun x=>zpb x.1 x.2.1) (z:=default)
def zBt:Cx ty:=mkCx base 6 [] [] [] [] [] []
def zpc (x_:Int):Wy0 (Bool):=.k (x_ != x_)
def ziq (x_:Int):Bool×Bool:=(zpc x_).fin default
def zsA (r:Bool):ARes ty:=⟨[.pure (.lit (.bool r))],[]⟩
def zuT:AL base (Int×Unit):=zf (zg (vInt .i64)) aNil
def zr6:Ab.Spec ty:=zm zuT fun x=>((ziq x.1).1,zsA (ziq x.1).2)
theorem zzj:Sound Tryz.prog base 184 zr6:=
 zu (cx':=zBt) zH zn zD (zx trivial) Tryz.call184 Tryz.func184 (c:=body Tryz.f184) (by kernel_rfl) (zh (l:=[]) (by kernel_rfl) trivial) (sg:=⟨[.pure],[]⟩) (A:=zuT) (res:=zsA) (W:=fun x=>zpc x.1) (z:=default)
def zzJ:Cx ty:=mkCx base 20 [(184,zr6)] [] [] [] [] []
def zmR (x_:Int) (y_:Int):Wy0 (Int):=.i ((ziq x_).2) (.i ((ziq y_).2) (.k 0) (.k (-1:Int))) (.i ((ziq y_).2) (.k 1) (.i (decide (x_<y_)) (.k (-1:Int)) (.i (decide (x_>y_)) (.k 1) (.k 0))))
def zhn (x_:Int) (y_:Int):Bool×Int:=(zmR x_ y_).fin default
def zqY (r:Int):ARes ty:=⟨[.pure (.lit (.int .i64 r))],[]⟩
def zsI:AL base (Int×Int×Unit):=zf (zg (vInt .i64)) (zf (zg (vInt .i64)) aNil)
def zkp:Ab.Spec ty:=zm zsI fun x=>((zhn x.1 x.2.1).1,zqY (zhn x.1 x.2.1).2)
theorem zoV:Sound Tryz.prog base 123 zkp:=
 zu (cx':=zzJ) zH zn zD (zx ⟨zzj,trivial⟩) Tryz.call123 Tryz.func123 (c:=body Tryz.f123) (by kernel_rfl) (zh (l:=[]) (by kernel_rfl) trivial) (sg:=⟨[.pure],[]⟩) (A:=zsI) (res:=zqY) (W:=fun x=>zmR x.1 x.2.1) (z:=default)
abbrev ttTcmpOrint0:=Int×List Int×Int×Int×Unit
def zuw (zero:Int) (t6:List Int) (t7:Int) (t8:Int):Wy ttTcmpOrint0 (Unit) (Int⊕Int):=.i (decide (t8<t7)) (.i (decide (0≤t8)&&decide (t8<Int.ofNat t6.length)) (.i (t6.getD t8.toNat default != zero) (.k (.inl (t6.getD t8.toNat default))) (.h (zero,t6,t7,(IntKind.i64.wrap (t8+1)),()) ())) .d) (.k (.inr zero))
def zux (x:ttTcmpOrint0) (y:Unit):Wy ttTcmpOrint0 (Unit) (Int⊕Int):=zuw x.1 x.2.1 x.2.2.1 x.2.2.2.1
def zuh (n:Nat) (zero:Int) (t6:List Int) (t7:Int) (t8:Int):Bool×(Int⊕Int):=zN (zux) (.inl default) n (zero,t6,t7,t8,()) ()
def zy5 (r:Int⊕Int):LTree ty:=.ite (isL r) (.done .ret [.lit (.int .i64 (getL r))] []) (.done (.exit 0) [.lit (.int .i64 (getR r))] [])
def zAK:LL ty ttTcmpOrint0:=za (lInt .i64) (za (lSl 3) (za (lInt .i64) (za (lInt .i64) zG)))
def zAF:BL ty (Unit):=bNil
def zyP (x:ttTcmpOrint0) (y:Unit):Nat:=(Int.toNat x.1+x.2.1.length+Int.toNat x.2.2.1+Int.toNat x.2.2.2.1+1000)
def zAj:Cx ty:=mkCx base 18 [] [] [(3,[(3,.keep),(6,.keep),(7,.keep),(8,.keep)])] [(3,1,[(3,.keep)]),(3,0,[(2,.keep)])] [(3,spW zAK zAF (zux) (.inl default) zy5 zyP)] []
theorem zEY:zS zAj (lp (body Tryz.f121) 0):=zL (id:=3) (V:=zAK) (B:=zAF) (W:=zux) (z:=.inl default) (tr:=zy5) (m:=zyP)
def zv4 (vals:List Int):Wy0 (Int):=.bn (zuh (Int.toNat 0+vals.length+(Int.ofNat vals.length).toNat +Int.toNat 0+1000) 0 vals (Int.ofNat vals.length) 0) fun r0=>.i (isL r0) (.k (getL r0)) (.k (getR r0))
def zjh (vals:List Int):Bool×Int:=(zv4 vals).fin default
def zyM (r:Int):ARes ty:=⟨[.pure (.lit (.int .i64 r))],[]⟩
def zB2:AL base (List Int×Unit):=zf (zg (vSl 3)) aNil
def ziw:Ab.Spec ty:=zm zB2 fun x=>((zjh x.1).1,zyM (zjh x.1).2)
theorem zjC:Sound Tryz.prog base 121 ziw:=
 zu (cx':=zAj) zH zn zD (zx trivial) Tryz.call121 Tryz.func121 (c:=body Tryz.f121) (by kernel_rfl) (zh (l:=[lp (body Tryz.f121) 0]) (by kernel_rfl) ⟨zEY,trivial⟩) (sg:=⟨[.pure],[]⟩) (A:=zB2) (res:=zyM) (W:=fun x=>zv4 x.1) (z:=default)
def strings_Compare (s p:ByteArray):Bool×Int:=zvX s p
def strings_Compare_spec:Ab.Spec ty:=zm (cx:=base) (zf (zg vStr) (zf (zg vStr) aNil)) fun x=>((strings_Compare x.1 x.2.1).1,⟨[.pure (.lit (.int .i64 (strings_Compare x.1 x.2.1).2))],[]⟩)
theorem zyy:Sound Tryz.prog base 124 strings_Compare_spec:=zFF zn Go.Proofs.Tryz.lays106 Tryz.call124
def zDo:Cx ty:=mkCx base 22 [(121,ziw),(122,zi9),(123,zkp),(124,strings_Compare_spec)] [] [] [] [] []
def zrr (a:Value) (b:Value):Wy0 (Int):=.bn (zc8 a.Kind b.Kind) fun r2=>.bn (zhn a.Int b.Int) fun r1=>.bn (zjh [r2,r1,(strings_Compare a.Text b.Text).2]) fun r0=>.k r0
def zbd (a:Value) (b:Value):Bool×Int:=(zrr a b).fin default
def zuY (r:Int):ARes ty:=⟨[.pure (.lit (.int .i64 r))],[]⟩
def zxh:AL base (Value×Value×Unit):=zf (zg (vAgg 40)) (zf (zg (vAgg 40)) aNil)
def zcb:Ab.Spec ty:=zm zxh fun x=>((zbd x.1 x.2.1).1,zuY (zbd x.1 x.2.1).2)
theorem zcp:Sound Tryz.prog base 79 zcb:=
 zu (cx':=zDo) zH zn zD (zx ⟨zjC,zlh,zoV,zyy,trivial⟩) Tryz.call79 Tryz.func79 (c:=body Tryz.f79) (by kernel_rfl) (zh (l:=[]) (by kernel_rfl) trivial) (sg:=⟨[.pure],[]⟩) (A:=zxh) (res:=zuY) (W:=fun x=>zrr x.1 x.2.1) (z:=default)
abbrev ttTslicesIsSortedFuncLapiValueapiValue0:=List Value×Unit×Int×Unit
def zdp (x_:List Value) (i:Int):Wy ttTslicesIsSortedFuncLapiValueapiValue0 (Unit) (Bool⊕Unit):=.i (decide (i>0)) (.i (decide (0≤i)&&decide (i<Int.ofNat x_.length)) (.i (decide (0≤IntKind.i64.wrap (i - 1))&&decide (IntKind.i64.wrap (i - 1)<Int.ofNat x_.length)) (.bn (zbd (x_.getD i.toNat default) (x_.getD (IntKind.i64.wrap (i - 1)).toNat default)) fun r0=>.i (decide (r0<0)) (.k (.inl false)) (.h (x_,(),(IntKind.i64.wrap (i - 1)),()) ())) .d) .d) (.k (.inr ()))
def zdo (x:ttTslicesIsSortedFuncLapiValueapiValue0) (y:Unit):Wy ttTslicesIsSortedFuncLapiValueapiValue0 (Unit) (Bool⊕Unit):=zdp x.1 x.2.2.1
def zdk (n:Nat) (x_:List Value) (i:Int):Bool×(Bool⊕Unit):=zN (zdo) (.inl default) n (x_,(),i,()) ()
def zgC (r:Bool⊕Unit):LTree ty:=.ite (isL r) (.done .ret [.lit (.bool (getL r))] []) (.done (.exit 0) [] [])
def zgJ:LL ty ttTslicesIsSortedFuncLapiValueapiValue0:=za (lSl 40) (za (lFn 79 (zG)) (za (lInt .i64) zG))
def zgL:BL ty (Unit):=bNil
def zgK:Cx ty:=mkCx base 25 [(79,zcb)] [] [(2,[(0,.keep),(1,.keep),(5,.keep)])] [(2,1,[]),(2,0,[(4,.keep)])] [(2,spW zgJ zgL (zdo) (.inl default) zgC fun x y=>(x.1.length+Int.toNat x.2.2.1+1000))] []
theorem zku:zS zgK (lp (body Tryz.f84) 0):=zL (id:=2) (V:=zgJ) (B:=zgL) (W:=zdo) (z:=.inl default) (tr:=zgC) (m:=fun x y=>(x.1.length+Int.toNat x.2.2.1+1000))
def zdG (x_:List Value):Wy0 (Bool):=.bn (zdk (x_.length+(IntKind.i64.wrap (Int.ofNat x_.length - 1)).toNat +1000) x_ (IntKind.i64.wrap (Int.ofNat x_.length - 1))) fun r2=>.i (isL r2) (.k (getL r2)) (.k true)
def zbQ (x_:List Value):Bool×Bool:=(zdG x_).fin default
def zgr (r:Bool):ARes ty:=⟨[.pure (.lit (.bool r))],[]⟩
def zgV:AL base (List Value×Unit×Unit):=zf (zg (vSl 40)) (zf (zg (vFn 79 vNil)) aNil)
def zf7:Ab.Spec ty:=zm zgV fun x=>((zbQ x.1).1,zgr (zbQ x.1).2)
theorem zj4:Sound Tryz.prog base 84 zf7:=
 zu (cx':=zgK) zH zn zD (zx ⟨zcp,trivial⟩) Tryz.call84 Tryz.func84 (c:=body Tryz.f84) (by kernel_rfl) (zh (l:=[lp (body Tryz.f84) 0]) (by kernel_rfl) ⟨zku,trivial⟩) (sg:=⟨[.pure],[]⟩) (A:=zgV) (res:=zgr) (W:=fun x=>zdG x.1) (z:=default)
def zvv:Cx ty:=mkCx base 103 [(79,zcb),(83,zgO),(84,zf7),(85,zfc),(86,zeV)] [] [] [] [] []
def zjE (c:ColumnStats) (rows:Int):Wy0 (Bool):=.i (rows==0) (.i (c.Distinct==0) (.i (c.Min.Kind==0&&(c.Min.Int==0&&(c.Min.Text.toList==(ByteArray.mk #[]).toList&&true))) (.i (c.Max.Kind==0&&(c.Max.Int==0&&(c.Max.Text.toList==(ByteArray.mk #[]).toList&&true))) (.k (Int.ofNat c.Bounds.length==0)) (.k false)) (.k false)) (.k false)) (.i (decide (c.Distinct≥1)) (.i (decide (c.Distinct≤rows)) (.bn (zgq c.Min) fun r5=>.i (r5) (.bn (zgq c.Max) fun r4=>.i (r4) (.i (c.Min.Kind==c.Max.Kind) (.bn (zbd c.Min c.Max) fun r3=>.i (!decide (r3≤0)) (.k false) (.i (Int.ofNat c.Bounds.length != 8) (.k false) (.bn (zbQ c.Bounds) fun r2=>.i (!r2) (.k false) (.i (decide ((0:Int)≤(7:Int))&&decide (7<Int.ofNat c.Bounds.length)) (.i (!((c.Bounds.getD (Int.toNat 7) default).Kind==c.Max.Kind&&((c.Bounds.getD (Int.toNat 7) default).Int==c.Max.Int&&((c.Bounds.getD (Int.toNat 7) default).Text.toList==c.Max.Text.toList&&true)))) (.k false) (.i (decide ((0:Int)≤(0:Int))&&decide (0<Int.ofNat c.Bounds.length)) (.bn (zbd (c.Bounds.getD (Int.toNat 0) default) c.Min) fun r1=>.i (decide (r1<0)) (.k false) (.bn (zbB c.Bounds c) fun r0=>.k (!r0))) .d)) .d)))) (.k false)) (.k false)) (.k false)) (.k false)) (.k false))
def zgo (c:ColumnStats) (rows:Int):Bool×Bool:=(zjE c rows).fin default
def zmw (r:Bool):ARes ty:=⟨[.pure (.lit (.bool r))],[]⟩
def zn4:AL base (ColumnStats×Int×Unit):=zf (zg (vAgg 43)) (zf (zg (vInt .i64)) aNil)
def zlK:Ab.Spec ty:=zm zn4 fun x=>((zgo x.1 x.2.1).1,zmw (zgo x.1 x.2.1).2)
theorem zsQ:Sound Tryz.prog base 43 zlK:=
 zu (cx':=zvv) zH zn zD (zx ⟨zcp,zho,zj4,zjw,zg4,trivial⟩) Tryz.call43 Tryz.func43 (c:=body Tryz.f43) (by kernel_rfl) (zh (l:=[]) (by kernel_rfl) trivial) (sg:=⟨[.pure],[]⟩) (A:=zn4) (res:=zmw) (W:=fun x=>zjE x.1 x.2.1) (z:=default)
def zyg:Cx ty:=mkCx base 9 [(43,zlK)] [] [] [] [] []
def zkR (c:ColumnStats) (p1:Stats):Wy0 (Bool):=.bn (zgo c p1.Rows) fun r0=>.k (!r0)
def zgn (c:ColumnStats) (p1:Stats):Bool×Bool:=(zkR c p1).fin default
def zoG (r:Bool):ARes ty:=⟨[.pure (.lit (.bool r))],[]⟩
def zqJ:AL base (ColumnStats×Stats×Unit):=zf (zg (vAgg 43)) (zf (zg (zvw 30)) aNil)
def zhi:Ab.Spec ty:=zm zqJ fun x=>((zgn x.1 x.2.1).1,zoG (zgn x.1 x.2.1).2)
theorem zi6:Sound Tryz.prog base 42 zhi:=
 zu (cx':=zyg) zH zn zD (zx ⟨zsQ,trivial⟩) Tryz.call42 Tryz.func42 (c:=body Tryz.f42) (by kernel_rfl) (zh (l:=[]) (by kernel_rfl) trivial) (sg:=⟨[.pure],[]⟩) (A:=zqJ) (res:=zoG) (W:=fun x=>zkR x.1 x.2.1) (z:=default)
abbrev ttTslicesIndexFuncLapiColumnStatsapiColumnStatsva0:=List ColumnStats×(Stats×Unit)×Int×Int×Unit
def zhY (s:List ColumnStats) (f:Stats) (t7:Int) (t8:Int):Wy ttTslicesIndexFuncLapiColumnStatsapiColumnStatsva0 (Unit) (Int⊕Unit):=.i (decide (t8<t7)) (.i (decide (0≤t8)&&decide (t8<Int.ofNat s.length)) (.bn (zgn (s.getD t8.toNat default) f) fun r0=>.i (r0) (.k (.inl t8)) (.h (s,(f,()),t7,(IntKind.i64.wrap (t8+1)),()) ())) .d) (.k (.inr ()))
def zb7 (x:ttTslicesIndexFuncLapiColumnStatsapiColumnStatsva0) (y:Unit):Wy ttTslicesIndexFuncLapiColumnStatsapiColumnStatsva0 (Unit) (Int⊕Unit):=zhY x.1 x.2.1.1 x.2.2.1 x.2.2.2.1
def zh2 (n:Nat) (s:List ColumnStats) (f:Stats) (t7:Int) (t8:Int):Bool×(Int⊕Unit):=zN (zb7) (.inl default) n (s,(f,()),t7,t8,()) ()
def zdy (r:Int⊕Unit):LTree ty:=.ite (isL r) (.done .ret [.lit (.int .i64 (getL r))] []) (.done (.exit 0) [] [])
def zdQ:LL ty ttTslicesIndexFuncLapiColumnStatsapiColumnStatsva0:=za (lSl 43) (za (lFn 42 (za (zD0 (zhc (fun x=>(⟨x.1,x.2.1,x.2.2.1⟩:Stats)) (fun x=>(x.Table,x.Rows,x.Columns,())) (fun _=>rfl) (za (lInt .i64) (za (lInt .i64) (za (lSl 43) zG)))) 0) zG)) (za (lInt .i64) (za (lInt .i64) zG)))
def zdS:BL ty (Unit):=bNil
def zdA (x:ttTslicesIndexFuncLapiColumnStatsapiColumnStatsva0) (y:Unit):Nat:=(x.1.length+x.2.1.1.Columns.length+Int.toNat x.2.2.1+Int.toNat x.2.2.2.1+1000)
def zdR:Cx ty:=mkCx base 19 [(42,zhi)] [] [(2,[(0,.keep),(1,.keep),(7,.keep),(8,.keep)])] [(2,1,[]),(2,0,[(4,.keep)])] [(2,spW zdQ zdS (zb7) (.inl default) zdy zdA)] []
theorem zhS:zS zdR (lp (body Tryz.f82) 0):=zL (id:=2) (V:=zdQ) (B:=zdS) (W:=zb7) (z:=.inl default) (tr:=zdy) (m:=zdA)
def zdY (s:List ColumnStats) (f:Stats):Wy0 (Int):=.bn (zh2 (s.length+f.Columns.length+(Int.ofNat s.length).toNat +Int.toNat 0+1000) s f (Int.ofNat s.length) 0) fun r2=>.i (isL r2) (.k (getL r2)) (.k (-1:Int))
def zbx (s:List ColumnStats) (f:Stats):Bool×Int:=(zdY s f).fin default
def zdC (r:Int):ARes ty:=⟨[.pure (.lit (.int .i64 r))],[]⟩
def zd3:AL base (List ColumnStats×(Stats×Unit)×Unit):=zf (zg (vSl 43)) (zf (zg (vFn 42 (zrE (zvw 30) vNil))) aNil)
def zds:Ab.Spec ty:=zm zd3 fun x=>((zbx x.1 x.2.1.1).1,zdC (zbx x.1 x.2.1.1).2)
theorem zhu:Sound Tryz.prog base 82 zds:=
 zu (cx':=zdR) zH zn zD (zx ⟨zi6,trivial⟩) Tryz.call82 Tryz.func82 (c:=body Tryz.f82) (by kernel_rfl) (zh (l:=[lp (body Tryz.f82) 0]) (by kernel_rfl) ⟨zhS,trivial⟩) (sg:=⟨[.pure],[]⟩) (A:=zd3) (res:=zdC) (W:=fun x=>zdY x.1 x.2.1.1) (z:=default)
def zhw:Cx ty:=mkCx base 9 [(42,zhi),(82,zds)] [] [] [] [] []
def zbZ (s:List ColumnStats) (f:Stats):Wy0 (Bool):=.bn (zbx s f) fun r0=>.k (decide (r0≥0))
def zba (s:List ColumnStats) (f:Stats):Bool×Bool:=(zbZ s f).fin default
def zdf (r:Bool):ARes ty:=⟨[.pure (.lit (.bool r))],[]⟩
def zdt:AL base (List ColumnStats×(Stats×Unit)×Unit):=zf (zg (vSl 43)) (zf (zg (vFn 42 (zrE (zvw 30) vNil))) aNil)
def zc6:Ab.Spec ty:=zm zdt fun x=>((zba x.1 x.2.1.1).1,zdf (zba x.1 x.2.1.1).2)
theorem zg7:Sound Tryz.prog base 41 zc6:=
 zu (cx':=zhw) zH zn zD (zx ⟨zi6,zhu,trivial⟩) Tryz.call41 Tryz.func41 (c:=body Tryz.f41) (by kernel_rfl) (zh (l:=[]) (by kernel_rfl) trivial) (sg:=⟨[.pure],[]⟩) (A:=zdt) (res:=zdf) (W:=fun x=>zbZ x.1 x.2.1.1) (z:=default)
def zAZ:Cx ty:=mkCx base 24 [(41,zc6),(42,zhi)] [] [] [] [] []
def zok (s:Stats):Wy0 (Bool):=.i (decide (s.Rows≥0)) (.i (decide (s.Rows≤1000000)) (.i (decide (Int.ofNat s.Columns.length≤16)) (.bn (zba s.Columns s) fun r0=>.k (!r0)) (.k false)) (.k false)) (.k false)
def zgN (s:Stats):Bool×Bool:=(zok s).fin default
def zrj (r:Bool):ARes ty:=⟨[.pure (.lit (.bool r))],[]⟩
def ztN:AL base (Stats×Unit):=zf (zg (vAgg 30)) aNil
def zgU:Ab.Spec ty:=zm ztN fun x=>((zgN x.1).1,zrj (zgN x.1).2)
theorem zhZ:Sound Tryz.prog base 15 zgU:=
 zu (cx':=zAZ) zH zn zD (zx ⟨zg7,zi6,trivial⟩) Tryz.call15 Tryz.func15 (c:=body Tryz.f15) (by kernel_rfl) (zh (l:=[]) (by kernel_rfl) trivial) (sg:=⟨[.pure],[]⟩) (A:=ztN) (res:=zrj) (W:=fun x=>zok x.1) (z:=default)
def zpe (m b:Int):Bool×ByteArray:=zot m b
def strconv_FormatInt_spec:Ab.Spec ty:=zm (cx:=base) (zf (zg (vInt .i64)) (zf (zg (vInt .i64)) aNil)) fun x=>((zpe x.1 x.2.1).1,⟨[.pure (.lit (.string (zpe x.1 x.2.1).2))],[]⟩)
theorem zwZ:Sound Tryz.prog base 94 strconv_FormatInt_spec:=zD1 zn Go.Proofs.Tryz.laysM173 Tryz.call94 (fun _ h=>h.1)
def strings_ReplaceAll (s p q:ByteArray):Bool×ByteArray:=zmP s p q
def strings_ReplaceAll_spec:Ab.Spec ty:=zm (cx:=base0) (zf (zg vStr) (zf (zg vStr) (zf (zg vStr) aNil))) fun x=>((strings_ReplaceAll x.1 x.2.1 x.2.2.1).1,⟨[.pure (.lit (.string (strings_ReplaceAll x.1 x.2.1 x.2.2.1).2))],[]⟩)
theorem zvM:Sound Tryz.prog base0 95 strings_ReplaceAll_spec:=zDp zs3 rfl Go.Proofs.Tryz.lays155 Go.Proofs.Tryz.Builder_Extra_155 Tryz.call95 (fun _ h=>h.2)
def zDy:Cx ty:=mkCx base0 27 [(83,zgO),(94,strconv_FormatInt_spec),(95,strings_ReplaceAll_spec)] [] [] [] [] []
def zy1 (v:Value):Wy0 (ByteArray):=.bn (zgq v) fun r2=>.i (!r2) (.k (ByteArray.mk #[])) (.i (v.Kind==0) (.bn (zpe v.Int 10) fun r0=>.k r0) (.i (v.Kind==1) (.bn (strings_ReplaceAll v.Text (ByteArray.mk #[(39:UInt8)]) (ByteArray.mk #[(39:UInt8),(39:UInt8)])) fun r1=>.i (decide ((ByteArray.mk #[(39:UInt8)]).size+r1.size≤9223372036854775807)) (.i (decide ((ByteArray.mk #[(39:UInt8)]++r1).size+(ByteArray.mk #[(39:UInt8)]).size≤9223372036854775807)) (.k (ByteArray.mk #[(39:UInt8)]++r1++ByteArray.mk #[(39:UInt8)])) .d) .d) (.i (v.Int==1) (.k (ByteArray.mk #[(84:UInt8),(82:UInt8),(85:UInt8),(69:UInt8)])) (.k (ByteArray.mk #[(70:UInt8),(65:UInt8),(76:UInt8),(83:UInt8),(69:UInt8)])))))
def znY (v:Value):Bool×ByteArray:=(zy1 v).fin default
def zwO (r:ByteArray):ARes ty:=⟨[.pure (.lit (.string r))],[]⟩
def zzq:AL base0 (Value×Unit):=zf (zg (vAgg 40)) aNil
def zuM:Ab.Spec ty:=zm zzq fun x=>((znY x.1).1,zwO (znY x.1).2)
theorem zBT:Sound Tryz.prog base0 53 zuM:=
 zu (cx':=zDy) zH zs3 zD (zx ⟨zho.nodr,zwZ.nodr,zvM,trivial⟩) Tryz.call53 Tryz.func53 (c:=body Tryz.f53) (by kernel_rfl) (zh (l:=[]) (by kernel_rfl) trivial) (sg:=⟨[.pure],[]⟩) (A:=zzq) (res:=zwO) (W:=fun x=>zy1 x.1) (z:=default)
end Go.Proofs.YtddkaehkimnklaaGreatDoor
end
