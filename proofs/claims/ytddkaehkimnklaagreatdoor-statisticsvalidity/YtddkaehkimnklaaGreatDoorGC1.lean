/- Texts of this claim, joined (the program, its functions in plain words, and what they compute). -/
import Derived.KernelRfl
import Derived.Shelf.Strconv.Itoa3
import Derived.Stop.LaidErr
import Derived.JoinedOf
import Derived.Shelf.Vars
import Derived.Shelf.SlSortCmp.NoneTotal
import Derived.Shelf.Strings.OnBuilder
import Derived.Shelf.Strconv.Itoa4
import Derived.Shelf.Small.Strs
import Derived.Shelf.Strings.Replace
import Derived.Test.YtddkaehkimnklaaGreatDoorChecked
import Derived.Test.YtddkaehkimnklaaGreatDoorRows
import Derived.Test.YtddkaehkimnklaaGreatDoorCards
import Derived.Test.YtddkaehkimnklaaGreatDoorProg
import Derived.Test.YtddkaehkimnklaaGreatDoorGA2
import Derived.Test.YtddkaehkimnklaaGreatDoorGA3
import Derived.Test.YtddkaehkimnklaaGreatDoorGB1
set_option autoImplicit false
set_option linter.unusedVariables false
set_option linter.unusedSectionVars false
set_option linter.unusedSimpArgs false
set_option maxRecDepth 1000000
set_option maxHeartbeats 0
/- The types of the program, as plain data. -/
noncomputable section
namespace Go.Proofs.YtddkaehkimnklaaGreatDoor
open Go Go.Ab
open Go.Proofs Go.Shelf
structure Column where
 Name:ByteArray
 Type_:Int
 deriving DecidableEq,Inhabited
structure Value where
 Kind:Int
 Int:Int
 Text:ByteArray
 deriving DecidableEq,Inhabited
structure RowID where
 Table:Int
 Seq:Int
 deriving DecidableEq,Inhabited
structure FactorOf (A:Type) where
 Atom:A
 Exp:Int
structure TermOf (A:Type) where
 Coeff:Int
 Factors:List (FactorOf A)
structure WeightedOf (A:Type) where
 Value:Value
 Ann:List (TermOf A)
structure Atom where
 Kind:Int
 Row:RowID
 Args:List (List (TermOf Atom))
 Func:Int
 Items:List (WeightedOf Atom)
 Op:Int
 Bound:Value
abbrev Factor:=FactorOf Atom
abbrev Term:=TermOf Atom
abbrev Weighted:=WeightedOf Atom
instance:Inhabited Atom:=⟨⟨0,default,[],0,[],0,default⟩⟩
instance:Inhabited Factor:=⟨⟨default,0⟩⟩
instance:Inhabited Term:=⟨⟨0,[]⟩⟩
instance:Inhabited Weighted:=⟨⟨default,[]⟩⟩
mutual
def zGV:(x y:Atom)→Decidable (x=y)
 | ⟨k,r,a,f,i,o,b⟩,⟨k',r',a',f',i',o',b'⟩=>
  match decEq k k',decEq r r',zGK a a',decEq f f',zFx i i',decEq o o',decEq b b' with
  | .isTrue h1,.isTrue h2,.isTrue h3,.isTrue h4,.isTrue h5,.isTrue h6,.isTrue h7=>.isTrue (by subst h1 h2 h3 h4 h5 h6 h7; rfl)
  | .isFalse h,_,_,_,_,_,_=>.isFalse (fun e=>by cases e; exact h rfl)
  | _,.isFalse h,_,_,_,_,_=>.isFalse (fun e=>by cases e; exact h rfl)
  | _,_,.isFalse h,_,_,_,_=>.isFalse (fun e=>by cases e; exact h rfl)
  | _,_,_,.isFalse h,_,_,_=>.isFalse (fun e=>by cases e; exact h rfl)
  | _,_,_,_,.isFalse h,_,_=>.isFalse (fun e=>by cases e; exact h rfl)
  | _,_,_,_,_,.isFalse h,_=>.isFalse (fun e=>by cases e; exact h rfl)
  | _,_,_,_,_,_,.isFalse h=>.isFalse (fun e=>by cases e; exact h rfl)
def zEP:(x y:Factor)→Decidable (x=y)
 | ⟨a,e⟩,⟨a',e'⟩=>match zGV a a',decEq e e' with
  | .isTrue h1,.isTrue h2=>.isTrue (by subst h1 h2; rfl)
  | .isFalse h,_=>.isFalse (fun e=>by cases e; exact h rfl)
  | _,.isFalse h=>.isFalse (fun e=>by cases e; exact h rfl)
def zDQ:(x y:List Factor)→Decidable (x=y)
 | [],[]=>.isTrue rfl
 | [],_::_=>.isFalse (by simp)
 | _::_,[]=>.isFalse (by simp)
 | x::r,y::s=>match zEP x y,zDQ r s with
  | .isTrue h1,.isTrue h2=>.isTrue (by subst h1 h2; rfl)
  | .isFalse h,_=>.isFalse (fun e=>by cases e; exact h rfl)
  | _,.isFalse h=>.isFalse (fun e=>by cases e; exact h rfl)
def zGS:(x y:Term)→Decidable (x=y)
 | ⟨a,e⟩,⟨a',e'⟩=>match decEq a a',zDQ e e' with
  | .isTrue h1,.isTrue h2=>.isTrue (by subst h1 h2; rfl)
  | .isFalse h,_=>.isFalse (fun e=>by cases e; exact h rfl)
  | _,.isFalse h=>.isFalse (fun e=>by cases e; exact h rfl)
def zFp:(x y:List Term)→Decidable (x=y)
 | [],[]=>.isTrue rfl
 | [],_::_=>.isFalse (by simp)
 | _::_,[]=>.isFalse (by simp)
 | x::r,y::s=>match zGS x y,zFp r s with
  | .isTrue h1,.isTrue h2=>.isTrue (by subst h1 h2; rfl)
  | .isFalse h,_=>.isFalse (fun e=>by cases e; exact h rfl)
  | _,.isFalse h=>.isFalse (fun e=>by cases e; exact h rfl)
def zGK:(x y:List (List Term))→Decidable (x=y)
 | [],[]=>.isTrue rfl
 | [],_::_=>.isFalse (by simp)
 | _::_,[]=>.isFalse (by simp)
 | x::r,y::s=>match zFp x y,zGK r s with
  | .isTrue h1,.isTrue h2=>.isTrue (by subst h1 h2; rfl)
  | .isFalse h,_=>.isFalse (fun e=>by cases e; exact h rfl)
  | _,.isFalse h=>.isFalse (fun e=>by cases e; exact h rfl)
def zGX:(x y:Weighted)→Decidable (x=y)
 | ⟨a,e⟩,⟨a',e'⟩=>match decEq a a',zFp e e' with
  | .isTrue h1,.isTrue h2=>.isTrue (by subst h1 h2; rfl)
  | .isFalse h,_=>.isFalse (fun e=>by cases e; exact h rfl)
  | _,.isFalse h=>.isFalse (fun e=>by cases e; exact h rfl)
def zFx:(x y:List Weighted)→Decidable (x=y)
 | [],[]=>.isTrue rfl
 | [],_::_=>.isFalse (by simp)
 | _::_,[]=>.isFalse (by simp)
 | x::r,y::s=>match zGX x y,zFx r s with
  | .isTrue h1,.isTrue h2=>.isTrue (by subst h1 h2; rfl)
  | .isFalse h,_=>.isFalse (fun e=>by cases e; exact h rfl)
  | _,.isFalse h=>.isFalse (fun e=>by cases e; exact h rfl)
end
instance:DecidableEq Atom:=zGV
instance:DecidableEq Factor:=zEP
instance:DecidableEq Term:=zGS
instance:DecidableEq Weighted:=zGX
structure Row where
 Values:List Value
 Ann:List Term
 deriving DecidableEq,Inhabited
structure Table where
 ID:Int
 Name:ByteArray
 Columns:List Column
 Rows:List Row
 deriving DecidableEq,Inhabited
structure ColumnStats where
 Distinct:Int
 Min:Value
 Max:Value
 Bounds:List Value
 deriving DecidableEq,Inhabited
structure Stats where
 Table:Int
 Rows:Int
 Columns:List ColumnStats
 deriving DecidableEq,Inhabited
structure Scalar where
 Kind:Int
 Column:Int
 Value:Value
 Op:Int
 Args:List Scalar
instance:Inhabited Scalar:=⟨⟨0,0,default,0,[]⟩⟩
mutual
def zES:(x y:Scalar)→Decidable (x=y)
 | ⟨k,c,v,o,a⟩,⟨k',c',v',o',a'⟩=>
  match decEq k k',decEq c c',decEq v v',decEq o o',zC5 a a' with
  | .isTrue h1,.isTrue h2,.isTrue h3,.isTrue h4,.isTrue h5=>.isTrue (by subst h1 h2 h3 h4 h5; rfl)
  | .isFalse h,_,_,_,_=>.isFalse (fun e=>by cases e; exact h rfl)
  | _,.isFalse h,_,_,_=>.isFalse (fun e=>by cases e; exact h rfl)
  | _,_,.isFalse h,_,_=>.isFalse (fun e=>by cases e; exact h rfl)
  | _,_,_,.isFalse h,_=>.isFalse (fun e=>by cases e; exact h rfl)
  | _,_,_,_,.isFalse h=>.isFalse (fun e=>by cases e; exact h rfl)
def zC5:(x y:List Scalar)→Decidable (x=y)
 | [],[]=>.isTrue rfl
 | [],_::_=>.isFalse (by simp)
 | _::_,[]=>.isFalse (by simp)
 | x::r,y::s=>match zES x y,zC5 r s with
  | .isTrue h1,.isTrue h2=>.isTrue (by subst h1 h2; rfl)
  | .isFalse h,_=>.isFalse (fun e=>by cases e; exact h rfl)
  | _,.isFalse h=>.isFalse (fun e=>by cases e; exact h rfl)
end
instance:DecidableEq Scalar:=zES
structure Relation where
 Columns:List Column
 Rows:List Row
 deriving DecidableEq,Inhabited
structure estimator where
 s:Stats
 deriving DecidableEq,Inhabited
structure pair where
 c:Column
 v:Value
 deriving DecidableEq,Inhabited
structure Binding where
 Row:RowID
 To:List Term
 deriving DecidableEq,Inhabited
def ty:Nat→Type
 | 2=>Int
 | 3=>Int
 | 4=>Bool
 | 5=>Int
 | 9=>ByteArray
 | 22=>List Column
 | 23=>List Row
 | 25=>Table
 | 28=>List ColumnStats
 | 30=>Stats
 | 34=>List Value
 | 35=>List Term
 | 36=>List Term
 | 38=>Row
 | 40=>Value
 | 43=>ColumnStats
 | 45=>List Scalar
 | 47=>Scalar
 | 53=>List Int
 | 57=>List Stats
 | 58=>List ByteArray
 | 67=>Column
 | 68=>List Int
 | 73=>Relation
 | 74=>Int
 | 88=>estimator
 | 103=>List Relation
 | 116=>Unit
 | 129=>List Int
 | 139=>Int
 | 140=>List (List Term)
 | 145=>List pair
 | 147=>pair
 | 150=>List Factor
 | 152=>Term
 | 155=>RowID
 | 156=>List Weighted
 | 158=>Atom
 | 160=>Factor
 | 171=>Int
 | 182=>Weighted
 | 207=>List Binding
 | 210=>Binding
 | 232=>Unit
 | _=>Unit
instance:(T:Nat)→Inhabited (ty T):=fun T=>by
 unfold ty
 split <;>infer_instance
def dt67:DT ty Column:=zkW (fun x=>⟨x.1,x.2⟩) (fun x=>(x.Name,x.Type_)) (fun _=>rfl) (zc4 (zE8) (zhk .i64))
def dt40:DT ty Value:=zkW (fun x=>⟨x.1,x.2.1,x.2.2⟩) (fun x=>(x.Kind,x.Int,x.Text)) (fun _=>rfl) (zc4 (zhk .i64) (zc4 (zhk .i64) (zE8)))
def zHy:DT ty RowID:=zkW (fun x=>⟨x.1,x.2⟩) (fun x=>(x.Table,x.Seq)) (fun _=>rfl) (zc4 (zhk .i64) (zhk .i64))
def zJm:DT ty Atom:=zkW (fun x=>⟨x.1,x.2.1,x.2.2.1,x.2.2.2.1,x.2.2.2.2.1,x.2.2.2.2.2.1,x.2.2.2.2.2.2⟩) (fun x=>(x.Kind,x.Row,x.Args,x.Func,x.Items,x.Op,x.Bound)) (fun _=>rfl) (zc4 (zhk .i64) (zc4 (zHy) (zc4 (dtSl 36) (zc4 (zhk .i64) (zc4 (dtSl 182) (zc4 (zhk .i64) (dt40)))))))
def zKR:DT ty Factor:=zkW (fun x=>⟨x.1,x.2⟩) (fun x=>(x.Atom,x.Exp)) (fun _=>rfl) (zc4 (zJm) (zhk .i64))
def zKV:DT ty Term:=zkW (fun x=>⟨x.1,x.2⟩) (fun x=>(x.Coeff,x.Factors)) (fun _=>rfl) (zc4 (zhk .i64) (dtSl 160))
def zKJ:DT ty Weighted:=zkW (fun x=>⟨x.1,x.2⟩) (fun x=>(x.Value,x.Ann)) (fun _=>rfl) (zc4 (dt40) (dtSl 152))
def dt38:DT ty Row:=zkW (fun x=>⟨x.1,x.2⟩) (fun x=>(x.Values,x.Ann)) (fun _=>rfl) (zc4 (dtSl 40) (dtSl 152))
def dt25:DT ty Table:=zkW (fun x=>⟨x.1,x.2.1,x.2.2.1,x.2.2.2⟩) (fun x=>(x.ID,x.Name,x.Columns,x.Rows)) (fun _=>rfl) (zc4 (zhk .i64) (zc4 (zE8) (zc4 (dtSl 67) (dtSl 38))))
def dt43:DT ty ColumnStats:=zkW (fun x=>⟨x.1,x.2.1,x.2.2.1,x.2.2.2⟩) (fun x=>(x.Distinct,x.Min,x.Max,x.Bounds)) (fun _=>rfl) (zc4 (zhk .i64) (zc4 (dt40) (zc4 (dt40) (dtSl 40))))
def dt30:DT ty Stats:=zkW (fun x=>⟨x.1,x.2.1,x.2.2⟩) (fun x=>(x.Table,x.Rows,x.Columns)) (fun _=>rfl) (zc4 (zhk .i64) (zc4 (zhk .i64) (dtSl 43)))
def dt47:DT ty Scalar:=zkW (fun x=>⟨x.1,x.2.1,x.2.2.1,x.2.2.2.1,x.2.2.2.2⟩) (fun x=>(x.Kind,x.Column,x.Value,x.Op,x.Args)) (fun _=>rfl) (zc4 (zhk .i64) (zc4 (zhk .i64) (zc4 (dt40) (zc4 (zhk .i64) (dtSl 47)))))
def dt73:DT ty Relation:=zkW (fun x=>⟨x.1,x.2⟩) (fun x=>(x.Columns,x.Rows)) (fun _=>rfl) (zc4 (dtSl 67) (dtSl 38))
def dt88:DT ty estimator:=zkW (fun x=>⟨x⟩) (fun x=>(x.s)) (fun _=>rfl) (dt30)
def zKZ:DT ty pair:=zkW (fun x=>⟨x.1,x.2⟩) (fun x=>(x.c,x.v)) (fun _=>rfl) (zc4 (dt67) (dt40))
def zKW:DT ty Binding:=zkW (fun x=>⟨x.1,x.2⟩) (fun x=>(x.Row,x.To)) (fun _=>rfl) (zc4 (zHy) (dtSl 152))
def zDV:List ((T:Nat)×DT ty (ty T)):=[⟨2,(zhk .i64:DT ty Int)⟩,⟨3,(zhk .i64:DT ty Int)⟩,⟨4,(zKb:DT ty Bool)⟩,⟨5,(zhk .u8:DT ty Int)⟩,⟨9,(zE8:DT ty ByteArray)⟩,⟨22,(dtSl 67:DT ty (List Column))⟩,⟨23,(dtSl 38:DT ty (List Row))⟩,⟨25,(dt25:DT ty Table)⟩,⟨28,(dtSl 43:DT ty (List ColumnStats))⟩,⟨30,(dt30:DT ty Stats)⟩,⟨34,(dtSl 40:DT ty (List Value))⟩,⟨35,(dtSl 152:DT ty (List Term))⟩,⟨36,(dtSl 152:DT ty (List Term))⟩,⟨38,(dt38:DT ty Row)⟩,⟨40,(dt40:DT ty Value)⟩,⟨43,(dt43:DT ty ColumnStats)⟩,⟨45,(dtSl 47:DT ty (List Scalar))⟩,⟨47,(dt47:DT ty Scalar)⟩,⟨53,(dtSl 3:DT ty (List Int))⟩,⟨57,(dtSl 30:DT ty (List Stats))⟩,⟨58,(dtSl 9:DT ty (List ByteArray))⟩,⟨67,(dt67:DT ty Column)⟩,⟨68,(dtSl 2:DT ty (List Int))⟩,⟨73,(dt73:DT ty Relation)⟩,⟨74,(zhk .i64:DT ty Int)⟩,⟨88,(dt88:DT ty estimator)⟩,⟨103,(dtSl 73:DT ty (List Relation))⟩,⟨116,(dtMp:DT ty Unit)⟩,⟨129,(dtSl 5:DT ty (List Int))⟩,⟨139,(zhk .u64:DT ty Int)⟩,⟨140,(dtSl 36:DT ty (List (List Term)))⟩,⟨145,(dtSl 147:DT ty (List pair))⟩,⟨147,(zKZ:DT ty pair)⟩,⟨150,(dtSl 160:DT ty (List Factor))⟩,⟨152,(zKV:DT ty Term)⟩,⟨155,(zHy:DT ty RowID)⟩,⟨156,(dtSl 182:DT ty (List Weighted))⟩,⟨158,(zJm:DT ty Atom)⟩,⟨160,(zKR:DT ty Factor)⟩,⟨171,(zhk .u64:DT ty Int)⟩,⟨182,(zKJ:DT ty Weighted)⟩,⟨207,(dtSl 210:DT ty (List Binding))⟩,⟨210,(zKW:DT ty Binding)⟩,⟨232,(dtMp:DT ty Unit)⟩]
def zFa:List (Nat×TInfo):=[(2,⟨.int .i64,1,8,[.int .i64 (0)]⟩),
 (3,⟨.int .i64,1,8,[.int .i64 (0)]⟩),
 (4,⟨.bool,1,1,[.bool false]⟩),
 (5,⟨.int .u8,1,1,[.int .u8 (0)]⟩),
 (9,⟨.str,1,16,[.string ⟨#[]⟩]⟩),
 (22,⟨.slice 67,1,24,[.slice none 0 0]⟩),
 (23,⟨.slice 38,1,24,[.slice none 0 0]⟩),
 (25,⟨.struct [(0,3),(1,9),(2,22),(3,23)],4,72,[.int .i64 (0),.string ⟨#[]⟩,.slice none 0 0,.slice none 0 0]⟩),
 (28,⟨.slice 43,1,24,[.slice none 0 0]⟩),
 (30,⟨.struct [(0,3),(1,3),(2,28)],3,40,[.int .i64 (0),.int .i64 (0),.slice none 0 0]⟩),
 (34,⟨.slice 40,1,24,[.slice none 0 0]⟩),
 (35,⟨.slice 152,1,24,[.slice none 0 0]⟩),
 (36,⟨.slice 152,1,24,[.slice none 0 0]⟩),
 (38,⟨.struct [(0,34),(1,36)],2,48,[.slice none 0 0,.slice none 0 0]⟩),
 (40,⟨.struct [(0,3),(1,2),(2,9)],3,32,[.int .i64 (0),.int .i64 (0),.string ⟨#[]⟩]⟩),
 (43,⟨.struct [(0,3),(1,40),(4,40),(7,34)],8,96,[.int .i64 (0),.int .i64 (0),.int .i64 (0),.string ⟨#[]⟩,.int .i64 (0),.int .i64 (0),.string ⟨#[]⟩,.slice none 0 0]⟩),
 (45,⟨.slice 47,1,24,[.slice none 0 0]⟩),
 (47,⟨.struct [(0,3),(1,3),(2,40),(5,3),(6,45)],7,80,[.int .i64 (0),.int .i64 (0),.int .i64 (0),.int .i64 (0),.string ⟨#[]⟩,.int .i64 (0),.slice none 0 0]⟩),
 (53,⟨.slice 3,1,24,[.slice none 0 0]⟩),
 (57,⟨.slice 30,1,24,[.slice none 0 0]⟩),
 (58,⟨.slice 9,1,24,[.slice none 0 0]⟩),
 (67,⟨.struct [(0,9),(1,3)],2,24,[.string ⟨#[]⟩,.int .i64 (0)]⟩),
 (68,⟨.slice 2,1,24,[.slice none 0 0]⟩),
 (73,⟨.struct [(0,22),(1,23)],2,48,[.slice none 0 0,.slice none 0 0]⟩),
 (74,⟨.int .i64,1,8,[.int .i64 (0)]⟩),
 (88,⟨.struct [(0,30)],3,40,[.int .i64 (0),.int .i64 (0),.slice none 0 0]⟩),
 (103,⟨.slice 73,1,24,[.slice none 0 0]⟩),
 (116,⟨.map 40 4,1,8,[.map none]⟩),
 (129,⟨.slice 5,1,24,[.slice none 0 0]⟩),
 (139,⟨.int .u64,1,8,[.int .u64 (0)]⟩),
 (140,⟨.slice 36,1,24,[.slice none 0 0]⟩),
 (145,⟨.slice 147,1,24,[.slice none 0 0]⟩),
 (147,⟨.struct [(0,67),(2,40)],5,56,[.string ⟨#[]⟩,.int .i64 (0),.int .i64 (0),.int .i64 (0),.string ⟨#[]⟩]⟩),
 (150,⟨.slice 160,1,24,[.slice none 0 0]⟩),
 (152,⟨.struct [(0,2),(1,150)],2,32,[.int .i64 (0),.slice none 0 0]⟩),
 (155,⟨.struct [(0,3),(1,3)],2,16,[.int .i64 (0),.int .i64 (0)]⟩),
 (156,⟨.slice 182,1,24,[.slice none 0 0]⟩),
 (158,⟨.struct [(0,3),(1,155),(3,140),(4,3),(5,156),(6,3),(7,40)],10,120,[.int .i64 (0),.int .i64 (0),.int .i64 (0),.slice none 0 0,.int .i64 (0),.slice none 0 0,.int .i64 (0),.int .i64 (0),.int .i64 (0),.string ⟨#[]⟩]⟩),
 (160,⟨.struct [(0,158),(10,3)],11,128,[.int .i64 (0),.int .i64 (0),.int .i64 (0),.slice none 0 0,.int .i64 (0),.slice none 0 0,.int .i64 (0),.int .i64 (0),.int .i64 (0),.string ⟨#[]⟩,.int .i64 (0)]⟩),
 (171,⟨.int .u64,1,8,[.int .u64 (0)]⟩),
 (182,⟨.struct [(0,40),(3,36)],4,56,[.int .i64 (0),.int .i64 (0),.string ⟨#[]⟩,.slice none 0 0]⟩),
 (207,⟨.slice 210,1,24,[.slice none 0 0]⟩),
 (210,⟨.struct [(0,155),(2,36)],3,40,[.int .i64 (0),.int .i64 (0),.slice none 0 0]⟩),
 (232,⟨.map 3 3,1,8,[.map none]⟩)]
def zAS:List (Nat×List TD):=[(67,[.str,.int .i64]),(40,[.int .i64,.int .i64,.str]),(155,[.int .i64,.int .i64])]
def inv (w:World):Prop:=Lib.TabIs Tryz.prog w "internal/strconv.uint64pow10" .u64 Lib.pow10Tab∧(∃ m,w.cell? ⟨0,0,none⟩=some (.int .i64 m))
theorem zI0 {n:String} {g:Nat} {w w':World} (hg:Tryz.prog.globalNamed n=some g) (h:w'.heap[g]? =w.heap[g]?):w'.var? Tryz.prog n=w.var? Tryz.prog n:=by
 unfold World.var?; rw [hg]; simp only [Option.bind_some,h]
theorem zHR (w w':World) (hi:inv w) (hb:∀ b,b<4→w'.heap[b]? =w.heap[b]?):inv w':=by
 obtain ⟨h1,⟨m,h2⟩⟩:=hi
 refine ⟨(zI0 (g:=1) (by kernel_rfl) (hb 1 (by omega))).trans h1,⟨m, ?_⟩⟩
 rw [← h2]; exact World.cell?_of_block (a:=⟨0,0,none⟩) (hb 0 (by omega))
def base:Cx ty:={ ti:=fun T=>zFa.lookup T,dflt:=fun _=>default,enc:=fun T=>(tabT zDV T).enc,dec:=fun T=>(tabT zDV T).dec,spec:=fun _=>none,io:=fun _=>[],eqs:=fun T us vs=>match zAS.lookup T with | some ts=>zM ts us vs | none=>none,nt:=0,head:=fun _=>[],out:=fun _ _=>[],loops:=fun _=>none,ng:=4,inv:=inv }
theorem zHL:Tryz.prog.info? 2=some Tryz.t2:=by kernel_rfl
theorem zkZ:Tryz.prog.info? 3=some Tryz.t3:=by kernel_rfl
theorem zKU:Tryz.prog.info? 4=some Tryz.t4:=by kernel_rfl
theorem zKM:Tryz.prog.info? 5=some Tryz.t5:=by kernel_rfl
theorem zFe:Tryz.prog.info? 9=some Tryz.t9:=by kernel_rfl
theorem zFO:Tryz.prog.info? 22=some Tryz.t22:=by kernel_rfl
theorem zFW:Tryz.prog.info? 23=some Tryz.t23:=by kernel_rfl
theorem zKa:Tryz.prog.info? 25=some Tryz.t25:=by kernel_rfl
theorem zIa:Tryz.prog.info? 28=some Tryz.t28:=by kernel_rfl
theorem zIF:Tryz.prog.info? 30=some Tryz.t30:=by kernel_rfl
theorem zFk:Tryz.prog.info? 34=some Tryz.t34:=by kernel_rfl
theorem zKu:Tryz.prog.info? 35=some Tryz.t35:=by kernel_rfl
theorem zDB:Tryz.prog.info? 36=some Tryz.t36:=by kernel_rfl
theorem zKv:Tryz.prog.info? 38=some Tryz.t38:=by kernel_rfl
theorem zvA:Tryz.prog.info? 40=some Tryz.t40:=by kernel_rfl
theorem zKn:Tryz.prog.info? 43=some Tryz.t43:=by kernel_rfl
theorem zH1:Tryz.prog.info? 45=some Tryz.t45:=by kernel_rfl
theorem zKm:Tryz.prog.info? 47=some Tryz.t47:=by kernel_rfl
theorem zKh:Tryz.prog.info? 53=some Tryz.t53:=by kernel_rfl
theorem zKt:Tryz.prog.info? 57=some Tryz.t57:=by kernel_rfl
theorem zKs:Tryz.prog.info? 58=some Tryz.t58:=by kernel_rfl
theorem zIb:Tryz.prog.info? 67=some Tryz.t67:=by kernel_rfl
theorem zKp:Tryz.prog.info? 68=some Tryz.t68:=by kernel_rfl
theorem zKi:Tryz.prog.info? 73=some Tryz.t73:=by kernel_rfl
theorem zKk:Tryz.prog.info? 74=some Tryz.t74:=by kernel_rfl
theorem zKq:Tryz.prog.info? 88=some Tryz.t88:=by kernel_rfl
theorem zJI:Tryz.prog.info? 103=some Tryz.t103:=by kernel_rfl
theorem zJr:Tryz.prog.info? 116=some Tryz.t116:=by kernel_rfl
theorem zJV:Tryz.prog.info? 129=some Tryz.t129:=by kernel_rfl
theorem zJM:Tryz.prog.info? 139=some Tryz.t139:=by kernel_rfl
theorem zG7:Tryz.prog.info? 140=some Tryz.t140:=by kernel_rfl
theorem zJP:Tryz.prog.info? 145=some Tryz.t145:=by kernel_rfl
theorem zJR:Tryz.prog.info? 147=some Tryz.t147:=by kernel_rfl
theorem zGP:Tryz.prog.info? 150=some Tryz.t150:=by kernel_rfl
theorem zJD:Tryz.prog.info? 152=some Tryz.t152:=by kernel_rfl
theorem zD3:Tryz.prog.info? 155=some Tryz.t155:=by kernel_rfl
theorem zGQ:Tryz.prog.info? 156=some Tryz.t156:=by kernel_rfl
theorem zGO:Tryz.prog.info? 158=some Tryz.t158:=by kernel_rfl
theorem zJX:Tryz.prog.info? 160=some Tryz.t160:=by kernel_rfl
theorem zJs:Tryz.prog.info? 171=some Tryz.t171:=by kernel_rfl
theorem zJU:Tryz.prog.info? 182=some Tryz.t182:=by kernel_rfl
theorem zJB:Tryz.prog.info? 207=some Tryz.t207:=by kernel_rfl
theorem zJZ:Tryz.prog.info? 210=some Tryz.t210:=by kernel_rfl
theorem zJL:Tryz.prog.info? 232=some Tryz.t232:=by kernel_rfl
theorem zJC:∀ T i,zFa.lookup T=some i→InfoOK Tryz.prog T i:=by
 intro T i h
 have h:=zuH _ _ _ h
 simp only [zFa,List.mem_cons,List.not_mem_nil,or_false,Prod.mk.injEq] at h
 rcases h with ⟨rfl,rfl⟩ | ⟨rfl,rfl⟩ | ⟨rfl,rfl⟩ | ⟨rfl,rfl⟩ | ⟨rfl,rfl⟩ | ⟨rfl,rfl⟩ | ⟨rfl,rfl⟩ | ⟨rfl,rfl⟩ | ⟨rfl,rfl⟩ | ⟨rfl,rfl⟩ | ⟨rfl,rfl⟩ | ⟨rfl,rfl⟩ | ⟨rfl,rfl⟩ | ⟨rfl,rfl⟩ | ⟨rfl,rfl⟩ | ⟨rfl,rfl⟩ | ⟨rfl,rfl⟩ | ⟨rfl,rfl⟩ | ⟨rfl,rfl⟩ | ⟨rfl,rfl⟩ | ⟨rfl,rfl⟩ | ⟨rfl,rfl⟩ | ⟨rfl,rfl⟩ | ⟨rfl,rfl⟩ | ⟨rfl,rfl⟩ | ⟨rfl,rfl⟩ | ⟨rfl,rfl⟩ | ⟨rfl,rfl⟩ | ⟨rfl,rfl⟩ | ⟨rfl,rfl⟩ | ⟨rfl,rfl⟩ | ⟨rfl,rfl⟩ | ⟨rfl,rfl⟩ | ⟨rfl,rfl⟩ | ⟨rfl,rfl⟩ | ⟨rfl,rfl⟩ | ⟨rfl,rfl⟩ | ⟨rfl,rfl⟩ | ⟨rfl,rfl⟩ | ⟨rfl,rfl⟩ | ⟨rfl,rfl⟩ | ⟨rfl,rfl⟩ | ⟨rfl,rfl⟩ | ⟨rfl,rfl⟩
 ·exact ⟨Tryz.t2,_,_,zHL,Tryz.underlying2,rfl,rfl,rfl,rfl,rfl,⟨by simp [zO],fun _=>rfl⟩,rfl⟩
 ·exact ⟨Tryz.t3,_,_,zkZ,Tryz.underlying3,rfl,rfl,rfl,rfl,rfl,⟨by simp [zO],fun _=>rfl⟩,rfl⟩
 ·exact ⟨Tryz.t4,_,_,zKU,Tryz.underlying4,rfl,rfl,rfl,rfl,rfl,⟨by simp [zO],fun _=>rfl⟩,rfl⟩
 ·exact ⟨Tryz.t5,_,_,zKM,Tryz.underlying5,rfl,rfl,rfl,rfl,rfl,⟨by simp [zO],fun _=>rfl⟩,rfl⟩
 ·exact ⟨Tryz.t9,_,_,zFe,Tryz.underlying9,rfl,rfl,rfl,rfl,rfl,⟨by simp [zO],fun _=>rfl⟩,rfl⟩
 ·exact ⟨Tryz.t22,_,_,zFO,Tryz.underlying22,rfl,rfl,rfl,rfl,rfl,⟨by simp [zO],fun _=>rfl⟩,rfl⟩
 ·exact ⟨Tryz.t23,_,_,zFW,Tryz.underlying23,rfl,rfl,rfl,rfl,rfl,⟨by simp [zO],fun _=>rfl⟩,rfl⟩
 ·exact ⟨Tryz.t25,_,_,zKa,Tryz.underlying25,rfl,rfl,rfl,rfl,rfl,⟨by simp [zO],fun h=>by cases h⟩,⟨_,rfl,rfl,fun f hf=>by
   simp only [List.mem_cons,List.not_mem_nil,or_false] at hf
   rcases hf with rfl | rfl | rfl | rfl
   ·exact Option.isSome_iff_exists.2 ⟨_,zkZ⟩
   ·exact Option.isSome_iff_exists.2 ⟨_,zFe⟩
   ·exact Option.isSome_iff_exists.2 ⟨_,zFO⟩
   ·exact Option.isSome_iff_exists.2 ⟨_,zFW⟩⟩⟩
 ·exact ⟨Tryz.t28,_,_,zIa,Tryz.underlying28,rfl,rfl,rfl,rfl,rfl,⟨by simp [zO],fun _=>rfl⟩,rfl⟩
 ·exact ⟨Tryz.t30,_,_,zIF,Tryz.underlying30,rfl,rfl,rfl,rfl,rfl,⟨by simp [zO],fun h=>by cases h⟩,⟨_,rfl,rfl,fun f hf=>by
   simp only [List.mem_cons,List.not_mem_nil,or_false] at hf
   rcases hf with rfl | rfl | rfl
   ·exact Option.isSome_iff_exists.2 ⟨_,zkZ⟩
   ·exact Option.isSome_iff_exists.2 ⟨_,zkZ⟩
   ·exact Option.isSome_iff_exists.2 ⟨_,zIa⟩⟩⟩
 ·exact ⟨Tryz.t34,_,_,zFk,Tryz.underlying34,rfl,rfl,rfl,rfl,rfl,⟨by simp [zO],fun _=>rfl⟩,rfl⟩
 ·exact ⟨Tryz.t35,_,_,zKu,Tryz.underlying35,rfl,rfl,rfl,rfl,rfl,⟨by simp [zO],fun _=>rfl⟩,rfl⟩
 ·exact ⟨Tryz.t36,_,_,zDB,Tryz.underlying36,rfl,rfl,rfl,rfl,rfl,⟨by simp [zO],fun _=>rfl⟩,rfl⟩
 ·exact ⟨Tryz.t38,_,_,zKv,Tryz.underlying38,rfl,rfl,rfl,rfl,rfl,⟨by simp [zO],fun h=>by cases h⟩,⟨_,rfl,rfl,fun f hf=>by
   simp only [List.mem_cons,List.not_mem_nil,or_false] at hf
   rcases hf with rfl | rfl
   ·exact Option.isSome_iff_exists.2 ⟨_,zFk⟩
   ·exact Option.isSome_iff_exists.2 ⟨_,zDB⟩⟩⟩
 ·exact ⟨Tryz.t40,_,_,zvA,Tryz.underlying40,rfl,rfl,rfl,rfl,rfl,⟨by simp [zO],fun h=>by cases h⟩,⟨_,rfl,rfl,fun f hf=>by
   simp only [List.mem_cons,List.not_mem_nil,or_false] at hf
   rcases hf with rfl | rfl | rfl
   ·exact Option.isSome_iff_exists.2 ⟨_,zkZ⟩
   ·exact Option.isSome_iff_exists.2 ⟨_,zHL⟩
   ·exact Option.isSome_iff_exists.2 ⟨_,zFe⟩⟩⟩
 ·exact ⟨Tryz.t43,_,_,zKn,Tryz.underlying43,rfl,rfl,rfl,rfl,rfl,⟨by simp [zO],fun h=>by cases h⟩,⟨_,rfl,rfl,fun f hf=>by
   simp only [List.mem_cons,List.not_mem_nil,or_false] at hf
   rcases hf with rfl | rfl | rfl | rfl
   ·exact Option.isSome_iff_exists.2 ⟨_,zkZ⟩
   ·exact Option.isSome_iff_exists.2 ⟨_,zvA⟩
   ·exact Option.isSome_iff_exists.2 ⟨_,zvA⟩
   ·exact Option.isSome_iff_exists.2 ⟨_,zFk⟩⟩⟩
 ·exact ⟨Tryz.t45,_,_,zH1,Tryz.underlying45,rfl,rfl,rfl,rfl,rfl,⟨by simp [zO],fun _=>rfl⟩,rfl⟩
 ·exact ⟨Tryz.t47,_,_,zKm,Tryz.underlying47,rfl,rfl,rfl,rfl,rfl,⟨by simp [zO],fun h=>by cases h⟩,⟨_,rfl,rfl,fun f hf=>by
   simp only [List.mem_cons,List.not_mem_nil,or_false] at hf
   rcases hf with rfl | rfl | rfl | rfl | rfl
   ·exact Option.isSome_iff_exists.2 ⟨_,zkZ⟩
   ·exact Option.isSome_iff_exists.2 ⟨_,zkZ⟩
   ·exact Option.isSome_iff_exists.2 ⟨_,zvA⟩
   ·exact Option.isSome_iff_exists.2 ⟨_,zkZ⟩
   ·exact Option.isSome_iff_exists.2 ⟨_,zH1⟩⟩⟩
 ·exact ⟨Tryz.t53,_,_,zKh,Tryz.underlying53,rfl,rfl,rfl,rfl,rfl,⟨by simp [zO],fun _=>rfl⟩,rfl⟩
 ·exact ⟨Tryz.t57,_,_,zKt,Tryz.underlying57,rfl,rfl,rfl,rfl,rfl,⟨by simp [zO],fun _=>rfl⟩,rfl⟩
 ·exact ⟨Tryz.t58,_,_,zKs,Tryz.underlying58,rfl,rfl,rfl,rfl,rfl,⟨by simp [zO],fun _=>rfl⟩,rfl⟩
 ·exact ⟨Tryz.t67,_,_,zIb,Tryz.underlying67,rfl,rfl,rfl,rfl,rfl,⟨by simp [zO],fun h=>by cases h⟩,⟨_,rfl,rfl,fun f hf=>by
   simp only [List.mem_cons,List.not_mem_nil,or_false] at hf
   rcases hf with rfl | rfl
   ·exact Option.isSome_iff_exists.2 ⟨_,zFe⟩
   ·exact Option.isSome_iff_exists.2 ⟨_,zkZ⟩⟩⟩
 ·exact ⟨Tryz.t68,_,_,zKp,Tryz.underlying68,rfl,rfl,rfl,rfl,rfl,⟨by simp [zO],fun _=>rfl⟩,rfl⟩
 ·exact ⟨Tryz.t73,_,_,zKi,Tryz.underlying73,rfl,rfl,rfl,rfl,rfl,⟨by simp [zO],fun h=>by cases h⟩,⟨_,rfl,rfl,fun f hf=>by
   simp only [List.mem_cons,List.not_mem_nil,or_false] at hf
   rcases hf with rfl | rfl
   ·exact Option.isSome_iff_exists.2 ⟨_,zFO⟩
   ·exact Option.isSome_iff_exists.2 ⟨_,zFW⟩⟩⟩
 ·exact ⟨Tryz.t74,_,_,zKk,Tryz.underlying74,rfl,rfl,rfl,rfl,rfl,⟨by simp [zO],fun _=>rfl⟩,rfl⟩
 ·exact ⟨Tryz.t88,_,_,zKq,Tryz.underlying88,rfl,rfl,rfl,rfl,rfl,⟨by simp [zO],fun h=>by cases h⟩,⟨_,rfl,rfl,fun f hf=>by
   simp only [List.mem_cons,List.not_mem_nil,or_false] at hf
   rcases hf with rfl
   ·exact Option.isSome_iff_exists.2 ⟨_,zIF⟩⟩⟩
 ·exact ⟨Tryz.t103,_,_,zJI,Tryz.underlying103,rfl,rfl,rfl,rfl,rfl,⟨by simp [zO],fun _=>rfl⟩,rfl⟩
 ·exact ⟨Tryz.t116,_,_,zJr,Tryz.underlying116,rfl,rfl,rfl,rfl,rfl,⟨by simp [zO],fun _=>rfl⟩,rfl⟩
 ·exact ⟨Tryz.t129,_,_,zJV,Tryz.underlying129,rfl,rfl,rfl,rfl,rfl,⟨by simp [zO],fun _=>rfl⟩,rfl⟩
 ·exact ⟨Tryz.t139,_,_,zJM,Tryz.underlying139,rfl,rfl,rfl,rfl,rfl,⟨by simp [zO],fun _=>rfl⟩,rfl⟩
 ·exact ⟨Tryz.t140,_,_,zG7,Tryz.underlying140,rfl,rfl,rfl,rfl,rfl,⟨by simp [zO],fun _=>rfl⟩,rfl⟩
 ·exact ⟨Tryz.t145,_,_,zJP,Tryz.underlying145,rfl,rfl,rfl,rfl,rfl,⟨by simp [zO],fun _=>rfl⟩,rfl⟩
 ·exact ⟨Tryz.t147,_,_,zJR,Tryz.underlying147,rfl,rfl,rfl,rfl,rfl,⟨by simp [zO],fun h=>by cases h⟩,⟨_,rfl,rfl,fun f hf=>by
   simp only [List.mem_cons,List.not_mem_nil,or_false] at hf
   rcases hf with rfl | rfl
   ·exact Option.isSome_iff_exists.2 ⟨_,zIb⟩
   ·exact Option.isSome_iff_exists.2 ⟨_,zvA⟩⟩⟩
 ·exact ⟨Tryz.t150,_,_,zGP,Tryz.underlying150,rfl,rfl,rfl,rfl,rfl,⟨by simp [zO],fun _=>rfl⟩,rfl⟩
 ·exact ⟨Tryz.t152,_,_,zJD,Tryz.underlying152,rfl,rfl,rfl,rfl,rfl,⟨by simp [zO],fun h=>by cases h⟩,⟨_,rfl,rfl,fun f hf=>by
   simp only [List.mem_cons,List.not_mem_nil,or_false] at hf
   rcases hf with rfl | rfl
   ·exact Option.isSome_iff_exists.2 ⟨_,zHL⟩
   ·exact Option.isSome_iff_exists.2 ⟨_,zGP⟩⟩⟩
 ·exact ⟨Tryz.t155,_,_,zD3,Tryz.underlying155,rfl,rfl,rfl,rfl,rfl,⟨by simp [zO],fun h=>by cases h⟩,⟨_,rfl,rfl,fun f hf=>by
   simp only [List.mem_cons,List.not_mem_nil,or_false] at hf
   rcases hf with rfl | rfl
   ·exact Option.isSome_iff_exists.2 ⟨_,zkZ⟩
   ·exact Option.isSome_iff_exists.2 ⟨_,zkZ⟩⟩⟩
 ·exact ⟨Tryz.t156,_,_,zGQ,Tryz.underlying156,rfl,rfl,rfl,rfl,rfl,⟨by simp [zO],fun _=>rfl⟩,rfl⟩
 ·exact ⟨Tryz.t158,_,_,zGO,Tryz.underlying158,rfl,rfl,rfl,rfl,rfl,⟨by simp [zO],fun h=>by cases h⟩,⟨_,rfl,rfl,fun f hf=>by
   simp only [List.mem_cons,List.not_mem_nil,or_false] at hf
   rcases hf with rfl | rfl | rfl | rfl | rfl | rfl | rfl
   ·exact Option.isSome_iff_exists.2 ⟨_,zkZ⟩
   ·exact Option.isSome_iff_exists.2 ⟨_,zD3⟩
   ·exact Option.isSome_iff_exists.2 ⟨_,zG7⟩
   ·exact Option.isSome_iff_exists.2 ⟨_,zkZ⟩
   ·exact Option.isSome_iff_exists.2 ⟨_,zGQ⟩
   ·exact Option.isSome_iff_exists.2 ⟨_,zkZ⟩
   ·exact Option.isSome_iff_exists.2 ⟨_,zvA⟩⟩⟩
 ·exact ⟨Tryz.t160,_,_,zJX,Tryz.underlying160,rfl,rfl,rfl,rfl,rfl,⟨by simp [zO],fun h=>by cases h⟩,⟨_,rfl,rfl,fun f hf=>by
   simp only [List.mem_cons,List.not_mem_nil,or_false] at hf
   rcases hf with rfl | rfl
   ·exact Option.isSome_iff_exists.2 ⟨_,zGO⟩
   ·exact Option.isSome_iff_exists.2 ⟨_,zkZ⟩⟩⟩
 ·exact ⟨Tryz.t171,_,_,zJs,Tryz.underlying171,rfl,rfl,rfl,rfl,rfl,⟨by simp [zO],fun _=>rfl⟩,rfl⟩
 ·exact ⟨Tryz.t182,_,_,zJU,Tryz.underlying182,rfl,rfl,rfl,rfl,rfl,⟨by simp [zO],fun h=>by cases h⟩,⟨_,rfl,rfl,fun f hf=>by
   simp only [List.mem_cons,List.not_mem_nil,or_false] at hf
   rcases hf with rfl | rfl
   ·exact Option.isSome_iff_exists.2 ⟨_,zvA⟩
   ·exact Option.isSome_iff_exists.2 ⟨_,zDB⟩⟩⟩
 ·exact ⟨Tryz.t207,_,_,zJB,Tryz.underlying207,rfl,rfl,rfl,rfl,rfl,⟨by simp [zO],fun _=>rfl⟩,rfl⟩
 ·exact ⟨Tryz.t210,_,_,zJZ,Tryz.underlying210,rfl,rfl,rfl,rfl,rfl,⟨by simp [zO],fun h=>by cases h⟩,⟨_,rfl,rfl,fun f hf=>by
   simp only [List.mem_cons,List.not_mem_nil,or_false] at hf
   rcases hf with rfl | rfl
   ·exact Option.isSome_iff_exists.2 ⟨_,zD3⟩
   ·exact Option.isSome_iff_exists.2 ⟨_,zDB⟩⟩⟩
 ·exact ⟨Tryz.t232,_,_,zJL,Tryz.underlying232,rfl,rfl,rfl,rfl,rfl,⟨by simp [zO],fun _=>rfl⟩,rfl⟩
theorem zIJ:∀ T us vs b,(match zAS.lookup T with | some ts=>zM ts us vs | none=>none)=some b→∀ w,zHj Tryz.prog T us vs b w:=by
 intro T us vs b h w
 split at h
 ·rename_i ts hl
  have hl:=zuH _ _ _ hl
  simp only [zAS,List.mem_cons,List.not_mem_nil,or_false,Prod.mk.injEq] at hl
  rcases hl with ⟨rfl,rfl⟩ | ⟨rfl,rfl⟩ | ⟨rfl,rfl⟩
  ·refine zz1 _ _ Tryz.underlying67 (by kernel_rfl) (by kernel_rfl) rfl ?_ h w
   intro j f t hj ht
   rcases j with _ | j
   ·simp at hj ht; subst hj ht; exact ⟨rfl,by decide,_,Tryz.underlying9,rfl⟩
   rcases j with _ | j
   ·simp at hj ht; subst hj ht; exact ⟨rfl,by decide,_,Tryz.underlying3,rfl⟩
   simp at hj
  ·refine zz1 _ _ Tryz.underlying40 (by kernel_rfl) (by kernel_rfl) rfl ?_ h w
   intro j f t hj ht
   rcases j with _ | j
   ·simp at hj ht; subst hj ht; exact ⟨rfl,by decide,_,Tryz.underlying3,rfl⟩
   rcases j with _ | j
   ·simp at hj ht; subst hj ht; exact ⟨rfl,by decide,_,Tryz.underlying2,rfl⟩
   rcases j with _ | j
   ·simp at hj ht; subst hj ht; exact ⟨rfl,by decide,_,Tryz.underlying9,rfl⟩
   simp at hj
  ·refine zz1 _ _ Tryz.underlying155 (by kernel_rfl) (by kernel_rfl) rfl ?_ h w
   intro j f t hj ht
   rcases j with _ | j
   ·simp at hj ht; subst hj ht; exact ⟨rfl,by decide,_,Tryz.underlying3,rfl⟩
   rcases j with _ | j
   ·simp at hj ht; subst hj ht; exact ⟨rfl,by decide,_,Tryz.underlying3,rfl⟩
   simp at hj
 ·cases h
theorem zIN:∀ T us vs,base.eqs T us us=some true→base.eqs T vs vs=some true→base.eqs T us vs=some (zmX us vs)∧(zmX us vs=true→us=vs)∧∀ u∈us,∀ n,Instr.sameBits n u u=true:=by
 intro T us vs h1 h2
 simp only [base] at h1 h2 ⊢
 cases hl:zAS.lookup T with
 | none=>rw [hl] at h1; cases h1
 | some ts=>rw [hl] at h1 h2; exact zDw ts us vs h1 h2
theorem zI8:∀ T us b,base.eqs T us us=some b→b=true:=by
 intro T us b h
 simp only [base] at h
 cases hl:zAS.lookup T with
 | none=>rw [hl] at h; cases h
 | some ts=>rw [hl] at h; exact zB7 ts us b h
theorem zm:CxOK Tryz.prog base:=⟨zJC,fun T x=>by rw [show szOf base T=_ from (zFP zDV zFa rfl T).symm]; exact DT.len _ x,fun T x c h=>by have:=DT.cell _ _ c h; revert this; cases c <;>exact id,fun T cs x h F w us hr=>DT.ok _ base F w us cs x h hr,zIJ,zIN,zI8,zHR⟩
def base0:Cx ty:={ base with dr:=false }
theorem zs4:CxOK Tryz.prog base0:=CxOK.cg (cx:=base) (cx':=base0) ⟨rfl,rfl,rfl,rfl,rfl,rfl⟩ zm
theorem zF:Tryz.prog.follows .mixedOrders=true:=by kernel_rfl
end Go.Proofs.YtddkaehkimnklaaGreatDoor
/- What is read of an argument, as typed data. -/
namespace Go.Proofs.YtddkaehkimnklaaGreatDoor
open Go Go.Ab
def wf2 (x:Int):Prop:=(Lit.int .i64 x).wf=true
def wf3 (x:Int):Prop:=(Lit.int .i64 x).wf=true
def wf4 (x:Bool):Prop:=True
def wf5 (x:Int):Prop:=(Lit.int .u8 x).wf=true
def wf9 (x:ByteArray):Prop:=ByteArray.size x≤roomLen
def wf67 (x:Column):Prop:=wf9 x.Name∧wf3 x.Type_
def wf22 (x:List Column):Prop:=(∀ y∈x,wf67 y)∧List.length x≤roomLen
def wf40 (x:Value):Prop:=wf3 x.Kind∧wf2 x.Int∧wf9 x.Text
def wf34 (x:List Value):Prop:=(∀ y∈x,wf40 y)∧List.length x≤roomLen
def zJo (x:RowID):Prop:=wf3 x.Table∧wf3 x.Seq
mutual
def zIl:Atom→Prop
 | ⟨k,r,a,f,i,o,b⟩=>wf3 k∧zJo r∧(zF4 a∧a.length≤roomLen)∧wf3 f∧(zEj i∧i.length≤roomLen)∧wf3 o∧wf40 b
def zFI:Factor→Prop
 | ⟨a,e⟩=>zIl a∧wf3 e
def zAV:List Factor→Prop
 | []=>True
 | x::r=>zFI x∧zAV r
def zIp:Term→Prop
 | ⟨c,f⟩=>wf2 c∧(zAV f∧f.length≤roomLen)
def zFc:List Term→Prop
 | []=>True
 | x::r=>zIp x∧zFc r
def zF4:List (List Term)→Prop
 | []=>True
 | x::r=>(zFc x∧x.length≤roomLen)∧zF4 r
def zIq:Weighted→Prop
 | ⟨v,a⟩=>wf40 v∧(zFc a∧a.length≤roomLen)
def zEj:List Weighted→Prop
 | []=>True
 | x::r=>zIq x∧zEj r
end
def wf36 (x:List Term):Prop:=zFc x∧List.length x≤roomLen
def zKS (x:List (List Term)):Prop:=zF4 x∧List.length x≤roomLen
def zKL (x:List Factor):Prop:=zAV x∧List.length x≤roomLen
def zKH (x:Term):Prop:=zIp x
def zKP (x:List Weighted):Prop:=zEj x∧List.length x≤roomLen
def zKK (x:Atom):Prop:=zIl x
def zKC (x:Factor):Prop:=zFI x
def zKI (x:Weighted):Prop:=zIq x
def wf38 (x:Row):Prop:=wf34 x.Values∧wf36 x.Ann
def wf23 (x:List Row):Prop:=(∀ y∈x,wf38 y)∧List.length x≤roomLen
def wf25 (x:Table):Prop:=wf3 x.ID∧wf9 x.Name∧wf22 x.Columns∧wf23 x.Rows
def wf43 (x:ColumnStats):Prop:=wf3 x.Distinct∧wf40 x.Min∧wf40 x.Max∧wf34 x.Bounds
def wf28 (x:List ColumnStats):Prop:=(∀ y∈x,wf43 y)∧List.length x≤roomLen
def wf30 (x:Stats):Prop:=wf3 x.Table∧wf3 x.Rows∧wf28 x.Columns
mutual
def zFG:Scalar→Prop
 | ⟨k,c,v,o,a⟩=>wf3 k∧wf3 c∧wf40 v∧wf3 o∧(zAP a∧a.length≤roomLen)
def zAP:List Scalar→Prop
 | []=>True
 | x::r=>zFG x∧zAP r
end
def wf45 (x:List Scalar):Prop:=zAP x∧List.length x≤roomLen
def wf47 (x:Scalar):Prop:=zFG x
def wf53 (x:List Int):Prop:=(∀ y∈x,wf3 y)∧List.length x≤roomLen
def wf (T:Nat):ty T→Prop:=match T with
 | 2=>wf2
 | 3=>wf3
 | 4=>wf4
 | 5=>wf5
 | 9=>wf9
 | 22=>wf22
 | 23=>wf23
 | 25=>wf25
 | 28=>wf28
 | 30=>wf30
 | 34=>wf34
 | 36=>wf36
 | 38=>wf38
 | 40=>wf40
 | 43=>wf43
 | 45=>wf45
 | 47=>wf47
 | 53=>wf53
 | 67=>wf67
 | 140=>zKS
 | 150=>zKL
 | 152=>zKH
 | 155=>zJo
 | 156=>zKP
 | 158=>zKK
 | 160=>zKC
 | 182=>zKI
 | _=>fun _=>True
theorem zJ9:zk0 Tryz.prog base wf 2:=zEB Tryz.underlying2 (fun n=>n) (fun _=>rfl) (fun _ h=>h)
theorem zBj:zk0 Tryz.prog base wf 3:=zEB Tryz.underlying3 (fun n=>n) (fun _=>rfl) (fun _ h=>h)
theorem zKy:zk0 Tryz.prog base wf 9:=zIr Tryz.underlying9 (fun n=>n) (fun _=>rfl) (fun _ h=>h)
theorem zD5:zk0 Tryz.prog base wf 40:=by
 intro H en w sp held fuel cs y h hz
 obtain ⟨xs,n,_,hy,hl,hlen,hf⟩:=DataW.trod_struct Tryz.underlying40 h
 have hs:=ztg Tryz.underlying40 hy hz
 obtain ⟨x0,h0,w0⟩:=zhj (off:=0) zBj (by kernel_rfl) hlen hf hs 0 _ rfl rfl rfl
 obtain ⟨x1,h1,w1⟩:=zhj (off:=1) zJ9 (by kernel_rfl) hlen hf hs 1 _ rfl rfl rfl
 obtain ⟨x2,h2,w2⟩:=zhj (off:=2) zKy (by kernel_rfl) hlen hf hs 2 _ rfl rfl rfl
 have hl:cs.length=3:=hl.trans (by kernel_rfl)
 have:=zmr h0 (zmr h1 (zCy h2 hl))
 exact ⟨(⟨x0,x1,x2⟩:Value),this,⟨w0,w1,w2⟩⟩
theorem zJH:zk0 Tryz.prog base wf 34:=zCb zm Tryz.underlying34 (by kernel_rfl) (by decide) (fun l=>l) (fun _=>rfl) (of_decide_eq_true (by kernel_rfl)) zD5 (fun _ h h2=>⟨h,h2⟩)
theorem zJ2:zk0 Tryz.prog base wf 43:=by
 intro H en w sp held fuel cs y h hz
 obtain ⟨xs,n,_,hy,hl,hlen,hf⟩:=DataW.trod_struct Tryz.underlying43 h
 have hs:=ztg Tryz.underlying43 hy hz
 obtain ⟨x0,h0,w0⟩:=zhj (off:=0) zBj (by kernel_rfl) hlen hf hs 0 _ rfl rfl rfl
 obtain ⟨x1,h1,w1⟩:=zhj (off:=1) zD5 (by kernel_rfl) hlen hf hs 1 _ rfl rfl rfl
 obtain ⟨x2,h2,w2⟩:=zhj (off:=4) zD5 (by kernel_rfl) hlen hf hs 2 _ rfl rfl rfl
 obtain ⟨x3,h3,w3⟩:=zhj (off:=7) zJH (by kernel_rfl) hlen hf hs 3 _ rfl rfl rfl
 have hl:cs.length=8:=hl.trans (by kernel_rfl)
 have:=zmr h0 (zmr h1 (zmr h2 (zCy h3 hl)))
 exact ⟨(⟨x0,x1,x2,x3⟩:ColumnStats),this,⟨w0,w1,w2,w3⟩⟩
theorem zJt:zk0 Tryz.prog base wf 28:=zCb zm Tryz.underlying28 (by kernel_rfl) (by decide) (fun l=>l) (fun _=>rfl) (of_decide_eq_true (by kernel_rfl)) zJ2 (fun _ h h2=>⟨h,h2⟩)
theorem zGG:zk0 Tryz.prog base wf 30:=by
 intro H en w sp held fuel cs y h hz
 obtain ⟨xs,n,_,hy,hl,hlen,hf⟩:=DataW.trod_struct Tryz.underlying30 h
 have hs:=ztg Tryz.underlying30 hy hz
 obtain ⟨x0,h0,w0⟩:=zhj (off:=0) zBj (by kernel_rfl) hlen hf hs 0 _ rfl rfl rfl
 obtain ⟨x1,h1,w1⟩:=zhj (off:=1) zBj (by kernel_rfl) hlen hf hs 1 _ rfl rfl rfl
 obtain ⟨x2,h2,w2⟩:=zhj (off:=2) zJt (by kernel_rfl) hlen hf hs 2 _ rfl rfl rfl
 have hl:cs.length=3:=hl.trans (by kernel_rfl)
 have:=zmr h0 (zmr h1 (zCy h2 hl))
 exact ⟨(⟨x0,x1,x2⟩:Stats),this,⟨w0,w1,w2⟩⟩
end Go.Proofs.YtddkaehkimnklaaGreatDoor
/- A world in which the row's condition holds; what the program's rows share. -/
namespace Go.Proofs.YtddkaehkimnklaaGreatDoor
open Go Go.Ab Go.Lib
theorem own:ownKnob Tryz.prog.godebug=none:=by kernel_rfl
theorem zGT:laidOutB Tryz.prog=true:=by kernel_rfl
def zK0:DataW Unit→Go.Value
 | .lit (.int k n)=>.int k n
 | .lit (.bool b)=>.bool b
 | .lit (.string s)=>.string ⟨s.toArray⟩
 | _=>undef
def zIC:Nat→DataW Unit→List Go.Value
 | n+1,.agg ds=>ds.flatMap (zIC n)
 | _,d=>[zK0 d]
def cellsOf (d:DataW Unit):Array Go.Value:=(zIC 3 d).toArray
def zDL (h:Array Obj) (g:Nat) (cs:Array Go.Value):Array Obj:=h.modify g fun
 | .cells _ t fr=>.cells cs t fr
 | o=>o
def zEs (os:Os):World:=
 let w0:=World.holding Tryz.prog os ⟨#[],#[],[]⟩
 { w0 with heap:=zDL (zDL (zDL (zDL (zDL (w0.heap) 4 (cellsOf Rows.laid_math_bits_deBruijn32tab)) 5 (cellsOf Rows.laid_math_bits_deBruijn64tab)) 1 (cellsOf Rows.laid_internal_strconv_uint64pow10)) 3 (cellsOf Rows.laid_unicode_utf8_acceptRanges)) 2 (cellsOf Rows.laid_unicode_utf8_first) }
def zti:List (String×DataW Unit):=[("math/bits.deBruijn32tab",Rows.laid_math_bits_deBruijn32tab),("math/bits.deBruijn64tab",Rows.laid_math_bits_deBruijn64tab),("internal/strconv.uint64pow10",Rows.laid_internal_strconv_uint64pow10),("unicode/utf8.acceptRanges",Rows.laid_unicode_utf8_acceptRanges),("unicode/utf8.first",Rows.laid_unicode_utf8_first)]
theorem zE0 (os:Os) (args:Array Go.Value):laidMetH Tryz.prog zti ((zEs os).forCall (fun _ _=>0) ⟨#[],args,[]⟩).memory:=
 laidMetH_of_parts (laidMet_of_run3 8 (by kernel_rfl) (by kernel_rfl) (by kernel_rfl)) (by kernel_rfl)
theorem zIi {w:World} (h:laidMetH Tryz.prog zti w):laidMet Tryz.prog zti w:=by
 unfold laidMetH at h
 rw [show (zti.filter fun x=>x.2.handleName?.isSome)=[] by kernel_rfl] at h
 exact h
theorem zKd (w:World) (hsh:w.ShapedOpen Tryz.prog) (h:laidMetH Tryz.prog zti w):base.inv w∧base.ng≤w.heap.size:=by
 have h:=zIi h
 have h1:TabIs Tryz.prog w "internal/strconv.uint64pow10" .u64 pow10Tab:=
  tabIs_of_head (g:=1) (by kernel_rfl) (by kernel_rfl) Tryz.underlying260 Tryz.underlying139 (by kernel_rfl) (by kernel_rfl) h.tail.tail
 have h4:=cell_of_shapedOpen_int (g:=0) (t:=3) (zero:=#[.int .i64 0]) hsh (of_decide_eq_true (by kernel_rfl)) (by kernel_rfl) rfl (by kernel_rfl) (by kernel_rfl) Tryz.underlying3
 obtain ⟨ps,⟨g',t',cs,fuel,p,q,hg',_,hvar,_⟩,_⟩:=h.tail
 refine ⟨⟨h1,h4⟩, ?_⟩
 unfold World.var? at hvar
 rw [show Tryz.prog.globalNamed "math/bits.deBruijn64tab"=some 5 by kernel_rfl] at hvar
 simp only [Option.bind_some] at hvar
 show 4≤w.heap.size
 cases hh:w.heap[5]? with
 | none=>rw [hh] at hvar; cases hvar
 | some o=>have:=(Array.getElem?_eq_some_iff.1 hh).1; omega
theorem zKr:mapsRowed Tryz.prog=true:=by kernel_rfl
theorem zJE:Tryz.prog.stopsHeard=true:=by kernel_rfl
theorem zJu:Tryz.prog.mayEnter=true:=by kernel_rfl
theorem zKe:Tryz.prog.liftsFinal=false:=by kernel_rfl
theorem zKA:Tryz.prog.make=some Rows.statisticsGatherRow.make:=by kernel_rfl
end Go.Proofs.YtddkaehkimnklaaGreatDoor
namespace Go.Proofs.YtddkaehkimnklaaGreatDoor
open Go Go.Ab
def zCV:Cx ty:=mkCx base 11 [] [] [] [] [] []
def zxp (op:Int) (v:Value):Wy0 (Scalar):=.k (⟨2,0,(⟨0,0,ByteArray.mk #[]⟩:Value),op,[Scalar.mk 1 0 (Value.mk 0 0 (ByteArray.mk #[])) 0 [],Scalar.mk 0 0 v 0 []]⟩:Scalar)
def zAy (op:Int) (v:Value):Bool×Scalar:=(zxp op v).fin default
def zuQ (r:Scalar):ARes ty:=⟨[.pure (.agg (base.enc 47 r))],[]⟩
def zxx:AL base (Int×Value×Unit):=zf (zg (vInt .i64)) (zf (zg (vAgg 40)) aNil)
def zt7:Ab.Spec ty:=zk zxx fun x=>((zAy x.1 x.2.1).1,zuQ (zAy x.1 x.2.1).2)
theorem zAE:Sound Tryz.prog base 21 zt7:=
 zr (cx':=zCV) zF zm zB (zu trivial) Tryz.call21 Tryz.func21 (c:=body Tryz.f21) (by kernel_rfl) (zh (l:=[]) (by kernel_rfl) trivial) (sg:=⟨[.pure],[]⟩) (A:=zxx) (res:=zuQ) (W:=fun x=>zxp x.1 x.2.1) (z:=default)
def zCS:Cx ty:=mkCx base 5 [] [] [] [] [] []
def zxk (n_:Int):Wy0 (Value):=.k (⟨0,n_,ByteArray.mk #[]⟩:Value)
def zp4 (n_:Int):Bool×Value:=(zxk n_).fin default
def zuJ (r:Value):ARes ty:=⟨[.pure (.agg (base.enc 40 r))],[]⟩
def zxr:AL base (Int×Unit):=zf (zg (vInt .i64)) aNil
def ztS:Ab.Spec ty:=zk zxr fun x=>((zp4 x.1).1,zuJ (zp4 x.1).2)
theorem zAK:Sound Tryz.prog base 32 ztS:=
 zr (cx':=zCS) zF zm zB (zu trivial) Tryz.call32 Tryz.func32 (c:=body Tryz.f32) (by kernel_rfl) (zh (l:=[]) (by kernel_rfl) trivial) (sg:=⟨[.pure],[]⟩) (A:=zxr) (res:=zuJ) (W:=fun x=>zxk x.1) (z:=default)
def zE6:Cx ty:=mkCx base 4 [] [] [] [] [] []
def zvJ (less:Bool):Wy0 (Int):=.i (less) (.k (-1:Int)) (.k 1)
def zmG (less:Bool):Bool×Int:=(zvJ less).fin default
def zyX (r:Int):ARes ty:=⟨[.pure (.lit (.int .i64 r))],[]⟩
def zBr:AL base (Bool×Unit):=zf (zg zKN) aNil
def zrA:Ab.Spec ty:=zk zBr fun x=>((zmG x.1).1,zyX (zmG x.1).2)
theorem zvF:Sound Tryz.prog base 44 zrA:=
 zr (cx':=zE6) zF zm zB (zu trivial) Tryz.call44 Tryz.func44 (c:=body Tryz.f44) (by kernel_rfl) (zh (l:=[]) (by kernel_rfl) trivial) (sg:=⟨[.pure],[]⟩) (A:=zBr) (res:=zyX) (W:=fun x=>zvJ x.1) (z:=default)
def zCG:Cx ty:=mkCx base 38 [(44,zrA)] [] [] [] [] []
def zrB (a:Value) (b:Value):Wy0 (Int):=.i (a.Kind != b.Kind) (.bn (zmG (decide (a.Kind<b.Kind))) fun r0=>.k r0) (.i (a.Int != b.Int) (.bn (zmG (decide (a.Int<b.Int))) fun r1=>.k r1) (.i (!a.Text.toList==b.Text.toList) (.bn (zmG (Op.bytesLess a.Text.toList b.Text.toList)) fun r2=>.k r2) (.k 0)))
def zhx (a:Value) (b:Value):Bool×Int:=(zrB a b).fin default
def zuW (r:Int):ARes ty:=⟨[.pure (.lit (.int .i64 r))],[]⟩
def zxF:AL base (Value×Value×Unit):=zf (zg (vAgg 40)) (zf (zg (vAgg 40)) aNil)
def zof:Ab.Spec ty:=zk zxF fun x=>((zhx x.1 x.2.1).1,zuW (zhx x.1 x.2.1).2)
theorem zsp:Sound Tryz.prog base 16 zof:=
 zr (cx':=zCG) zF zm zB (zu ⟨zvF,trivial⟩) Tryz.call16 Tryz.func16 (c:=body Tryz.f16) (by kernel_rfl) (zh (l:=[]) (by kernel_rfl) trivial) (sg:=⟨[.pure],[]⟩) (A:=zxF) (res:=zuW) (W:=fun x=>zrB x.1 x.2.1) (z:=default)
abbrev ttTref01CompareRowsx0:=List Value×List Value×Int×Unit
abbrev ttTref01CompareRowsx1:=Int⊕(List Value×List Value)
def zmv (a:List Value) (b:List Value) (i:Int):Wy ttTref01CompareRowsx0 (Unit) ttTref01CompareRowsx1:=.i (decide (i<Int.ofNat a.length)) (.i (decide (i<Int.ofNat b.length)) (.i (decide (0≤i)&&decide (i<Int.ofNat a.length)) (.i (decide (0≤i)&&decide (i<Int.ofNat b.length)) (.bn (zhx (a.getD i.toNat default) (b.getD i.toNat default)) fun r0=>.i (r0 != 0) (.k (.inl (r0))) (.h (a,b,(IntKind.i64.wrap (i+1)),()) ())) .d) .d) (.k (.inr (a,b)))) (.k (.inr (a,b)))
def zmq (x:ttTref01CompareRowsx0) (y:Unit):Wy ttTref01CompareRowsx0 (Unit) ttTref01CompareRowsx1:=zmv x.1 x.2.1 x.2.2.1
def zmw (n:Nat) (a:List Value) (b:List Value) (i:Int):Bool×ttTref01CompareRowsx1:=zP (zmq) (.inl default) n (a,b,i,()) ()
def zqD (r:ttTref01CompareRowsx1):LTree ty:=.ite (isL r) (.done .ret [.lit (.int .i64 (getL r))] []) (.done (.exit 0) [.sl 40 (getR r).1,.sl 40 (getR r).2] [])
def zrD:LL ty ttTref01CompareRowsx0:=za (lSl 40) (za (lSl 40) (za (lInt .i64) zD))
def zrL:BL ty (Unit):=bNil
def zqr (x:ttTref01CompareRowsx0) (y:Unit):Nat:=(x.1.length+x.2.1.length+Int.toNat x.2.2.1+1)
def zrr:Cx ty:=mkCx base 42 [(16,zof),(44,zrA)] [] [(2,[(0,.keep),(1,.keep),(5,.keep)])] [(2,1,[(0,.keep),(1,.keep)]),(2,0,[(4,.keep)])] [(2,spW zrD zrL (zmq) (.inl default) zqD zqr)] []
theorem zyh:zW zrr (lp (body Tryz.f65) 0):=zK (id:=2) (V:=zrD) (B:=zrL) (W:=zmq) (z:=.inl default) (tr:=zqD) (m:=zqr)
def znd (a:List Value) (b:List Value):Wy0 (Int):=.bn (zmw (a.length+b.length+Int.toNat 0+1) a b 0) fun r3=>.i (isL r3) (.k (getL r3)) (.i (Int.ofNat (getR r3).1.length==Int.ofNat (getR r3).2.length) (.k 0) (.bn (zmG (decide (Int.ofNat (getR r3).1.length<Int.ofNat (getR r3).2.length))) fun r2=>.k r2))
def zkY (a:List Value) (b:List Value):Bool×Int:=(znd a b).fin default
def zq4 (r:Int):ARes ty:=⟨[.pure (.lit (.int .i64 r))],[]⟩
def zsz:AL base (List Value×List Value×Unit):=zf (zg (vSl 40)) (zf (zg (vSl 40)) aNil)
def zps:Ab.Spec ty:=zk zsz fun x=>((zkY x.1 x.2.1).1,zq4 (zkY x.1 x.2.1).2)
theorem zwU:Sound Tryz.prog base 65 zps:=
 zr (cx':=zrr) zF zm zB (zu ⟨zsp,zvF,trivial⟩) Tryz.call65 Tryz.func65 (c:=body Tryz.f65) (by kernel_rfl) (zh (l:=[lp (body Tryz.f65) 0]) (by kernel_rfl) ⟨zyh,trivial⟩) (sg:=⟨[.pure],[]⟩) (A:=zsz) (res:=zq4) (W:=fun x=>znd x.1 x.2.1) (z:=default)
def zEY:Cx ty:=mkCx base 9 [(65,zps)] [] [] [] [] []
def zvL (a:List Value) (b:List Value):Wy0 (Bool):=.bn (zkY a b) fun r0=>.k (r0==0)
def zsb (a:List Value) (b:List Value):Bool×Bool:=(zvL a b).fin default
def zyN (r:Bool):ARes ty:=⟨[.pure (.lit (.bool r))],[]⟩
def zBI:AL base (List Value×List Value×Unit):=zf (zg (vSl 40)) (zf (zg (vSl 40)) aNil)
def zr6:Ab.Spec ty:=zk zBI fun x=>((zsb x.1 x.2.1).1,zyN (zsb x.1 x.2.1).2)
theorem zvR:Sound Tryz.prog base 33 zr6:=
 zr (cx':=zEY) zF zm zB (zu ⟨zwU,trivial⟩) Tryz.call33 Tryz.func33 (c:=body Tryz.f33) (by kernel_rfl) (zh (l:=[]) (by kernel_rfl) trivial) (sg:=⟨[.pure],[]⟩) (A:=zBI) (res:=zyN) (W:=fun x=>zvL x.1 x.2.1) (z:=default)
end Go.Proofs.YtddkaehkimnklaaGreatDoor
/-
 DERIVED:THE SHELF's CONTRACTS AT THIS DUMP,IN PLAIN WORDS (tools/lay-plain.mjs out of 'TryzShelf.lean',which tools/lay-shelf.mjs wrote):THE SAME DECLARATIONS UNDER THE SAME NAMES:'import','namespace','open','def','theorem' AND NOTHING ELSE:no command of the shelf's:FOR A HAND-IN. Each laying:the table of numbers ('.._ren') and one theorem,a field a fact of the dump's own or the kernel's comparison; each contract:ONE APPLICATION.
-/
namespace Go.Proofs
open Go.Shelf
def Tryz.sortVal_ren:Go.Shelf.Ren:=⟨fun | 6=>78 | 15=>120 | 14=>119 | 28=>181 | 29=>182 | 20=>173 | 21=>174 | 22=>175 | 23=>176 | 24=>177 | 25=>178 | 26=>179 | 27=>180 | 46=>212 | 47=>213 | 48=>214 | 49=>215 | 50=>216 | 57=>247 | n=>n,fun | 22=>34 | 24=>40 | 25=>41 | 3=>3 | 39=>171 | 0=>0 | 53=>229 | 55=>139 | 4=>4 | 46=>223 | 45=>222 | 50=>218 | 5=>5 | 9=>9 | 66=>254 | 70=>258 | 76=>276 | 77=>277 | n=>n,fun | n=>n⟩
theorem Tryz.sortVal:Go.Proofs.SlLaysF0.n6 Tryz.prog Tryz.sortVal_ren:={
 mixed:=by kernel_rfl
 f6:=⟨Tryz.f78.name,by decide,Tryz.func78.trans (congrArg some (by kernel_rfl))⟩
 f14:=⟨Tryz.f119.name,by decide,Tryz.func119.trans (congrArg some (by kernel_rfl))⟩
 f15:=Tryz.func120.trans (congrArg some (by kernel_rfl))
 f20:=⟨Tryz.f173.name,by decide,Tryz.func173.trans (congrArg some (by kernel_rfl))⟩
 f21:=⟨Tryz.f174.name,by decide,Tryz.func174.trans (congrArg some (by kernel_rfl))⟩
 f22:=⟨Tryz.f175.name,by decide,Tryz.func175.trans (congrArg some (by kernel_rfl))⟩
 f23:=⟨Tryz.f176.name,by decide,Tryz.func176.trans (congrArg some (by kernel_rfl))⟩
 f24:=⟨Tryz.f177.name,by decide,Tryz.func177.trans (congrArg some (by kernel_rfl))⟩
 f25:=⟨Tryz.f178.name,by decide,Tryz.func178.trans (congrArg some (by kernel_rfl))⟩
 f26:=⟨Tryz.f179.name,by decide,Tryz.func179.trans (congrArg some (by kernel_rfl))⟩
 f27:=⟨Tryz.f180.name,by decide,Tryz.func180.trans (congrArg some (by kernel_rfl))⟩
 f28:=Tryz.func181.trans (congrArg some (by kernel_rfl))
 f29:=Tryz.func182.trans (congrArg some (by kernel_rfl))
 f46:=⟨Tryz.f212.name,by decide,Tryz.func212.trans (congrArg some (by kernel_rfl))⟩
 f47:=Tryz.func213.trans (congrArg some (by kernel_rfl))
 f48:=Tryz.func214.trans (congrArg some (by kernel_rfl))
 f49:=⟨Tryz.f215.name,by decide,Tryz.func215.trans (congrArg some (by kernel_rfl))⟩
 f50:=⟨Tryz.f216.name,by decide,Tryz.func216.trans (congrArg some (by kernel_rfl))⟩
 f57:=⟨Tryz.f247.name,by decide,Tryz.func247.trans (congrArg some (by kernel_rfl))⟩
 t0:=Tryz.underlying0
 a0:=Tryz.isAgg0
 z0:=Tryz.sizeOf0
 v0:=Tryz.zeroValue0
 t3:=Tryz.underlying3
 a3:=Tryz.isAgg3
 z3:=Tryz.sizeOf3
 v3:=Tryz.zeroValue3
 t4:=Tryz.underlying4
 a4:=Tryz.isAgg4
 z4:=Tryz.sizeOf4
 v4:=Tryz.zeroValue4
 t5:=Tryz.underlying5
 a5:=Tryz.isAgg5
 z5:=Tryz.sizeOf5
 v5:=Tryz.zeroValue5
 t9:=Tryz.underlying9
 a9:=Tryz.isAgg9
 z9:=Tryz.sizeOf9
 v9:=Tryz.zeroValue9
 t22:=Tryz.underlying34
 a22:=Tryz.isAgg34
 z22:=Tryz.sizeOf34
 v22:=Tryz.zeroValue34
 t25:=Tryz.underlying41
 a25:=Tryz.isAgg41
 z25:=Tryz.sizeOf41
 v25:=Tryz.zeroValue41
 t39:=Tryz.underlying171
 a39:=Tryz.isAgg171
 z39:=Tryz.sizeOf171
 v39:=Tryz.zeroValue171
 t45:=Tryz.underlying222
 a45:=Tryz.isAgg222
 z45:=Tryz.sizeOf222
 v45:=Tryz.zeroValue222
 t46:=Tryz.underlying223
 a46:=Tryz.isAgg223
 z46:=Tryz.sizeOf223
 v46:=Tryz.zeroValue223
 t50:=Tryz.underlying218
 a50:=Tryz.isAgg218
 z50:=Tryz.sizeOf218
 v50:=Tryz.zeroValue218
 t53:=Tryz.underlying229
 a53:=Tryz.isAgg229
 z53:=Tryz.sizeOf229
 v53:=Tryz.zeroValue229
 t55:=Tryz.underlying139
 a55:=Tryz.isAgg139
 z55:=Tryz.sizeOf139
 v55:=Tryz.zeroValue139
 t66:=Tryz.underlying254
 a66:=Tryz.isAgg254
 z66:=Tryz.sizeOf254
 v66:=Tryz.zeroValue254
 t70:=Tryz.underlying258
 a70:=Tryz.isAgg258
 z70:=Tryz.sizeOf258
 v70:=Tryz.zeroValue258
 t76:=Tryz.underlying276
 a76:=Tryz.isAgg276
 z76:=Tryz.sizeOf276
 v76:=Tryz.zeroValue276
 t77:=Tryz.underlying277
 a77:=Tryz.isAgg277
 z77:=Tryz.sizeOf277
 v77:=Tryz.zeroValue277 }
def Tryz.insR_ren:Go.Shelf.Ren:=⟨fun | 20=>159 | n=>n,fun | 24=>38 | 22=>23 | 3=>3 | 25=>110 | 4=>4 | 0=>0 | n=>n,fun | n=>n⟩
theorem Tryz.insR:Go.Proofs.SlLaysF0.n20 Tryz.prog Tryz.insR_ren:={
 mixed:=by kernel_rfl
 f20:=⟨Tryz.f159.name,by decide,Tryz.func159.trans (congrArg some (by kernel_rfl))⟩
 t0:=Tryz.underlying0
 a0:=Tryz.isAgg0
 z0:=Tryz.sizeOf0
 v0:=Tryz.zeroValue0
 t3:=Tryz.underlying3
 a3:=Tryz.isAgg3
 z3:=Tryz.sizeOf3
 v3:=Tryz.zeroValue3
 t4:=Tryz.underlying4
 a4:=Tryz.isAgg4
 z4:=Tryz.sizeOf4
 v4:=Tryz.zeroValue4
 t22:=Tryz.underlying23
 a22:=Tryz.isAgg23
 z22:=Tryz.sizeOf23
 v22:=Tryz.zeroValue23
 t25:=Tryz.underlying110
 a25:=Tryz.isAgg110
 z25:=Tryz.sizeOf110
 v25:=Tryz.zeroValue110 }
def Tryz.lays106_ren:Go.Shelf.Ren:=⟨fun | 106=>124 | 213=>185 | 265=>217 | n=>n,fun | 9=>9 | 3=>3 | n=>n,fun | n=>n⟩
theorem Tryz.lays106:Go.Proofs.Lays.n106 Tryz.prog Tryz.lays106_ren:={
 mixed:=by kernel_rfl
 f106:=Tryz.func124.trans (congrArg some (by kernel_rfl))
 f213:=Tryz.func185.trans (congrArg some (by kernel_rfl))
 f265:=Tryz.func217.trans (congrArg some (by kernel_rfl))
 t3:=Tryz.underlying3
 a3:=Tryz.isAgg3
 z3:=Tryz.sizeOf3
 v3:=Tryz.zeroValue3
 t9:=Tryz.underlying9
 a9:=Tryz.isAgg9
 z9:=Tryz.sizeOf9
 v9:=Tryz.zeroValue9 }
def Tryz.laysM173_ren:Go.Shelf.Ren:=⟨fun | 173=>94 | 246=>129 | 283=>186 | 284=>187 | 285=>188 | 286=>189 | 129=>182 | 317=>218 | 318=>219 | 319=>220 | 320=>221 | 337=>248 | 338=>249 | n=>n,fun | 2=>2 | 3=>3 | 9=>9 | 4=>4 | 171=>233 | 0=>0 | 53=>139 | 37=>129 | 5=>5 | 173=>235 | 212=>260 | 51=>229 | 20=>20 | 213=>261 | 46=>171 | 232=>289 | 233=>290 | n=>n,fun | 17=>1 | 18=>4 | 19=>5 | n=>n⟩
theorem Tryz.laysM173:Go.Proofs.LaysM.n173 Tryz.prog Tryz.laysM173_ren:={
 mixed:=by kernel_rfl
 f129:=Tryz.func182.trans (congrArg some (by kernel_rfl))
 f173:=Tryz.func94.trans (congrArg some (by kernel_rfl))
 f246:=Tryz.func129.trans (congrArg some (by kernel_rfl))
 f283:=Tryz.func186.trans (congrArg some (by kernel_rfl))
 f284:=Tryz.func187.trans (congrArg some (by kernel_rfl))
 f285:=Tryz.func188.trans (congrArg some (by kernel_rfl))
 f286:=Tryz.func189.trans (congrArg some (by kernel_rfl))
 f317:=Tryz.func218.trans (congrArg some (by kernel_rfl))
 f318:=Tryz.func219.trans (congrArg some (by kernel_rfl))
 f319:=Tryz.func220.trans (congrArg some (by kernel_rfl))
 f320:=Tryz.func221.trans (congrArg some (by kernel_rfl))
 f337:=Tryz.func248.trans (congrArg some (by kernel_rfl))
 f338:=Tryz.func249.trans (congrArg some (by kernel_rfl))
 t0:=Tryz.underlying0
 a0:=Tryz.isAgg0
 z0:=Tryz.sizeOf0
 v0:=Tryz.zeroValue0
 t2:=Tryz.underlying2
 a2:=Tryz.isAgg2
 z2:=Tryz.sizeOf2
 v2:=Tryz.zeroValue2
 t3:=Tryz.underlying3
 a3:=Tryz.isAgg3
 z3:=Tryz.sizeOf3
 v3:=Tryz.zeroValue3
 t4:=Tryz.underlying4
 a4:=Tryz.isAgg4
 z4:=Tryz.sizeOf4
 v4:=Tryz.zeroValue4
 t5:=Tryz.underlying5
 a5:=Tryz.isAgg5
 z5:=Tryz.sizeOf5
 v5:=Tryz.zeroValue5
 t9:=Tryz.underlying9
 a9:=Tryz.isAgg9
 z9:=Tryz.sizeOf9
 v9:=Tryz.zeroValue9
 t20:=Tryz.underlying20
 a20:=Tryz.isAgg20
 z20:=Tryz.sizeOf20
 v20:=Tryz.zeroValue20
 t37:=Tryz.underlying129
 a37:=Tryz.isAgg129
 z37:=Tryz.sizeOf129
 v37:=Tryz.zeroValue129
 t46:=Tryz.underlying171
 a46:=Tryz.isAgg171
 z46:=Tryz.sizeOf171
 v46:=Tryz.zeroValue171
 t51:=Tryz.underlying229
 a51:=Tryz.isAgg229
 z51:=Tryz.sizeOf229
 v51:=Tryz.zeroValue229
 t53:=Tryz.underlying139
 a53:=Tryz.isAgg139
 z53:=Tryz.sizeOf139
 v53:=Tryz.zeroValue139
 t171:=Tryz.underlying233
 a171:=Tryz.isAgg233
 z171:=Tryz.sizeOf233
 v171:=Tryz.zeroValue233
 t173:=Tryz.underlying235
 a173:=Tryz.isAgg235
 z173:=Tryz.sizeOf235
 v173:=Tryz.zeroValue235
 t212:=Tryz.underlying260
 a212:=Tryz.isAgg260
 z212:=Tryz.sizeOf260
 v212:=Tryz.zeroValue260
 t213:=Tryz.underlying261
 a213:=Tryz.isAgg261
 z213:=Tryz.sizeOf261
 t232:=Tryz.underlying289
 a232:=Tryz.isAgg289
 z232:=Tryz.sizeOf289
 v232:=Tryz.zeroValue289
 t233:=Tryz.underlying290
 a233:=Tryz.isAgg290
 z233:=Tryz.sizeOf290
 v233:=Tryz.zeroValue290
 g17:=by kernel_rfl
 g18:=by kernel_rfl
 g19:=by kernel_rfl
 i0:=by kernel_rfl
 i2:=by kernel_rfl
 i3:=by kernel_rfl
 i4:=by kernel_rfl
 i5:=by kernel_rfl
 i9:=by kernel_rfl
 i20:=by kernel_rfl
 i37:=by kernel_rfl
 i46:=by kernel_rfl
 i51:=by kernel_rfl
 i53:=by kernel_rfl
 i171:=by kernel_rfl
 i173:=by kernel_rfl
 i212:=by kernel_rfl
 i232:=by kernel_rfl
 i233:=by kernel_rfl
 m17:=by kernel_rfl
 m18:=by kernel_rfl
 m19:=by kernel_rfl }
def Tryz.laysM171_ren:Go.Shelf.Ren:=⟨fun | 171=>52 | 243=>93 | 246=>129 | 283=>186 | 284=>187 | 285=>188 | 286=>189 | 129=>182 | 317=>218 | 318=>219 | 319=>220 | 320=>221 | 337=>248 | 338=>249 | n=>n,fun | 3=>3 | 9=>9 | 2=>2 | 4=>4 | 171=>233 | 0=>0 | 53=>139 | 37=>129 | 5=>5 | 173=>235 | 212=>260 | 51=>229 | 20=>20 | 213=>261 | 46=>171 | 232=>289 | 233=>290 | n=>n,fun | 17=>1 | 18=>4 | 19=>5 | n=>n⟩
theorem Tryz.laysM171:Go.Proofs.LaysM.n171 Tryz.prog Tryz.laysM171_ren:={
 mixed:=by kernel_rfl
 f129:=Tryz.func182.trans (congrArg some (by kernel_rfl))
 f171:=Tryz.func52.trans (congrArg some (by kernel_rfl))
 f243:=Tryz.func93.trans (congrArg some (by kernel_rfl))
 f246:=Tryz.func129.trans (congrArg some (by kernel_rfl))
 f283:=Tryz.func186.trans (congrArg some (by kernel_rfl))
 f284:=Tryz.func187.trans (congrArg some (by kernel_rfl))
 f285:=Tryz.func188.trans (congrArg some (by kernel_rfl))
 f286:=Tryz.func189.trans (congrArg some (by kernel_rfl))
 f317:=Tryz.func218.trans (congrArg some (by kernel_rfl))
 f318:=Tryz.func219.trans (congrArg some (by kernel_rfl))
 f319:=Tryz.func220.trans (congrArg some (by kernel_rfl))
 f320:=Tryz.func221.trans (congrArg some (by kernel_rfl))
 f337:=Tryz.func248.trans (congrArg some (by kernel_rfl))
 f338:=Tryz.func249.trans (congrArg some (by kernel_rfl))
 t0:=Tryz.underlying0
 a0:=Tryz.isAgg0
 z0:=Tryz.sizeOf0
 v0:=Tryz.zeroValue0
 t2:=Tryz.underlying2
 a2:=Tryz.isAgg2
 z2:=Tryz.sizeOf2
 v2:=Tryz.zeroValue2
 t3:=Tryz.underlying3
 a3:=Tryz.isAgg3
 z3:=Tryz.sizeOf3
 v3:=Tryz.zeroValue3
 t4:=Tryz.underlying4
 a4:=Tryz.isAgg4
 z4:=Tryz.sizeOf4
 v4:=Tryz.zeroValue4
 t5:=Tryz.underlying5
 a5:=Tryz.isAgg5
 z5:=Tryz.sizeOf5
 v5:=Tryz.zeroValue5
 t9:=Tryz.underlying9
 a9:=Tryz.isAgg9
 z9:=Tryz.sizeOf9
 v9:=Tryz.zeroValue9
 t20:=Tryz.underlying20
 a20:=Tryz.isAgg20
 z20:=Tryz.sizeOf20
 v20:=Tryz.zeroValue20
 t37:=Tryz.underlying129
 a37:=Tryz.isAgg129
 z37:=Tryz.sizeOf129
 v37:=Tryz.zeroValue129
 t46:=Tryz.underlying171
 a46:=Tryz.isAgg171
 z46:=Tryz.sizeOf171
 v46:=Tryz.zeroValue171
 t51:=Tryz.underlying229
 a51:=Tryz.isAgg229
 z51:=Tryz.sizeOf229
 v51:=Tryz.zeroValue229
 t53:=Tryz.underlying139
 a53:=Tryz.isAgg139
 z53:=Tryz.sizeOf139
 v53:=Tryz.zeroValue139
 t171:=Tryz.underlying233
 a171:=Tryz.isAgg233
 z171:=Tryz.sizeOf233
 v171:=Tryz.zeroValue233
 t173:=Tryz.underlying235
 a173:=Tryz.isAgg235
 z173:=Tryz.sizeOf235
 v173:=Tryz.zeroValue235
 t212:=Tryz.underlying260
 a212:=Tryz.isAgg260
 z212:=Tryz.sizeOf260
 v212:=Tryz.zeroValue260
 t213:=Tryz.underlying261
 a213:=Tryz.isAgg261
 z213:=Tryz.sizeOf261
 t232:=Tryz.underlying289
 a232:=Tryz.isAgg289
 z232:=Tryz.sizeOf289
 v232:=Tryz.zeroValue289
 t233:=Tryz.underlying290
 a233:=Tryz.isAgg290
 z233:=Tryz.sizeOf290
 v233:=Tryz.zeroValue290
 g17:=by kernel_rfl
 g18:=by kernel_rfl
 g19:=by kernel_rfl
 i0:=by kernel_rfl
 i2:=by kernel_rfl
 i3:=by kernel_rfl
 i4:=by kernel_rfl
 i5:=by kernel_rfl
 i9:=by kernel_rfl
 i20:=by kernel_rfl
 i37:=by kernel_rfl
 i46:=by kernel_rfl
 i51:=by kernel_rfl
 i53:=by kernel_rfl
 i171:=by kernel_rfl
 i173:=by kernel_rfl
 i212:=by kernel_rfl
 i232:=by kernel_rfl
 i233:=by kernel_rfl
 m17:=by kernel_rfl
 m18:=by kernel_rfl
 m19:=by kernel_rfl }
def Tryz.lays155_ren:Go.Shelf.Ren:=⟨fun | 155=>95 | 154=>130 | 138=>190 | 165=>96 | 143=>191 | 166=>97 | 197=>192 | 169=>98 | 195=>222 | 218=>223 | 240=>131 | 241=>132 | 219=>224 | 260=>225 | 276=>193 | 277=>194 | 217=>250 | 225=>251 | 224=>252 | 267=>253 | 266=>262 | 314=>263 | n=>n,fun | 9=>9 | 3=>3 | 4=>4 | 72=>131 | 0=>0 | 76=>135 | 105=>237 | 21=>21 | 5=>5 | 70=>128 | 20=>20 | 37=>129 | 75=>134 | 127=>180 | 164=>239 | 46=>171 | 119=>279 | 139=>282 | 138=>281 | 146=>291 | 51=>229 | 80=>137 | n=>n,fun | 1=>0 | 3=>2 | 4=>3 | n=>n⟩
theorem Tryz.lays155:Go.Proofs.Lays.n155 Tryz.prog Tryz.lays155_ren:={
 mixed:=by kernel_rfl
 f138:=Tryz.func190.trans (congrArg some (by kernel_rfl))
 f143:=Tryz.func191.trans (congrArg some (by kernel_rfl))
 f154:=Tryz.func130.trans (congrArg some (by kernel_rfl))
 f155:=Tryz.func95.trans (congrArg some (by kernel_rfl))
 f165:=Tryz.func96.trans (congrArg some (by kernel_rfl))
 f166:=Tryz.func97.trans (congrArg some (by kernel_rfl))
 f169:=Tryz.func98.trans (congrArg some (by kernel_rfl))
 f195:=Tryz.func222.trans (congrArg some (by kernel_rfl))
 f197:=Tryz.func192.trans (congrArg some (by kernel_rfl))
 f217:=Tryz.func250.trans (congrArg some (by kernel_rfl))
 f218:=Tryz.func223.trans (congrArg some (by kernel_rfl))
 f219:=Tryz.func224.trans (congrArg some (by kernel_rfl))
 f224:=Tryz.func252.trans (congrArg some (by kernel_rfl))
 f225:=Tryz.func251.trans (congrArg some (by kernel_rfl))
 f240:=Tryz.func131.trans (congrArg some (by kernel_rfl))
 f241:=Tryz.func132.trans (congrArg some (by kernel_rfl))
 f260:=Tryz.func225.trans (congrArg some (by kernel_rfl))
 f266:=Tryz.func262.trans (congrArg some (by kernel_rfl))
 f267:=Tryz.func253.trans (congrArg some (by kernel_rfl))
 f276:=Tryz.func193.trans (congrArg some (by kernel_rfl))
 f277:=Tryz.func194.trans (congrArg some (by kernel_rfl))
 f314:=Tryz.func263.trans (congrArg some (by kernel_rfl))
 t0:=Tryz.underlying0
 a0:=Tryz.isAgg0
 z0:=Tryz.sizeOf0
 v0:=Tryz.zeroValue0
 t3:=Tryz.underlying3
 a3:=Tryz.isAgg3
 z3:=Tryz.sizeOf3
 v3:=Tryz.zeroValue3
 t4:=Tryz.underlying4
 a4:=Tryz.isAgg4
 z4:=Tryz.sizeOf4
 v4:=Tryz.zeroValue4
 t5:=Tryz.underlying5
 a5:=Tryz.isAgg5
 z5:=Tryz.sizeOf5
 v5:=Tryz.zeroValue5
 t9:=Tryz.underlying9
 a9:=Tryz.isAgg9
 z9:=Tryz.sizeOf9
 v9:=Tryz.zeroValue9
 t20:=Tryz.underlying20
 a20:=Tryz.isAgg20
 z20:=Tryz.sizeOf20
 v20:=Tryz.zeroValue20
 t21:=Tryz.underlying21
 a21:=Tryz.isAgg21
 z21:=Tryz.sizeOf21
 v21:=Tryz.zeroValue21
 t37:=Tryz.underlying129
 a37:=Tryz.isAgg129
 z37:=Tryz.sizeOf129
 v37:=Tryz.zeroValue129
 t46:=Tryz.underlying171
 a46:=Tryz.isAgg171
 z46:=Tryz.sizeOf171
 v46:=Tryz.zeroValue171
 t51:=Tryz.underlying229
 a51:=Tryz.isAgg229
 z51:=Tryz.sizeOf229
 v51:=Tryz.zeroValue229
 t70:=Tryz.underlying128
 a70:=Tryz.isAgg128
 z70:=Tryz.sizeOf128
 v70:=Tryz.zeroValue128
 t72:=Tryz.underlying131
 a72:=Tryz.isAgg131
 z72:=Tryz.sizeOf131
 v72:=Tryz.zeroValue131
 t75:=Tryz.underlying134
 a75:=Tryz.isAgg134
 z75:=Tryz.sizeOf134
 v75:=Tryz.zeroValue134
 t76:=Tryz.underlying135
 a76:=Tryz.isAgg135
 z76:=Tryz.sizeOf135
 v76:=Tryz.zeroValue135
 t105:=Tryz.underlying237
 a105:=Tryz.isAgg237
 z105:=Tryz.sizeOf237
 v105:=Tryz.zeroValue237
 t119:=Tryz.underlying279
 a119:=Tryz.isAgg279
 z119:=Tryz.sizeOf279
 t127:=Tryz.underlying180
 a127:=Tryz.isAgg180
 z127:=Tryz.sizeOf180
 v127:=Tryz.zeroValue180
 t138:=Tryz.underlying281
 a138:=Tryz.isAgg281
 z138:=Tryz.sizeOf281
 v138:=Tryz.zeroValue281
 t139:=Tryz.underlying282
 a139:=Tryz.isAgg282
 z139:=Tryz.sizeOf282
 v139:=Tryz.zeroValue282
 t146:=Tryz.underlying291
 a146:=Tryz.isAgg291
 z146:=Tryz.sizeOf291
 v146:=Tryz.zeroValue291
 t164:=Tryz.underlying239
 a164:=Tryz.isAgg239
 z164:=Tryz.sizeOf239
 v164:=Tryz.zeroValue239
 g1:=by kernel_rfl
 g3:=by kernel_rfl
 g4:=by kernel_rfl }
theorem Tryz.Builder_Extra_155:Builder.Extra Tryz.prog Tryz.lays155_ren:={
 sizeBuilder:=by kernel_rfl
 liesBuilder:=by kernel_rfl
 t5:=Tryz.underlying5
 a5:=Tryz.isAgg5
 z5:=Tryz.sizeOf5
 v5:=Tryz.zeroValue5
 infoByte:=by kernel_rfl
 cellsByte:=by kernel_rfl
 sizeByte:=by kernel_rfl
 neB5:=by decide }
def Tryz.lays156_ren:Go.Shelf.Ren:=⟨fun | 156=>54 | 165=>96 | 166=>97 | 169=>98 | 240=>131 | 241=>132 | 276=>193 | 277=>194 | n=>n,fun | 31=>58 | 9=>9 | 3=>3 | 4=>4 | 0=>0 | 20=>20 | 72=>131 | 76=>135 | 70=>128 | 37=>129 | 75=>134 | 127=>180 | 164=>239 | 5=>5 | 80=>137 | n=>n,fun | n=>n⟩
theorem Tryz.lays156:Go.Proofs.Lays.n156 Tryz.prog Tryz.lays156_ren:={
 mixed:=by kernel_rfl
 f156:=Tryz.func54.trans (congrArg some (by kernel_rfl))
 f165:=Tryz.func96.trans (congrArg some (by kernel_rfl))
 f166:=Tryz.func97.trans (congrArg some (by kernel_rfl))
 f169:=Tryz.func98.trans (congrArg some (by kernel_rfl))
 f240:=Tryz.func131.trans (congrArg some (by kernel_rfl))
 f241:=Tryz.func132.trans (congrArg some (by kernel_rfl))
 f276:=Tryz.func193.trans (congrArg some (by kernel_rfl))
 f277:=Tryz.func194.trans (congrArg some (by kernel_rfl))
 t0:=Tryz.underlying0
 a0:=Tryz.isAgg0
 z0:=Tryz.sizeOf0
 v0:=Tryz.zeroValue0
 t3:=Tryz.underlying3
 a3:=Tryz.isAgg3
 z3:=Tryz.sizeOf3
 v3:=Tryz.zeroValue3
 t4:=Tryz.underlying4
 a4:=Tryz.isAgg4
 z4:=Tryz.sizeOf4
 v4:=Tryz.zeroValue4
 t9:=Tryz.underlying9
 a9:=Tryz.isAgg9
 z9:=Tryz.sizeOf9
 v9:=Tryz.zeroValue9
 t20:=Tryz.underlying20
 a20:=Tryz.isAgg20
 z20:=Tryz.sizeOf20
 v20:=Tryz.zeroValue20
 t31:=Tryz.underlying58
 a31:=Tryz.isAgg58
 z31:=Tryz.sizeOf58
 v31:=Tryz.zeroValue58
 t37:=Tryz.underlying129
 a37:=Tryz.isAgg129
 z37:=Tryz.sizeOf129
 v37:=Tryz.zeroValue129
 t70:=Tryz.underlying128
 a70:=Tryz.isAgg128
 z70:=Tryz.sizeOf128
 v70:=Tryz.zeroValue128
 t72:=Tryz.underlying131
 a72:=Tryz.isAgg131
 z72:=Tryz.sizeOf131
 v72:=Tryz.zeroValue131
 t75:=Tryz.underlying134
 a75:=Tryz.isAgg134
 z75:=Tryz.sizeOf134
 v75:=Tryz.zeroValue134
 t76:=Tryz.underlying135
 a76:=Tryz.isAgg135
 z76:=Tryz.sizeOf135
 v76:=Tryz.zeroValue135
 t127:=Tryz.underlying180
 a127:=Tryz.isAgg180
 z127:=Tryz.sizeOf180
 v127:=Tryz.zeroValue180
 t164:=Tryz.underlying239
 a164:=Tryz.isAgg239
 z164:=Tryz.sizeOf239
 v164:=Tryz.zeroValue239 }
theorem Tryz.Builder_Extra_156:Builder.Extra Tryz.prog Tryz.lays156_ren:={
 sizeBuilder:=by kernel_rfl
 liesBuilder:=by kernel_rfl
 t5:=Tryz.underlying5
 a5:=Tryz.isAgg5
 z5:=Tryz.sizeOf5
 v5:=Tryz.zeroValue5
 infoByte:=by kernel_rfl
 cellsByte:=by kernel_rfl
 sizeByte:=by kernel_rfl
 neB5:=by decide }
end Go.Proofs
namespace Go.Proofs.YtddkaehkimnklaaGreatDoor
open Go Go.Ab
def strconv_Itoa (x:Int):Bool×ByteArray:=zzl x
def strconv_Itoa_spec:Ab.Spec ty:=zk (cx:=base) (zf (zg (vInt .i64)) aNil) fun x=>((strconv_Itoa x.1).1,⟨[.pure (.lit (.string (strconv_Itoa x.1).2))],[]⟩)
theorem zBa:Sound Tryz.prog base 52 strconv_Itoa_spec:=zHN zm Go.Proofs.Tryz.laysM171 Tryz.call52 (fun _ h=>h.1)
end Go.Proofs.YtddkaehkimnklaaGreatDoor
namespace Go.Proofs.YtddkaehkimnklaaGreatDoor
open Go Go.Ab
def strings_Join (l:List ByteArray) (sep:ByteArray):Bool×ByteArray:=zzZ l sep
def strings_Join_spec:Ab.Spec ty:=zk (cx:=base0) (zf (zg (vSl 9)) (zf (zg vStr) aNil)) fun x=>((strings_Join x.1 x.2.1).1,⟨[.pure (.lit (.string (strings_Join x.1 x.2.1).2))],[]⟩)
theorem zAT:Sound Tryz.prog base0 54 strings_Join_spec:=zHp (T:=9) zs4 rfl Go.Proofs.Tryz.lays156 Go.Proofs.Tryz.Builder_Extra_156 Tryz.call54 (fun s:ByteArray=>s) (fun _=>rfl) strings_Join (fun l sep=>congrArg (fun l=>zzZ l sep) (List.map_id' (α:=ByteArray) l).symm)
def zEb:Cx ty:=mkCx base 36 [] [] [] [] [] []
def zuk (v:Value):Wy0 (Bool):=.i (v.Kind==0) (.k (v.Text.toList==(ByteArray.mk #[]).toList)) (.i (v.Kind==1) (.i (v.Int==0) (.k (decide (Int.ofNat v.Text.size≤255))) (.k false)) (.i (v.Kind==2) (.i (v.Int==0) (.k (v.Text.toList==(ByteArray.mk #[]).toList)) (.i (v.Int==1) (.k (v.Text.toList==(ByteArray.mk #[]).toList)) (.k false))) (.k false)))
def zgH (v:Value):Bool×Bool:=(zuk v).fin default
def zw7 (r:Bool):ARes ty:=⟨[.pure (.lit (.bool r))],[]⟩
def zAe:AL base (Value×Unit):=zf (zg (vAgg 40)) aNil
def zgY:Ab.Spec ty:=zk zAe fun x=>((zgH x.1).1,zw7 (zgH x.1).2)
theorem zhw:Sound Tryz.prog base 83 zgY:=
 zr (cx':=zEb) zF zm zB (zu trivial) Tryz.call83 Tryz.func83 (c:=body Tryz.f83) (by kernel_rfl) (zh (l:=[]) (by kernel_rfl) trivial) (sg:=⟨[.pure],[]⟩) (A:=zAe) (res:=zw7) (W:=fun x=>zuk x.1) (z:=default)
def ztn:Cx ty:=mkCx base 15 [(83,zgY)] [] [] [] [] []
def ziz (v:Value) (p1:ColumnStats):Wy0 (Bool):=.bn (zgH v) fun r0=>.i (!r0) (.k true) (.k (v.Kind != p1.Min.Kind))
def zda (v:Value) (p1:ColumnStats):Bool×Bool:=(ziz v p1).fin default
def zkO (r:Bool):ARes ty:=⟨[.pure (.lit (.bool r))],[]⟩
def zmj:AL base (Value×ColumnStats×Unit):=zf (zg (vAgg 40)) (zf (zg (zvr 43)) aNil)
def zeV:Ab.Spec ty:=zk zmj fun x=>((zda x.1 x.2.1).1,zkO (zda x.1 x.2.1).2)
theorem zhc:Sound Tryz.prog base 86 zeV:=
 zr (cx':=ztn) zF zm zB (zu ⟨zhw,trivial⟩) Tryz.call86 Tryz.func86 (c:=body Tryz.f86) (by kernel_rfl) (zh (l:=[]) (by kernel_rfl) trivial) (sg:=⟨[.pure],[]⟩) (A:=zmj) (res:=zkO) (W:=fun x=>ziz x.1 x.2.1) (z:=default)
abbrev ttTslicesIndexFuncLapiValueapiValuevc0:=List Value×(ColumnStats×Unit)×Int×Int×Unit
def zkU (s:List Value) (f:ColumnStats) (t7:Int) (t8:Int):Wy ttTslicesIndexFuncLapiValueapiValuevc0 (Unit) (Int⊕Unit):=.i (decide (t8<t7)) (.i (decide (0≤t8)&&decide (t8<Int.ofNat s.length)) (.bn (zda (s.getD t8.toNat default) f) fun r0=>.i (r0) (.k (.inl t8)) (.h (s,(f,()),t7,(IntKind.i64.wrap (t8+1)),()) ())) .d) (.k (.inr ()))
def zde (x:ttTslicesIndexFuncLapiValueapiValuevc0) (y:Unit):Wy ttTslicesIndexFuncLapiValueapiValuevc0 (Unit) (Int⊕Unit):=zkU x.1 x.2.1.1 x.2.2.1 x.2.2.2.1
def zkT (n:Nat) (s:List Value) (f:ColumnStats) (t7:Int) (t8:Int):Bool×(Int⊕Unit):=zP (zde) (.inl default) n (s,(f,()),t7,t8,()) ()
def zgG (r:Int⊕Unit):LTree ty:=.ite (isL r) (.done .ret [.lit (.int .i64 (getL r))] []) (.done (.exit 0) [] [])
def zgP:LL ty ttTslicesIndexFuncLapiValueapiValuevc0:=za (lSl 40) (za (lFn 86 (za (zBw (zdP (fun x=>(⟨x.1,⟨x.2.1,x.2.2.1,x.2.2.2.1⟩,⟨x.2.2.2.2.1,x.2.2.2.2.2.1,x.2.2.2.2.2.2.1⟩,x.2.2.2.2.2.2.2.1⟩:ColumnStats)) (fun x=>(x.Distinct,x.Min.Kind,x.Min.Int,x.Min.Text,x.Max.Kind,x.Max.Int,x.Max.Text,x.Bounds,())) (fun _=>rfl) (za (lInt .i64) (za (lInt .i64) (za (lInt .i64) (za lStr (za (lInt .i64) (za (lInt .i64) (za lStr (za (lSl 40) zD))))))))) 0) zD)) (za (lInt .i64) (za (lInt .i64) zD)))
def zgQ:BL ty (Unit):=bNil
def zgE (x:ttTslicesIndexFuncLapiValueapiValuevc0) (y:Unit):Nat:=(x.1.length+x.2.1.1.Bounds.length+Int.toNat x.2.2.1+Int.toNat x.2.2.2.1+1000)
def zgN:Cx ty:=mkCx base 19 [(86,zeV)] [] [(2,[(0,.keep),(1,.keep),(7,.keep),(8,.keep)])] [(2,1,[]),(2,0,[(4,.keep)])] [(2,spW zgP zgQ (zde) (.inl default) zgG zgE)] []
theorem zkH:zW zgN (lp (body Tryz.f125) 0):=zK (id:=2) (V:=zgP) (B:=zgQ) (W:=zde) (z:=.inl default) (tr:=zgG) (m:=zgE)
def zg8 (s:List Value) (f:ColumnStats):Wy0 (Int):=.bn (zkT (s.length+f.Bounds.length+(Int.ofNat s.length).toNat +Int.toNat 0+1000) s f (Int.ofNat s.length) 0) fun r2=>.i (isL r2) (.k (getL r2)) (.k (-1:Int))
def zcw (s:List Value) (f:ColumnStats):Bool×Int:=(zg8 s f).fin default
def zgw (r:Int):ARes ty:=⟨[.pure (.lit (.int .i64 r))],[]⟩
def zg1:AL base (List Value×(ColumnStats×Unit)×Unit):=zf (zg (vSl 40)) (zf (zg (vFn 86 (zno (zvr 43) vNil))) aNil)
def zgh:Ab.Spec ty:=zk zg1 fun x=>((zcw x.1 x.2.1.1).1,zgw (zcw x.1 x.2.1.1).2)
theorem zj3:Sound Tryz.prog base 125 zgh:=
 zr (cx':=zgN) zF zm zB (zu ⟨zhc,trivial⟩) Tryz.call125 Tryz.func125 (c:=body Tryz.f125) (by kernel_rfl) (zh (l:=[lp (body Tryz.f125) 0]) (by kernel_rfl) ⟨zkH,trivial⟩) (sg:=⟨[.pure],[]⟩) (A:=zg1) (res:=zgw) (W:=fun x=>zg8 x.1 x.2.1.1) (z:=default)
def zkd:Cx ty:=mkCx base 9 [(86,zeV),(125,zgh)] [] [] [] [] []
def zcZ (s:List Value) (f:ColumnStats):Wy0 (Bool):=.bn (zcw s f) fun r0=>.k (decide (r0≥0))
def zbv (s:List Value) (f:ColumnStats):Bool×Bool:=(zcZ s f).fin default
def zfA (r:Bool):ARes ty:=⟨[.pure (.lit (.bool r))],[]⟩
def zgn:AL base (List Value×(ColumnStats×Unit)×Unit):=zf (zg (vSl 40)) (zf (zg (vFn 86 (zno (zvr 43) vNil))) aNil)
def zfc:Ab.Spec ty:=zk zgn fun x=>((zbv x.1 x.2.1.1).1,zfA (zbv x.1 x.2.1.1).2)
theorem zjA:Sound Tryz.prog base 85 zfc:=
 zr (cx':=zkd) zF zm zB (zu ⟨zhc,zj3,trivial⟩) Tryz.call85 Tryz.func85 (c:=body Tryz.f85) (by kernel_rfl) (zh (l:=[]) (by kernel_rfl) trivial) (sg:=⟨[.pure],[]⟩) (A:=zgn) (res:=zfA) (W:=fun x=>zcZ x.1 x.2.1.1) (z:=default)
def zCY:Cx ty:=mkCx base 6 [] [] [] [] [] []
def zsa (x_:Int):Wy0 (Bool):=.k (x_ != x_)
def zkf (x_:Int):Bool×Bool:=(zsa x_).fin default
def zuY (r:Bool):ARes ty:=⟨[.pure (.lit (.bool r))],[]⟩
def zw9:AL base (Int×Unit):=zf (zg (vInt .i64)) aNil
def ztT:Ab.Spec ty:=zk zw9 fun x=>((zkf x.1).1,zuY (zkf x.1).2)
theorem zAI:Sound Tryz.prog base 183 ztT:=
 zr (cx':=zCY) zF zm zB (zu trivial) Tryz.call183 Tryz.func183 (c:=body Tryz.f183) (by kernel_rfl) (zh (l:=[]) (by kernel_rfl) trivial) (sg:=⟨[.pure],[]⟩) (A:=zw9) (res:=zuY) (W:=fun x=>zsa x.1) (z:=default)
def zBB:Cx ty:=mkCx base 20 [(183,ztT)] [] [] [] [] []
def zpd (x_:Int) (y_:Int):Wy0 (Int):=.i ((zkf x_).2) (.i ((zkf y_).2) (.k 0) (.k (-1:Int))) (.i ((zkf y_).2) (.k 1) (.i (decide (x_<y_)) (.k (-1:Int)) (.i (decide (x_>y_)) (.k 1) (.k 0))))
def zc5 (x_:Int) (y_:Int):Bool×Int:=(zpd x_ y_).fin default
def zsF (r:Int):ARes ty:=⟨[.pure (.lit (.int .i64 r))],[]⟩
def zuV:AL base (Int×Int×Unit):=zf (zg (vInt .i64)) (zf (zg (vInt .i64)) aNil)
def zjd:Ab.Spec ty:=zk zuV fun x=>((zc5 x.1 x.2.1).1,zsF (zc5 x.1 x.2.1).2)
theorem zlg:Sound Tryz.prog base 122 zjd:=
 zr (cx':=zBB) zF zm zB (zu ⟨zAI,trivial⟩) Tryz.call122 Tryz.func122 (c:=body Tryz.f122) (by kernel_rfl) (zh (l:=[]) (by kernel_rfl) trivial) (sg:=⟨[.pure],[]⟩) (A:=zuV) (res:=zsF) (W:=fun x=>zpd x.1 x.2.1) (z:=default)
def zA2:Cx ty:=mkCx base 6 [] [] [] [] [] []
def zpe (x_:Int):Wy0 (Bool):=.k (x_ != x_)
def ziE (x_:Int):Bool×Bool:=(zpe x_).fin default
def zsC (r:Bool):ARes ty:=⟨[.pure (.lit (.bool r))],[]⟩
def zuS:AL base (Int×Unit):=zf (zg (vInt .i64)) aNil
def zro:Ab.Spec ty:=zk zuS fun x=>((ziE x.1).1,zsC (ziE x.1).2)
theorem zyA:Sound Tryz.prog base 184 zro:=
 zr (cx':=zA2) zF zm zB (zu trivial) Tryz.call184 Tryz.func184 (c:=body Tryz.f184) (by kernel_rfl) (zh (l:=[]) (by kernel_rfl) trivial) (sg:=⟨[.pure],[]⟩) (A:=zuS) (res:=zsC) (W:=fun x=>zpe x.1) (z:=default)
def zzw:Cx ty:=mkCx base 20 [(184,zro)] [] [] [] [] []
def znf (x_:Int) (y_:Int):Wy0 (Int):=.i ((ziE x_).2) (.i ((ziE y_).2) (.k 0) (.k (-1:Int))) (.i ((ziE y_).2) (.k 1) (.i (decide (x_<y_)) (.k (-1:Int)) (.i (decide (x_>y_)) (.k 1) (.k 0))))
def zhv (x_:Int) (y_:Int):Bool×Int:=(znf x_ y_).fin default
def zqQ (r:Int):ARes ty:=⟨[.pure (.lit (.int .i64 r))],[]⟩
def zsv:AL base (Int×Int×Unit):=zf (zg (vInt .i64)) (zf (zg (vInt .i64)) aNil)
def zkC:Ab.Spec ty:=zk zsv fun x=>((zhv x.1 x.2.1).1,zqQ (zhv x.1 x.2.1).2)
theorem zoW:Sound Tryz.prog base 123 zkC:=
 zr (cx':=zzw) zF zm zB (zu ⟨zyA,trivial⟩) Tryz.call123 Tryz.func123 (c:=body Tryz.f123) (by kernel_rfl) (zh (l:=[]) (by kernel_rfl) trivial) (sg:=⟨[.pure],[]⟩) (A:=zsv) (res:=zqQ) (W:=fun x=>znf x.1 x.2.1) (z:=default)
abbrev ttTcmpOrint0:=Int×List Int×Int×Int×Unit
def zum (zero:Int) (t6:List Int) (t7:Int) (t8:Int):Wy ttTcmpOrint0 (Unit) (Int⊕Int):=.i (decide (t8<t7)) (.i (decide (0≤t8)&&decide (t8<Int.ofNat t6.length)) (.i (t6.getD t8.toNat default != zero) (.k (.inl (t6.getD t8.toNat default))) (.h (zero,t6,t7,(IntKind.i64.wrap (t8+1)),()) ())) .d) (.k (.inr zero))
def zuF (x:ttTcmpOrint0) (y:Unit):Wy ttTcmpOrint0 (Unit) (Int⊕Int):=zum x.1 x.2.1 x.2.2.1 x.2.2.2.1
def zuA (n:Nat) (zero:Int) (t6:List Int) (t7:Int) (t8:Int):Bool×(Int⊕Int):=zP (zuF) (.inl default) n (zero,t6,t7,t8,()) ()
def zyZ (r:Int⊕Int):LTree ty:=.ite (isL r) (.done .ret [.lit (.int .i64 (getL r))] []) (.done (.exit 0) [.lit (.int .i64 (getR r))] [])
def zAo:LL ty ttTcmpOrint0:=za (lInt .i64) (za (lSl 3) (za (lInt .i64) (za (lInt .i64) zD)))
def zAq:BL ty (Unit):=bNil
def zys (x:ttTcmpOrint0) (y:Unit):Nat:=(Int.toNat x.1+x.2.1.length+Int.toNat x.2.2.1+Int.toNat x.2.2.2.1+1000)
def zAk:Cx ty:=mkCx base 18 [] [] [(3,[(3,.keep),(6,.keep),(7,.keep),(8,.keep)])] [(3,1,[(3,.keep)]),(3,0,[(2,.keep)])] [(3,spW zAo zAq (zuF) (.inl default) zyZ zys)] []
theorem zD0:zW zAk (lp (body Tryz.f121) 0):=zK (id:=3) (V:=zAo) (B:=zAq) (W:=zuF) (z:=.inl default) (tr:=zyZ) (m:=zys)
def zwf (vals:List Int):Wy0 (Int):=.bn (zuA (Int.toNat 0+vals.length+(Int.ofNat vals.length).toNat +Int.toNat 0+1000) 0 vals (Int.ofNat vals.length) 0) fun r0=>.i (isL r0) (.k (getL r0)) (.k (getR r0))
def zji (vals:List Int):Bool×Int:=(zwf vals).fin default
def zy1 (r:Int):ARes ty:=⟨[.pure (.lit (.int .i64 r))],[]⟩
def zBH:AL base (List Int×Unit):=zf (zg (vSl 3)) aNil
def ziC:Ab.Spec ty:=zk zBH fun x=>((zji x.1).1,zy1 (zji x.1).2)
theorem zjO:Sound Tryz.prog base 121 ziC:=
 zr (cx':=zAk) zF zm zB (zu trivial) Tryz.call121 Tryz.func121 (c:=body Tryz.f121) (by kernel_rfl) (zh (l:=[lp (body Tryz.f121) 0]) (by kernel_rfl) ⟨zD0,trivial⟩) (sg:=⟨[.pure],[]⟩) (A:=zBH) (res:=zy1) (W:=fun x=>zwf x.1) (z:=default)
def strings_Compare (s p:ByteArray):Bool×Int:=zvS s p
def strings_Compare_spec:Ab.Spec ty:=zk (cx:=base) (zf (zg vStr) (zf (zg vStr) aNil)) fun x=>((strings_Compare x.1 x.2.1).1,⟨[.pure (.lit (.int .i64 (strings_Compare x.1 x.2.1).2))],[]⟩)
theorem zyQ:Sound Tryz.prog base 124 strings_Compare_spec:=zE2 zm Go.Proofs.Tryz.lays106 Tryz.call124
def zCW:Cx ty:=mkCx base 22 [(121,ziC),(122,zjd),(123,zkC),(124,strings_Compare_spec)] [] [] [] [] []
def zrl (a:Value) (b:Value):Wy0 (Int):=.bn (zc5 a.Kind b.Kind) fun r2=>.bn (zhv a.Int b.Int) fun r1=>.bn (zji [r2,r1,(strings_Compare a.Text b.Text).2]) fun r0=>.k r0
def zbF (a:Value) (b:Value):Bool×Int:=(zrl a b).fin default
def zuX (r:Int):ARes ty:=⟨[.pure (.lit (.int .i64 r))],[]⟩
def zxA:AL base (Value×Value×Unit):=zf (zg (vAgg 40)) (zf (zg (vAgg 40)) aNil)
def zb9:Ab.Spec ty:=zk zxA fun x=>((zbF x.1 x.2.1).1,zuX (zbF x.1 x.2.1).2)
theorem zcj:Sound Tryz.prog base 79 zb9:=
 zr (cx':=zCW) zF zm zB (zu ⟨zjO,zlg,zoW,zyQ,trivial⟩) Tryz.call79 Tryz.func79 (c:=body Tryz.f79) (by kernel_rfl) (zh (l:=[]) (by kernel_rfl) trivial) (sg:=⟨[.pure],[]⟩) (A:=zxA) (res:=zuX) (W:=fun x=>zrl x.1 x.2.1) (z:=default)
abbrev ttTslicesIsSortedFuncLapiValueapiValue0:=List Value×Unit×Int×Unit
def zdc (x_:List Value) (i:Int):Wy ttTslicesIsSortedFuncLapiValueapiValue0 (Unit) (Bool⊕Unit):=.i (decide (i>0)) (.i (decide (0≤i)&&decide (i<Int.ofNat x_.length)) (.i (decide (0≤IntKind.i64.wrap (i - 1))&&decide (IntKind.i64.wrap (i - 1)<Int.ofNat x_.length)) (.bn (zbF (x_.getD i.toNat default) (x_.getD (IntKind.i64.wrap (i - 1)).toNat default)) fun r0=>.i (decide (r0<0)) (.k (.inl false)) (.h (x_,(),(IntKind.i64.wrap (i - 1)),()) ())) .d) .d) (.k (.inr ()))
def zdh (x:ttTslicesIsSortedFuncLapiValueapiValue0) (y:Unit):Wy ttTslicesIsSortedFuncLapiValueapiValue0 (Unit) (Bool⊕Unit):=zdc x.1 x.2.2.1
def zdb (n:Nat) (x_:List Value) (i:Int):Bool×(Bool⊕Unit):=zP (zdh) (.inl default) n (x_,(),i,()) ()
def zgz (r:Bool⊕Unit):LTree ty:=.ite (isL r) (.done .ret [.lit (.bool (getL r))] []) (.done (.exit 0) [] [])
def zgU:LL ty ttTslicesIsSortedFuncLapiValueapiValue0:=za (lSl 40) (za (lFn 79 (zD)) (za (lInt .i64) zD))
def zgS:BL ty (Unit):=bNil
def zgO:Cx ty:=mkCx base 25 [(79,zb9)] [] [(2,[(0,.keep),(1,.keep),(5,.keep)])] [(2,1,[]),(2,0,[(4,.keep)])] [(2,spW zgU zgS (zdh) (.inl default) zgz fun x y=>(x.1.length+Int.toNat x.2.2.1+1000))] []
theorem zkz:zW zgO (lp (body Tryz.f84) 0):=zK (id:=2) (V:=zgU) (B:=zgS) (W:=zdh) (z:=.inl default) (tr:=zgz) (m:=fun x y=>(x.1.length+Int.toNat x.2.2.1+1000))
def zdD (x_:List Value):Wy0 (Bool):=.bn (zdb (x_.length+(IntKind.i64.wrap (Int.ofNat x_.length - 1)).toNat +1000) x_ (IntKind.i64.wrap (Int.ofNat x_.length - 1))) fun r2=>.i (isL r2) (.k (getL r2)) (.k true)
def zbK (x_:List Value):Bool×Bool:=(zdD x_).fin default
def zgI (r:Bool):ARes ty:=⟨[.pure (.lit (.bool r))],[]⟩
def zg7:AL base (List Value×Unit×Unit):=zf (zg (vSl 40)) (zf (zg (vFn 79 vNil)) aNil)
def zgb:Ab.Spec ty:=zk zg7 fun x=>((zbK x.1).1,zgI (zbK x.1).2)
theorem zj2:Sound Tryz.prog base 84 zgb:=
 zr (cx':=zgO) zF zm zB (zu ⟨zcj,trivial⟩) Tryz.call84 Tryz.func84 (c:=body Tryz.f84) (by kernel_rfl) (zh (l:=[lp (body Tryz.f84) 0]) (by kernel_rfl) ⟨zkz,trivial⟩) (sg:=⟨[.pure],[]⟩) (A:=zg7) (res:=zgI) (W:=fun x=>zdD x.1) (z:=default)
def zvl:Cx ty:=mkCx base 103 [(79,zb9),(83,zgY),(84,zgb),(85,zfc),(86,zeV)] [] [] [] [] []
def zjW (c:ColumnStats) (rows:Int):Wy0 (Bool):=.i (rows==0) (.i (c.Distinct==0) (.i (c.Min.Kind==0&&(c.Min.Int==0&&(c.Min.Text.toList==(ByteArray.mk #[]).toList&&true))) (.i (c.Max.Kind==0&&(c.Max.Int==0&&(c.Max.Text.toList==(ByteArray.mk #[]).toList&&true))) (.k (Int.ofNat c.Bounds.length==0)) (.k false)) (.k false)) (.k false)) (.i (decide (c.Distinct≥1)) (.i (decide (c.Distinct≤rows)) (.bn (zgH c.Min) fun r5=>.i (r5) (.bn (zgH c.Max) fun r4=>.i (r4) (.i (c.Min.Kind==c.Max.Kind) (.bn (zbF c.Min c.Max) fun r3=>.i (!decide (r3≤0)) (.k false) (.i (Int.ofNat c.Bounds.length != 8) (.k false) (.bn (zbK c.Bounds) fun r2=>.i (!r2) (.k false) (.i (decide ((0:Int)≤(7:Int))&&decide (7<Int.ofNat c.Bounds.length)) (.i (!((c.Bounds.getD (Int.toNat 7) default).Kind==c.Max.Kind&&((c.Bounds.getD (Int.toNat 7) default).Int==c.Max.Int&&((c.Bounds.getD (Int.toNat 7) default).Text.toList==c.Max.Text.toList&&true)))) (.k false) (.i (decide ((0:Int)≤(0:Int))&&decide (0<Int.ofNat c.Bounds.length)) (.bn (zbF (c.Bounds.getD (Int.toNat 0) default) c.Min) fun r1=>.i (decide (r1<0)) (.k false) (.bn (zbv c.Bounds c) fun r0=>.k (!r0))) .d)) .d)))) (.k false)) (.k false)) (.k false)) (.k false)) (.k false))
def zgA (c:ColumnStats) (rows:Int):Bool×Bool:=(zjW c rows).fin default
def zmZ (r:Bool):ARes ty:=⟨[.pure (.lit (.bool r))],[]⟩
def zon:AL base (ColumnStats×Int×Unit):=zf (zg (vAgg 43)) (zf (zg (vInt .i64)) aNil)
def zl1:Ab.Spec ty:=zk zon fun x=>((zgA x.1 x.2.1).1,zmZ (zgA x.1 x.2.1).2)
theorem zsY:Sound Tryz.prog base 43 zl1:=
 zr (cx':=zvl) zF zm zB (zu ⟨zcj,zhw,zj2,zjA,zhc,trivial⟩) Tryz.call43 Tryz.func43 (c:=body Tryz.f43) (by kernel_rfl) (zh (l:=[]) (by kernel_rfl) trivial) (sg:=⟨[.pure],[]⟩) (A:=zon) (res:=zmZ) (W:=fun x=>zjW x.1 x.2.1) (z:=default)
def zx6:Cx ty:=mkCx base 9 [(43,zl1)] [] [] [] [] []
def zls (c:ColumnStats) (p1:Stats):Wy0 (Bool):=.bn (zgA c p1.Rows) fun r0=>.k (!r0)
def zgt (c:ColumnStats) (p1:Stats):Bool×Bool:=(zls c p1).fin default
def zoS (r:Bool):ARes ty:=⟨[.pure (.lit (.bool r))],[]⟩
def zqY:AL base (ColumnStats×Stats×Unit):=zf (zg (vAgg 43)) (zf (zg (zvr 30)) aNil)
def zhr:Ab.Spec ty:=zk zqY fun x=>((zgt x.1 x.2.1).1,zoS (zgt x.1 x.2.1).2)
theorem zjc:Sound Tryz.prog base 42 zhr:=
 zr (cx':=zx6) zF zm zB (zu ⟨zsY,trivial⟩) Tryz.call42 Tryz.func42 (c:=body Tryz.f42) (by kernel_rfl) (zh (l:=[]) (by kernel_rfl) trivial) (sg:=⟨[.pure],[]⟩) (A:=zqY) (res:=zoS) (W:=fun x=>zls x.1 x.2.1) (z:=default)
abbrev ttTslicesIndexFuncLapiColumnStatsapiColumnStatsva0:=List ColumnStats×(Stats×Unit)×Int×Int×Unit
def zie (s:List ColumnStats) (f:Stats) (t7:Int) (t8:Int):Wy ttTslicesIndexFuncLapiColumnStatsapiColumnStatsva0 (Unit) (Int⊕Unit):=.i (decide (t8<t7)) (.i (decide (0≤t8)&&decide (t8<Int.ofNat s.length)) (.bn (zgt (s.getD t8.toNat default) f) fun r0=>.i (r0) (.k (.inl t8)) (.h (s,(f,()),t7,(IntKind.i64.wrap (t8+1)),()) ())) .d) (.k (.inr ()))
def zb6 (x:ttTslicesIndexFuncLapiColumnStatsapiColumnStatsva0) (y:Unit):Wy ttTslicesIndexFuncLapiColumnStatsapiColumnStatsva0 (Unit) (Int⊕Unit):=zie x.1 x.2.1.1 x.2.2.1 x.2.2.2.1
def zif (n:Nat) (s:List ColumnStats) (f:Stats) (t7:Int) (t8:Int):Bool×(Int⊕Unit):=zP (zb6) (.inl default) n (s,(f,()),t7,t8,()) ()
def zdr (r:Int⊕Unit):LTree ty:=.ite (isL r) (.done .ret [.lit (.int .i64 (getL r))] []) (.done (.exit 0) [] [])
def zdH:LL ty ttTslicesIndexFuncLapiColumnStatsapiColumnStatsva0:=za (lSl 43) (za (lFn 42 (za (zBw (zdP (fun x=>(⟨x.1,x.2.1,x.2.2.1⟩:Stats)) (fun x=>(x.Table,x.Rows,x.Columns,())) (fun _=>rfl) (za (lInt .i64) (za (lInt .i64) (za (lSl 43) zD)))) 0) zD)) (za (lInt .i64) (za (lInt .i64) zD)))
def zdK:BL ty (Unit):=bNil
def zdF (x:ttTslicesIndexFuncLapiColumnStatsapiColumnStatsva0) (y:Unit):Nat:=(x.1.length+x.2.1.1.Columns.length+Int.toNat x.2.2.1+Int.toNat x.2.2.2.1+1000)
def zdN:Cx ty:=mkCx base 19 [(42,zhr)] [] [(2,[(0,.keep),(1,.keep),(7,.keep),(8,.keep)])] [(2,1,[]),(2,0,[(4,.keep)])] [(2,spW zdH zdK (zb6) (.inl default) zdr zdF)] []
theorem zh2:zW zdN (lp (body Tryz.f82) 0):=zK (id:=2) (V:=zdH) (B:=zdK) (W:=zb6) (z:=.inl default) (tr:=zdr) (m:=zdF)
def zdU (s:List ColumnStats) (f:Stats):Wy0 (Int):=.bn (zif (s.length+f.Columns.length+(Int.ofNat s.length).toNat +Int.toNat 0+1000) s f (Int.ofNat s.length) 0) fun r2=>.i (isL r2) (.k (getL r2)) (.k (-1:Int))
def zbs (s:List ColumnStats) (f:Stats):Bool×Int:=(zdU s f).fin default
def zdq (r:Int):ARes ty:=⟨[.pure (.lit (.int .i64 r))],[]⟩
def zdS:AL base (List ColumnStats×(Stats×Unit)×Unit):=zf (zg (vSl 43)) (zf (zg (vFn 42 (zno (zvr 30) vNil))) aNil)
def zdn:Ab.Spec ty:=zk zdS fun x=>((zbs x.1 x.2.1.1).1,zdq (zbs x.1 x.2.1.1).2)
theorem zhH:Sound Tryz.prog base 82 zdn:=
 zr (cx':=zdN) zF zm zB (zu ⟨zjc,trivial⟩) Tryz.call82 Tryz.func82 (c:=body Tryz.f82) (by kernel_rfl) (zh (l:=[lp (body Tryz.f82) 0]) (by kernel_rfl) ⟨zh2,trivial⟩) (sg:=⟨[.pure],[]⟩) (A:=zdS) (res:=zdq) (W:=fun x=>zdU x.1 x.2.1.1) (z:=default)
def zhL:Cx ty:=mkCx base 9 [(42,zhr),(82,zdn)] [] [] [] [] []
def zbV (s:List ColumnStats) (f:Stats):Wy0 (Bool):=.bn (zbs s f) fun r0=>.k (decide (r0≥0))
def z6 (s:List ColumnStats) (f:Stats):Bool×Bool:=(zbV s f).fin default
def zc7 (r:Bool):ARes ty:=⟨[.pure (.lit (.bool r))],[]⟩
def zdj:AL base (List ColumnStats×(Stats×Unit)×Unit):=zf (zg (vSl 43)) (zf (zg (vFn 42 (zno (zvr 30) vNil))) aNil)
def zc2:Ab.Spec ty:=zk zdj fun x=>((z6 x.1 x.2.1.1).1,zc7 (z6 x.1 x.2.1.1).2)
theorem zhi:Sound Tryz.prog base 41 zc2:=
 zr (cx':=zhL) zF zm zB (zu ⟨zjc,zhH,trivial⟩) Tryz.call41 Tryz.func41 (c:=body Tryz.f41) (by kernel_rfl) (zh (l:=[]) (by kernel_rfl) trivial) (sg:=⟨[.pure],[]⟩) (A:=zdj) (res:=zc7) (W:=fun x=>zbV x.1 x.2.1.1) (z:=default)
def zAD:Cx ty:=mkCx base 24 [(41,zc2),(42,zhr)] [] [] [] [] []
def zoc (s:Stats):Wy0 (Bool):=.i (decide (s.Rows≥0)) (.i (decide (s.Rows≤1000000)) (.i (decide (Int.ofNat s.Columns.length≤16)) (.bn (z6 s.Columns s) fun r0=>.k (!r0)) (.k false)) (.k false)) (.k false)
def zgZ (s:Stats):Bool×Bool:=(zoc s).fin default
def zr5 (r:Bool):ARes ty:=⟨[.pure (.lit (.bool r))],[]⟩
def ztH:AL base (Stats×Unit):=zf (zg (vAgg 30)) aNil
def zg3:Ab.Spec ty:=zk ztH fun x=>((zgZ x.1).1,zr5 (zgZ x.1).2)
theorem zib:Sound Tryz.prog base 15 zg3:=
 zr (cx':=zAD) zF zm zB (zu ⟨zhi,zjc,trivial⟩) Tryz.call15 Tryz.func15 (c:=body Tryz.f15) (by kernel_rfl) (zh (l:=[]) (by kernel_rfl) trivial) (sg:=⟨[.pure],[]⟩) (A:=ztH) (res:=zr5) (W:=fun x=>zoc x.1) (z:=default)
def ziZ (m b:Int):Bool×ByteArray:=zmB m b
def strconv_FormatInt_spec:Ab.Spec ty:=zk (cx:=base) (zf (zg (vInt .i64)) (zf (zg (vInt .i64)) aNil)) fun x=>((ziZ x.1 x.2.1).1,⟨[.pure (.lit (.string (ziZ x.1 x.2.1).2))],[]⟩)
theorem zwF:Sound Tryz.prog base 94 strconv_FormatInt_spec:=zDJ zm Go.Proofs.Tryz.laysM173 Tryz.call94 (fun _ h=>h.1)
def strings_ReplaceAll (s p q:ByteArray):Bool×ByteArray:=zjq s p q
def strings_ReplaceAll_spec:Ab.Spec ty:=zk (cx:=base0) (zf (zg vStr) (zf (zg vStr) (zf (zg vStr) aNil))) fun x=>((strings_ReplaceAll x.1 x.2.1 x.2.2.1).1,⟨[.pure (.lit (.string (strings_ReplaceAll x.1 x.2.1 x.2.2.1).2))],[]⟩)
theorem zv7:Sound Tryz.prog base0 95 strings_ReplaceAll_spec:=zCF zs4 rfl Go.Proofs.Tryz.lays155 Go.Proofs.Tryz.Builder_Extra_155 Tryz.call95 (fun _ h=>h.2)
def zC4:Cx ty:=mkCx base0 27 [(83,zgY),(94,strconv_FormatInt_spec),(95,strings_ReplaceAll_spec)] [] [] [] [] []
def zs5 (v:Value):Wy0 (ByteArray):=.bn (zgH v) fun r2=>.i (!r2) (.k (ByteArray.mk #[])) (.i (v.Kind==0) (.bn (ziZ v.Int 10) fun r0=>.k r0) (.i (v.Kind==1) (.bn (strings_ReplaceAll v.Text (ByteArray.mk #[(39:UInt8)]) (ByteArray.mk #[(39:UInt8),(39:UInt8)])) fun r1=>.i (decide ((ByteArray.mk #[(39:UInt8)]).size+r1.size≤9223372036854775807)) (.i (decide ((ByteArray.mk #[(39:UInt8)]++r1).size+(ByteArray.mk #[(39:UInt8)]).size≤9223372036854775807)) (.k (ByteArray.mk #[(39:UInt8)]++r1++ByteArray.mk #[(39:UInt8)])) .d) .d) (.i (v.Int==1) (.k (ByteArray.mk #[(84:UInt8),(82:UInt8),(85:UInt8),(69:UInt8)])) (.k (ByteArray.mk #[(70:UInt8),(65:UInt8),(76:UInt8),(83:UInt8),(69:UInt8)])))))
def zjJ (v:Value):Bool×ByteArray:=(zs5 v).fin default
def zvK (r:ByteArray):ARes ty:=⟨[.pure (.lit (.string r))],[]⟩
def zzj:AL base0 (Value×Unit):=zf (zg (vAgg 40)) aNil
def zuP:Ab.Spec ty:=zk zzj fun x=>((zjJ x.1).1,zvK (zjJ x.1).2)
theorem zAY:Sound Tryz.prog base0 53 zuP:=
 zr (cx':=zC4) zF zs4 zB (zu ⟨zhw.nodr,zwF.nodr,zv7,trivial⟩) Tryz.call53 Tryz.func53 (c:=body Tryz.f53) (by kernel_rfl) (zh (l:=[]) (by kernel_rfl) trivial) (sg:=⟨[.pure],[]⟩) (A:=zzj) (res:=zvK) (W:=fun x=>zs5 x.1) (z:=default)
end Go.Proofs.YtddkaehkimnklaaGreatDoor
end
