/- Texts of this claim, joined (the program, its functions in plain words, and what they compute). -/
import Derived.KernelRfl
import Derived.Shelf.Strconv.Itoa3
import Derived.Stop.LaidErr
import Derived.JoinedOf
import Derived.Shelf.Vars
import Derived.Shelf.SlSortCmp.NoneTotal
import Derived.Shelf.Strings.OnBuilder
import Derived.Shelf.Strconv.Itoa4
import Derived.Shelf.Small.Strs
import Derived.Shelf.Strings.Replace
import Derived.Test.YtddkaehkimnklaaGreatDoorChecked
import Derived.Test.YtddkaehkimnklaaGreatDoorRows
import Derived.Test.YtddkaehkimnklaaGreatDoorCards
import Derived.Test.YtddkaehkimnklaaGreatDoorProg
import Derived.Test.YtddkaehkimnklaaGreatDoorGA2
import Derived.Test.YtddkaehkimnklaaGreatDoorGA3
import Derived.Test.YtddkaehkimnklaaGreatDoorGB1
set_option autoImplicit false
set_option linter.unusedVariables false
set_option linter.unusedSectionVars false
set_option linter.unusedSimpArgs false
set_option maxRecDepth 1000000
set_option maxHeartbeats 0
/- The types of the program, as plain data. -/
noncomputable section
namespace Go.Proofs.YtddkaehkimnklaaGreatDoor
open Go Go.Ab
open Go.Proofs Go.Shelf
structure Column where
 Name:ByteArray
 Type_:Int
 deriving DecidableEq,Inhabited
structure Value where
 Kind:Int
 Int:Int
 Text:ByteArray
 deriving DecidableEq,Inhabited
structure RowID where
 Table:Int
 Seq:Int
 deriving DecidableEq,Inhabited
structure FactorOf (A:Type) where
 Atom:A
 Exp:Int
structure TermOf (A:Type) where
 Coeff:Int
 Factors:List (FactorOf A)
structure WeightedOf (A:Type) where
 Value:Value
 Ann:List (TermOf A)
structure Atom where
 Kind:Int
 Row:RowID
 Args:List (List (TermOf Atom))
 Func:Int
 Items:List (WeightedOf Atom)
 Op:Int
 Bound:Value
abbrev Factor:=FactorOf Atom
abbrev Term:=TermOf Atom
abbrev Weighted:=WeightedOf Atom
instance:Inhabited Atom:=⟨⟨0,default,[],0,[],0,default⟩⟩
instance:Inhabited Factor:=⟨⟨default,0⟩⟩
instance:Inhabited Term:=⟨⟨0,[]⟩⟩
instance:Inhabited Weighted:=⟨⟨default,[]⟩⟩
theorem Atom.eta (x:Atom):(⟨x.Kind,x.Row,x.Args,x.Func,x.Items,x.Op,x.Bound⟩:Atom)=x:=by cases x; rfl
mutual
def zHn:(x y:Atom)→Decidable (x=y)
 | ⟨k,r,a,f,i,o,b⟩,⟨k',r',a',f',i',o',b'⟩=>
  match decEq k k',decEq r r',zHz a a',decEq f f',zGm i i',decEq o o',decEq b b' with
  | .isTrue h1,.isTrue h2,.isTrue h3,.isTrue h4,.isTrue h5,.isTrue h6,.isTrue h7=>.isTrue (by subst h1 h2 h3 h4 h5 h6 h7; rfl)
  | .isFalse h,_,_,_,_,_,_=>.isFalse (fun e=>by cases e; exact h rfl)
  | _,.isFalse h,_,_,_,_,_=>.isFalse (fun e=>by cases e; exact h rfl)
  | _,_,.isFalse h,_,_,_,_=>.isFalse (fun e=>by cases e; exact h rfl)
  | _,_,_,.isFalse h,_,_,_=>.isFalse (fun e=>by cases e; exact h rfl)
  | _,_,_,_,.isFalse h,_,_=>.isFalse (fun e=>by cases e; exact h rfl)
  | _,_,_,_,_,.isFalse h,_=>.isFalse (fun e=>by cases e; exact h rfl)
  | _,_,_,_,_,_,.isFalse h=>.isFalse (fun e=>by cases e; exact h rfl)
def zE8:(x y:Factor)→Decidable (x=y)
 | ⟨a,e⟩,⟨a',e'⟩=>match zHn a a',decEq e e' with
  | .isTrue h1,.isTrue h2=>.isTrue (by subst h1 h2; rfl)
  | .isFalse h,_=>.isFalse (fun e=>by cases e; exact h rfl)
  | _,.isFalse h=>.isFalse (fun e=>by cases e; exact h rfl)
def zD8:(x y:List Factor)→Decidable (x=y)
 | [],[]=>.isTrue rfl
 | [],_::_=>.isFalse (by simp)
 | _::_,[]=>.isFalse (by simp)
 | x::r,y::s=>match zE8 x y,zD8 r s with
  | .isTrue h1,.isTrue h2=>.isTrue (by subst h1 h2; rfl)
  | .isFalse h,_=>.isFalse (fun e=>by cases e; exact h rfl)
  | _,.isFalse h=>.isFalse (fun e=>by cases e; exact h rfl)
def zHp:(x y:Term)→Decidable (x=y)
 | ⟨a,e⟩,⟨a',e'⟩=>match decEq a a',zD8 e e' with
  | .isTrue h1,.isTrue h2=>.isTrue (by subst h1 h2; rfl)
  | .isFalse h,_=>.isFalse (fun e=>by cases e; exact h rfl)
  | _,.isFalse h=>.isFalse (fun e=>by cases e; exact h rfl)
def zGy:(x y:List Term)→Decidable (x=y)
 | [],[]=>.isTrue rfl
 | [],_::_=>.isFalse (by simp)
 | _::_,[]=>.isFalse (by simp)
 | x::r,y::s=>match zHp x y,zGy r s with
  | .isTrue h1,.isTrue h2=>.isTrue (by subst h1 h2; rfl)
  | .isFalse h,_=>.isFalse (fun e=>by cases e; exact h rfl)
  | _,.isFalse h=>.isFalse (fun e=>by cases e; exact h rfl)
def zHz:(x y:List (List Term))→Decidable (x=y)
 | [],[]=>.isTrue rfl
 | [],_::_=>.isFalse (by simp)
 | _::_,[]=>.isFalse (by simp)
 | x::r,y::s=>match zGy x y,zHz r s with
  | .isTrue h1,.isTrue h2=>.isTrue (by subst h1 h2; rfl)
  | .isFalse h,_=>.isFalse (fun e=>by cases e; exact h rfl)
  | _,.isFalse h=>.isFalse (fun e=>by cases e; exact h rfl)
def zHG:(x y:Weighted)→Decidable (x=y)
 | ⟨a,e⟩,⟨a',e'⟩=>match decEq a a',zGy e e' with
  | .isTrue h1,.isTrue h2=>.isTrue (by subst h1 h2; rfl)
  | .isFalse h,_=>.isFalse (fun e=>by cases e; exact h rfl)
  | _,.isFalse h=>.isFalse (fun e=>by cases e; exact h rfl)
def zGm:(x y:List Weighted)→Decidable (x=y)
 | [],[]=>.isTrue rfl
 | [],_::_=>.isFalse (by simp)
 | _::_,[]=>.isFalse (by simp)
 | x::r,y::s=>match zHG x y,zGm r s with
  | .isTrue h1,.isTrue h2=>.isTrue (by subst h1 h2; rfl)
  | .isFalse h,_=>.isFalse (fun e=>by cases e; exact h rfl)
  | _,.isFalse h=>.isFalse (fun e=>by cases e; exact h rfl)
end
instance:DecidableEq Atom:=zHn
instance:DecidableEq Factor:=zE8
instance:DecidableEq Term:=zHp
instance:DecidableEq Weighted:=zHG
structure Row where
 Values:List Value
 Ann:List Term
 deriving DecidableEq,Inhabited
structure Table where
 ID:Int
 Name:ByteArray
 Columns:List Column
 Rows:List Row
 deriving DecidableEq,Inhabited
structure ColumnStats where
 Distinct:Int
 Min:Value
 Max:Value
 Bounds:List Value
 deriving DecidableEq,Inhabited
structure Stats where
 Table:Int
 Rows:Int
 Columns:List ColumnStats
 deriving DecidableEq,Inhabited
structure Scalar where
 Kind:Int
 Column:Int
 Value:Value
 Op:Int
 Args:List Scalar
instance:Inhabited Scalar:=⟨⟨0,0,default,0,[]⟩⟩
theorem Scalar.eta (x:Scalar):(⟨x.Kind,x.Column,x.Value,x.Op,x.Args⟩:Scalar)=x:=by cases x; rfl
mutual
def zFm:(x y:Scalar)→Decidable (x=y)
 | ⟨k,c,v,o,a⟩,⟨k',c',v',o',a'⟩=>
  match decEq k k',decEq c c',decEq v v',decEq o o',zDs a a' with
  | .isTrue h1,.isTrue h2,.isTrue h3,.isTrue h4,.isTrue h5=>.isTrue (by subst h1 h2 h3 h4 h5; rfl)
  | .isFalse h,_,_,_,_=>.isFalse (fun e=>by cases e; exact h rfl)
  | _,.isFalse h,_,_,_=>.isFalse (fun e=>by cases e; exact h rfl)
  | _,_,.isFalse h,_,_=>.isFalse (fun e=>by cases e; exact h rfl)
  | _,_,_,.isFalse h,_=>.isFalse (fun e=>by cases e; exact h rfl)
  | _,_,_,_,.isFalse h=>.isFalse (fun e=>by cases e; exact h rfl)
def zDs:(x y:List Scalar)→Decidable (x=y)
 | [],[]=>.isTrue rfl
 | [],_::_=>.isFalse (by simp)
 | _::_,[]=>.isFalse (by simp)
 | x::r,y::s=>match zFm x y,zDs r s with
  | .isTrue h1,.isTrue h2=>.isTrue (by subst h1 h2; rfl)
  | .isFalse h,_=>.isFalse (fun e=>by cases e; exact h rfl)
  | _,.isFalse h=>.isFalse (fun e=>by cases e; exact h rfl)
end
instance:DecidableEq Scalar:=zFm
structure Relation where
 Columns:List Column
 Rows:List Row
 deriving DecidableEq,Inhabited
structure estimator where
 s:Stats
 deriving DecidableEq,Inhabited
structure pair where
 c:Column
 v:Value
 deriving DecidableEq,Inhabited
structure Binding where
 Row:RowID
 To:List Term
 deriving DecidableEq,Inhabited
def ty:Nat→Type
 | 2=>Int
 | 3=>Int
 | 4=>Bool
 | 5=>Int
 | 9=>ByteArray
 | 22=>List Column
 | 23=>List Row
 | 25=>Table
 | 28=>List ColumnStats
 | 30=>Stats
 | 34=>List Value
 | 35=>List Term
 | 36=>List Term
 | 38=>Row
 | 40=>Value
 | 43=>ColumnStats
 | 45=>List Scalar
 | 47=>Scalar
 | 53=>List Int
 | 57=>List Stats
 | 58=>List ByteArray
 | 67=>Column
 | 68=>List Int
 | 73=>Relation
 | 74=>Int
 | 88=>estimator
 | 103=>List Relation
 | 116=>Unit
 | 129=>List Int
 | 139=>Int
 | 140=>List (List Term)
 | 145=>List pair
 | 147=>pair
 | 150=>List Factor
 | 152=>Term
 | 155=>RowID
 | 156=>List Weighted
 | 158=>Atom
 | 160=>Factor
 | 171=>Int
 | 182=>Weighted
 | 207=>List Binding
 | 210=>Binding
 | 232=>Unit
 | _=>Unit
instance:(T:Nat)→Inhabited (ty T):=fun T=>by
 unfold ty
 split <;>infer_instance
def dt67:DT ty Column:=zk6 (fun x=>⟨x.1,x.2⟩) (fun x=>(x.Name,x.Type_)) (fun _=>rfl) (zc8 (zFY) (zhf .i64))
def dt40:DT ty Value:=zk6 (fun x=>⟨x.1,x.2.1,x.2.2⟩) (fun x=>(x.Kind,x.Int,x.Text)) (fun _=>rfl) (zc8 (zhf .i64) (zc8 (zhf .i64) (zFY)))
def zHZ:DT ty RowID:=zk6 (fun x=>⟨x.1,x.2⟩) (fun x=>(x.Table,x.Seq)) (fun _=>rfl) (zc8 (zhf .i64) (zhf .i64))
def zJ1:DT ty Atom:=zk6 (fun x=>⟨x.1,x.2.1,x.2.2.1,x.2.2.2.1,x.2.2.2.2.1,x.2.2.2.2.2.1,x.2.2.2.2.2.2⟩) (fun x=>(x.Kind,x.Row,x.Args,x.Func,x.Items,x.Op,x.Bound)) (fun _=>rfl) (zc8 (zhf .i64) (zc8 (zHZ) (zc8 (dtSl 36) (zc8 (zhf .i64) (zc8 (dtSl 182) (zc8 (zhf .i64) (dt40)))))))
def zLf:DT ty Factor:=zk6 (fun x=>⟨x.1,x.2⟩) (fun x=>(x.Atom,x.Exp)) (fun _=>rfl) (zc8 (zJ1) (zhf .i64))
def zLz:DT ty Term:=zk6 (fun x=>⟨x.1,x.2⟩) (fun x=>(x.Coeff,x.Factors)) (fun _=>rfl) (zc8 (zhf .i64) (dtSl 160))
def zLh:DT ty Weighted:=zk6 (fun x=>⟨x.1,x.2⟩) (fun x=>(x.Value,x.Ann)) (fun _=>rfl) (zc8 (dt40) (dtSl 152))
def dt38:DT ty Row:=zk6 (fun x=>⟨x.1,x.2⟩) (fun x=>(x.Values,x.Ann)) (fun _=>rfl) (zc8 (dtSl 40) (dtSl 152))
def dt25:DT ty Table:=zk6 (fun x=>⟨x.1,x.2.1,x.2.2.1,x.2.2.2⟩) (fun x=>(x.ID,x.Name,x.Columns,x.Rows)) (fun _=>rfl) (zc8 (zhf .i64) (zc8 (zFY) (zc8 (dtSl 67) (dtSl 38))))
def dt43:DT ty ColumnStats:=zk6 (fun x=>⟨x.1,x.2.1,x.2.2.1,x.2.2.2⟩) (fun x=>(x.Distinct,x.Min,x.Max,x.Bounds)) (fun _=>rfl) (zc8 (zhf .i64) (zc8 (dt40) (zc8 (dt40) (dtSl 40))))
def dt30:DT ty Stats:=zk6 (fun x=>⟨x.1,x.2.1,x.2.2⟩) (fun x=>(x.Table,x.Rows,x.Columns)) (fun _=>rfl) (zc8 (zhf .i64) (zc8 (zhf .i64) (dtSl 43)))
def dt47:DT ty Scalar:=zk6 (fun x=>⟨x.1,x.2.1,x.2.2.1,x.2.2.2.1,x.2.2.2.2⟩) (fun x=>(x.Kind,x.Column,x.Value,x.Op,x.Args)) (fun _=>rfl) (zc8 (zhf .i64) (zc8 (zhf .i64) (zc8 (dt40) (zc8 (zhf .i64) (dtSl 47)))))
def dt73:DT ty Relation:=zk6 (fun x=>⟨x.1,x.2⟩) (fun x=>(x.Columns,x.Rows)) (fun _=>rfl) (zc8 (dtSl 67) (dtSl 38))
def dt88:DT ty estimator:=zk6 (fun x=>⟨x⟩) (fun x=>(x.s)) (fun _=>rfl) (dt30)
def zLi:DT ty pair:=zk6 (fun x=>⟨x.1,x.2⟩) (fun x=>(x.c,x.v)) (fun _=>rfl) (zc8 (dt67) (dt40))
def zLj:DT ty Binding:=zk6 (fun x=>⟨x.1,x.2⟩) (fun x=>(x.Row,x.To)) (fun _=>rfl) (zc8 (zHZ) (dtSl 152))
def zDJ:List ((T:Nat)×DT ty (ty T)):=[⟨2,(zhf .i64:DT ty Int)⟩,⟨3,(zhf .i64:DT ty Int)⟩,⟨4,(zKY:DT ty Bool)⟩,⟨5,(zhf .u8:DT ty Int)⟩,⟨9,(zFY:DT ty ByteArray)⟩,⟨22,(dtSl 67:DT ty (List Column))⟩,⟨23,(dtSl 38:DT ty (List Row))⟩,⟨25,(dt25:DT ty Table)⟩,⟨28,(dtSl 43:DT ty (List ColumnStats))⟩,⟨30,(dt30:DT ty Stats)⟩,⟨34,(dtSl 40:DT ty (List Value))⟩,⟨35,(dtSl 152:DT ty (List Term))⟩,⟨36,(dtSl 152:DT ty (List Term))⟩,⟨38,(dt38:DT ty Row)⟩,⟨40,(dt40:DT ty Value)⟩,⟨43,(dt43:DT ty ColumnStats)⟩,⟨45,(dtSl 47:DT ty (List Scalar))⟩,⟨47,(dt47:DT ty Scalar)⟩,⟨53,(dtSl 3:DT ty (List Int))⟩,⟨57,(dtSl 30:DT ty (List Stats))⟩,⟨58,(dtSl 9:DT ty (List ByteArray))⟩,⟨67,(dt67:DT ty Column)⟩,⟨68,(dtSl 2:DT ty (List Int))⟩,⟨73,(dt73:DT ty Relation)⟩,⟨74,(zhf .i64:DT ty Int)⟩,⟨88,(dt88:DT ty estimator)⟩,⟨103,(dtSl 73:DT ty (List Relation))⟩,⟨116,(dtMp:DT ty Unit)⟩,⟨129,(dtSl 5:DT ty (List Int))⟩,⟨139,(zhf .u64:DT ty Int)⟩,⟨140,(dtSl 36:DT ty (List (List Term)))⟩,⟨145,(dtSl 147:DT ty (List pair))⟩,⟨147,(zLi:DT ty pair)⟩,⟨150,(dtSl 160:DT ty (List Factor))⟩,⟨152,(zLz:DT ty Term)⟩,⟨155,(zHZ:DT ty RowID)⟩,⟨156,(dtSl 182:DT ty (List Weighted))⟩,⟨158,(zJ1:DT ty Atom)⟩,⟨160,(zLf:DT ty Factor)⟩,⟨171,(zhf .u64:DT ty Int)⟩,⟨182,(zLh:DT ty Weighted)⟩,⟨207,(dtSl 210:DT ty (List Binding))⟩,⟨210,(zLj:DT ty Binding)⟩,⟨232,(dtMp:DT ty Unit)⟩]
def zFT:List (Nat×TInfo):=[(2,⟨.int .i64,1,8,[.int .i64 (0)]⟩),
 (3,⟨.int .i64,1,8,[.int .i64 (0)]⟩),
 (4,⟨.bool,1,1,[.bool false]⟩),
 (5,⟨.int .u8,1,1,[.int .u8 (0)]⟩),
 (9,⟨.str,1,16,[.string ⟨#[]⟩]⟩),
 (22,⟨.slice 67,1,24,[.slice none 0 0]⟩),
 (23,⟨.slice 38,1,24,[.slice none 0 0]⟩),
 (25,⟨.struct [(0,3),(1,9),(2,22),(3,23)],4,72,[.int .i64 (0),.string ⟨#[]⟩,.slice none 0 0,.slice none 0 0]⟩),
 (28,⟨.slice 43,1,24,[.slice none 0 0]⟩),
 (30,⟨.struct [(0,3),(1,3),(2,28)],3,40,[.int .i64 (0),.int .i64 (0),.slice none 0 0]⟩),
 (34,⟨.slice 40,1,24,[.slice none 0 0]⟩),
 (35,⟨.slice 152,1,24,[.slice none 0 0]⟩),
 (36,⟨.slice 152,1,24,[.slice none 0 0]⟩),
 (38,⟨.struct [(0,34),(1,36)],2,48,[.slice none 0 0,.slice none 0 0]⟩),
 (40,⟨.struct [(0,3),(1,2),(2,9)],3,32,[.int .i64 (0),.int .i64 (0),.string ⟨#[]⟩]⟩),
 (43,⟨.struct [(0,3),(1,40),(4,40),(7,34)],8,96,[.int .i64 (0),.int .i64 (0),.int .i64 (0),.string ⟨#[]⟩,.int .i64 (0),.int .i64 (0),.string ⟨#[]⟩,.slice none 0 0]⟩),
 (45,⟨.slice 47,1,24,[.slice none 0 0]⟩),
 (47,⟨.struct [(0,3),(1,3),(2,40),(5,3),(6,45)],7,80,[.int .i64 (0),.int .i64 (0),.int .i64 (0),.int .i64 (0),.string ⟨#[]⟩,.int .i64 (0),.slice none 0 0]⟩),
 (53,⟨.slice 3,1,24,[.slice none 0 0]⟩),
 (57,⟨.slice 30,1,24,[.slice none 0 0]⟩),
 (58,⟨.slice 9,1,24,[.slice none 0 0]⟩),
 (67,⟨.struct [(0,9),(1,3)],2,24,[.string ⟨#[]⟩,.int .i64 (0)]⟩),
 (68,⟨.slice 2,1,24,[.slice none 0 0]⟩),
 (73,⟨.struct [(0,22),(1,23)],2,48,[.slice none 0 0,.slice none 0 0]⟩),
 (74,⟨.int .i64,1,8,[.int .i64 (0)]⟩),
 (88,⟨.struct [(0,30)],3,40,[.int .i64 (0),.int .i64 (0),.slice none 0 0]⟩),
 (103,⟨.slice 73,1,24,[.slice none 0 0]⟩),
 (116,⟨.map 40 4,1,8,[.map none]⟩),
 (129,⟨.slice 5,1,24,[.slice none 0 0]⟩),
 (139,⟨.int .u64,1,8,[.int .u64 (0)]⟩),
 (140,⟨.slice 36,1,24,[.slice none 0 0]⟩),
 (145,⟨.slice 147,1,24,[.slice none 0 0]⟩),
 (147,⟨.struct [(0,67),(2,40)],5,56,[.string ⟨#[]⟩,.int .i64 (0),.int .i64 (0),.int .i64 (0),.string ⟨#[]⟩]⟩),
 (150,⟨.slice 160,1,24,[.slice none 0 0]⟩),
 (152,⟨.struct [(0,2),(1,150)],2,32,[.int .i64 (0),.slice none 0 0]⟩),
 (155,⟨.struct [(0,3),(1,3)],2,16,[.int .i64 (0),.int .i64 (0)]⟩),
 (156,⟨.slice 182,1,24,[.slice none 0 0]⟩),
 (158,⟨.struct [(0,3),(1,155),(3,140),(4,3),(5,156),(6,3),(7,40)],10,120,[.int .i64 (0),.int .i64 (0),.int .i64 (0),.slice none 0 0,.int .i64 (0),.slice none 0 0,.int .i64 (0),.int .i64 (0),.int .i64 (0),.string ⟨#[]⟩]⟩),
 (160,⟨.struct [(0,158),(10,3)],11,128,[.int .i64 (0),.int .i64 (0),.int .i64 (0),.slice none 0 0,.int .i64 (0),.slice none 0 0,.int .i64 (0),.int .i64 (0),.int .i64 (0),.string ⟨#[]⟩,.int .i64 (0)]⟩),
 (171,⟨.int .u64,1,8,[.int .u64 (0)]⟩),
 (182,⟨.struct [(0,40),(3,36)],4,56,[.int .i64 (0),.int .i64 (0),.string ⟨#[]⟩,.slice none 0 0]⟩),
 (207,⟨.slice 210,1,24,[.slice none 0 0]⟩),
 (210,⟨.struct [(0,155),(2,36)],3,40,[.int .i64 (0),.int .i64 (0),.slice none 0 0]⟩),
 (232,⟨.map 3 3,1,8,[.map none]⟩)]
def zBG:List (Nat×List TD):=[(67,[.str,.int .i64]),(40,[.int .i64,.int .i64,.str]),(155,[.int .i64,.int .i64])]
def inv (w:World):Prop:=Lib.TabIs Tryz.prog w "internal/strconv.uint64pow10" .u64 Lib.pow10Tab∧(∃ m,w.cell? ⟨0,0,none⟩=some (.int .i64 m))
theorem zJP {n:String} {g:Nat} {w w':World} (hg:Tryz.prog.globalNamed n=some g) (h:w'.heap[g]? =w.heap[g]?):w'.var? Tryz.prog n=w.var? Tryz.prog n:=by
 unfold World.var?; rw [hg]; simp only [Option.bind_some,h]
theorem zIg (w w':World) (hi:inv w) (hb:∀ b,b<4→w'.heap[b]? =w.heap[b]?):inv w':=by
 obtain ⟨h1,⟨m,h2⟩⟩:=hi
 refine ⟨(zJP (g:=1) (by kernel_rfl) (hb 1 (by omega))).trans h1,⟨m, ?_⟩⟩
 rw [← h2]; exact World.cell?_of_block (a:=⟨0,0,none⟩) (hb 0 (by omega))
def base:Cx ty:={ ti:=fun T=>zFT.lookup T,dflt:=fun _=>default,enc:=fun T=>(tabT zDJ T).enc,dec:=fun T=>(tabT zDJ T).dec,spec:=fun _=>none,io:=fun _=>[],eqs:=fun T us vs=>match zBG.lookup T with | some ts=>zM ts us vs | none=>none,nt:=0,head:=fun _=>[],out:=fun _ _=>[],loops:=fun _=>none,ng:=4,inv:=inv }
theorem zHT:Tryz.prog.info? 2=some Tryz.t2:=by kernel_rfl
theorem zk7:Tryz.prog.info? 3=some Tryz.t3:=by kernel_rfl
theorem zLu:Tryz.prog.info? 4=some Tryz.t4:=by kernel_rfl
theorem zLr:Tryz.prog.info? 5=some Tryz.t5:=by kernel_rfl
theorem zFX:Tryz.prog.info? 9=some Tryz.t9:=by kernel_rfl
theorem zGD:Tryz.prog.info? 22=some Tryz.t22:=by kernel_rfl
theorem zGL:Tryz.prog.info? 23=some Tryz.t23:=by kernel_rfl
theorem zK2:Tryz.prog.info? 25=some Tryz.t25:=by kernel_rfl
theorem zIX:Tryz.prog.info? 28=some Tryz.t28:=by kernel_rfl
theorem zIF:Tryz.prog.info? 30=some Tryz.t30:=by kernel_rfl
theorem zGO:Tryz.prog.info? 34=some Tryz.t34:=by kernel_rfl
theorem zKX:Tryz.prog.info? 35=some Tryz.t35:=by kernel_rfl
theorem zDu:Tryz.prog.info? 36=some Tryz.t36:=by kernel_rfl
theorem zKU:Tryz.prog.info? 38=some Tryz.t38:=by kernel_rfl
theorem zvO:Tryz.prog.info? 40=some Tryz.t40:=by kernel_rfl
theorem zKN:Tryz.prog.info? 43=some Tryz.t43:=by kernel_rfl
theorem zII:Tryz.prog.info? 45=some Tryz.t45:=by kernel_rfl
theorem zK7:Tryz.prog.info? 47=some Tryz.t47:=by kernel_rfl
theorem zLa:Tryz.prog.info? 53=some Tryz.t53:=by kernel_rfl
theorem zK9:Tryz.prog.info? 57=some Tryz.t57:=by kernel_rfl
theorem zKJ:Tryz.prog.info? 58=some Tryz.t58:=by kernel_rfl
theorem zIR:Tryz.prog.info? 67=some Tryz.t67:=by kernel_rfl
theorem zKT:Tryz.prog.info? 68=some Tryz.t68:=by kernel_rfl
theorem zK8:Tryz.prog.info? 73=some Tryz.t73:=by kernel_rfl
theorem zKI:Tryz.prog.info? 74=some Tryz.t74:=by kernel_rfl
theorem zKV:Tryz.prog.info? 88=some Tryz.t88:=by kernel_rfl
theorem zJ6:Tryz.prog.info? 103=some Tryz.t103:=by kernel_rfl
theorem zKv:Tryz.prog.info? 116=some Tryz.t116:=by kernel_rfl
theorem zKi:Tryz.prog.info? 129=some Tryz.t129:=by kernel_rfl
theorem zKt:Tryz.prog.info? 139=some Tryz.t139:=by kernel_rfl
theorem zHP:Tryz.prog.info? 140=some Tryz.t140:=by kernel_rfl
theorem zKp:Tryz.prog.info? 145=some Tryz.t145:=by kernel_rfl
theorem zKs:Tryz.prog.info? 147=some Tryz.t147:=by kernel_rfl
theorem zHJ:Tryz.prog.info? 150=some Tryz.t150:=by kernel_rfl
theorem zKz:Tryz.prog.info? 152=some Tryz.t152:=by kernel_rfl
theorem zEW:Tryz.prog.info? 155=some Tryz.t155:=by kernel_rfl
theorem zHQ:Tryz.prog.info? 156=some Tryz.t156:=by kernel_rfl
theorem zHr:Tryz.prog.info? 158=some Tryz.t158:=by kernel_rfl
theorem zKE:Tryz.prog.info? 160=some Tryz.t160:=by kernel_rfl
theorem zJ3:Tryz.prog.info? 171=some Tryz.t171:=by kernel_rfl
theorem zKd:Tryz.prog.info? 182=some Tryz.t182:=by kernel_rfl
theorem zKl:Tryz.prog.info? 207=some Tryz.t207:=by kernel_rfl
theorem zKq:Tryz.prog.info? 210=some Tryz.t210:=by kernel_rfl
theorem zJ9:Tryz.prog.info? 232=some Tryz.t232:=by kernel_rfl
theorem zJ5:∀ T i,zFT.lookup T=some i→InfoOK Tryz.prog T i:=by
 intro T i h
 have h:=zuD _ _ _ h
 simp only [zFT,List.mem_cons,List.not_mem_nil,or_false,Prod.mk.injEq] at h
 rcases h with ⟨rfl,rfl⟩ | ⟨rfl,rfl⟩ | ⟨rfl,rfl⟩ | ⟨rfl,rfl⟩ | ⟨rfl,rfl⟩ | ⟨rfl,rfl⟩ | ⟨rfl,rfl⟩ | ⟨rfl,rfl⟩ | ⟨rfl,rfl⟩ | ⟨rfl,rfl⟩ | ⟨rfl,rfl⟩ | ⟨rfl,rfl⟩ | ⟨rfl,rfl⟩ | ⟨rfl,rfl⟩ | ⟨rfl,rfl⟩ | ⟨rfl,rfl⟩ | ⟨rfl,rfl⟩ | ⟨rfl,rfl⟩ | ⟨rfl,rfl⟩ | ⟨rfl,rfl⟩ | ⟨rfl,rfl⟩ | ⟨rfl,rfl⟩ | ⟨rfl,rfl⟩ | ⟨rfl,rfl⟩ | ⟨rfl,rfl⟩ | ⟨rfl,rfl⟩ | ⟨rfl,rfl⟩ | ⟨rfl,rfl⟩ | ⟨rfl,rfl⟩ | ⟨rfl,rfl⟩ | ⟨rfl,rfl⟩ | ⟨rfl,rfl⟩ | ⟨rfl,rfl⟩ | ⟨rfl,rfl⟩ | ⟨rfl,rfl⟩ | ⟨rfl,rfl⟩ | ⟨rfl,rfl⟩ | ⟨rfl,rfl⟩ | ⟨rfl,rfl⟩ | ⟨rfl,rfl⟩ | ⟨rfl,rfl⟩ | ⟨rfl,rfl⟩ | ⟨rfl,rfl⟩ | ⟨rfl,rfl⟩
 ·exact ⟨Tryz.t2,_,_,zHT,Tryz.underlying2,rfl,rfl,rfl,rfl,rfl,⟨by simp [zQ],fun _=>rfl⟩,rfl⟩
 ·exact ⟨Tryz.t3,_,_,zk7,Tryz.underlying3,rfl,rfl,rfl,rfl,rfl,⟨by simp [zQ],fun _=>rfl⟩,rfl⟩
 ·exact ⟨Tryz.t4,_,_,zLu,Tryz.underlying4,rfl,rfl,rfl,rfl,rfl,⟨by simp [zQ],fun _=>rfl⟩,rfl⟩
 ·exact ⟨Tryz.t5,_,_,zLr,Tryz.underlying5,rfl,rfl,rfl,rfl,rfl,⟨by simp [zQ],fun _=>rfl⟩,rfl⟩
 ·exact ⟨Tryz.t9,_,_,zFX,Tryz.underlying9,rfl,rfl,rfl,rfl,rfl,⟨by simp [zQ],fun _=>rfl⟩,rfl⟩
 ·exact ⟨Tryz.t22,_,_,zGD,Tryz.underlying22,rfl,rfl,rfl,rfl,rfl,⟨by simp [zQ],fun _=>rfl⟩,rfl⟩
 ·exact ⟨Tryz.t23,_,_,zGL,Tryz.underlying23,rfl,rfl,rfl,rfl,rfl,⟨by simp [zQ],fun _=>rfl⟩,rfl⟩
 ·exact ⟨Tryz.t25,_,_,zK2,Tryz.underlying25,rfl,rfl,rfl,rfl,rfl,⟨by simp [zQ],fun h=>by cases h⟩,⟨_,rfl,rfl,fun f hf=>by
   simp only [List.mem_cons,List.not_mem_nil,or_false] at hf
   rcases hf with rfl | rfl | rfl | rfl
   ·exact Option.isSome_iff_exists.2 ⟨_,zk7⟩
   ·exact Option.isSome_iff_exists.2 ⟨_,zFX⟩
   ·exact Option.isSome_iff_exists.2 ⟨_,zGD⟩
   ·exact Option.isSome_iff_exists.2 ⟨_,zGL⟩⟩⟩
 ·exact ⟨Tryz.t28,_,_,zIX,Tryz.underlying28,rfl,rfl,rfl,rfl,rfl,⟨by simp [zQ],fun _=>rfl⟩,rfl⟩
 ·exact ⟨Tryz.t30,_,_,zIF,Tryz.underlying30,rfl,rfl,rfl,rfl,rfl,⟨by simp [zQ],fun h=>by cases h⟩,⟨_,rfl,rfl,fun f hf=>by
   simp only [List.mem_cons,List.not_mem_nil,or_false] at hf
   rcases hf with rfl | rfl | rfl
   ·exact Option.isSome_iff_exists.2 ⟨_,zk7⟩
   ·exact Option.isSome_iff_exists.2 ⟨_,zk7⟩
   ·exact Option.isSome_iff_exists.2 ⟨_,zIX⟩⟩⟩
 ·exact ⟨Tryz.t34,_,_,zGO,Tryz.underlying34,rfl,rfl,rfl,rfl,rfl,⟨by simp [zQ],fun _=>rfl⟩,rfl⟩
 ·exact ⟨Tryz.t35,_,_,zKX,Tryz.underlying35,rfl,rfl,rfl,rfl,rfl,⟨by simp [zQ],fun _=>rfl⟩,rfl⟩
 ·exact ⟨Tryz.t36,_,_,zDu,Tryz.underlying36,rfl,rfl,rfl,rfl,rfl,⟨by simp [zQ],fun _=>rfl⟩,rfl⟩
 ·exact ⟨Tryz.t38,_,_,zKU,Tryz.underlying38,rfl,rfl,rfl,rfl,rfl,⟨by simp [zQ],fun h=>by cases h⟩,⟨_,rfl,rfl,fun f hf=>by
   simp only [List.mem_cons,List.not_mem_nil,or_false] at hf
   rcases hf with rfl | rfl
   ·exact Option.isSome_iff_exists.2 ⟨_,zGO⟩
   ·exact Option.isSome_iff_exists.2 ⟨_,zDu⟩⟩⟩
 ·exact ⟨Tryz.t40,_,_,zvO,Tryz.underlying40,rfl,rfl,rfl,rfl,rfl,⟨by simp [zQ],fun h=>by cases h⟩,⟨_,rfl,rfl,fun f hf=>by
   simp only [List.mem_cons,List.not_mem_nil,or_false] at hf
   rcases hf with rfl | rfl | rfl
   ·exact Option.isSome_iff_exists.2 ⟨_,zk7⟩
   ·exact Option.isSome_iff_exists.2 ⟨_,zHT⟩
   ·exact Option.isSome_iff_exists.2 ⟨_,zFX⟩⟩⟩
 ·exact ⟨Tryz.t43,_,_,zKN,Tryz.underlying43,rfl,rfl,rfl,rfl,rfl,⟨by simp [zQ],fun h=>by cases h⟩,⟨_,rfl,rfl,fun f hf=>by
   simp only [List.mem_cons,List.not_mem_nil,or_false] at hf
   rcases hf with rfl | rfl | rfl | rfl
   ·exact Option.isSome_iff_exists.2 ⟨_,zk7⟩
   ·exact Option.isSome_iff_exists.2 ⟨_,zvO⟩
   ·exact Option.isSome_iff_exists.2 ⟨_,zvO⟩
   ·exact Option.isSome_iff_exists.2 ⟨_,zGO⟩⟩⟩
 ·exact ⟨Tryz.t45,_,_,zII,Tryz.underlying45,rfl,rfl,rfl,rfl,rfl,⟨by simp [zQ],fun _=>rfl⟩,rfl⟩
 ·exact ⟨Tryz.t47,_,_,zK7,Tryz.underlying47,rfl,rfl,rfl,rfl,rfl,⟨by simp [zQ],fun h=>by cases h⟩,⟨_,rfl,rfl,fun f hf=>by
   simp only [List.mem_cons,List.not_mem_nil,or_false] at hf
   rcases hf with rfl | rfl | rfl | rfl | rfl
   ·exact Option.isSome_iff_exists.2 ⟨_,zk7⟩
   ·exact Option.isSome_iff_exists.2 ⟨_,zk7⟩
   ·exact Option.isSome_iff_exists.2 ⟨_,zvO⟩
   ·exact Option.isSome_iff_exists.2 ⟨_,zk7⟩
   ·exact Option.isSome_iff_exists.2 ⟨_,zII⟩⟩⟩
 ·exact ⟨Tryz.t53,_,_,zLa,Tryz.underlying53,rfl,rfl,rfl,rfl,rfl,⟨by simp [zQ],fun _=>rfl⟩,rfl⟩
 ·exact ⟨Tryz.t57,_,_,zK9,Tryz.underlying57,rfl,rfl,rfl,rfl,rfl,⟨by simp [zQ],fun _=>rfl⟩,rfl⟩
 ·exact ⟨Tryz.t58,_,_,zKJ,Tryz.underlying58,rfl,rfl,rfl,rfl,rfl,⟨by simp [zQ],fun _=>rfl⟩,rfl⟩
 ·exact ⟨Tryz.t67,_,_,zIR,Tryz.underlying67,rfl,rfl,rfl,rfl,rfl,⟨by simp [zQ],fun h=>by cases h⟩,⟨_,rfl,rfl,fun f hf=>by
   simp only [List.mem_cons,List.not_mem_nil,or_false] at hf
   rcases hf with rfl | rfl
   ·exact Option.isSome_iff_exists.2 ⟨_,zFX⟩
   ·exact Option.isSome_iff_exists.2 ⟨_,zk7⟩⟩⟩
 ·exact ⟨Tryz.t68,_,_,zKT,Tryz.underlying68,rfl,rfl,rfl,rfl,rfl,⟨by simp [zQ],fun _=>rfl⟩,rfl⟩
 ·exact ⟨Tryz.t73,_,_,zK8,Tryz.underlying73,rfl,rfl,rfl,rfl,rfl,⟨by simp [zQ],fun h=>by cases h⟩,⟨_,rfl,rfl,fun f hf=>by
   simp only [List.mem_cons,List.not_mem_nil,or_false] at hf
   rcases hf with rfl | rfl
   ·exact Option.isSome_iff_exists.2 ⟨_,zGD⟩
   ·exact Option.isSome_iff_exists.2 ⟨_,zGL⟩⟩⟩
 ·exact ⟨Tryz.t74,_,_,zKI,Tryz.underlying74,rfl,rfl,rfl,rfl,rfl,⟨by simp [zQ],fun _=>rfl⟩,rfl⟩
 ·exact ⟨Tryz.t88,_,_,zKV,Tryz.underlying88,rfl,rfl,rfl,rfl,rfl,⟨by simp [zQ],fun h=>by cases h⟩,⟨_,rfl,rfl,fun f hf=>by
   simp only [List.mem_cons,List.not_mem_nil,or_false] at hf
   rcases hf with rfl
   ·exact Option.isSome_iff_exists.2 ⟨_,zIF⟩⟩⟩
 ·exact ⟨Tryz.t103,_,_,zJ6,Tryz.underlying103,rfl,rfl,rfl,rfl,rfl,⟨by simp [zQ],fun _=>rfl⟩,rfl⟩
 ·exact ⟨Tryz.t116,_,_,zKv,Tryz.underlying116,rfl,rfl,rfl,rfl,rfl,⟨by simp [zQ],fun _=>rfl⟩,rfl⟩
 ·exact ⟨Tryz.t129,_,_,zKi,Tryz.underlying129,rfl,rfl,rfl,rfl,rfl,⟨by simp [zQ],fun _=>rfl⟩,rfl⟩
 ·exact ⟨Tryz.t139,_,_,zKt,Tryz.underlying139,rfl,rfl,rfl,rfl,rfl,⟨by simp [zQ],fun _=>rfl⟩,rfl⟩
 ·exact ⟨Tryz.t140,_,_,zHP,Tryz.underlying140,rfl,rfl,rfl,rfl,rfl,⟨by simp [zQ],fun _=>rfl⟩,rfl⟩
 ·exact ⟨Tryz.t145,_,_,zKp,Tryz.underlying145,rfl,rfl,rfl,rfl,rfl,⟨by simp [zQ],fun _=>rfl⟩,rfl⟩
 ·exact ⟨Tryz.t147,_,_,zKs,Tryz.underlying147,rfl,rfl,rfl,rfl,rfl,⟨by simp [zQ],fun h=>by cases h⟩,⟨_,rfl,rfl,fun f hf=>by
   simp only [List.mem_cons,List.not_mem_nil,or_false] at hf
   rcases hf with rfl | rfl
   ·exact Option.isSome_iff_exists.2 ⟨_,zIR⟩
   ·exact Option.isSome_iff_exists.2 ⟨_,zvO⟩⟩⟩
 ·exact ⟨Tryz.t150,_,_,zHJ,Tryz.underlying150,rfl,rfl,rfl,rfl,rfl,⟨by simp [zQ],fun _=>rfl⟩,rfl⟩
 ·exact ⟨Tryz.t152,_,_,zKz,Tryz.underlying152,rfl,rfl,rfl,rfl,rfl,⟨by simp [zQ],fun h=>by cases h⟩,⟨_,rfl,rfl,fun f hf=>by
   simp only [List.mem_cons,List.not_mem_nil,or_false] at hf
   rcases hf with rfl | rfl
   ·exact Option.isSome_iff_exists.2 ⟨_,zHT⟩
   ·exact Option.isSome_iff_exists.2 ⟨_,zHJ⟩⟩⟩
 ·exact ⟨Tryz.t155,_,_,zEW,Tryz.underlying155,rfl,rfl,rfl,rfl,rfl,⟨by simp [zQ],fun h=>by cases h⟩,⟨_,rfl,rfl,fun f hf=>by
   simp only [List.mem_cons,List.not_mem_nil,or_false] at hf
   rcases hf with rfl | rfl
   ·exact Option.isSome_iff_exists.2 ⟨_,zk7⟩
   ·exact Option.isSome_iff_exists.2 ⟨_,zk7⟩⟩⟩
 ·exact ⟨Tryz.t156,_,_,zHQ,Tryz.underlying156,rfl,rfl,rfl,rfl,rfl,⟨by simp [zQ],fun _=>rfl⟩,rfl⟩
 ·exact ⟨Tryz.t158,_,_,zHr,Tryz.underlying158,rfl,rfl,rfl,rfl,rfl,⟨by simp [zQ],fun h=>by cases h⟩,⟨_,rfl,rfl,fun f hf=>by
   simp only [List.mem_cons,List.not_mem_nil,or_false] at hf
   rcases hf with rfl | rfl | rfl | rfl | rfl | rfl | rfl
   ·exact Option.isSome_iff_exists.2 ⟨_,zk7⟩
   ·exact Option.isSome_iff_exists.2 ⟨_,zEW⟩
   ·exact Option.isSome_iff_exists.2 ⟨_,zHP⟩
   ·exact Option.isSome_iff_exists.2 ⟨_,zk7⟩
   ·exact Option.isSome_iff_exists.2 ⟨_,zHQ⟩
   ·exact Option.isSome_iff_exists.2 ⟨_,zk7⟩
   ·exact Option.isSome_iff_exists.2 ⟨_,zvO⟩⟩⟩
 ·exact ⟨Tryz.t160,_,_,zKE,Tryz.underlying160,rfl,rfl,rfl,rfl,rfl,⟨by simp [zQ],fun h=>by cases h⟩,⟨_,rfl,rfl,fun f hf=>by
   simp only [List.mem_cons,List.not_mem_nil,or_false] at hf
   rcases hf with rfl | rfl
   ·exact Option.isSome_iff_exists.2 ⟨_,zHr⟩
   ·exact Option.isSome_iff_exists.2 ⟨_,zk7⟩⟩⟩
 ·exact ⟨Tryz.t171,_,_,zJ3,Tryz.underlying171,rfl,rfl,rfl,rfl,rfl,⟨by simp [zQ],fun _=>rfl⟩,rfl⟩
 ·exact ⟨Tryz.t182,_,_,zKd,Tryz.underlying182,rfl,rfl,rfl,rfl,rfl,⟨by simp [zQ],fun h=>by cases h⟩,⟨_,rfl,rfl,fun f hf=>by
   simp only [List.mem_cons,List.not_mem_nil,or_false] at hf
   rcases hf with rfl | rfl
   ·exact Option.isSome_iff_exists.2 ⟨_,zvO⟩
   ·exact Option.isSome_iff_exists.2 ⟨_,zDu⟩⟩⟩
 ·exact ⟨Tryz.t207,_,_,zKl,Tryz.underlying207,rfl,rfl,rfl,rfl,rfl,⟨by simp [zQ],fun _=>rfl⟩,rfl⟩
 ·exact ⟨Tryz.t210,_,_,zKq,Tryz.underlying210,rfl,rfl,rfl,rfl,rfl,⟨by simp [zQ],fun h=>by cases h⟩,⟨_,rfl,rfl,fun f hf=>by
   simp only [List.mem_cons,List.not_mem_nil,or_false] at hf
   rcases hf with rfl | rfl
   ·exact Option.isSome_iff_exists.2 ⟨_,zEW⟩
   ·exact Option.isSome_iff_exists.2 ⟨_,zDu⟩⟩⟩
 ·exact ⟨Tryz.t232,_,_,zJ9,Tryz.underlying232,rfl,rfl,rfl,rfl,rfl,⟨by simp [zQ],fun _=>rfl⟩,rfl⟩
theorem zJu:∀ T us vs b,(match zBG.lookup T with | some ts=>zM ts us vs | none=>none)=some b→∀ w,zIf Tryz.prog T us vs b w:=by
 intro T us vs b h w
 split at h
 ·rename_i ts hl
  have hl:=zuD _ _ _ hl
  simp only [zBG,List.mem_cons,List.not_mem_nil,or_false,Prod.mk.injEq] at hl
  rcases hl with ⟨rfl,rfl⟩ | ⟨rfl,rfl⟩ | ⟨rfl,rfl⟩
  ·refine zAc _ _ Tryz.underlying67 (by kernel_rfl) (by kernel_rfl) rfl ?_ h w
   intro j f t hj ht
   rcases j with _ | j
   ·simp at hj ht; subst hj ht; exact ⟨rfl,by decide,_,Tryz.underlying9,rfl⟩
   rcases j with _ | j
   ·simp at hj ht; subst hj ht; exact ⟨rfl,by decide,_,Tryz.underlying3,rfl⟩
   simp at hj
  ·refine zAc _ _ Tryz.underlying40 (by kernel_rfl) (by kernel_rfl) rfl ?_ h w
   intro j f t hj ht
   rcases j with _ | j
   ·simp at hj ht; subst hj ht; exact ⟨rfl,by decide,_,Tryz.underlying3,rfl⟩
   rcases j with _ | j
   ·simp at hj ht; subst hj ht; exact ⟨rfl,by decide,_,Tryz.underlying2,rfl⟩
   rcases j with _ | j
   ·simp at hj ht; subst hj ht; exact ⟨rfl,by decide,_,Tryz.underlying9,rfl⟩
   simp at hj
  ·refine zAc _ _ Tryz.underlying155 (by kernel_rfl) (by kernel_rfl) rfl ?_ h w
   intro j f t hj ht
   rcases j with _ | j
   ·simp at hj ht; subst hj ht; exact ⟨rfl,by decide,_,Tryz.underlying3,rfl⟩
   rcases j with _ | j
   ·simp at hj ht; subst hj ht; exact ⟨rfl,by decide,_,Tryz.underlying3,rfl⟩
   simp at hj
 ·cases h
theorem zJg:∀ T us vs,base.eqs T us us=some true→base.eqs T vs vs=some true→base.eqs T us vs=some (zmL us vs)∧(zmL us vs=true→us=vs)∧∀ u∈us,∀ n,Instr.sameBits n u u=true:=by
 intro T us vs h1 h2
 simp only [base] at h1 h2 ⊢
 cases hl:zBG.lookup T with
 | none=>rw [hl] at h1; cases h1
 | some ts=>rw [hl] at h1 h2; exact zDy ts us vs h1 h2
theorem zJi:∀ T us b,base.eqs T us us=some b→b=true:=by
 intro T us b h
 simp only [base] at h
 cases hl:zBG.lookup T with
 | none=>rw [hl] at h; cases h
 | some ts=>rw [hl] at h; exact zCH ts us b h
theorem zn:CxOK Tryz.prog base:=⟨zJ5,fun T x=>by rw [show szOf base T=_ from (zGc zDJ zFT rfl T).symm]; exact DT.len _ x,fun T x c h=>by have:=DT.cell _ _ c h; revert this; cases c <;>exact id,fun T cs x h F w us hr=>DT.ok _ base F w us cs x h hr,zJu,zJg,zJi,zIg⟩
def base0:Cx ty:={ base with dr:=false }
theorem zsZ:CxOK Tryz.prog base0:=CxOK.cg (cx:=base) (cx':=base0) ⟨rfl,rfl,rfl,rfl,rfl,rfl⟩ zn
theorem zG:Tryz.prog.follows .mixedOrders=true:=by kernel_rfl
end Go.Proofs.YtddkaehkimnklaaGreatDoor
/- What is read of an argument, as typed data. -/
namespace Go.Proofs.YtddkaehkimnklaaGreatDoor
open Go Go.Ab
def wf2 (x:Int):Prop:=(Lit.int .i64 x).wf=true
def wf3 (x:Int):Prop:=(Lit.int .i64 x).wf=true
def wf4 (x:Bool):Prop:=True
def wf5 (x:Int):Prop:=(Lit.int .u8 x).wf=true
def wf9 (x:ByteArray):Prop:=ByteArray.size x≤roomLen
def wf67 (x:Column):Prop:=wf9 x.Name∧wf3 x.Type_
def wf22 (x:List Column):Prop:=(∀ y∈x,wf67 y)∧List.length x≤roomLen
def wf40 (x:Value):Prop:=wf3 x.Kind∧wf2 x.Int∧wf9 x.Text
def wf34 (x:List Value):Prop:=(∀ y∈x,wf40 y)∧List.length x≤roomLen
def zJR (x:RowID):Prop:=wf3 x.Table∧wf3 x.Seq
mutual
def zIW:Atom→Prop
 | ⟨k,r,a,f,i,o,b⟩=>wf3 k∧zJR r∧(zGE a∧a.length≤roomLen)∧wf3 f∧(zE0 i∧i.length≤roomLen)∧wf3 o∧wf40 b
def zGa:Factor→Prop
 | ⟨a,e⟩=>zIW a∧wf3 e
def zBn:List Factor→Prop
 | []=>True
 | x::r=>zGa x∧zBn r
def zID:Term→Prop
 | ⟨c,f⟩=>wf2 c∧(zBn f∧f.length≤roomLen)
def zFQ:List Term→Prop
 | []=>True
 | x::r=>zID x∧zFQ r
def zGE:List (List Term)→Prop
 | []=>True
 | x::r=>(zFQ x∧x.length≤roomLen)∧zGE r
def zIu:Weighted→Prop
 | ⟨v,a⟩=>wf40 v∧(zFQ a∧a.length≤roomLen)
def zE0:List Weighted→Prop
 | []=>True
 | x::r=>zIu x∧zE0 r
end
def wf36 (x:List Term):Prop:=zFQ x∧List.length x≤roomLen
def zLv (x:List (List Term)):Prop:=zGE x∧List.length x≤roomLen
def zLm (x:List Factor):Prop:=zBn x∧List.length x≤roomLen
def zLk (x:Term):Prop:=zID x
def zLn (x:List Weighted):Prop:=zE0 x∧List.length x≤roomLen
def zLq (x:Atom):Prop:=zIW x
def zLo (x:Factor):Prop:=zGa x
def zLt (x:Weighted):Prop:=zIu x
def wf38 (x:Row):Prop:=wf34 x.Values∧wf36 x.Ann
def wf23 (x:List Row):Prop:=(∀ y∈x,wf38 y)∧List.length x≤roomLen
def wf25 (x:Table):Prop:=wf3 x.ID∧wf9 x.Name∧wf22 x.Columns∧wf23 x.Rows
def wf43 (x:ColumnStats):Prop:=wf3 x.Distinct∧wf40 x.Min∧wf40 x.Max∧wf34 x.Bounds
def wf28 (x:List ColumnStats):Prop:=(∀ y∈x,wf43 y)∧List.length x≤roomLen
def wf30 (x:Stats):Prop:=wf3 x.Table∧wf3 x.Rows∧wf28 x.Columns
mutual
def ziG:Scalar→Prop
 | ⟨k,c,v,o,a⟩=>wf3 k∧wf3 c∧wf40 v∧wf3 o∧(zkG a∧a.length≤roomLen)
def zkG:List Scalar→Prop
 | []=>True
 | x::r=>ziG x∧zkG r
end
theorem zBQ:∀ l:List Scalar,(∀ x∈l,ziG x)→zkG l
 | [],_=>by unfold zkG; trivial
 | x::r,h=>by unfold zkG; exact ⟨h x (by simp),zBQ r fun y hy=>h y (by simp [hy])⟩
def wf45 (x:List Scalar):Prop:=zkG x∧List.length x≤roomLen
def wf47 (x:Scalar):Prop:=ziG x
def wf53 (x:List Int):Prop:=(∀ y∈x,wf3 y)∧List.length x≤roomLen
def wf (T:Nat):ty T→Prop:=match T with
 | 2=>wf2
 | 3=>wf3
 | 4=>wf4
 | 5=>wf5
 | 9=>wf9
 | 22=>wf22
 | 23=>wf23
 | 25=>wf25
 | 28=>wf28
 | 30=>wf30
 | 34=>wf34
 | 36=>wf36
 | 38=>wf38
 | 40=>wf40
 | 43=>wf43
 | 45=>wf45
 | 47=>wf47
 | 53=>wf53
 | 67=>wf67
 | 140=>zLv
 | 150=>zLm
 | 152=>zLk
 | 155=>zJR
 | 156=>zLn
 | 158=>zLq
 | 160=>zLo
 | 182=>zLt
 | _=>fun _=>True
theorem zKS:zjZ Tryz.prog base wf 2:=zFb Tryz.underlying2 (fun n=>n) (fun _=>rfl) (fun _ h=>h)
theorem zv5:zjZ Tryz.prog base wf 3:=zFb Tryz.underlying3 (fun n=>n) (fun _=>rfl) (fun _ h=>h)
theorem zK6:zjZ Tryz.prog base wf 9:=zIw Tryz.underlying9 (fun n=>n) (fun _=>rfl) (fun _ h=>h)
theorem zB5:zjZ Tryz.prog base wf 40:=by
 intro H en w sp held fuel cs y h hz
 obtain ⟨xs,n,_,hy,hl,hlen,hf⟩:=DataW.trod_struct Tryz.underlying40 h
 have hs:=zol Tryz.underlying40 hy hz
 obtain ⟨x0,h0,w0⟩:=zhc (off:=0) zv5 (by kernel_rfl) hlen hf hs 0 _ rfl rfl rfl
 obtain ⟨x1,h1,w1⟩:=zhc (off:=1) zKS (by kernel_rfl) hlen hf hs 1 _ rfl rfl rfl
 obtain ⟨x2,h2,w2⟩:=zhc (off:=2) zK6 (by kernel_rfl) hlen hf hs 2 _ rfl rfl rfl
 have hl:cs.length=3:=hl.trans (by kernel_rfl)
 have:=zhh h0 (zhh h1 (zAh h2 hl))
 exact ⟨(⟨x0,x1,x2⟩:Value),this,⟨w0,w1,w2⟩⟩
theorem zKG:zjZ Tryz.prog base wf 34:=zCJ zn Tryz.underlying34 (by kernel_rfl) (by decide) (fun l=>l) (fun _=>rfl) (of_decide_eq_true (by kernel_rfl)) zB5 (fun _ h h2=>⟨h,h2⟩)
theorem zKj:zjZ Tryz.prog base wf 43:=by
 intro H en w sp held fuel cs y h hz
 obtain ⟨xs,n,_,hy,hl,hlen,hf⟩:=DataW.trod_struct Tryz.underlying43 h
 have hs:=zol Tryz.underlying43 hy hz
 obtain ⟨x0,h0,w0⟩:=zhc (off:=0) zv5 (by kernel_rfl) hlen hf hs 0 _ rfl rfl rfl
 obtain ⟨x1,h1,w1⟩:=zhc (off:=1) zB5 (by kernel_rfl) hlen hf hs 1 _ rfl rfl rfl
 obtain ⟨x2,h2,w2⟩:=zhc (off:=4) zB5 (by kernel_rfl) hlen hf hs 2 _ rfl rfl rfl
 obtain ⟨x3,h3,w3⟩:=zhc (off:=7) zKG (by kernel_rfl) hlen hf hs 3 _ rfl rfl rfl
 have hl:cs.length=8:=hl.trans (by kernel_rfl)
 have:=zhh h0 (zhh h1 (zhh h2 (zAh h3 hl)))
 exact ⟨(⟨x0,x1,x2,x3⟩:ColumnStats),this,⟨w0,w1,w2,w3⟩⟩
theorem zKh:zjZ Tryz.prog base wf 28:=zCJ zn Tryz.underlying28 (by kernel_rfl) (by decide) (fun l=>l) (fun _=>rfl) (of_decide_eq_true (by kernel_rfl)) zKj (fun _ h h2=>⟨h,h2⟩)
theorem zKm:zjZ Tryz.prog base wf 30:=by
 intro H en w sp held fuel cs y h hz
 obtain ⟨xs,n,_,hy,hl,hlen,hf⟩:=DataW.trod_struct Tryz.underlying30 h
 have hs:=zol Tryz.underlying30 hy hz
 obtain ⟨x0,h0,w0⟩:=zhc (off:=0) zv5 (by kernel_rfl) hlen hf hs 0 _ rfl rfl rfl
 obtain ⟨x1,h1,w1⟩:=zhc (off:=1) zv5 (by kernel_rfl) hlen hf hs 1 _ rfl rfl rfl
 obtain ⟨x2,h2,w2⟩:=zhc (off:=2) zKh (by kernel_rfl) hlen hf hs 2 _ rfl rfl rfl
 have hl:cs.length=3:=hl.trans (by kernel_rfl)
 have:=zhh h0 (zhh h1 (zAh h2 hl))
 exact ⟨(⟨x0,x1,x2⟩:Stats),this,⟨w0,w1,w2⟩⟩
theorem zFl:∀ m,ztF Tryz.prog base wf m 45∧ztF Tryz.prog base wf m 47
 | 0=>⟨zCM,zCM⟩
 | m+1=>by
  obtain ⟨h45,h47⟩:=zFl m
  refine ⟨?_, ?_⟩
  ·exact zBq zn Tryz.underlying45 (by kernel_rfl) (by decide) (fun l=>l) (fun _=>rfl) (of_decide_eq_true (by kernel_rfl)) h47 (fun l h h2=>⟨zBQ l h,h2⟩)
  ·intro H en w sp held fuel cs y hfu h hz
   obtain ⟨xs,n,hn,hy,hl,hlen,hf⟩:=DataW.trod_struct Tryz.underlying47 h
   have hs:=zol Tryz.underlying47 hy hz
   have hn:n≤m:=by omega
   obtain ⟨x0,hx0,w0⟩:=znO (off:=0) (zv5.at m) (by kernel_rfl) hn hlen hf hs 0 _ rfl rfl rfl
   obtain ⟨x1,hx1,w1⟩:=znO (off:=1) (zv5.at m) (by kernel_rfl) hn hlen hf hs 1 _ rfl rfl rfl
   obtain ⟨x2,hx2,w2⟩:=znO (off:=2) (zB5.at m) (by kernel_rfl) hn hlen hf hs 2 _ rfl rfl rfl
   obtain ⟨x3,hx3,w3⟩:=znO (off:=5) (zv5.at m) (by kernel_rfl) hn hlen hf hs 3 _ rfl rfl rfl
   obtain ⟨x4,hx4,w4⟩:=znO (off:=6) h45 (by kernel_rfl) hn hlen hf hs 4 _ rfl rfl rfl
   have hl:cs.length=7:=hl.trans (by kernel_rfl)
   have:=zhh hx0 (zhh hx1 (zhh hx2 (zhh hx3 (zAh hx4 hl))))
   exact ⟨(⟨x0,x1,x2,x3,x4⟩:Scalar),this,by show ziG (⟨x0,x1,x2,x3,x4⟩:Scalar); unfold ziG; exact ⟨w0,w1,w2,w3,w4⟩⟩
theorem zJ4:zjZ Tryz.prog base wf 47:=zIL fun m=>(zFl m).2
end Go.Proofs.YtddkaehkimnklaaGreatDoor
/- A world in which the row's condition holds; what the program's rows share. -/
namespace Go.Proofs.YtddkaehkimnklaaGreatDoor
open Go Go.Ab Go.Lib
theorem own:ownKnob Tryz.prog.godebug=none:=by kernel_rfl
theorem zHO:laidOutB Tryz.prog=true:=by kernel_rfl
def zLp:DataW Unit→Go.Value
 | .lit (.int k n)=>.int k n
 | .lit (.bool b)=>.bool b
 | .lit (.string s)=>.string ⟨s.toArray⟩
 | _=>undef
def zIT:Nat→DataW Unit→List Go.Value
 | n+1,.agg ds=>ds.flatMap (zIT n)
 | _,d=>[zLp d]
def cellsOf (d:DataW Unit):Array Go.Value:=(zIT 3 d).toArray
def zDZ (h:Array Obj) (g:Nat) (cs:Array Go.Value):Array Obj:=h.modify g fun
 | .cells _ t fr=>.cells cs t fr
 | o=>o
def zFt (os:Os):World:=
 let w0:=World.holding Tryz.prog os ⟨#[],#[],[]⟩
 { w0 with heap:=zDZ (zDZ (zDZ (zDZ (zDZ (w0.heap) 4 (cellsOf Rows.laid_math_bits_deBruijn32tab)) 5 (cellsOf Rows.laid_math_bits_deBruijn64tab)) 1 (cellsOf Rows.laid_internal_strconv_uint64pow10)) 3 (cellsOf Rows.laid_unicode_utf8_acceptRanges)) 2 (cellsOf Rows.laid_unicode_utf8_first) }
def ztg:List (String×DataW Unit):=[("math/bits.deBruijn32tab",Rows.laid_math_bits_deBruijn32tab),("math/bits.deBruijn64tab",Rows.laid_math_bits_deBruijn64tab),("internal/strconv.uint64pow10",Rows.laid_internal_strconv_uint64pow10),("unicode/utf8.acceptRanges",Rows.laid_unicode_utf8_acceptRanges),("unicode/utf8.first",Rows.laid_unicode_utf8_first)]
theorem zFL (os:Os) (args:Array Go.Value):laidMetH Tryz.prog ztg ((zFt os).forCall (fun _ _=>0) ⟨#[],args,[]⟩).memory:=
 laidMetH_of_parts (laidMet_of_run3 8 (by kernel_rfl) (by kernel_rfl) (by kernel_rfl)) (by kernel_rfl)
theorem zJa {w:World} (h:laidMetH Tryz.prog ztg w):laidMet Tryz.prog ztg w:=by
 unfold laidMetH at h
 rw [show (ztg.filter fun x=>x.2.handleName?.isSome)=[] by kernel_rfl] at h
 exact h
theorem zK5 (w:World) (hsh:w.ShapedOpen Tryz.prog) (h:laidMetH Tryz.prog ztg w):base.inv w∧base.ng≤w.heap.size:=by
 have h:=zJa h
 have h1:TabIs Tryz.prog w "internal/strconv.uint64pow10" .u64 pow10Tab:=
  tabIs_of_head (g:=1) (by kernel_rfl) (by kernel_rfl) Tryz.underlying260 Tryz.underlying139 (by kernel_rfl) (by kernel_rfl) h.tail.tail
 have h4:=cell_of_shapedOpen_int (g:=0) (t:=3) (zero:=#[.int .i64 0]) hsh (of_decide_eq_true (by kernel_rfl)) (by kernel_rfl) rfl (by kernel_rfl) (by kernel_rfl) Tryz.underlying3
 obtain ⟨ps,⟨g',t',cs,fuel,p,q,hg',_,hvar,_⟩,_⟩:=h.tail
 refine ⟨⟨h1,h4⟩, ?_⟩
 unfold World.var? at hvar
 rw [show Tryz.prog.globalNamed "math/bits.deBruijn64tab"=some 5 by kernel_rfl] at hvar
 simp only [Option.bind_some] at hvar
 show 4≤w.heap.size
 cases hh:w.heap[5]? with
 | none=>rw [hh] at hvar; cases hvar
 | some o=>have:=(Array.getElem?_eq_some_iff.1 hh).1; omega
theorem zK0:mapsRowed Tryz.prog=true:=by kernel_rfl
theorem zKD:Tryz.prog.stopsHeard=true:=by kernel_rfl
theorem zKC:Tryz.prog.mayEnter=true:=by kernel_rfl
theorem zK3:Tryz.prog.liftsFinal=false:=by kernel_rfl
theorem zKL:Tryz.prog.make=some Rows.statisticsGatherRow.make:=by kernel_rfl
end Go.Proofs.YtddkaehkimnklaaGreatDoor
namespace Go.Proofs.YtddkaehkimnklaaGreatDoor
open Go Go.Ab
def zwZ (r:Int):ARes ty:=⟨[.pure (.lit (.int .i64 r))],[]⟩
def zAx:AL base (Scalar×Int×Unit):=zg (zh (vAgg 47)) (zg (zh (vInt .i64)) aNil)
def zmG (F:Scalar→Int→Bool×Int):Ab.Spec ty:=zl zAx fun x=>((F x.1 x.2.1).1,zwZ (F x.1 x.2.1).2)
abbrev ttTref26count0:=Int×Unit×Int×Int×Unit
def zpV (zbh:Scalar→Int→Bool×Int) (most:Int) (n_:Int) (i:Int) (e:Scalar):Wy ttTref26count0 (Scalar×Unit) (Int):=.i (decide (i<Int.ofNat e.Args.length)) (.i (decide (n_≤most)) (.i (decide (0≤i)&&decide (i<Int.ofNat e.Args.length)) (.bn (zbh (Scalar.mk (e.Args.getD i.toNat default).Kind (e.Args.getD i.toNat default).Column (e.Args.getD i.toNat default).Value (e.Args.getD i.toNat default).Op (e.Args.getD i.toNat default).Args) (IntKind.i64.wrap (most - n_))) fun r0=>.h (most,(),(IntKind.i64.wrap (n_+r0)),(IntKind.i64.wrap (i+1)),()) (e,())) .d) (.k n_)) (.k n_)
def zpT (zbh:Scalar→Int→Bool×Int) (x:ttTref26count0) (y:Scalar×Unit):Wy ttTref26count0 (Scalar×Unit) (Int):=zpV zbh x.1 x.2.2.1 x.2.2.2.1 y.1
def zpU (zbh:Scalar→Int→Bool×Int) (n:Nat) (most:Int) (n_:Int) (i:Int) (e:Scalar):Bool×Int:=zN (zpT zbh) default n (most,(),n_,i,()) (e,())
def zuW (r:Int):LTree ty:=.done (.exit 0) [.lit (.int .i64 r)] []
def zv4:LL ty ttTref26count0:=za (lInt .i64) (za (z6 124 0) (za (lInt .i64) (za (lInt .i64) zy)))
def zwe:BL ty (Scalar×Unit):=bBox (zbj (fun x=>(⟨x.1,x.2.1,⟨x.2.2.1,x.2.2.2.1,x.2.2.2.2.1⟩,x.2.2.2.2.2.1,x.2.2.2.2.2.2.1⟩:Scalar)) (fun x=>(x.Kind,x.Column,x.Value.Kind,x.Value.Int,x.Value.Text,x.Op,x.Args,())) (fun _=>rfl) (za (lInt .i64) (za (lInt .i64) (za (lInt .i64) (za (lInt .i64) (za lStr (za (lInt .i64) (za (lSl 47) zy)))))))) false (bNil)
def zuV (x:ttTref26count0) (y:Scalar×Unit):Nat:=(Int.toNat x.1+Int.toNat x.2.2.1+Int.toNat x.2.2.2.1+y.1.Args.length+1)
def zwg (zbh:Scalar→Int→Bool×Int):Cx ty:=mkCx base 31 [(45,(zmG zbh))] [] [(3,[(1,.keep),(2,.keep),(5,.keep),(6,.keep)])] [(3,1,[(5,.keep)])] [(3,spW zv4 zwe (zpT zbh) default zuW zuV)] []
theorem zCl (zbh:Scalar→Int→Bool×Int):zZ (zwg zbh) (lp (body Tryz.f45) 0):=zP (id:=3) (V:=zv4) (B:=zwe) (W:=zpT zbh) (z:=default) (tr:=zuW) (m:=zuV)
def zsf (zbh:Scalar→Int→Bool×Int) (e:Scalar) (most:Int):Wy0 (Int):=.bn (zpU zbh (most.toNat +Int.toNat 1+Int.toNat 0+e.Args.length+1) most 1 0 (Scalar.mk e.Kind e.Column e.Value e.Op e.Args)) fun r2=>.k r2
def zpQ (zbh:Scalar→Int→Bool×Int) (e:Scalar) (most:Int):Bool×Int:=(zsf zbh e most).fin default
theorem zAS (zbh:Scalar→Int→Bool×Int) (zDD:Sound Tryz.prog base 45 (zmG zbh)):Sound Tryz.prog base 45 (zmG (zpQ zbh)):=
 zt (cx':=(zwg zbh)) zG zn zD (zw ⟨zDD,trivial⟩) Tryz.call45 Tryz.func45 (c:=body Tryz.f45) (by kernel_rfl) (zi (l:=[lp (body Tryz.f45) 0]) (by kernel_rfl) ⟨zCl zbh,trivial⟩) (sg:=⟨[.pure],[]⟩) (A:=zAx) (res:=zwZ) (W:=fun x=>zsf zbh x.1 x.2.1) (z:=default)
def zFy:Nat→(Scalar→Int→Bool×Int)
 | 0=>fun _ _=>(false,default)
 | n+1=>zpQ (zFy n)
def zkk (n:Nat):Scalar→Int→Bool×Int:=zFy n
theorem zDd (n:Nat):zkk (n+1)=zpQ (zkk n):=rfl
theorem zCG:∀ n,Sound Tryz.prog base 45 (zmG (zkk n))
 | 0=>zbe Tryz.call45 (fun _=>rfl)
 | n+1=>by
  have ih:=zCG n
  exact zAS _ (ih)
def zxR:Scalar→Int→Bool×Int:=zkk 1000
def ref26_count_spec:Ab.Spec ty:=zmG zxR
theorem zCn:Sound Tryz.prog base 45 ref26_count_spec:=(zCG 1000)
def zAJ (r:Bool):ARes ty:=⟨[.pure (.lit (.bool r))],[]⟩
def zCx:AL base (Scalar×Int×Unit):=zg (zh (vAgg 47)) (zg (zh (vInt .i64)) aNil)
def zpC (F:Scalar→Int→Bool×Bool):Ab.Spec ty:=zl zCx fun x=>((F x.1 x.2.1).1,zAJ (F x.1 x.2.1).2)
abbrev ttTref26Few0:=Int×Unit×Int×Unit
def ztt (zbO:Scalar→Int→Bool×Bool) (most:Int) (i:Int) (e:Scalar):Wy ttTref26Few0 (Scalar×Unit) (Bool⊕Unit):=.i (decide (i<Int.ofNat e.Args.length)) (.i (decide (0≤i)&&decide (i<Int.ofNat e.Args.length)) (.bn (zbO (Scalar.mk (e.Args.getD i.toNat default).Kind (e.Args.getD i.toNat default).Column (e.Args.getD i.toNat default).Value (e.Args.getD i.toNat default).Op (e.Args.getD i.toNat default).Args) most) fun r0=>.i (!r0) (.k (.inl false)) (.h (most,(),(IntKind.i64.wrap (i+1)),()) (e,()))) .d) (.k (.inr ()))
def zs2 (zbO:Scalar→Int→Bool×Bool) (x:ttTref26Few0) (y:Scalar×Unit):Wy ttTref26Few0 (Scalar×Unit) (Bool⊕Unit):=ztt zbO x.1 x.2.2.1 y.1
def zs3 (zbO:Scalar→Int→Bool×Bool) (n:Nat) (most:Int) (i:Int) (e:Scalar):Bool×(Bool⊕Unit):=zN (zs2 zbO) (.inl default) n (most,(),i,()) (e,())
def zwV (r:Bool⊕Unit):LTree ty:=.ite (isL r) (.done .ret [.lit (.bool (getL r))] []) (.done (.exit 0) [] [])
def zyI:LL ty ttTref26Few0:=za (lInt .i64) (za (z6 132 0) (za (lInt .i64) zy))
def zx9:BL ty (Scalar×Unit):=bBox (zbj (fun x=>(⟨x.1,x.2.1,⟨x.2.2.1,x.2.2.2.1,x.2.2.2.2.1⟩,x.2.2.2.2.2.1,x.2.2.2.2.2.2.1⟩:Scalar)) (fun x=>(x.Kind,x.Column,x.Value.Kind,x.Value.Int,x.Value.Text,x.Op,x.Args,())) (fun _=>rfl) (za (lInt .i64) (za (lInt .i64) (za (lInt .i64) (za (lInt .i64) (za lStr (za (lInt .i64) (za (lSl 47) zy)))))))) false (bNil)
def zxl (x:ttTref26Few0) (y:Scalar×Unit):Nat:=(Int.toNat x.1+Int.toNat x.2.2.1+y.1.Args.length+1)
def zyr (zbO:Scalar→Int→Bool×Bool):Cx ty:=mkCx base 33 [(18,(zpC zbO)),(45,ref26_count_spec)] [] [(4,[(1,.keep),(2,.keep),(5,.keep)])] [(4,1,[]),(4,0,[(4,.keep)])] [(4,spW zyI zx9 (zs2 zbO) (.inl default) zwV zxl)] []
theorem zDY (zbO:Scalar→Int→Bool×Bool):zZ (zyr zbO) (lp (body Tryz.f18) 0):=zP (id:=4) (V:=zyI) (B:=zx9) (W:=zs2 zbO) (z:=.inl default) (tr:=zwV) (m:=zxl)
def zpM (zbO:Scalar→Int→Bool×Bool) (e:Scalar) (most:Int):Wy0 (Bool):=.bn (zxR (Scalar.mk e.Kind e.Column e.Value e.Op e.Args) most) fun r3=>.i (decide (r3>most)) (.k false) (.i (decide (Int.ofNat e.Value.Text.size>300)) (.k false) (.bn (zs3 zbO (most.toNat +Int.toNat 0+e.Args.length+1) most 0 (Scalar.mk e.Kind e.Column e.Value e.Op e.Args)) fun r2=>.i (isL r2) (.k (getL r2)) (.k true)))
def zpJ (zbO:Scalar→Int→Bool×Bool) (e:Scalar) (most:Int):Bool×Bool:=(zpM zbO e most).fin default
theorem zCp (zbO:Scalar→Int→Bool×Bool) (zFG:Sound Tryz.prog base 18 (zpC zbO)):Sound Tryz.prog base 18 (zpC (zpJ zbO)):=
 zt (cx':=(zyr zbO)) zG zn zD (zw ⟨zFG,zCn,trivial⟩) Tryz.call18 Tryz.func18 (c:=body Tryz.f18) (by kernel_rfl) (zi (l:=[lp (body Tryz.f18) 0]) (by kernel_rfl) ⟨zDY zbO,trivial⟩) (sg:=⟨[.pure],[]⟩) (A:=zCx) (res:=zAJ) (W:=fun x=>zpM zbO x.1 x.2.1) (z:=default)
def zFd:Nat→(Scalar→Int→Bool×Bool)
 | 0=>fun _ _=>(false,default)
 | n+1=>zpJ (zFd n)
def zkO (n:Nat):Scalar→Int→Bool×Bool:=zFd n
theorem zyF (n:Nat):zkO (n+1)=zpJ (zkO n):=rfl
theorem zCQ:∀ n,Sound Tryz.prog base 18 (zpC (zkO n))
 | 0=>zbe Tryz.call18 (fun _=>rfl)
 | n+1=>by
  have ih:=zCQ n
  exact zCp _ (ih)
def zBF:Scalar→Int→Bool×Bool:=zkO 1000
def ref26_Few_spec:Ab.Spec ty:=zpC zBF
theorem zEu:Sound Tryz.prog base 18 ref26_Few_spec:=(zCQ 1000)
def zDm:Cx ty:=mkCx base 11 [] [] [] [] [] []
def zxk (op:Int) (v:Value):Wy0 (Scalar):=.k (⟨2,0,(⟨0,0,ByteArray.mk #[]⟩:Value),op,[Scalar.mk 1 0 (Value.mk 0 0 (ByteArray.mk #[])) 0 [],Scalar.mk 0 0 v 0 []]⟩:Scalar)
def zAs (op:Int) (v:Value):Bool×Scalar:=(zxk op v).fin default
def zu3 (r:Scalar):ARes ty:=⟨[.pure (.agg (base.enc 47 r))],[]⟩
def zxq:AL base (Int×Value×Unit):=zg (zh (vInt .i64)) (zg (zh (vAgg 40)) aNil)
def ztG:Ab.Spec ty:=zl zxq fun x=>((zAs x.1 x.2.1).1,zu3 (zAs x.1 x.2.1).2)
theorem zAV:Sound Tryz.prog base 21 ztG:=
 zt (cx':=zDm) zG zn zD (zw trivial) Tryz.call21 Tryz.func21 (c:=body Tryz.f21) (by kernel_rfl) (zi (l:=[]) (by kernel_rfl) trivial) (sg:=⟨[.pure],[]⟩) (A:=zxq) (res:=zu3) (W:=fun x=>zxk x.1 x.2.1) (z:=default)
def zDp:Cx ty:=mkCx base 5 [] [] [] [] [] []
def zw2 (n_:Int):Wy0 (Value):=.k (⟨0,n_,ByteArray.mk #[]⟩:Value)
def zpN (n_:Int):Bool×Value:=(zw2 n_).fin default
def zuP (r:Value):ARes ty:=⟨[.pure (.agg (base.enc 40 r))],[]⟩
def zxp:AL base (Int×Unit):=zg (zh (vInt .i64)) aNil
def zt4:Ab.Spec ty:=zl zxp fun x=>((zpN x.1).1,zuP (zpN x.1).2)
theorem zAU:Sound Tryz.prog base 32 zt4:=
 zt (cx':=zDp) zG zn zD (zw trivial) Tryz.call32 Tryz.func32 (c:=body Tryz.f32) (by kernel_rfl) (zi (l:=[]) (by kernel_rfl) trivial) (sg:=⟨[.pure],[]⟩) (A:=zxp) (res:=zuP) (W:=fun x=>zw2 x.1) (z:=default)
def zFN:Cx ty:=mkCx base 4 [] [] [] [] [] []
def zvU (less:Bool):Wy0 (Int):=.i (less) (.k (-1:Int)) (.k 1)
def zmd (less:Bool):Bool×Int:=(zvU less).fin default
def zyG (r:Int):ARes ty:=⟨[.pure (.lit (.int .i64 r))],[]⟩
def zBM:AL base (Bool×Unit):=zg (zh zLd) aNil
def zrT:Ab.Spec ty:=zl zBM fun x=>((zmd x.1).1,zyG (zmd x.1).2)
theorem zwk:Sound Tryz.prog base 44 zrT:=
 zt (cx':=zFN) zG zn zD (zw trivial) Tryz.call44 Tryz.func44 (c:=body Tryz.f44) (by kernel_rfl) (zi (l:=[]) (by kernel_rfl) trivial) (sg:=⟨[.pure],[]⟩) (A:=zBM) (res:=zyG) (W:=fun x=>zvU x.1) (z:=default)
def zC5:Cx ty:=mkCx base 38 [(44,zrT)] [] [] [] [] []
def zsm (a:Value) (b:Value):Wy0 (Int):=.i (a.Kind != b.Kind) (.bn (zmd (decide (a.Kind<b.Kind))) fun r0=>.k r0) (.i (a.Int != b.Int) (.bn (zmd (decide (a.Int<b.Int))) fun r1=>.k r1) (.i (!a.Text.toList==b.Text.toList) (.bn (zmd (Op.bytesLess a.Text.toList b.Text.toList)) fun r2=>.k r2) (.k 0)))
def zee (a:Value) (b:Value):Bool×Int:=(zsm a b).fin default
def zuS (r:Int):ARes ty:=⟨[.pure (.lit (.int .i64 r))],[]⟩
def zw9:AL base (Value×Value×Unit):=zg (zh (vAgg 40)) (zg (zh (vAgg 40)) aNil)
def zii:Ab.Spec ty:=zl zw9 fun x=>((zee x.1 x.2.1).1,zuS (zee x.1 x.2.1).2)
theorem zj1:Sound Tryz.prog base 16 zii:=
 zt (cx':=zC5) zG zn zD (zw ⟨zwk,trivial⟩) Tryz.call16 Tryz.func16 (c:=body Tryz.f16) (by kernel_rfl) (zi (l:=[]) (by kernel_rfl) trivial) (sg:=⟨[.pure],[]⟩) (A:=zw9) (res:=zuS) (W:=fun x=>zsm x.1 x.2.1) (z:=default)
abbrev ttTref01CompareRowsx0:=List Value×List Value×Int×Unit
abbrev ttTref01CompareRowsx1:=Int⊕(List Value×List Value)
def zzD (a:List Value) (b:List Value) (i:Int):Wy ttTref01CompareRowsx0 (Unit) ttTref01CompareRowsx1:=.i (decide (i<Int.ofNat a.length)) (.i (decide (i<Int.ofNat b.length)) (.i (decide (0≤i)&&decide (i<Int.ofNat a.length)) (.i (decide (0≤i)&&decide (i<Int.ofNat b.length)) (.bn (zee (a.getD i.toNat default) (b.getD i.toNat default)) fun r0=>.i (r0 != 0) (.k (.inl (r0))) (.h (a,b,(IntKind.i64.wrap (i+1)),()) ())) .d) .d) (.k (.inr (a,b)))) (.k (.inr (a,b)))
def zmk (x:ttTref01CompareRowsx0) (y:Unit):Wy ttTref01CompareRowsx0 (Unit) ttTref01CompareRowsx1:=zzD x.1 x.2.1 x.2.2.1
def zzP (n:Nat) (a:List Value) (b:List Value) (i:Int):Bool×ttTref01CompareRowsx1:=zN (zmk) (.inl default) n (a,b,i,()) ()
def zqq (r:ttTref01CompareRowsx1):LTree ty:=.ite (isL r) (.done .ret [.lit (.int .i64 (getL r))] []) (.done (.exit 0) [.sl 40 (getR r).1,.sl 40 (getR r).2] [])
def zrj:LL ty ttTref01CompareRowsx0:=za (lSl 40) (za (lSl 40) (za (lInt .i64) zy))
def zrl:BL ty (Unit):=bNil
def zqA (x:ttTref01CompareRowsx0) (y:Unit):Nat:=(x.1.length+x.2.1.length+Int.toNat x.2.2.1+1)
def zrw:Cx ty:=mkCx base 42 [(16,zii),(44,zrT)] [] [(2,[(0,.keep),(1,.keep),(5,.keep)])] [(2,1,[(0,.keep),(1,.keep)]),(2,0,[(4,.keep)])] [(2,spW zrj zrl (zmk) (.inl default) zqq zqA)] []
theorem zx7:zZ zrw (lp (body Tryz.f65) 0):=zP (id:=2) (V:=zrj) (B:=zrl) (W:=zmk) (z:=.inl default) (tr:=zqq) (m:=zqA)
def zsW (a:List Value) (b:List Value):Wy0 (Int):=.bn (zzP (a.length+b.length+Int.toNat 0+1) a b 0) fun r3=>.i (isL r3) (.k (getL r3)) (.i (Int.ofNat (getR r3).1.length==Int.ofNat (getR r3).2.length) (.k 0) (.bn (zmd (decide (Int.ofNat (getR r3).1.length<Int.ofNat (getR r3).2.length))) fun r2=>.k r2))
def zoQ (a:List Value) (b:List Value):Bool×Int:=(zsW a b).fin default
def zqk (r:Int):ARes ty:=⟨[.pure (.lit (.int .i64 r))],[]⟩
def zsB:AL base (List Value×List Value×Unit):=zg (zh (vSl 40)) (zg (zh (vSl 40)) aNil)
def zo4:Ab.Spec ty:=zl zsB fun x=>((zoQ x.1 x.2.1).1,zqk (zoQ x.1 x.2.1).2)
theorem zwA:Sound Tryz.prog base 65 zo4:=
 zt (cx':=zrw) zG zn zD (zw ⟨zj1,zwk,trivial⟩) Tryz.call65 Tryz.func65 (c:=body Tryz.f65) (by kernel_rfl) (zi (l:=[lp (body Tryz.f65) 0]) (by kernel_rfl) ⟨zx7,trivial⟩) (sg:=⟨[.pure],[]⟩) (A:=zsB) (res:=zqk) (W:=fun x=>zsW x.1 x.2.1) (z:=default)
def zFO:Cx ty:=mkCx base 9 [(65,zo4)] [] [] [] [] []
def zBh (a:List Value) (b:List Value):Wy0 (Bool):=.bn (zoQ a b) fun r0=>.k (r0==0)
def zEs (a:List Value) (b:List Value):Bool×Bool:=(zBh a b).fin default
def zzn (r:Bool):ARes ty:=⟨[.pure (.lit (.bool r))],[]⟩
def zBV:AL base (List Value×List Value×Unit):=zg (zh (vSl 40)) (zg (zh (vSl 40)) aNil)
def zw4:Ab.Spec ty:=zl zBV fun x=>((zEs x.1 x.2.1).1,zzn (zEs x.1 x.2.1).2)
theorem zDa:Sound Tryz.prog base 33 zw4:=
 zt (cx':=zFO) zG zn zD (zw ⟨zwA,trivial⟩) Tryz.call33 Tryz.func33 (c:=body Tryz.f33) (by kernel_rfl) (zi (l:=[]) (by kernel_rfl) trivial) (sg:=⟨[.pure],[]⟩) (A:=zBV) (res:=zzn) (W:=fun x=>zBh x.1 x.2.1) (z:=default)
end Go.Proofs.YtddkaehkimnklaaGreatDoor
/-
 DERIVED:THE SHELF's CONTRACTS AT THIS DUMP,IN PLAIN WORDS (tools/lay-plain.mjs out of 'TryzShelf.lean',which tools/lay-shelf.mjs wrote):THE SAME DECLARATIONS UNDER THE SAME NAMES:'import','namespace','open','def','theorem' AND NOTHING ELSE:no command of the shelf's:FOR A HAND-IN. Each laying:the table of numbers ('.._ren') and one theorem,a field a fact of the dump's own or the kernel's comparison; each contract:ONE APPLICATION.
-/
namespace Go.Proofs
open Go.Shelf
def Tryz.sortVal_ren:Go.Shelf.Ren:=⟨fun | 6=>78 | 15=>120 | 14=>119 | 28=>181 | 29=>182 | 20=>173 | 21=>174 | 22=>175 | 23=>176 | 24=>177 | 25=>178 | 26=>179 | 27=>180 | 46=>212 | 47=>213 | 48=>214 | 49=>215 | 50=>216 | 57=>247 | n=>n,fun | 22=>34 | 24=>40 | 25=>41 | 3=>3 | 39=>171 | 0=>0 | 53=>229 | 55=>139 | 4=>4 | 46=>223 | 45=>222 | 50=>218 | 5=>5 | 9=>9 | 66=>254 | 70=>258 | 76=>276 | 77=>277 | n=>n,fun | n=>n⟩
theorem Tryz.sortVal:Go.Proofs.SlLaysF0.n6 Tryz.prog Tryz.sortVal_ren:={
 mixed:=by kernel_rfl
 f6:=⟨Tryz.f78.name,by decide,Tryz.func78.trans (congrArg some (by kernel_rfl))⟩
 f14:=⟨Tryz.f119.name,by decide,Tryz.func119.trans (congrArg some (by kernel_rfl))⟩
 f15:=Tryz.func120.trans (congrArg some (by kernel_rfl))
 f20:=⟨Tryz.f173.name,by decide,Tryz.func173.trans (congrArg some (by kernel_rfl))⟩
 f21:=⟨Tryz.f174.name,by decide,Tryz.func174.trans (congrArg some (by kernel_rfl))⟩
 f22:=⟨Tryz.f175.name,by decide,Tryz.func175.trans (congrArg some (by kernel_rfl))⟩
 f23:=⟨Tryz.f176.name,by decide,Tryz.func176.trans (congrArg some (by kernel_rfl))⟩
 f24:=⟨Tryz.f177.name,by decide,Tryz.func177.trans (congrArg some (by kernel_rfl))⟩
 f25:=⟨Tryz.f178.name,by decide,Tryz.func178.trans (congrArg some (by kernel_rfl))⟩
 f26:=⟨Tryz.f179.name,by decide,Tryz.func179.trans (congrArg some (by kernel_rfl))⟩
 f27:=⟨Tryz.f180.name,by decide,Tryz.func180.trans (congrArg some (by kernel_rfl))⟩
 f28:=Tryz.func181.trans (congrArg some (by kernel_rfl))
 f29:=Tryz.func182.trans (congrArg some (by kernel_rfl))
 f46:=⟨Tryz.f212.name,by decide,Tryz.func212.trans (congrArg some (by kernel_rfl))⟩
 f47:=Tryz.func213.trans (congrArg some (by kernel_rfl))
 f48:=Tryz.func214.trans (congrArg some (by kernel_rfl))
 f49:=⟨Tryz.f215.name,by decide,Tryz.func215.trans (congrArg some (by kernel_rfl))⟩
 f50:=⟨Tryz.f216.name,by decide,Tryz.func216.trans (congrArg some (by kernel_rfl))⟩
 f57:=⟨Tryz.f247.name,by decide,Tryz.func247.trans (congrArg some (by kernel_rfl))⟩
 t0:=Tryz.underlying0
 a0:=Tryz.isAgg0
 z0:=Tryz.sizeOf0
 v0:=Tryz.zeroValue0
 t3:=Tryz.underlying3
 a3:=Tryz.isAgg3
 z3:=Tryz.sizeOf3
 v3:=Tryz.zeroValue3
 t4:=Tryz.underlying4
 a4:=Tryz.isAgg4
 z4:=Tryz.sizeOf4
 v4:=Tryz.zeroValue4
 t5:=Tryz.underlying5
 a5:=Tryz.isAgg5
 z5:=Tryz.sizeOf5
 v5:=Tryz.zeroValue5
 t9:=Tryz.underlying9
 a9:=Tryz.isAgg9
 z9:=Tryz.sizeOf9
 v9:=Tryz.zeroValue9
 t22:=Tryz.underlying34
 a22:=Tryz.isAgg34
 z22:=Tryz.sizeOf34
 v22:=Tryz.zeroValue34
 t25:=Tryz.underlying41
 a25:=Tryz.isAgg41
 z25:=Tryz.sizeOf41
 v25:=Tryz.zeroValue41
 t39:=Tryz.underlying171
 a39:=Tryz.isAgg171
 z39:=Tryz.sizeOf171
 v39:=Tryz.zeroValue171
 t45:=Tryz.underlying222
 a45:=Tryz.isAgg222
 z45:=Tryz.sizeOf222
 v45:=Tryz.zeroValue222
 t46:=Tryz.underlying223
 a46:=Tryz.isAgg223
 z46:=Tryz.sizeOf223
 v46:=Tryz.zeroValue223
 t50:=Tryz.underlying218
 a50:=Tryz.isAgg218
 z50:=Tryz.sizeOf218
 v50:=Tryz.zeroValue218
 t53:=Tryz.underlying229
 a53:=Tryz.isAgg229
 z53:=Tryz.sizeOf229
 v53:=Tryz.zeroValue229
 t55:=Tryz.underlying139
 a55:=Tryz.isAgg139
 z55:=Tryz.sizeOf139
 v55:=Tryz.zeroValue139
 t66:=Tryz.underlying254
 a66:=Tryz.isAgg254
 z66:=Tryz.sizeOf254
 v66:=Tryz.zeroValue254
 t70:=Tryz.underlying258
 a70:=Tryz.isAgg258
 z70:=Tryz.sizeOf258
 v70:=Tryz.zeroValue258
 t76:=Tryz.underlying276
 a76:=Tryz.isAgg276
 z76:=Tryz.sizeOf276
 v76:=Tryz.zeroValue276
 t77:=Tryz.underlying277
 a77:=Tryz.isAgg277
 z77:=Tryz.sizeOf277
 v77:=Tryz.zeroValue277 }
def Tryz.insR_ren:Go.Shelf.Ren:=⟨fun | 20=>159 | n=>n,fun | 24=>38 | 22=>23 | 3=>3 | 25=>110 | 4=>4 | 0=>0 | n=>n,fun | n=>n⟩
theorem Tryz.insR:Go.Proofs.SlLaysF0.n20 Tryz.prog Tryz.insR_ren:={
 mixed:=by kernel_rfl
 f20:=⟨Tryz.f159.name,by decide,Tryz.func159.trans (congrArg some (by kernel_rfl))⟩
 t0:=Tryz.underlying0
 a0:=Tryz.isAgg0
 z0:=Tryz.sizeOf0
 v0:=Tryz.zeroValue0
 t3:=Tryz.underlying3
 a3:=Tryz.isAgg3
 z3:=Tryz.sizeOf3
 v3:=Tryz.zeroValue3
 t4:=Tryz.underlying4
 a4:=Tryz.isAgg4
 z4:=Tryz.sizeOf4
 v4:=Tryz.zeroValue4
 t22:=Tryz.underlying23
 a22:=Tryz.isAgg23
 z22:=Tryz.sizeOf23
 v22:=Tryz.zeroValue23
 t25:=Tryz.underlying110
 a25:=Tryz.isAgg110
 z25:=Tryz.sizeOf110
 v25:=Tryz.zeroValue110 }
def Tryz.lays106_ren:Go.Shelf.Ren:=⟨fun | 106=>124 | 213=>185 | 265=>217 | n=>n,fun | 9=>9 | 3=>3 | n=>n,fun | n=>n⟩
theorem Tryz.lays106:Go.Proofs.Lays.n106 Tryz.prog Tryz.lays106_ren:={
 mixed:=by kernel_rfl
 f106:=Tryz.func124.trans (congrArg some (by kernel_rfl))
 f213:=Tryz.func185.trans (congrArg some (by kernel_rfl))
 f265:=Tryz.func217.trans (congrArg some (by kernel_rfl))
 t3:=Tryz.underlying3
 a3:=Tryz.isAgg3
 z3:=Tryz.sizeOf3
 v3:=Tryz.zeroValue3
 t9:=Tryz.underlying9
 a9:=Tryz.isAgg9
 z9:=Tryz.sizeOf9
 v9:=Tryz.zeroValue9 }
def Tryz.laysM173_ren:Go.Shelf.Ren:=⟨fun | 173=>94 | 246=>129 | 283=>186 | 284=>187 | 285=>188 | 286=>189 | 129=>182 | 317=>218 | 318=>219 | 319=>220 | 320=>221 | 337=>248 | 338=>249 | n=>n,fun | 2=>2 | 3=>3 | 9=>9 | 4=>4 | 171=>233 | 0=>0 | 53=>139 | 37=>129 | 5=>5 | 173=>235 | 212=>260 | 51=>229 | 20=>20 | 213=>261 | 46=>171 | 232=>289 | 233=>290 | n=>n,fun | 17=>1 | 18=>4 | 19=>5 | n=>n⟩
theorem Tryz.laysM173:Go.Proofs.LaysM.n173 Tryz.prog Tryz.laysM173_ren:={
 mixed:=by kernel_rfl
 f129:=Tryz.func182.trans (congrArg some (by kernel_rfl))
 f173:=Tryz.func94.trans (congrArg some (by kernel_rfl))
 f246:=Tryz.func129.trans (congrArg some (by kernel_rfl))
 f283:=Tryz.func186.trans (congrArg some (by kernel_rfl))
 f284:=Tryz.func187.trans (congrArg some (by kernel_rfl))
 f285:=Tryz.func188.trans (congrArg some (by kernel_rfl))
 f286:=Tryz.func189.trans (congrArg some (by kernel_rfl))
 f317:=Tryz.func218.trans (congrArg some (by kernel_rfl))
 f318:=Tryz.func219.trans (congrArg some (by kernel_rfl))
 f319:=Tryz.func220.trans (congrArg some (by kernel_rfl))
 f320:=Tryz.func221.trans (congrArg some (by kernel_rfl))
 f337:=Tryz.func248.trans (congrArg some (by kernel_rfl))
 f338:=Tryz.func249.trans (congrArg some (by kernel_rfl))
 t0:=Tryz.underlying0
 a0:=Tryz.isAgg0
 z0:=Tryz.sizeOf0
 v0:=Tryz.zeroValue0
 t2:=Tryz.underlying2
 a2:=Tryz.isAgg2
 z2:=Tryz.sizeOf2
 v2:=Tryz.zeroValue2
 t3:=Tryz.underlying3
 a3:=Tryz.isAgg3
 z3:=Tryz.sizeOf3
 v3:=Tryz.zeroValue3
 t4:=Tryz.underlying4
 a4:=Tryz.isAgg4
 z4:=Tryz.sizeOf4
 v4:=Tryz.zeroValue4
 t5:=Tryz.underlying5
 a5:=Tryz.isAgg5
 z5:=Tryz.sizeOf5
 v5:=Tryz.zeroValue5
 t9:=Tryz.underlying9
 a9:=Tryz.isAgg9
 z9:=Tryz.sizeOf9
 v9:=Tryz.zeroValue9
 t20:=Tryz.underlying20
 a20:=Tryz.isAgg20
 z20:=Tryz.sizeOf20
 v20:=Tryz.zeroValue20
 t37:=Tryz.underlying129
 a37:=Tryz.isAgg129
 z37:=Tryz.sizeOf129
 v37:=Tryz.zeroValue129
 t46:=Tryz.underlying171
 a46:=Tryz.isAgg171
 z46:=Tryz.sizeOf171
 v46:=Tryz.zeroValue171
 t51:=Tryz.underlying229
 a51:=Tryz.isAgg229
 z51:=Tryz.sizeOf229
 v51:=Tryz.zeroValue229
 t53:=Tryz.underlying139
 a53:=Tryz.isAgg139
 z53:=Tryz.sizeOf139
 v53:=Tryz.zeroValue139
 t171:=Tryz.underlying233
 a171:=Tryz.isAgg233
 z171:=Tryz.sizeOf233
 v171:=Tryz.zeroValue233
 t173:=Tryz.underlying235
 a173:=Tryz.isAgg235
 z173:=Tryz.sizeOf235
 v173:=Tryz.zeroValue235
 t212:=Tryz.underlying260
 a212:=Tryz.isAgg260
 z212:=Tryz.sizeOf260
 v212:=Tryz.zeroValue260
 t213:=Tryz.underlying261
 a213:=Tryz.isAgg261
 z213:=Tryz.sizeOf261
 t232:=Tryz.underlying289
 a232:=Tryz.isAgg289
 z232:=Tryz.sizeOf289
 v232:=Tryz.zeroValue289
 t233:=Tryz.underlying290
 a233:=Tryz.isAgg290
 z233:=Tryz.sizeOf290
 v233:=Tryz.zeroValue290
 g17:=by kernel_rfl
 g18:=by kernel_rfl
 g19:=by kernel_rfl
 i0:=by kernel_rfl
 i2:=by kernel_rfl
 i3:=by kernel_rfl
 i4:=by kernel_rfl
 i5:=by kernel_rfl
 i9:=by kernel_rfl
 i20:=by kernel_rfl
 i37:=by kernel_rfl
 i46:=by kernel_rfl
 i51:=by kernel_rfl
 i53:=by kernel_rfl
 i171:=by kernel_rfl
 i173:=by kernel_rfl
 i212:=by kernel_rfl
 i232:=by kernel_rfl
 i233:=by kernel_rfl
 m17:=by kernel_rfl
 m18:=by kernel_rfl
 m19:=by kernel_rfl }
def Tryz.laysM171_ren:Go.Shelf.Ren:=⟨fun | 171=>52 | 243=>93 | 246=>129 | 283=>186 | 284=>187 | 285=>188 | 286=>189 | 129=>182 | 317=>218 | 318=>219 | 319=>220 | 320=>221 | 337=>248 | 338=>249 | n=>n,fun | 3=>3 | 9=>9 | 2=>2 | 4=>4 | 171=>233 | 0=>0 | 53=>139 | 37=>129 | 5=>5 | 173=>235 | 212=>260 | 51=>229 | 20=>20 | 213=>261 | 46=>171 | 232=>289 | 233=>290 | n=>n,fun | 17=>1 | 18=>4 | 19=>5 | n=>n⟩
theorem Tryz.laysM171:Go.Proofs.LaysM.n171 Tryz.prog Tryz.laysM171_ren:={
 mixed:=by kernel_rfl
 f129:=Tryz.func182.trans (congrArg some (by kernel_rfl))
 f171:=Tryz.func52.trans (congrArg some (by kernel_rfl))
 f243:=Tryz.func93.trans (congrArg some (by kernel_rfl))
 f246:=Tryz.func129.trans (congrArg some (by kernel_rfl))
 f283:=Tryz.func186.trans (congrArg some (by kernel_rfl))
 f284:=Tryz.func187.trans (congrArg some (by kernel_rfl))
 f285:=Tryz.func188.trans (congrArg some (by kernel_rfl))
 f286:=Tryz.func189.trans (congrArg some (by kernel_rfl))
 f317:=Tryz.func218.trans (congrArg some (by kernel_rfl))
 f318:=Tryz.func219.trans (congrArg some (by kernel_rfl))
 f319:=Tryz.func220.trans (congrArg some (by kernel_rfl))
 f320:=Tryz.func221.trans (congrArg some (by kernel_rfl))
 f337:=Tryz.func248.trans (congrArg some (by kernel_rfl))
 f338:=Tryz.func249.trans (congrArg some (by kernel_rfl))
 t0:=Tryz.underlying0
 a0:=Tryz.isAgg0
 z0:=Tryz.sizeOf0
 v0:=Tryz.zeroValue0
 t2:=Tryz.underlying2
 a2:=Tryz.isAgg2
 z2:=Tryz.sizeOf2
 v2:=Tryz.zeroValue2
 t3:=Tryz.underlying3
 a3:=Tryz.isAgg3
 z3:=Tryz.sizeOf3
 v3:=Tryz.zeroValue3
 t4:=Tryz.underlying4
 a4:=Tryz.isAgg4
 z4:=Tryz.sizeOf4
 v4:=Tryz.zeroValue4
 t5:=Tryz.underlying5
 a5:=Tryz.isAgg5
 z5:=Tryz.sizeOf5
 v5:=Tryz.zeroValue5
 t9:=Tryz.underlying9
 a9:=Tryz.isAgg9
 z9:=Tryz.sizeOf9
 v9:=Tryz.zeroValue9
 t20:=Tryz.underlying20
 a20:=Tryz.isAgg20
 z20:=Tryz.sizeOf20
 v20:=Tryz.zeroValue20
 t37:=Tryz.underlying129
 a37:=Tryz.isAgg129
 z37:=Tryz.sizeOf129
 v37:=Tryz.zeroValue129
 t46:=Tryz.underlying171
 a46:=Tryz.isAgg171
 z46:=Tryz.sizeOf171
 v46:=Tryz.zeroValue171
 t51:=Tryz.underlying229
 a51:=Tryz.isAgg229
 z51:=Tryz.sizeOf229
 v51:=Tryz.zeroValue229
 t53:=Tryz.underlying139
 a53:=Tryz.isAgg139
 z53:=Tryz.sizeOf139
 v53:=Tryz.zeroValue139
 t171:=Tryz.underlying233
 a171:=Tryz.isAgg233
 z171:=Tryz.sizeOf233
 v171:=Tryz.zeroValue233
 t173:=Tryz.underlying235
 a173:=Tryz.isAgg235
 z173:=Tryz.sizeOf235
 v173:=Tryz.zeroValue235
 t212:=Tryz.underlying260
 a212:=Tryz.isAgg260
 z212:=Tryz.sizeOf260
 v212:=Tryz.zeroValue260
 t213:=Tryz.underlying261
 a213:=Tryz.isAgg261
 z213:=Tryz.sizeOf261
 t232:=Tryz.underlying289
 a232:=Tryz.isAgg289
 z232:=Tryz.sizeOf289
 v232:=Tryz.zeroValue289
 t233:=Tryz.underlying290
 a233:=Tryz.isAgg290
 z233:=Tryz.sizeOf290
 v233:=Tryz.zeroValue290
 g17:=by kernel_rfl
 g18:=by kernel_rfl
 g19:=by kernel_rfl
 i0:=by kernel_rfl
 i2:=by kernel_rfl
 i3:=by kernel_rfl
 i4:=by kernel_rfl
 i5:=by kernel_rfl
 i9:=by kernel_rfl
 i20:=by kernel_rfl
 i37:=by kernel_rfl
 i46:=by kernel_rfl
 i51:=by kernel_rfl
 i53:=by kernel_rfl
 i171:=by kernel_rfl
 i173:=by kernel_rfl
 i212:=by kernel_rfl
 i232:=by kernel_rfl
 i233:=by kernel_rfl
 m17:=by kernel_rfl
 m18:=by kernel_rfl
 m19:=by kernel_rfl }
def Tryz.lays155_ren:Go.Shelf.Ren:=⟨fun | 155=>95 | 154=>130 | 138=>190 | 165=>96 | 143=>191 | 166=>97 | 197=>192 | 169=>98 | 195=>222 | 218=>223 | 240=>131 | 241=>132 | 219=>224 | 260=>225 | 276=>193 | 277=>194 | 217=>250 | 225=>251 | 224=>252 | 267=>253 | 266=>262 | 314=>263 | n=>n,fun | 9=>9 | 3=>3 | 4=>4 | 72=>131 | 0=>0 | 76=>135 | 105=>237 | 21=>21 | 5=>5 | 70=>128 | 20=>20 | 37=>129 | 75=>134 | 127=>180 | 164=>239 | 46=>171 | 119=>279 | 139=>282 | 138=>281 | 146=>291 | 51=>229 | 80=>137 | n=>n,fun | 1=>0 | 3=>2 | 4=>3 | n=>n⟩
theorem Tryz.lays155:Go.Proofs.Lays.n155 Tryz.prog Tryz.lays155_ren:={
 mixed:=by kernel_rfl
 f138:=Tryz.func190.trans (congrArg some (by kernel_rfl))
 f143:=Tryz.func191.trans (congrArg some (by kernel_rfl))
 f154:=Tryz.func130.trans (congrArg some (by kernel_rfl))
 f155:=Tryz.func95.trans (congrArg some (by kernel_rfl))
 f165:=Tryz.func96.trans (congrArg some (by kernel_rfl))
 f166:=Tryz.func97.trans (congrArg some (by kernel_rfl))
 f169:=Tryz.func98.trans (congrArg some (by kernel_rfl))
 f195:=Tryz.func222.trans (congrArg some (by kernel_rfl))
 f197:=Tryz.func192.trans (congrArg some (by kernel_rfl))
 f217:=Tryz.func250.trans (congrArg some (by kernel_rfl))
 f218:=Tryz.func223.trans (congrArg some (by kernel_rfl))
 f219:=Tryz.func224.trans (congrArg some (by kernel_rfl))
 f224:=Tryz.func252.trans (congrArg some (by kernel_rfl))
 f225:=Tryz.func251.trans (congrArg some (by kernel_rfl))
 f240:=Tryz.func131.trans (congrArg some (by kernel_rfl))
 f241:=Tryz.func132.trans (congrArg some (by kernel_rfl))
 f260:=Tryz.func225.trans (congrArg some (by kernel_rfl))
 f266:=Tryz.func262.trans (congrArg some (by kernel_rfl))
 f267:=Tryz.func253.trans (congrArg some (by kernel_rfl))
 f276:=Tryz.func193.trans (congrArg some (by kernel_rfl))
 f277:=Tryz.func194.trans (congrArg some (by kernel_rfl))
 f314:=Tryz.func263.trans (congrArg some (by kernel_rfl))
 t0:=Tryz.underlying0
 a0:=Tryz.isAgg0
 z0:=Tryz.sizeOf0
 v0:=Tryz.zeroValue0
 t3:=Tryz.underlying3
 a3:=Tryz.isAgg3
 z3:=Tryz.sizeOf3
 v3:=Tryz.zeroValue3
 t4:=Tryz.underlying4
 a4:=Tryz.isAgg4
 z4:=Tryz.sizeOf4
 v4:=Tryz.zeroValue4
 t5:=Tryz.underlying5
 a5:=Tryz.isAgg5
 z5:=Tryz.sizeOf5
 v5:=Tryz.zeroValue5
 t9:=Tryz.underlying9
 a9:=Tryz.isAgg9
 z9:=Tryz.sizeOf9
 v9:=Tryz.zeroValue9
 t20:=Tryz.underlying20
 a20:=Tryz.isAgg20
 z20:=Tryz.sizeOf20
 v20:=Tryz.zeroValue20
 t21:=Tryz.underlying21
 a21:=Tryz.isAgg21
 z21:=Tryz.sizeOf21
 v21:=Tryz.zeroValue21
 t37:=Tryz.underlying129
 a37:=Tryz.isAgg129
 z37:=Tryz.sizeOf129
 v37:=Tryz.zeroValue129
 t46:=Tryz.underlying171
 a46:=Tryz.isAgg171
 z46:=Tryz.sizeOf171
 v46:=Tryz.zeroValue171
 t51:=Tryz.underlying229
 a51:=Tryz.isAgg229
 z51:=Tryz.sizeOf229
 v51:=Tryz.zeroValue229
 t70:=Tryz.underlying128
 a70:=Tryz.isAgg128
 z70:=Tryz.sizeOf128
 v70:=Tryz.zeroValue128
 t72:=Tryz.underlying131
 a72:=Tryz.isAgg131
 z72:=Tryz.sizeOf131
 v72:=Tryz.zeroValue131
 t75:=Tryz.underlying134
 a75:=Tryz.isAgg134
 z75:=Tryz.sizeOf134
 v75:=Tryz.zeroValue134
 t76:=Tryz.underlying135
 a76:=Tryz.isAgg135
 z76:=Tryz.sizeOf135
 v76:=Tryz.zeroValue135
 t105:=Tryz.underlying237
 a105:=Tryz.isAgg237
 z105:=Tryz.sizeOf237
 v105:=Tryz.zeroValue237
 t119:=Tryz.underlying279
 a119:=Tryz.isAgg279
 z119:=Tryz.sizeOf279
 t127:=Tryz.underlying180
 a127:=Tryz.isAgg180
 z127:=Tryz.sizeOf180
 v127:=Tryz.zeroValue180
 t138:=Tryz.underlying281
 a138:=Tryz.isAgg281
 z138:=Tryz.sizeOf281
 v138:=Tryz.zeroValue281
 t139:=Tryz.underlying282
 a139:=Tryz.isAgg282
 z139:=Tryz.sizeOf282
 v139:=Tryz.zeroValue282
 t146:=Tryz.underlying291
 a146:=Tryz.isAgg291
 z146:=Tryz.sizeOf291
 v146:=Tryz.zeroValue291
 t164:=Tryz.underlying239
 a164:=Tryz.isAgg239
 z164:=Tryz.sizeOf239
 v164:=Tryz.zeroValue239
 g1:=by kernel_rfl
 g3:=by kernel_rfl
 g4:=by kernel_rfl }
theorem Tryz.Builder_Extra_155:Builder.Extra Tryz.prog Tryz.lays155_ren:={
 sizeBuilder:=by kernel_rfl
 liesBuilder:=by kernel_rfl
 t5:=Tryz.underlying5
 a5:=Tryz.isAgg5
 z5:=Tryz.sizeOf5
 v5:=Tryz.zeroValue5
 infoByte:=by kernel_rfl
 cellsByte:=by kernel_rfl
 sizeByte:=by kernel_rfl
 neB5:=by decide }
def Tryz.lays156_ren:Go.Shelf.Ren:=⟨fun | 156=>54 | 165=>96 | 166=>97 | 169=>98 | 240=>131 | 241=>132 | 276=>193 | 277=>194 | n=>n,fun | 31=>58 | 9=>9 | 3=>3 | 4=>4 | 0=>0 | 20=>20 | 72=>131 | 76=>135 | 70=>128 | 37=>129 | 75=>134 | 127=>180 | 164=>239 | 5=>5 | 80=>137 | n=>n,fun | n=>n⟩
theorem Tryz.lays156:Go.Proofs.Lays.n156 Tryz.prog Tryz.lays156_ren:={
 mixed:=by kernel_rfl
 f156:=Tryz.func54.trans (congrArg some (by kernel_rfl))
 f165:=Tryz.func96.trans (congrArg some (by kernel_rfl))
 f166:=Tryz.func97.trans (congrArg some (by kernel_rfl))
 f169:=Tryz.func98.trans (congrArg some (by kernel_rfl))
 f240:=Tryz.func131.trans (congrArg some (by kernel_rfl))
 f241:=Tryz.func132.trans (congrArg some (by kernel_rfl))
 f276:=Tryz.func193.trans (congrArg some (by kernel_rfl))
 f277:=Tryz.func194.trans (congrArg some (by kernel_rfl))
 t0:=Tryz.underlying0
 a0:=Tryz.isAgg0
 z0:=Tryz.sizeOf0
 v0:=Tryz.zeroValue0
 t3:=Tryz.underlying3
 a3:=Tryz.isAgg3
 z3:=Tryz.sizeOf3
 v3:=Tryz.zeroValue3
 t4:=Tryz.underlying4
 a4:=Tryz.isAgg4
 z4:=Tryz.sizeOf4
 v4:=Tryz.zeroValue4
 t9:=Tryz.underlying9
 a9:=Tryz.isAgg9
 z9:=Tryz.sizeOf9
 v9:=Tryz.zeroValue9
 t20:=Tryz.underlying20
 a20:=Tryz.isAgg20
 z20:=Tryz.sizeOf20
 v20:=Tryz.zeroValue20
 t31:=Tryz.underlying58
 a31:=Tryz.isAgg58
 z31:=Tryz.sizeOf58
 v31:=Tryz.zeroValue58
 t37:=Tryz.underlying129
 a37:=Tryz.isAgg129
 z37:=Tryz.sizeOf129
 v37:=Tryz.zeroValue129
 t70:=Tryz.underlying128
 a70:=Tryz.isAgg128
 z70:=Tryz.sizeOf128
 v70:=Tryz.zeroValue128
 t72:=Tryz.underlying131
 a72:=Tryz.isAgg131
 z72:=Tryz.sizeOf131
 v72:=Tryz.zeroValue131
 t75:=Tryz.underlying134
 a75:=Tryz.isAgg134
 z75:=Tryz.sizeOf134
 v75:=Tryz.zeroValue134
 t76:=Tryz.underlying135
 a76:=Tryz.isAgg135
 z76:=Tryz.sizeOf135
 v76:=Tryz.zeroValue135
 t127:=Tryz.underlying180
 a127:=Tryz.isAgg180
 z127:=Tryz.sizeOf180
 v127:=Tryz.zeroValue180
 t164:=Tryz.underlying239
 a164:=Tryz.isAgg239
 z164:=Tryz.sizeOf239
 v164:=Tryz.zeroValue239 }
theorem Tryz.Builder_Extra_156:Builder.Extra Tryz.prog Tryz.lays156_ren:={
 sizeBuilder:=by kernel_rfl
 liesBuilder:=by kernel_rfl
 t5:=Tryz.underlying5
 a5:=Tryz.isAgg5
 z5:=Tryz.sizeOf5
 v5:=Tryz.zeroValue5
 infoByte:=by kernel_rfl
 cellsByte:=by kernel_rfl
 sizeByte:=by kernel_rfl
 neB5:=by decide }
end Go.Proofs
namespace Go.Proofs.YtddkaehkimnklaaGreatDoor
open Go Go.Ab
def strconv_Itoa (x:Int):Bool×ByteArray:=zCa x
def strconv_Itoa_spec:Ab.Spec ty:=zl (cx:=base) (zg (zh (vInt .i64)) aNil) fun x=>((strconv_Itoa x.1).1,⟨[.pure (.lit (.string (strconv_Itoa x.1).2))],[]⟩)
theorem zB0:Sound Tryz.prog base 52 strconv_Itoa_spec:=zIb zn Go.Proofs.Tryz.laysM171 Tryz.call52 (fun _ h=>h.1)
end Go.Proofs.YtddkaehkimnklaaGreatDoor
namespace Go.Proofs.YtddkaehkimnklaaGreatDoor
open Go Go.Ab
def strings_Join (l:List ByteArray) (sep:ByteArray):Bool×ByteArray:=zFW l sep
def strings_Join_spec:Ab.Spec ty:=zl (cx:=base0) (zg (zh (vSl 9)) (zg (zh vStr) aNil)) fun x=>((strings_Join x.1 x.2.1).1,⟨[.pure (.lit (.string (strings_Join x.1 x.2.1).2))],[]⟩)
theorem zBp:Sound Tryz.prog base0 54 strings_Join_spec:=zId (T:=9) zsZ rfl Go.Proofs.Tryz.lays156 Go.Proofs.Tryz.Builder_Extra_156 Tryz.call54 (fun s:ByteArray=>s) (fun _=>rfl) strings_Join (fun l sep=>congrArg (fun l=>zFW l sep) (List.map_id' (α:=ByteArray) l).symm)
def zEF:Cx ty:=mkCx base 36 [] [] [] [] [] []
def zuG (v:Value):Wy0 (Bool):=.i (v.Kind==0) (.k (v.Text.toList==(ByteArray.mk #[]).toList)) (.i (v.Kind==1) (.i (v.Int==0) (.k (decide (Int.ofNat v.Text.size≤255))) (.k false)) (.i (v.Kind==2) (.i (v.Int==0) (.k (v.Text.toList==(ByteArray.mk #[]).toList)) (.i (v.Int==1) (.k (v.Text.toList==(ByteArray.mk #[]).toList)) (.k false))) (.k false)))
def zgt (v:Value):Bool×Bool:=(zuG v).fin default
def zxd (r:Bool):ARes ty:=⟨[.pure (.lit (.bool r))],[]⟩
def zAv:AL base (Value×Unit):=zg (zh (vAgg 40)) aNil
def zgV:Ab.Spec ty:=zl zAv fun x=>((zgt x.1).1,zxd (zgt x.1).2)
theorem zhu:Sound Tryz.prog base 83 zgV:=
 zt (cx':=zEF) zG zn zD (zw trivial) Tryz.call83 Tryz.func83 (c:=body Tryz.f83) (by kernel_rfl) (zi (l:=[]) (by kernel_rfl) trivial) (sg:=⟨[.pure],[]⟩) (A:=zAv) (res:=zxd) (W:=fun x=>zuG x.1) (z:=default)
def zs9:Cx ty:=mkCx base 15 [(83,zgV)] [] [] [] [] []
def zim (v:Value) (p1:ColumnStats):Wy0 (Bool):=.bn (zgt v) fun r0=>.i (!r0) (.k true) (.k (v.Kind != p1.Min.Kind))
def zde (v:Value) (p1:ColumnStats):Bool×Bool:=(zim v p1).fin default
def zkX (r:Bool):ARes ty:=⟨[.pure (.lit (.bool r))],[]⟩
def zlP:AL base (Value×ColumnStats×Unit):=zg (zh (vAgg 40)) (zg (zh (zvo 43)) aNil)
def zeQ:Ab.Spec ty:=zl zlP fun x=>((zde x.1 x.2.1).1,zkX (zde x.1 x.2.1).2)
theorem zg6:Sound Tryz.prog base 86 zeQ:=
 zt (cx':=zs9) zG zn zD (zw ⟨zhu,trivial⟩) Tryz.call86 Tryz.func86 (c:=body Tryz.f86) (by kernel_rfl) (zi (l:=[]) (by kernel_rfl) trivial) (sg:=⟨[.pure],[]⟩) (A:=zlP) (res:=zkX) (W:=fun x=>zim x.1 x.2.1) (z:=default)
abbrev ttTslicesIndexFuncLapiValueapiValuevc0:=List Value×(ColumnStats×Unit)×Int×Int×Unit
def zk4 (s:List Value) (f:ColumnStats) (t7:Int) (t8:Int):Wy ttTslicesIndexFuncLapiValueapiValuevc0 (Unit) (Int⊕Unit):=.i (decide (t8<t7)) (.i (decide (0≤t8)&&decide (t8<Int.ofNat s.length)) (.bn (zde (s.getD t8.toNat default) f) fun r0=>.i (r0) (.k (.inl t8)) (.h (s,(f,()),t7,(IntKind.i64.wrap (t8+1)),()) ())) .d) (.k (.inr ()))
def zdg (x:ttTslicesIndexFuncLapiValueapiValuevc0) (y:Unit):Wy ttTslicesIndexFuncLapiValueapiValuevc0 (Unit) (Int⊕Unit):=zk4 x.1 x.2.1.1 x.2.2.1 x.2.2.2.1
def zk5 (n:Nat) (s:List Value) (f:ColumnStats) (t7:Int) (t8:Int):Bool×(Int⊕Unit):=zN (zdg) (.inl default) n (s,(f,()),t7,t8,()) ()
def zgu (r:Int⊕Unit):LTree ty:=.ite (isL r) (.done .ret [.lit (.int .i64 (getL r))] []) (.done (.exit 0) [] [])
def zgO:LL ty ttTslicesIndexFuncLapiValueapiValuevc0:=za (lSl 40) (za (lFn 86 (za (zD6 (zbj (fun x=>(⟨x.1,⟨x.2.1,x.2.2.1,x.2.2.2.1⟩,⟨x.2.2.2.2.1,x.2.2.2.2.2.1,x.2.2.2.2.2.2.1⟩,x.2.2.2.2.2.2.2.1⟩:ColumnStats)) (fun x=>(x.Distinct,x.Min.Kind,x.Min.Int,x.Min.Text,x.Max.Kind,x.Max.Int,x.Max.Text,x.Bounds,())) (fun _=>rfl) (za (lInt .i64) (za (lInt .i64) (za (lInt .i64) (za lStr (za (lInt .i64) (za (lInt .i64) (za lStr (za (lSl 40) zy))))))))) 0) zy)) (za (lInt .i64) (za (lInt .i64) zy)))
def zgP:BL ty (Unit):=bNil
def zgC (x:ttTslicesIndexFuncLapiValueapiValuevc0) (y:Unit):Nat:=(x.1.length+x.2.1.1.Bounds.length+Int.toNat x.2.2.1+Int.toNat x.2.2.2.1+1000)
def zgQ:Cx ty:=mkCx base 19 [(86,zeQ)] [] [(2,[(0,.keep),(1,.keep),(7,.keep),(8,.keep)])] [(2,1,[]),(2,0,[(4,.keep)])] [(2,spW zgO zgP (zdg) (.inl default) zgu zgC)] []
theorem zkS:zZ zgQ (lp (body Tryz.f125) 0):=zP (id:=2) (V:=zgO) (B:=zgP) (W:=zdg) (z:=.inl default) (tr:=zgu) (m:=zgC)
def zgY (s:List Value) (f:ColumnStats):Wy0 (Int):=.bn (zk5 (s.length+f.Bounds.length+(Int.ofNat s.length).toNat +Int.toNat 0+1000) s f (Int.ofNat s.length) 0) fun r2=>.i (isL r2) (.k (getL r2)) (.k (-1:Int))
def zcA (s:List Value) (f:ColumnStats):Bool×Int:=(zgY s f).fin default
def zgz (r:Int):ARes ty:=⟨[.pure (.lit (.int .i64 r))],[]⟩
def zg2:AL base (List Value×(ColumnStats×Unit)×Unit):=zg (zh (vSl 40)) (zg (zh (vFn 86 (zr7 (zvo 43) vNil))) aNil)
def zgm:Ab.Spec ty:=zl zg2 fun x=>((zcA x.1 x.2.1.1).1,zgz (zcA x.1 x.2.1.1).2)
theorem zkg:Sound Tryz.prog base 125 zgm:=
 zt (cx':=zgQ) zG zn zD (zw ⟨zg6,trivial⟩) Tryz.call125 Tryz.func125 (c:=body Tryz.f125) (by kernel_rfl) (zi (l:=[lp (body Tryz.f125) 0]) (by kernel_rfl) ⟨zkS,trivial⟩) (sg:=⟨[.pure],[]⟩) (A:=zg2) (res:=zgz) (W:=fun x=>zgY x.1 x.2.1.1) (z:=default)
def zkb:Cx ty:=mkCx base 9 [(86,zeQ),(125,zgm)] [] [] [] [] []
def zdb (s:List Value) (f:ColumnStats):Wy0 (Bool):=.bn (zcA s f) fun r0=>.k (decide (r0≥0))
def zbz (s:List Value) (f:ColumnStats):Bool×Bool:=(zdb s f).fin default
def zfw (r:Bool):ARes ty:=⟨[.pure (.lit (.bool r))],[]⟩
def zgp:AL base (List Value×(ColumnStats×Unit)×Unit):=zg (zh (vSl 40)) (zg (zh (vFn 86 (zr7 (zvo 43) vNil))) aNil)
def zfc:Ab.Spec ty:=zl zgp fun x=>((zbz x.1 x.2.1.1).1,zfw (zbz x.1 x.2.1.1).2)
theorem zjG:Sound Tryz.prog base 85 zfc:=
 zt (cx':=zkb) zG zn zD (zw ⟨zg6,zkg,trivial⟩) Tryz.call85 Tryz.func85 (c:=body Tryz.f85) (by kernel_rfl) (zi (l:=[]) (by kernel_rfl) trivial) (sg:=⟨[.pure],[]⟩) (A:=zgp) (res:=zfw) (W:=fun x=>zdb x.1 x.2.1.1) (z:=default)
def zDc:Cx ty:=mkCx base 6 [] [] [] [] [] []
def zsl (x_:Int):Wy0 (Bool):=.k (x_ != x_)
def zkn (x_:Int):Bool×Bool:=(zsl x_).fin default
def zuN (r:Bool):ARes ty:=⟨[.pure (.lit (.bool r))],[]⟩
def zxn:AL base (Int×Unit):=zg (zh (vInt .i64)) aNil
def ztR:Ab.Spec ty:=zl zxn fun x=>((zkn x.1).1,zuN (zkn x.1).2)
theorem zAY:Sound Tryz.prog base 183 ztR:=
 zt (cx':=zDc) zG zn zD (zw trivial) Tryz.call183 Tryz.func183 (c:=body Tryz.f183) (by kernel_rfl) (zi (l:=[]) (by kernel_rfl) trivial) (sg:=⟨[.pure],[]⟩) (A:=zxn) (res:=zuN) (W:=fun x=>zsl x.1) (z:=default)
def zBf:Cx ty:=mkCx base 20 [(183,ztR)] [] [] [] [] []
def zoW (x_:Int) (y_:Int):Wy0 (Int):=.i ((zkn x_).2) (.i ((zkn y_).2) (.k 0) (.k (-1:Int))) (.i ((zkn y_).2) (.k 1) (.i (decide (x_<y_)) (.k (-1:Int)) (.i (decide (x_>y_)) (.k 1) (.k 0))))
def zc4 (x_:Int) (y_:Int):Bool×Int:=(zoW x_ y_).fin default
def zsw (r:Int):ARes ty:=⟨[.pure (.lit (.int .i64 r))],[]⟩
def zu1:AL base (Int×Int×Unit):=zg (zh (vInt .i64)) (zg (zh (vInt .i64)) aNil)
def zjk:Ab.Spec ty:=zl zu1 fun x=>((zc4 x.1 x.2.1).1,zsw (zc4 x.1 x.2.1).2)
theorem zlj:Sound Tryz.prog base 122 zjk:=
 zt (cx':=zBf) zG zn zD (zw ⟨zAY,trivial⟩) Tryz.call122 Tryz.func122 (c:=body Tryz.f122) (by kernel_rfl) (zi (l:=[]) (by kernel_rfl) trivial) (sg:=⟨[.pure],[]⟩) (A:=zu1) (res:=zsw) (W:=fun x=>zoW x.1 x.2.1) (z:=default)
def zBu:Cx ty:=mkCx base 6 [] [] [] [] [] []
def zoS (x_:Int):Wy0 (Bool):=.k (x_ != x_)
def ziz (x_:Int):Bool×Bool:=(zoS x_).fin default
def zsM (r:Bool):ARes ty:=⟨[.pure (.lit (.bool r))],[]⟩
def zuK:AL base (Int×Unit):=zg (zh (vInt .i64)) aNil
def zrM:Ab.Spec ty:=zl zuK fun x=>((ziz x.1).1,zsM (ziz x.1).2)
theorem zx8:Sound Tryz.prog base 184 zrM:=
 zt (cx':=zBu) zG zn zD (zw trivial) Tryz.call184 Tryz.func184 (c:=body Tryz.f184) (by kernel_rfl) (zi (l:=[]) (by kernel_rfl) trivial) (sg:=⟨[.pure],[]⟩) (A:=zuK) (res:=zsM) (W:=fun x=>zoS x.1) (z:=default)
def zzS:Cx ty:=mkCx base 20 [(184,zrM)] [] [] [] [] []
def zm6 (x_:Int) (y_:Int):Wy0 (Int):=.i ((ziz x_).2) (.i ((ziz y_).2) (.k 0) (.k (-1:Int))) (.i ((ziz y_).2) (.k 1) (.i (decide (x_<y_)) (.k (-1:Int)) (.i (decide (x_>y_)) (.k 1) (.k 0))))
def zht (x_:Int) (y_:Int):Bool×Int:=(zm6 x_ y_).fin default
def zqF (r:Int):ARes ty:=⟨[.pure (.lit (.int .i64 r))],[]⟩
def zsC:AL base (Int×Int×Unit):=zg (zh (vInt .i64)) (zg (zh (vInt .i64)) aNil)
def zkP:Ab.Spec ty:=zl zsC fun x=>((zht x.1 x.2.1).1,zqF (zht x.1 x.2.1).2)
theorem zoI:Sound Tryz.prog base 123 zkP:=
 zt (cx':=zzS) zG zn zD (zw ⟨zx8,trivial⟩) Tryz.call123 Tryz.func123 (c:=body Tryz.f123) (by kernel_rfl) (zi (l:=[]) (by kernel_rfl) trivial) (sg:=⟨[.pure],[]⟩) (A:=zsC) (res:=zqF) (W:=fun x=>zm6 x.1 x.2.1) (z:=default)
abbrev ttTcmpOrint0:=Int×List Int×Int×Int×Unit
def zus (zero:Int) (t6:List Int) (t7:Int) (t8:Int):Wy ttTcmpOrint0 (Unit) (Int⊕Int):=.i (decide (t8<t7)) (.i (decide (0≤t8)&&decide (t8<Int.ofNat t6.length)) (.i (t6.getD t8.toNat default != zero) (.k (.inl (t6.getD t8.toNat default))) (.h (zero,t6,t7,(IntKind.i64.wrap (t8+1)),()) ())) .d) (.k (.inr zero))
def zuE (x:ttTcmpOrint0) (y:Unit):Wy ttTcmpOrint0 (Unit) (Int⊕Int):=zus x.1 x.2.1 x.2.2.1 x.2.2.2.1
def zuA (n:Nat) (zero:Int) (t6:List Int) (t7:Int) (t8:Int):Bool×(Int⊕Int):=zN (zuE) (.inl default) n (zero,t6,t7,t8,()) ()
def zyq (r:Int⊕Int):LTree ty:=.ite (isL r) (.done .ret [.lit (.int .i64 (getL r))] []) (.done (.exit 0) [.lit (.int .i64 (getR r))] [])
def zAn:LL ty ttTcmpOrint0:=za (lInt .i64) (za (lSl 3) (za (lInt .i64) (za (lInt .i64) zy)))
def zAr:BL ty (Unit):=bNil
def zy0 (x:ttTcmpOrint0) (y:Unit):Nat:=(Int.toNat x.1+x.2.1.length+Int.toNat x.2.2.1+Int.toNat x.2.2.2.1+1000)
def zAm:Cx ty:=mkCx base 18 [] [] [(3,[(3,.keep),(6,.keep),(7,.keep),(8,.keep)])] [(3,1,[(3,.keep)]),(3,0,[(2,.keep)])] [(3,spW zAn zAr (zuE) (.inl default) zyq zy0)] []
theorem zEN:zZ zAm (lp (body Tryz.f121) 0):=zP (id:=3) (V:=zAn) (B:=zAr) (W:=zuE) (z:=.inl default) (tr:=zyq) (m:=zy0)
def zvz (vals:List Int):Wy0 (Int):=.bn (zuA (Int.toNat 0+vals.length+(Int.ofNat vals.length).toNat +Int.toNat 0+1000) 0 vals (Int.ofNat vals.length) 0) fun r0=>.i (isL r0) (.k (getL r0)) (.k (getR r0))
def zjr (vals:List Int):Bool×Int:=(zvz vals).fin default
def zy1 (r:Int):ARes ty:=⟨[.pure (.lit (.int .i64 r))],[]⟩
def zBr:AL base (List Int×Unit):=zg (zh (vSl 3)) aNil
def ziy:Ab.Spec ty:=zl zBr fun x=>((zjr x.1).1,zy1 (zjr x.1).2)
theorem zjP:Sound Tryz.prog base 121 ziy:=
 zt (cx':=zAm) zG zn zD (zw trivial) Tryz.call121 Tryz.func121 (c:=body Tryz.f121) (by kernel_rfl) (zi (l:=[lp (body Tryz.f121) 0]) (by kernel_rfl) ⟨zEN,trivial⟩) (sg:=⟨[.pure],[]⟩) (A:=zBr) (res:=zy1) (W:=fun x=>zvz x.1) (z:=default)
def strings_Compare (s p:ByteArray):Bool×Int:=zvA s p
def strings_Compare_spec:Ab.Spec ty:=zl (cx:=base) (zg (zh vStr) (zg (zh vStr) aNil)) fun x=>((strings_Compare x.1 x.2.1).1,⟨[.pure (.lit (.int .i64 (strings_Compare x.1 x.2.1).2))],[]⟩)
theorem zzl:Sound Tryz.prog base 124 strings_Compare_spec:=zFK zn Go.Proofs.Tryz.lays106 Tryz.call124
def zDk:Cx ty:=mkCx base 22 [(121,ziy),(122,zjk),(123,zkP),(124,strings_Compare_spec)] [] [] [] [] []
def zr1 (a:Value) (b:Value):Wy0 (Int):=.bn (zc4 a.Kind b.Kind) fun r2=>.bn (zht a.Int b.Int) fun r1=>.bn (zjr [r2,r1,(strings_Compare a.Text b.Text).2]) fun r0=>.k r0
def zbL (a:Value) (b:Value):Bool×Int:=(zr1 a b).fin default
def zu4 (r:Int):ARes ty:=⟨[.pure (.lit (.int .i64 r))],[]⟩
def zxe:AL base (Value×Value×Unit):=zg (zh (vAgg 40)) (zg (zh (vAgg 40)) aNil)
def zcd:Ab.Spec ty:=zl zxe fun x=>((zbL x.1 x.2.1).1,zu4 (zbL x.1 x.2.1).2)
theorem zcn:Sound Tryz.prog base 79 zcd:=
 zt (cx':=zDk) zG zn zD (zw ⟨zjP,zlj,zoI,zzl,trivial⟩) Tryz.call79 Tryz.func79 (c:=body Tryz.f79) (by kernel_rfl) (zi (l:=[]) (by kernel_rfl) trivial) (sg:=⟨[.pure],[]⟩) (A:=zxe) (res:=zu4) (W:=fun x=>zr1 x.1 x.2.1) (z:=default)
abbrev ttTslicesIsSortedFuncLapiValueapiValue0:=List Value×Unit×Int×Unit
def zdm (x_:List Value) (i:Int):Wy ttTslicesIsSortedFuncLapiValueapiValue0 (Unit) (Bool⊕Unit):=.i (decide (i>0)) (.i (decide (0≤i)&&decide (i<Int.ofNat x_.length)) (.i (decide (0≤IntKind.i64.wrap (i - 1))&&decide (IntKind.i64.wrap (i - 1)<Int.ofNat x_.length)) (.bn (zbL (x_.getD i.toNat default) (x_.getD (IntKind.i64.wrap (i - 1)).toNat default)) fun r0=>.i (decide (r0<0)) (.k (.inl false)) (.h (x_,(),(IntKind.i64.wrap (i - 1)),()) ())) .d) .d) (.k (.inr ()))
def zdj (x:ttTslicesIsSortedFuncLapiValueapiValue0) (y:Unit):Wy ttTslicesIsSortedFuncLapiValueapiValue0 (Unit) (Bool⊕Unit):=zdm x.1 x.2.2.1
def zdl (n:Nat) (x_:List Value) (i:Int):Bool×(Bool⊕Unit):=zN (zdj) (.inl default) n (x_,(),i,()) ()
def zgy (r:Bool⊕Unit):LTree ty:=.ite (isL r) (.done .ret [.lit (.bool (getL r))] []) (.done (.exit 0) [] [])
def zgR:LL ty ttTslicesIsSortedFuncLapiValueapiValue0:=za (lSl 40) (za (lFn 79 (zy)) (za (lInt .i64) zy))
def zgN:BL ty (Unit):=bNil
def zgM:Cx ty:=mkCx base 25 [(79,zcd)] [] [(2,[(0,.keep),(1,.keep),(5,.keep)])] [(2,1,[]),(2,0,[(4,.keep)])] [(2,spW zgR zgN (zdj) (.inl default) zgy fun x y=>(x.1.length+Int.toNat x.2.2.1+1000))] []
theorem zkL:zZ zgM (lp (body Tryz.f84) 0):=zP (id:=2) (V:=zgR) (B:=zgN) (W:=zdj) (z:=.inl default) (tr:=zgy) (m:=fun x y=>(x.1.length+Int.toNat x.2.2.1+1000))
def zdI (x_:List Value):Wy0 (Bool):=.bn (zdl (x_.length+(IntKind.i64.wrap (Int.ofNat x_.length - 1)).toNat +1000) x_ (IntKind.i64.wrap (Int.ofNat x_.length - 1))) fun r2=>.i (isL r2) (.k (getL r2)) (.k true)
def zbR (x_:List Value):Bool×Bool:=(zdI x_).fin default
def zgA (r:Bool):ARes ty:=⟨[.pure (.lit (.bool r))],[]⟩
def zgW:AL base (List Value×Unit×Unit):=zg (zh (vSl 40)) (zg (zh (vFn 79 vNil)) aNil)
def zge:Ab.Spec ty:=zl zgW fun x=>((zbR x.1).1,zgA (zbR x.1).2)
theorem zkf:Sound Tryz.prog base 84 zge:=
 zt (cx':=zgM) zG zn zD (zw ⟨zcn,trivial⟩) Tryz.call84 Tryz.func84 (c:=body Tryz.f84) (by kernel_rfl) (zi (l:=[lp (body Tryz.f84) 0]) (by kernel_rfl) ⟨zkL,trivial⟩) (sg:=⟨[.pure],[]⟩) (A:=zgW) (res:=zgA) (W:=fun x=>zdI x.1) (z:=default)
def zvj:Cx ty:=mkCx base 103 [(79,zcd),(83,zgV),(84,zge),(85,zfc),(86,zeQ)] [] [] [] [] []
def zjX (c:ColumnStats) (rows:Int):Wy0 (Bool):=.i (rows==0) (.i (c.Distinct==0) (.i (c.Min.Kind==0&&(c.Min.Int==0&&(c.Min.Text.toList==(ByteArray.mk #[]).toList&&true))) (.i (c.Max.Kind==0&&(c.Max.Int==0&&(c.Max.Text.toList==(ByteArray.mk #[]).toList&&true))) (.k (Int.ofNat c.Bounds.length==0)) (.k false)) (.k false)) (.k false)) (.i (decide (c.Distinct≥1)) (.i (decide (c.Distinct≤rows)) (.bn (zgt c.Min) fun r5=>.i (r5) (.bn (zgt c.Max) fun r4=>.i (r4) (.i (c.Min.Kind==c.Max.Kind) (.bn (zbL c.Min c.Max) fun r3=>.i (!decide (r3≤0)) (.k false) (.i (Int.ofNat c.Bounds.length != 8) (.k false) (.bn (zbR c.Bounds) fun r2=>.i (!r2) (.k false) (.i (decide ((0:Int)≤(7:Int))&&decide (7<Int.ofNat c.Bounds.length)) (.i (!((c.Bounds.getD (Int.toNat 7) default).Kind==c.Max.Kind&&((c.Bounds.getD (Int.toNat 7) default).Int==c.Max.Int&&((c.Bounds.getD (Int.toNat 7) default).Text.toList==c.Max.Text.toList&&true)))) (.k false) (.i (decide ((0:Int)≤(0:Int))&&decide (0<Int.ofNat c.Bounds.length)) (.bn (zbL (c.Bounds.getD (Int.toNat 0) default) c.Min) fun r1=>.i (decide (r1<0)) (.k false) (.bn (zbz c.Bounds c) fun r0=>.k (!r0))) .d)) .d)))) (.k false)) (.k false)) (.k false)) (.k false)) (.k false))
def zgw (c:ColumnStats) (rows:Int):Bool×Bool:=(zjX c rows).fin default
def zmW (r:Bool):ARes ty:=⟨[.pure (.lit (.bool r))],[]⟩
def znK:AL base (ColumnStats×Int×Unit):=zg (zh (vAgg 43)) (zg (zh (vInt .i64)) aNil)
def zl5:Ab.Spec ty:=zl znK fun x=>((zgw x.1 x.2.1).1,zmW (zgw x.1 x.2.1).2)
theorem zs0:Sound Tryz.prog base 43 zl5:=
 zt (cx':=zvj) zG zn zD (zw ⟨zcn,zhu,zkf,zjG,zg6,trivial⟩) Tryz.call43 Tryz.func43 (c:=body Tryz.f43) (by kernel_rfl) (zi (l:=[]) (by kernel_rfl) trivial) (sg:=⟨[.pure],[]⟩) (A:=znK) (res:=zmW) (W:=fun x=>zjX x.1 x.2.1) (z:=default)
def zxE:Cx ty:=mkCx base 9 [(43,zl5)] [] [] [] [] []
def zlg (c:ColumnStats) (p1:Stats):Wy0 (Bool):=.bn (zgw c p1.Rows) fun r0=>.k (!r0)
def zgq (c:ColumnStats) (p1:Stats):Bool×Bool:=(zlg c p1).fin default
def zoo (r:Bool):ARes ty:=⟨[.pure (.lit (.bool r))],[]⟩
def zp1:AL base (ColumnStats×Stats×Unit):=zg (zh (vAgg 43)) (zg (zh (zvo 30)) aNil)
def zhn:Ab.Spec ty:=zl zp1 fun x=>((zgq x.1 x.2.1).1,zoo (zgq x.1 x.2.1).2)
theorem zjj:Sound Tryz.prog base 42 zhn:=
 zt (cx':=zxE) zG zn zD (zw ⟨zs0,trivial⟩) Tryz.call42 Tryz.func42 (c:=body Tryz.f42) (by kernel_rfl) (zi (l:=[]) (by kernel_rfl) trivial) (sg:=⟨[.pure],[]⟩) (A:=zp1) (res:=zoo) (W:=fun x=>zlg x.1 x.2.1) (z:=default)
abbrev ttTslicesIndexFuncLapiColumnStatsapiColumnStatsva0:=List ColumnStats×(Stats×Unit)×Int×Int×Unit
def zic (s:List ColumnStats) (f:Stats) (t7:Int) (t8:Int):Wy ttTslicesIndexFuncLapiColumnStatsapiColumnStatsva0 (Unit) (Int⊕Unit):=.i (decide (t8<t7)) (.i (decide (0≤t8)&&decide (t8<Int.ofNat s.length)) (.bn (zgq (s.getD t8.toNat default) f) fun r0=>.i (r0) (.k (.inl t8)) (.h (s,(f,()),t7,(IntKind.i64.wrap (t8+1)),()) ())) .d) (.k (.inr ()))
def zca (x:ttTslicesIndexFuncLapiColumnStatsapiColumnStatsva0) (y:Unit):Wy ttTslicesIndexFuncLapiColumnStatsapiColumnStatsva0 (Unit) (Int⊕Unit):=zic x.1 x.2.1.1 x.2.2.1 x.2.2.2.1
def zia (n:Nat) (s:List ColumnStats) (f:Stats) (t7:Int) (t8:Int):Bool×(Int⊕Unit):=zN (zca) (.inl default) n (s,(f,()),t7,t8,()) ()
def zdF (r:Int⊕Unit):LTree ty:=.ite (isL r) (.done .ret [.lit (.int .i64 (getL r))] []) (.done (.exit 0) [] [])
def zdQ:LL ty ttTslicesIndexFuncLapiColumnStatsapiColumnStatsva0:=za (lSl 43) (za (lFn 42 (za (zD6 (zbj (fun x=>(⟨x.1,x.2.1,x.2.2.1⟩:Stats)) (fun x=>(x.Table,x.Rows,x.Columns,())) (fun _=>rfl) (za (lInt .i64) (za (lInt .i64) (za (lSl 43) zy)))) 0) zy)) (za (lInt .i64) (za (lInt .i64) zy)))
def zdJ:BL ty (Unit):=bNil
def zdz (x:ttTslicesIndexFuncLapiColumnStatsapiColumnStatsva0) (y:Unit):Nat:=(x.1.length+x.2.1.1.Columns.length+Int.toNat x.2.2.1+Int.toNat x.2.2.2.1+1000)
def zdM:Cx ty:=mkCx base 19 [(42,zhn)] [] [(2,[(0,.keep),(1,.keep),(7,.keep),(8,.keep)])] [(2,1,[]),(2,0,[(4,.keep)])] [(2,spW zdQ zdJ (zca) (.inl default) zdF zdz)] []
theorem zh1:zZ zdM (lp (body Tryz.f82) 0):=zP (id:=2) (V:=zdQ) (B:=zdJ) (W:=zca) (z:=.inl default) (tr:=zdF) (m:=zdz)
def zdX (s:List ColumnStats) (f:Stats):Wy0 (Int):=.bn (zia (s.length+f.Columns.length+(Int.ofNat s.length).toNat +Int.toNat 0+1000) s f (Int.ofNat s.length) 0) fun r2=>.i (isL r2) (.k (getL r2)) (.k (-1:Int))
def zbw (s:List ColumnStats) (f:Stats):Bool×Int:=(zdX s f).fin default
def zdx (r:Int):ARes ty:=⟨[.pure (.lit (.int .i64 r))],[]⟩
def zd0:AL base (List ColumnStats×(Stats×Unit)×Unit):=zg (zh (vSl 43)) (zg (zh (vFn 42 (zr7 (zvo 30) vNil))) aNil)
def zdo:Ab.Spec ty:=zl zd0 fun x=>((zbw x.1 x.2.1.1).1,zdx (zbw x.1 x.2.1.1).2)
theorem zhL:Sound Tryz.prog base 82 zdo:=
 zt (cx':=zdM) zG zn zD (zw ⟨zjj,trivial⟩) Tryz.call82 Tryz.func82 (c:=body Tryz.f82) (by kernel_rfl) (zi (l:=[lp (body Tryz.f82) 0]) (by kernel_rfl) ⟨zh1,trivial⟩) (sg:=⟨[.pure],[]⟩) (A:=zd0) (res:=zdx) (W:=fun x=>zdX x.1 x.2.1.1) (z:=default)
def zhI:Cx ty:=mkCx base 9 [(42,zhn),(82,zdo)] [] [] [] [] []
def zbZ (s:List ColumnStats) (f:Stats):Wy0 (Bool):=.bn (zbw s f) fun r0=>.k (decide (r0≥0))
def zba (s:List ColumnStats) (f:Stats):Bool×Bool:=(zbZ s f).fin default
def zdc (r:Bool):ARes ty:=⟨[.pure (.lit (.bool r))],[]⟩
def zdq:AL base (List ColumnStats×(Stats×Unit)×Unit):=zg (zh (vSl 43)) (zg (zh (vFn 42 (zr7 (zvo 30) vNil))) aNil)
def zc7:Ab.Spec ty:=zl zdq fun x=>((zba x.1 x.2.1.1).1,zdc (zba x.1 x.2.1.1).2)
theorem zha:Sound Tryz.prog base 41 zc7:=
 zt (cx':=zhI) zG zn zD (zw ⟨zjj,zhL,trivial⟩) Tryz.call41 Tryz.func41 (c:=body Tryz.f41) (by kernel_rfl) (zi (l:=[]) (by kernel_rfl) trivial) (sg:=⟨[.pure],[]⟩) (A:=zdq) (res:=zdc) (W:=fun x=>zbZ x.1 x.2.1.1) (z:=default)
def zAR:Cx ty:=mkCx base 24 [(41,zc7),(42,zhn)] [] [] [] [] []
def znN (s:Stats):Wy0 (Bool):=.i (decide (s.Rows≥0)) (.i (decide (s.Rows≤1000000)) (.i (decide (Int.ofNat s.Columns.length≤16)) (.bn (zba s.Columns s) fun r0=>.k (!r0)) (.k false)) (.k false)) (.k false)
def zh2 (s:Stats):Bool×Bool:=(znN s).fin default
def zrY (r:Bool):ARes ty:=⟨[.pure (.lit (.bool r))],[]⟩
def zud:AL base (Stats×Unit):=zg (zh (vAgg 30)) aNil
def ziB:Ab.Spec ty:=zl zud fun x=>((zh2 x.1).1,zrY (zh2 x.1).2)
theorem zkN:Sound Tryz.prog base 15 ziB:=
 zt (cx':=zAR) zG zn zD (zw ⟨zha,zjj,trivial⟩) Tryz.call15 Tryz.func15 (c:=body Tryz.f15) (by kernel_rfl) (zi (l:=[]) (by kernel_rfl) trivial) (sg:=⟨[.pure],[]⟩) (A:=zud) (res:=zrY) (W:=fun x=>znN x.1) (z:=default)
def zoY (m b:Int):Bool×ByteArray:=zoe m b
def strconv_FormatInt_spec:Ab.Spec ty:=zl (cx:=base) (zg (zh (vInt .i64)) (zg (zh (vInt .i64)) aNil)) fun x=>((zoY x.1 x.2.1).1,⟨[.pure (.lit (.string (zoY x.1 x.2.1).2))],[]⟩)
theorem zwQ:Sound Tryz.prog base 94 strconv_FormatInt_spec:=zEp zn Go.Proofs.Tryz.laysM173 Tryz.call94 (fun _ h=>h.1)
def strings_ReplaceAll (s p q:ByteArray):Bool×ByteArray:=zmY s p q
def strings_ReplaceAll_spec:Ab.Spec ty:=zl (cx:=base0) (zg (zh vStr) (zg (zh vStr) (zg (zh vStr) aNil))) fun x=>((strings_ReplaceAll x.1 x.2.1 x.2.2.1).1,⟨[.pure (.lit (.string (strings_ReplaceAll x.1 x.2.1 x.2.2.1).2))],[]⟩)
theorem zwi:Sound Tryz.prog base0 95 strings_ReplaceAll_spec:=zDg zsZ rfl Go.Proofs.Tryz.lays155 Go.Proofs.Tryz.Builder_Extra_155 Tryz.call95 (fun _ h=>h.2)
def zDG:Cx ty:=mkCx base0 27 [(83,zgV),(94,strconv_FormatInt_spec),(95,strings_ReplaceAll_spec)] [] [] [] [] []
def zy5 (v:Value):Wy0 (ByteArray):=.bn (zgt v) fun r2=>.i (!r2) (.k (ByteArray.mk #[])) (.i (v.Kind==0) (.bn (zoY v.Int 10) fun r0=>.k r0) (.i (v.Kind==1) (.bn (strings_ReplaceAll v.Text (ByteArray.mk #[(39:UInt8)]) (ByteArray.mk #[(39:UInt8),(39:UInt8)])) fun r1=>.i (decide ((ByteArray.mk #[(39:UInt8)]).size+r1.size≤9223372036854775807)) (.i (decide ((ByteArray.mk #[(39:UInt8)]++r1).size+(ByteArray.mk #[(39:UInt8)]).size≤9223372036854775807)) (.k (ByteArray.mk #[(39:UInt8)]++r1++ByteArray.mk #[(39:UInt8)])) .d) .d) (.i (v.Int==1) (.k (ByteArray.mk #[(84:UInt8),(82:UInt8),(85:UInt8),(69:UInt8)])) (.k (ByteArray.mk #[(70:UInt8),(65:UInt8),(76:UInt8),(83:UInt8),(69:UInt8)])))))
def znV (v:Value):Bool×ByteArray:=(zy5 v).fin default
def zwo (r:ByteArray):ARes ty:=⟨[.pure (.lit (.string r))],[]⟩
def zyc:AL base0 (Value×Unit):=zg (zh (vAgg 40)) aNil
def zuR:Ab.Spec ty:=zl zyc fun x=>((znV x.1).1,zwo (znV x.1).2)
theorem zB1:Sound Tryz.prog base0 53 zuR:=
 zt (cx':=zDG) zG zsZ zD (zw ⟨zhu.nodr,zwQ.nodr,zwi,trivial⟩) Tryz.call53 Tryz.func53 (c:=body Tryz.f53) (by kernel_rfl) (zi (l:=[]) (by kernel_rfl) trivial) (sg:=⟨[.pure],[]⟩) (A:=zyc) (res:=zwo) (W:=fun x=>zy5 x.1) (z:=default)
end Go.Proofs.YtddkaehkimnklaaGreatDoor
end
