/- Texts of this claim, joined (the program as a whole, and the law of one row). -/
import Derived.Stop.LaidErr
import Derived.Shelf.Vars
import Derived.Test.YtnolcogncjijpaaGreatDoorRows
import Derived.Test.YtnolcogncjijpaaGreatDoorGC1
set_option autoImplicit false
set_option linter.unusedVariables false
set_option linter.unusedSectionVars false
set_option linter.unusedSimpArgs false
set_option maxRecDepth 1000000
set_option maxHeartbeats 0
/- A world in which the row's condition holds; what the program's rows share. -/
noncomputable section
namespace Go.Proofs.YtnolcogncjijpaaGreatDoor
open Go Go.Ab Go.Lib
open Go.Proofs.Tryz
theorem own:ownKnob Tryz.prog.godebug=none:=by kernel_rfl
theorem zZG:laidOutB Tryz.prog=true:=by kernel_rfl
def z07:DataW Unit->Go.Value
 | .lit (.int k n)=>.int k n
 | .lit (.bool b)=>.bool b
 | .lit (.string s)=>.string ⟨s.toArray⟩
 | _=>undef
def zYi:Nat->DataW Unit->List Go.Value
 | n+1,.agg ds=>ds.flatMap (zYi n)
 | _,d=>[z07 d]
def cellsOf (d:DataW Unit):Array Go.Value:=(zYi 3 d).toArray
def zRj (h:Array Obj) (g:Nat) (cs:Array Go.Value):Array Obj:=h.modify g fun
 | .cells _ t fr=>.cells cs t fr
 | o=>o
noncomputable def zSP (os:Os):World:=
 let w0:=World.holding Tryz.prog os ⟨#[],#[],[]⟩
 { w0 with heap:=zRj (zRj (zRj (zRj (zRj (w0.heap) 2 (cellsOf Rows.laid_math_bits_deBruijn32tab)) 3 (cellsOf Rows.laid_math_bits_deBruijn64tab)) 1 (cellsOf Rows.laid_internal_strconv_uint64pow10)) 5 (cellsOf Rows.laid_unicode_utf8_acceptRanges)) 4 (cellsOf Rows.laid_unicode_utf8_first) }
def zys:List (String×DataW Unit):=[("math/bits.deBruijn32tab",Rows.laid_math_bits_deBruijn32tab),("math/bits.deBruijn64tab",Rows.laid_math_bits_deBruijn64tab),("internal/strconv.uint64pow10",Rows.laid_internal_strconv_uint64pow10),("unicode/utf8.acceptRanges",Rows.laid_unicode_utf8_acceptRanges),("unicode/utf8.first",Rows.laid_unicode_utf8_first)]
theorem zTb (os:Os) (args:Array Go.Value):laidMetH Tryz.prog zys ((zSP os).forCall (λ_ _=>0) ⟨#[],args,[]⟩).memory:=
 laidMetH_of_parts (laidMet_of_run3 8 (by kernel_rfl) (by kernel_rfl) (by kernel_rfl)) (by kernel_rfl)
theorem zX7 {w:World} (h:laidMetH Tryz.prog zys w):laidMet Tryz.prog zys w:=by
 unfold laidMetH at h;rw [show (zys.filter λx=>x.2.handleName?.isSome)=[] by kernel_rfl] at h
 exact h
theorem z0r (w:World) (hsh:w.ShapedOpen Tryz.prog) (h:laidMetH Tryz.prog zys w):base.inv w/\base.ng<=w.heap.size:=by
 have h:=zX7 h
 have h1:TabIs Tryz.prog w "internal/strconv.uint64pow10" .u64 pow10Tab:=
  tabIs_of_head (g:=1) (by kernel_rfl) (by kernel_rfl) underlying199 underlying178 (by kernel_rfl) (by kernel_rfl) h.tail.tail
 have h4:=cell_of_shapedOpen_int (g:=0) (t:=3) (zero:=#[.int .i64 0]) hsh (of_decide_eq_true (by kernel_rfl)) (by kernel_rfl) rfl (by kernel_rfl) (by kernel_rfl) underlying3
 obtain ⟨ps,⟨g',t',cs,fuel,p,q,hg',_,hvar,_⟩,_⟩:=h.tail;refine ⟨⟨h1,h4⟩, ?_⟩;unfold World.var? at hvar
 rw [show Tryz.prog.globalNamed "math/bits.deBruijn64tab"=some 3 by kernel_rfl] at hvar
 simp only [Option.bind_some] at hvar;show 4<=w.heap.size;cases hh:w.heap[3]? with
 | none=>rw [hh] at hvar; cases hvar
 | some o=>exact (Array.getElem?_eq_some_iff.1 hh).1
end Go.Proofs.YtnolcogncjijpaaGreatDoor
end
