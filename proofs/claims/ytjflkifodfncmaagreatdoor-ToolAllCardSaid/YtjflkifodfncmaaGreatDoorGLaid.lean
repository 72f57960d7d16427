/- GArg, GLaid: these texts in one. Conditions: each theorem names its own. -/
import Derived.ProofKit
import Derived.OpenShut
import Derived.Deep.Slices
import Derived.Test.YtjflkifodfncmaaGreatDoorRows
import Derived.Test.YtjflkifodfncmaaGreatDoorGExp
import Derived.LaidMore
import Derived.Stop.Joined
import Derived.Stop.LaidErr
import Derived.Lib.LaidTab
namespace Go.Proofs.YtjflkifodfncmaaGreatDoor
set_option maxHeartbeats 1000000
set_option maxRecDepth 100000
open Go.ChangeShapes Go.WideShapes Go.ChangeAt Go.RowKit
theorem ownTry:ownKnob Tryz.prog.godebug=none:=by kernel_rfl
theorem laidTry:laidOutB Tryz.prog=true:=by kernel_rfl
theorem shutTrue{H:Type}{enc:TypeId × Value->H}{W:World}{base:Nat}{sp:Nat->Bool}{held:Bool}:DataW.Trod enc Tryz.prog W base sp held 4 (.bool true) (.lit (.bool true)) []:=⟨1,by simp[DataW.trod,Value.cells,Tryz.underlying4]⟩
theorem u32_inw{n:Int}(h:(Lit.int .u32 n).wf=true):∃a:BitVec 32,n=uv a:=by
 have h1:IntKind.u32.min=0:=rfl
 have h2:IntKind.u32.max=4294967295:=rfl
 simp only[Lit.wf,Bool.and_eq_true,decide_eq_true_eq]at h
 exact⟨BitVec.ofInt 32 n,(uv_ofInt n (by omega) (by omega)).symm⟩
theorem choose_row{α:Type}{Q:Nat->α->Prop}:∀{m:Nat},(∀i,i<m->∃x,Q i x)->∃l:List α,l.length=m/\∀i x,l[i]? =some x->Q i x
 |0,_=>⟨[],rfl,fun i x h=>by cases h⟩
 |m+1,h=>by
  obtain⟨l,h1,h2⟩:=choose_row (m:=m) fun i hi=>h i (by omega)
  obtain⟨y,hy⟩:=h m (by omega)
  refine⟨l++[y],by simp[h1],fun i x hx=>?_⟩
  rcases Nat.lt_or_ge i l.length with g|g
  ·rw[List.getElem?_append_left g]at hx;exact h2 i x hx
  ·rw[List.getElem?_append_right g]at hx
   have:i-l.length=0:=by
    have:=(List.getElem?_eq_some_iff.1 hx).1
    simp at this;omega
   rw[this]at hx
   simp at hx;subst hx
   rw[show i=m by omega];exact hy
theorem trod_nums{H:Type}{enc:TypeId × Value->H}{w:World}{held:Bool}{fuel:Nat}{cs:List Value}{x:DataW H × List MemPlace}{t e:TypeId}{k:IntKind}(ht:Tryz.prog.underlying t=some (.slice e))(he:Tryz.prog.underlying e=some (.int k))(hc:Tryz.prog.cellsOf e=1)
 (hf:DataW.trod enc Tryz.prog w 0 (fun _=>true) held fuel t cs=some x):∃(v:Value) (l:List Int),cs=[v]/\Reads w 1 v l.length (l.map (.int k))/\∀x∈l,(Lit.int k x).wf=true:=by
 rcases Go.Deep.open_slice1 ht hc hf with⟨hcs,_⟩|⟨a,len,cap,m,n,V,D,Pl,hcs,hb,hl,hm,hmm,hx,hel⟩
 ·exact⟨_,[],hcs,Reads.nil w 1,fun r hr=>by cases hr⟩
 ·simp only[if_true]at hmm
  have hch:∀i,i<len->∃q:Int,w.cell? (a.add i)=some (.int k q)/\(Lit.int k q).wf=true:=fun i hi=>by
   obtain⟨h1,h2⟩:=hel i (by omega)
   obtain⟨q,e1,_,wq⟩:=DataW.trod_int he h2
   simp only[List.cons.injEq,and_true]at e1
   rw[e1]at h1
   exact⟨q,h1,wq⟩
  obtain⟨qs,hql,hqs⟩:=choose_row hch
  refine⟨_,qs,hcs,⟨by simp,some a,cap,by rw[hql],by omega,hm,fun h=>(by cases h),fun b hb2=>?_⟩,fun l hl=>?_⟩
  ·cases hb2
   have hspot:qs=[]\/a.spot=none:=by
    by_cases e:qs=[]
    ·exact .inl e
    ·have hil:0<qs.length:=List.length_pos_iff.2 e
     obtain⟨h1,_⟩:=hqs 0 _ (gE hil)
     exact .inr (by simpa[Addr.add]using World.cell?_spot h1)
   rcases hspot with hn|hspot
   ·subst hn
    exact⟨.inr rfl,fun j u hj=>by simp at hj⟩
   refine⟨.inl hspot,fun j u hj=>?_⟩
   rw[List.getElem?_map]at hj
   obtain⟨q,hq,rfl⟩:=Option.map_eq_some_iff.1 hj
   obtain⟨h1,_⟩:=hqs j q hq
   obtain⟨ab,ao,asp⟩:=a
   simp only at hspot
   subst hspot
   rw[add_plain]at h1
   exact h1
  ·obtain⟨i,hi,rfl⟩:=List.mem_iff_getElem.1 hl
   exact(hqs i _ (gE hi)).2
abbrev laidL{H : Type} : List (String × DataW H) := [("math/bits.deBruijn32tab", Rows.laid_math_bits_deBruijn32tab), ("math/bits.deBruijn64tab", Rows.laid_math_bits_deBruijn64tab), ("internal/strconv.uint64pow10", Rows.laid_internal_strconv_uint64pow10), ("theseus/tool.words", Rows.laid_theseus_tool_words)]
theorem door_met(os:Os)(args:Array Value):laidMetH Tryz.prog laidL ((World.doorLaid Tryz.prog 24 os).forCall (fun _ _=>0) ⟨#[],args,[]⟩).memory:=
 laidMetH_of_parts3 (fuel:=8) (laidMet_of_run' 8 (by kernel_rfl) (by kernel_rfl)) (by kernel_rfl) (by kernel_rfl)
theorem gPowW : ∃ g, (Tryz.prog.globalNamed "internal/strconv.uint64pow10") = some g /\ (Tryz.prog.globals[g]?).map (·.type) = some 244 := by
  have h : ((Tryz.prog.globalNamed "internal/strconv.uint64pow10").bind fun g => (Tryz.prog.globals[g]?).map (·.type)) = some 244 := by kernel_rfl
  cases hg : Tryz.prog.globalNamed "internal/strconv.uint64pow10" with
  |none=>rw[hg]at h;cases h
  |some g=>rw[hg]at h;exact⟨g,rfl,h⟩
theorem tab_of_laid{W:World}(h:laidMetH Tryz.prog laidL W):Tab10 W:=by
 rw[MakeChecks.laidMetH_plain _ _ _ (by kernel_rfl)]at h
 have h2:=h.tail.tail
 obtain⟨g,hg,hty⟩:=gPowW
 exact Lib.tabIs_of_head (g:=g) (t:=244) (e:=215) (n:=20) hg hty Tryz.underlying244 Tryz.underlying215 (by kernel_rfl) (by kernel_rfl) h2
theorem cells_of_strs{H:Type}{enc:TypeId × Value->H}{P:Program}{w:World}{base:Nat}{sp:Nat->Bool}{held:Bool}{fuel:Nat}{t e:TypeId}{n:Nat}{cs:List Value}{ls:List (List UInt8)}{p:List MemPlace}
 (ht:P.underlying t=some (.array n e)) (he:P.underlying e=some .string) (hce:P.cellsOf e=1) (hct:P.cellsOf t=n)
 (h:DataW.trod enc P w base sp held fuel t cs=some (.agg (ls.map fun l=>.lit (.string l)),p)):cs=ls.map S:=by
 cases fuel with
 |zero=>simp[DataW.trod]at h
 |succ fuel=>
  simp only[DataW.trod,ht,hce,hct,Nat.mul_one]at h
  split at h
  ·rename_i hl
   obtain⟨xs,hm,hx⟩:=Option.map_eq_some_iff.1 h
   have hxs:xs.map (·.1)=ls.map fun l=>(DataW.lit (.string l):DataW H):=by
    have:=congrArg Prod.fst hx
    simpa using this
   have hxl:xs.length=n:=by simpa using Lib.mapM_length hm
   have hzl:ls.length=n:=by
    have:=congrArg List.length hxs
    simp at this
    omega
   apply List.ext_getElem?
   intro i
   by_cases hi:i<n
   ·obtain⟨b,hb,hf⟩:=Lib.mapM_at hm i i (by simp[hi])
    obtain⟨s,hc,rfl,_⟩:=DataW.trod_string he hf
    have h1:cs[i]? =some (.string s):=by
     have:=congrArg (·[0]?) hc
     simpa[List.getElem?_take,List.getElem?_drop]using this
    have h2:(xs.map (·.1))[i]? =some (DataW.lit (.string s.data.toList):DataW H):=by simp[hb]
    rw[hxs]at h2
    simp only[List.getElem?_map,Option.map_eq_some_iff,DataW.lit.injEq,Lit.string.injEq]at h2
    obtain⟨l,hl',hll⟩:=h2
    subst hll
    simp[h1,hl',S]
   ·rw[List.getElem?_eq_none (by omega),List.getElem?_eq_none (by simp;omega)]
  ·cases h
theorem words_of_laid{W:World}(h:laidMetH Tryz.prog laidL W):Words W:=by
 rw[MakeChecks.laidMetH_plain _ _ _ (by kernel_rfl)]at h
 have h2:=h.tail.tail.tail
 obtain⟨ps,⟨g',t',cs,fuel,p,q,hg',ht',hvar,hd,_,_⟩,_⟩:=h2
 obtain rfl:=Option.some.inj (gWords.symm.trans hg')
 obtain rfl:=Option.some.inj ((show(Tryz.prog.globals[0]?).map (·.type)=some 104 by kernel_rfl).symm.trans ht')
 unfold Words
 rw[hvar,<-cells_of_strs (ls:=wordL) Tryz.underlying104 Tryz.underlying9 (by kernel_rfl) (by kernel_rfl) hd]
theorem byt_wf{x:Int}(h:(Lit.int .u8 x).wf=true):yv (byt x.toNat)=x:=by
 have h1:IntKind.u8.min=0:=rfl
 have h2:IntKind.u8.max=255:=rfl
 simp only[Lit.wf,Bool.and_eq_true,decide_eq_true_eq]at h
 rw[yv_byt]
 omega
theorem open_bytes{H:Type}{enc:TypeId × Value->H}{w:World}{held:Bool}{v:Value}{d:DataW H}{p:List MemPlace}{r:Reach}{b0:Nat}(hval:Value.okWide Tryz.prog w r b0 22 v)(h:DataW.Trod enc Tryz.prog w 0 (fun _=>true) held 22 v d p):∃l:List Byt,BsAt w v l:=by
 obtain⟨a0,len,cap,rfl⟩:=okWide_slice Tryz.underlying22 hval
 obtain⟨fuel,hf⟩:=h
 obtain⟨u,l,hc,h1,h2⟩:=trod_nums Tryz.underlying22 Tryz.underlying5 (by kernel_rfl) hf
 simp[Value.cells]at hc
 subst hc
 refine⟨l.map fun x=>byt x.toNat,?_⟩
 have e:ycells (l.map fun x=>byt x.toNat)=l.map (.int .u8):=by
  unfold ycells
  rw[List.map_map]
  refine List.map_congr_left fun x hx=>?_
  show Value.int .u8 (yv (byt x.toNat))=_
  rw[byt_wf (h2 x hx)]
 unfold BsAt
 rw[List.length_map,e]
 exact h1
end Go.Proofs.YtjflkifodfncmaaGreatDoor
