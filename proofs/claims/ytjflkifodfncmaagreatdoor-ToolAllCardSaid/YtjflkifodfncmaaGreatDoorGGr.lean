/- GNetW, GR15, GGr: these texts in one. Conditions: each theorem names its own. -/
import Derived.RangeFuncNested
import Derived.RangeFuncBound
import Derived.RangeFuncCalls
import Derived.RangeFuncLeaves
import Derived.RangeFuncWrites
import Derived.Shelf.Abstract
import Derived.Shelf.RegionOpen
import Derived.WalkKit
import Derived.OwnWalkIn
import Derived.TacticsInMore
import Derived.LoopNIn
import Derived.LoopIn
import Derived.Test.YtjflkifodfncmaaGreatDoorGPl
import Derived.Deep.LoopGhost
import Derived.Maps.OwnIn
import Derived.Maps.AppendAt
namespace Go.Proofs.YtjflkifodfncmaaGreatDoor
set_option maxHeartbeats 4000000
set_option maxRecDepth 100000
open Go.RowKit Go.Shelf
theorem Ext.putObj{a w:World}(h:Ext a w){l:Nat}(hl:a.heap.size<=l)(o:Obj):Ext a (w.putObj l o):=
 Below.trans h ((Below.refl a.heap.size w).grown (grownBy_putObj' w l o) h.size (fun k e=>by cases e;exact hl))
structure Bears(L:Nat)(I:World->Prop):Prop where
 later:∀A B,I A->Ext A B->I B
 put:∀A l o o',I A->L<=l->A.heap[l]? =some o->o.isCells=false->I (A.putObj l o')
theorem Bears.and{L:Nat}{I J:World->Prop}(h:Bears L I)(k:Bears L J):Bears L fun W=>I W/\J W:=
 ⟨fun A B hi hx=>⟨h.later A B hi.1 hx,k.later A B hi.2 hx⟩,fun A l o o' hi hl ho hc=>⟨h.put A l o o' hi.1 hl ho hc,k.put A l o o' hi.2 hl ho hc⟩⟩
theorem Bears.ex{α:Type}{L:Nat}{I:α->World->Prop}(h:∀x,Bears L (I x)):Bears L fun W=>∃x,I x W:=
 ⟨fun A B ⟨x,hx⟩ hX=>⟨x,(h x).later A B hx hX⟩,fun A l o o' ⟨x,hx⟩ hl ho hc=>⟨x,(h x).put A l o o' hx hl ho hc⟩⟩
theorem heap_setB{A:World}{p:Addr}{u:Value}{k:Nat}(h:p.block≠k):(A.setCell p u).heap[k]? =A.heap[k]?:=by
 simp[World.setCell,Array.getElem?_modify,h]
theorem Ext.heap{A B:World}(h:Ext A B){k:Nat}(hk:k<A.heap.size):B.heap[k]? =A.heap[k]?:=h.block k hk
def Held(L:Nat)(A:World):Prop:=(∃o,A.heap[L]? =some o/\o.isCells=false)/\∃o,A.heap[L+1]? =some o/\o.isCells=false
theorem Held.lt{L:Nat}{A:World}(h:Held L A):L+1<A.heap.size:=let ⟨_,h1,_⟩:=h.2;(Array.getElem?_eq_some_iff.1 h1).1
theorem Held.later{L:Nat}{A B:World}(h:Held L A)(hx:Ext A B):B.heap[L]? =A.heap[L]?/\B.heap[L+1]? =A.heap[L+1]?:=
 ⟨hx.heap (Nat.lt_of_succ_lt h.lt),hx.heap h.lt⟩
theorem held_ne{L b:Nat}{A:World}{o:Obj}(h:A.heap[L]? =some o)(ho:o.isCells=false){cs:List Value}{T:TypeId}(hb:Blk A b cs T):b≠L:=fun e=>by
 unfold Blk at hb
 rw[e,h]at hb
 cases hb
 simp[Obj.isCells]at ho
theorem Held.set{L b:Nat}{A:World}(h:Held L A){cs:List Value}{T:TypeId}(hb:Blk A b cs T)(i:Nat)(u:Value):(A.setCell ⟨b,i,none⟩ u).heap[L]? =A.heap[L]?/\(A.setCell ⟨b,i,none⟩ u).heap[L+1]? =A.heap[L+1]?:=
 let⟨⟨_,h1,h2⟩,⟨_,h3,h4⟩⟩:=h
 ⟨heap_setB (held_ne h1 h2 hb),heap_setB (held_ne h3 h4 hb)⟩
theorem own_ne{A:World}{B:Nat}{e:TypeId}{s:Nat}{v:Value}{n:Nat}{xs:List Value}(ho:A.ownsRow B e s v n xs){L:Nat}{o:Obj}(h:A.heap[L]? =some o)(hc:o.isCells=false):some L≠v.ownBlock:=fun he=>by
 rcases ho.2 with⟨rfl,_⟩|⟨g,cap,cur,rfl,_,hg,_⟩
 ·simp[Value.ownBlock]at he
 ·simp only[Value.ownBlock,Option.some.injEq]at he
  rw[he]at h
  rw[hg]at h
  cases h
  simp[Obj.isCells]at hc
theorem Held.grown{L:Nat}{A C:World}(h:Held L A){B:Nat}{e:TypeId}{s:Nat}{v:Value}{n:Nat}{xs:List Value}(ho:A.ownsRow B e s v n xs)(hg:A.grownBy C v.ownBlock):C.heap[L]? =A.heap[L]?/\C.heap[L+1]? =A.heap[L+1]?:=
 let⟨⟨_,h1,h2⟩,⟨_,h3,h4⟩⟩:=h
 ⟨hg.block L (Nat.lt_of_succ_lt h.lt) (own_ne ho h1 h2),hg.block (L+1) h.lt (own_ne ho h3 h4)⟩
def toPost(L:Nat)(I:Nat->World->Prop)(Ix:Code->World->Prop)(k:Nat)(A:World):Exit->Act->World->Prop
 | .normal,_,B=>(B.heap[L]? =A.heap[L]?/\B.heap[L+1]? =A.heap[L+1]?)/\I (k+1) B
 | .ret,_,B=>(B.heap[L]? =A.heap[L]?/\B.heap[L+1]? =A.heap[L+1]?)/\Ix .ret B
 | .exit id,_,B=>(B.heap[L]? =A.heap[L]?/\B.heap[L+1]? =A.heap[L+1]?)/\Ix (.exit id) B
 | .goto t,_,B=>(B.heap[L]? =A.heap[L]?/\B.heap[L+1]? =A.heap[L+1]?)/\Ix (.goto t) B
 | .panic _,_,_=>False
 | .outgrown,_,_=>False
def SeqTo(P:Program)(gf:Nat)(lb:Array Value)(xs:Nat->Value)(S:Nat->Prop)(I:Nat->World->Prop):Prop:=
 ∀(l:Nat) (J:Nat->World->Prop) (Jx:World->Prop) (W:World),(∀k A,J k A->I k A)->(∀k A B,J k A->Ext A B->J k B)->(∀A B,Jx A->Ext A B->Jx B)->
  (∀k A,J k A->¬S k->YieldAt Fence.wide 7 P l #[xs k] A fun e B=>(e=.returned (.bool true)/\J (k+1) B)\/(e=.returned (.bool false)/\Jx B))->J 0 W->
  CallsIn Fence.wide 8 P gf (#[.func (.yield l) #[] #[]]++lb) W fun e B=>(∃v,e=.returned v)/\((∃k,S k/\J k B)\/Jx B)
def OnN(Q:Exit->Act->World->Prop):Exit->Act->World->Prop:=fun e a w=>e=.normal/\Q e a w
section
variable {P:Program} {ops:Array Oper} {Q:Exit->Act->World->Prop} {l m:Nat}
def noDefer:Op->Bool
 | .defer _=>false
 |_=>true
end
attribute [local go_sem] Oper.semAt_some
structure StepBox(A:World)(nb ab vb:Nat)(lv:Value)(ls:List (List Rul))(a:BitVec 32)(x:Int):Prop where
 net:Blk A nb [lv] 43
 addr:Blk A ab [U a] 23
 node:Blk A vb [I x] 3
 tab:TablesAt A lv ls
def stR(ls:List (List Rul))(a:BitVec 32)(x:Int)(M:Nat)(J:Nat->World->Prop)(n:Nat)(wv okv:Value)(wr:World):Prop:=
 ∃k:Nat,n=M-k/\wv=I ((stepN ls a (itv (vecV ls a) k x)).getD 0)/\okv=.bool (stepN ls a (itv (vecV ls a) k x)).isSome/\J k wr
attribute [local go_sem] Oper.semAt_some
attribute [local go_sem] Oper.semAt_some
theorem own_setB{W:World}{B:Nat}{e:TypeId}{s:Nat}{v:Value}{n:Nat}{xs:List Value}(h:W.ownsRow B e s v n xs){b:Nat}{cs:List Value}{T:TypeId}(hb:Blk W b cs T)(hT:T≠e)(i:Nat)(u:Value):(W.setCell ⟨b,i,none⟩ u).ownsRow B e s v n xs:=by
 obtain⟨h0,h1⟩:=h
 refine⟨h0,?_⟩
 rcases h1 with h1|⟨g,cap,cur,h1,h2,h3,h4⟩
 ·exact .inl h1
 ·refine .inr ⟨g,cap,cur,h1,h2,?_,h4⟩
  rw[heap_setB (by
   intro e'
   unfold Blk at hb
   have e2:b=g:=e'
   rw[e2,h3]at hb
   cases hb
   exact hT rfl)]
  exact h3
attribute [local go_sem] Oper.semAt_some
def BackIs(v:List Int)(u:Nat)(s s':List Int)(k:Nat)(y:Int)(ok:Bool):Prop:=
 Wlk v u s s' k/\0<k/\((itv v k u= -1/\y=0/\ok=false)\/(y=itv v k u/\isN v y/\mkv s' y≠0/\ok=(mkv s' y==(u:Int)+1)))
theorem minOf_mem:∀{zs:List Int} {k:Nat},0<k->k<=zs.length->Lib.minOf (zs.take k)∈zs.take k
 |zs,1,_,h=>by
  rw[Lib.minOf_one]
  cases zs with
  |nil=>simp at h
  |cons z t=>simp
 |zs,k+2,_,h=>by
  rw[Lib.minOf_step zs (k+1) (Nat.succ_pos k) (by omega)]
  have ih:=minOf_mem (zs:=zs) (k:=k+1) (Nat.succ_pos k) (by omega)
  have hs:zs.take (k+2)=zs.take (k+1)++[zs.getD (k+1) 0]:=by
   rw[List.take_succ_eq_append_getElem (by omega),List.getD_eq_getElem?_getD,gE (by omega)];rfl
  rw[hs,List.mem_append,List.mem_singleton]
  rcases Int.le_total (Lib.minOf (zs.take (k+1))) (zs.getD (k+1) 0)with g|g
  ·rw[Int.min_eq_left g];exact .inl ih
  ·rw[Int.min_eq_right g];exact .inr rfl
theorem minOf_le:∀{zs:List Int} {k:Nat},0<k->k<=zs.length->∀z∈zs.take k,Lib.minOf (zs.take k)<=z
 |zs,1,_,h,z,hz=>by
  rw[Lib.minOf_one]
  cases zs with
  |nil=>simp at h
  |cons y t=>simp at hz;simp[hz]
 |zs,k+2,_,h,z,hz=>by
  rw[Lib.minOf_step zs (k+1) (Nat.succ_pos k) (by omega)]
  have ih:=minOf_le (zs:=zs) (k:=k+1) (Nat.succ_pos k) (by omega)
  have hs:zs.take (k+2)=zs.take (k+1)++[zs.getD (k+1) 0]:=by
   rw[List.take_succ_eq_append_getElem (by omega),List.getD_eq_getElem?_getD,gE (by omega)];rfl
  rw[hs,List.mem_append,List.mem_singleton]at hz
  rcases hz with hz|hz
  ·exact Int.le_trans (Int.min_le_left _ _) (ih z hz)
  ·rw[hz];exact Int.min_le_right _ _
theorem minOf_all{zs:List Int}(h:0<zs.length):Lib.minOf (zs.take zs.length)∈zs/\∀z∈zs,Lib.minOf (zs.take zs.length)<=z:=by
 have h1:=minOf_mem h (Nat.le_refl _)
 have h2:=minOf_le h (Nat.le_refl _)
 rw[List.take_length]at*
 exact⟨h1,h2⟩
theorem minInts_any(u:Value)(l:List Int)(w:World)(h:IntsAt w u l)(hl:0<l.length)(hb:l.length<=9223372036854775807):
 Calls Tryz.prog 97 #[u] w fun e w'=>e=.returned (I (Lib.minOf (l.take l.length)))/\w'=w:=by
 obtain⟨a,cap,rfl,a1,a2,a3⟩:=h.form
 obtain⟨b,o,he,-⟩:=a3 0 _ (gE hl)
 subst he
 refine Tryz.slices_Min_int b o l.length cap l w hl (Nat.le_refl _) hb fun j hj=>?_
 obtain⟨b',o',he,hc⟩:=a3 j _ (gE hj)
 cases he
 rw[hc,List.getD_eq_getElem?_getD,gE hj];rfl
def LoopOut(v:List Int)(w:World)(e:Ending)(w':World):Prop:=
 ∃(u:Value) (l:List Int) (b:Bool),e=.returned (.tuple #[u,.bool b])/\LoopIs v l/\(b=true↔l≠[])/\OwnI w' w.heap.size u l/\Ext w w'
theorem r13May_any(va:Value)(la:List Int)(w:World)(ha:IntsAt w va la):
 Calls Tryz.prog 156 #[va] w fun e w'=>e=.returned (I (vmayV la))/\Ext w w':=by
 obtain⟨a,cap,rfl,a1,a2,a3⟩:=ha.form
 have A3:=Hd a3
 clear a3
 unfold maxLen at a2
 go_enter Tryz.func156,Tryz.ntmps156
 go_wp2_with fail
 go_loopw[3] (fun i wr=>∃k:Nat,k<=la.length/\i=I k/\Hid (mayG la.length (la.drop k)=vmayV la)/\Ext w wr) (fun i _=>la.length-(intOf i).toNat)
 case atStart=>exact⟨0,by omega,rfl,rfl,eR w⟩
 case round=>
  obtain⟨k,hk,rfl,HG,hx⟩:=hrel
  by_cases hlt:k<la.length
  ·obtain⟨b0,o0,rfl,p0⟩:=A3.out k la[k] (gE hlt)
   replace p0:=hx.cell p0
   have HS:=Hd (mayG_step (n:=la.length) hlt)
   rw[HG.out]at HS
   clear HG
   by_cases h1:la[k]< -1
   ·have hd:decide (la[k]< -1)=true:=dT h1
    have HS2:=Hd (HS.out.trans (if_pos (.inl h1)))
    clear HS h1
    go_wp2_with fail
    go_ret
    exact⟨ret_int HS2.out.symm,hx⟩
   ·have hd:decide (la[k]< -1)=false:=dF h1
    by_cases h2:(la.length:Int)<=la[k]
    ·have hd2:decide ((la.length:Int)<=la[k])=true:=dT h2
     have HS2:=Hd (HS.out.trans (if_pos (.inr h2)))
     clear HS h1 h2
     go_wp2_with fail
     go_ret
     exact⟨ret_int HS2.out.symm,hx⟩
    ·have hd2:decide ((la.length:Int)<=la[k])=false:=dF h2
     have HS2:=Hd (HS.out.trans (if_neg (by omega)))
     clear HS h1 h2
     go_wp2_with fail
     go_roundw
     case rel=>exact⟨k+1,by omega,by go_num,HS2.out.symm,hx⟩
     case measure=>simp[intOf];omega
  ·have HE:=Hd (HG.out.symm.trans (mayG_end (n:=la.length) (v:=la) (k:=k) (by omega)))
   go_wp2_with fail
   go_ret
   exact⟨ret_int HE.out.symm,hx⟩
theorem vok_may{v:List Int}(h:VOk v):vmayV v=0:=mayG_zero h
theorem r15May_any(va:Value)(v:List Int)(w:World)(hv:IntsAt w va v)(hok:VOk v)(hl:v.length<=256):
 Calls Tryz.prog 113 #[va] w fun e w'=>e=.returned (I 0)/\Ext w w':=by
 have HV:=Hd hv
 obtain⟨a,cap,rfl,a1,a2,a3⟩:=hv.form
 clear a3 hv
 unfold maxLen at a2
 have HM:=Hd (vok_may hok)
 go_enter Tryz.func113,Tryz.ntmps113
 go_wp2_with (first
  |(go_at_call 156;(with_reducible refine(r13May_any _ v _ HV.out).mono ?_);rintro e w2 ⟨he,hx2⟩;rw[HM.out]at he;subst he;have HX2:=Hd hx2;clear hx2))
 go_ret
 exact⟨rfl,HX2.out⟩
theorem r15Ranks_any(va:Value)(v:List Int)(w:World)(hv:IntsAt w va v)(hok:VOk v)(hl:v.length<=256):
 Calls Tryz.prog 54 #[va] w fun e w'=>(∃(u:Value) (rs:List Int),e=.returned (.tuple #[u,I 0])/\RanksIs v rs/\OwnI w' w.heap.size u rs/\Ext w w')\/(e=.returned (.tuple #[.slice none 0 0,I 17])/\(∃x,OnL v x)/\Ext w w'):=by
 have HV:=Hd hv
 have HOK:=Hd hok
 obtain⟨a,cap,rfl,a1,a2,a3⟩:=hv.form
 have A3:=Hd a3
 clear a3 hv
 unfold maxLen at a2
 go_enter Tryz.func54,Tryz.ntmps54
 go_upto_region 4 with(first
  |(go_at_call 113;(with_reducible refine(r15May_any _ v _ HV.out hok hl).mono ?_);rintro e w2 ⟨rfl,hx2⟩;have HX2:=Hd hx2;clear hx2))
 clear hok
 go_upto_region 5 with fail
 refine hWp (fun W=>Ext w2 W/\W.ownsRow w2.heap.size 3 1 (.slice (some ⟨w2.heap.size,0,none⟩) 0 0) 0 [])
  ⟨by(repeat with_reducible first|exact eR _|assumption|refine eA ?_ _|refine eD ?_|refine eW ?_ _|(refine eS ?_ ?_;focus(first|(simp;done)|(simp;omega)|omega))),own_made w2 1 3 0 [] rfl (by unfold maxLen;omega)⟩ (fun W3 hW3=>?_)
 obtain⟨hx3,ho3⟩:=hW3
 have HX3:=Hd (HX2.out.trans hx3)
 have HO3:=Hd (own_low ho3 HX2.out.size)
 clear hx3 ho3
 go_wp2_with fail
 go_loopw[5,6] (fun o i wr=>∃(k:Nat) (u:Value) (rs:List Int),k<=v.length/\i=I k/\o=u/\Hid (OwnI wr w.heap.size u rs)/\Hid (rs.length=k/\∀j,j<k->∃m:Nat,rs[j]? =some (m:Int)/\RankIs v j m)/\Hid (Ext w wr)) (fun _ i _=>v.length-(intOf i).toNat)
 case atStart=>exact⟨0,_,[],by omega,rfl,rfl,HO3.out,⟨rfl,fun j h=>absurd h (Nat.not_lt_zero j)⟩,HX3.out⟩
 case round=>
  obtain⟨k,u,rs,hk,rfl,rfl,HO,HR,HX⟩:=hrel
  obtain⟨ua,ucap,hu,ub1,ub2,-⟩:=HO.out.ints.form
  rw[HR.out.1]at hu ub1
  subst hu
  unfold maxLen at ub2
  by_cases hlt:k<v.length
  ·have hkd:decide ((k:Int)<(v.length:Int))=true:=dT (by omega)
   have HLT:=Hd hlt
   obtain⟨wo,rfl⟩:∃wo:World,wo=wr:=⟨_,rfl⟩
   go_wp2_with fail
   go_loopw[7,8] (fun n x wq=>∃m q:Nat,m<=v.length/\n=I m/\x=I q/\q<v.length/\Hid (itv v m k=(q:Int))/\wq=wo) (fun n _ _=>v.length+1-(intOf n).toNat)
   case atStart=>exact⟨0,k,by omega,rfl,rfl,hlt,rfl,rfl⟩
   case round=>
    obtain⟨m,q,hm,rfl,rfl,hq,HQ,hwq⟩:=hrel
    obtain rfl:=hwq.symm
    obtain⟨b,o,he,hc⟩:=A3.out q _ (gE hq)
    subst he
    replace hc:=HX.out.cell hc
    have HNX:=Hd (show itv v (m+1) k=v[q]by rw[itv_out,HQ.out,nxv_at hq])
    have hvb:=HOK.out _ (List.getElem_mem hq)
    have HVB:=Hd hvb
    generalize v[q]=y at*
    by_cases hy:0<=y
    ·have hyd:decide (0<=y)=true:=dT hy
     obtain⟨z,rfl⟩:∃z:Nat,y=z:=⟨y.toNat,by omega⟩
     by_cases hml:m<v.length
     ·have hmd:decide ((v.length:Int)<(m:Int)+1)=false:=dF (by omega)
      have hmn:decide (v.length<m+1)=false:=dF (by omega)
      have HML:=Hd hml
      clear hvb
      go_wp2_with fail
      go_roundw
      case rel=>exact⟨m+1,z,Nat.succ_le_of_lt HML.out,by go_num,rfl,by have:=HVB.out;omega,HNX.out,trivial⟩
      case measure=>have:=HML.out;simp[intOf];omega
     ·have hmd:decide ((v.length:Int)<(m:Int)+1)=true:=dT (by omega)
      have hmn:decide (v.length<m+1)=true:=dT (by omega)
      have HON:=Hd (show∃x,OnL v x from on_of_no_end HOK.out (x:=(k:Int)) ⟨by omega,by omega⟩ (k:=m+1) (by omega) (by rw[HNX.out];omega))
      clear hvb
      go_wp2_with fail
      go_ret2
      exact .inr ⟨rfl,HON.out,HX.out⟩
    ·have hyd:decide (0<=y)=false:=dF hy
     have HRK:=Hd (show RankIs v k m from⟨by rw[HQ.out];exact⟨by omega,by omega⟩,by rw[HNX.out];omega⟩)
     have HXA:=Hd ((eR wo).alloc (.cells #[I (m:Int)] 3))
     have HOA:=Hd (show(wo.alloc (.cells #[I (m:Int)] 3)).ownsRow w.heap.size 3 1 (.slice ua k ucap) k (icells rs)from by have h:=HO.out.later HXA.out;unfold OwnI at h;rw[HR.out.1]at h;exact h)
     have HSRC:=Hd (Reads.made wo 1 3 1 [I (m:Int)] rfl (by unfold maxLen;omega))
     have HSZ:=Hd (show w.heap.size<=(wo.alloc (.cells #[I (m:Int)] 3)).heap.size from(HX.out.trans HXA.out).size)
     clear hvb
     go_wp2_with (first
      |(at_builtin
        go_loud(
         refine wpList_app rfl (.tmp 37) (.tmp 39) 47 rfl w.heap.size 3 _ 1 8 Tryz.underlying47 infoInt rfl (by decide) (by decide) _ _ _ rfl HOA.out _ _ _ rfl HSRC.out (by intro q hq;simp at hq;subst hq;rfl) (by omega) HSZ.out ?_
         intro v7 w7 ho7 hg7
         have HXG:=Hd (Ext.grown (HX.out.trans HXA.out) hg7 HOA.out (Nat.le_refl _))
         have HO7:=Hd (show OwnI w7 w.heap.size v7 (rs++[(m:Int)])from by
          unfold OwnI
          rw[List.length_append,HR.out.1,icells_app]
          exact ho7)
         clear ho7 hg7)))
     go_roundw
     case rel=>
      refine⟨k+1,_,rs++[(m:Int)],Nat.succ_le_of_lt HLT.out,by go_num,rfl,HO7.out,⟨by rw[List.length_append,HR.out.1];rfl,fun j hj=>?_⟩,HXG.out⟩
      rcases Nat.lt_or_ge j k with g|g
      ·obtain⟨n,h1,h2⟩:=HR.out.2 j g
       exact⟨n,by rw[List.getElem?_append_left (by rw[HR.out.1];exact g)];exact h1,h2⟩
      ·obtain rfl:j=k:=by omega
       exact⟨m,by rw[List.getElem?_append_right (by rw[HR.out.1];exact Nat.le_refl _),HR.out.1,Nat.sub_self];rfl,HRK.out⟩
     case measure=>have:=HLT.out;simp[intOf];omega
  ·have hkd:decide ((k:Int)<(v.length:Int))=false:=dF (by omega)
   obtain rfl:k=v.length:=by omega
   go_wp2_with fail
   go_ret2
   exact .inl ⟨_,rs,rfl,HR.out,HO.out,HX.out⟩
theorem gMay_any(va:Value)(v:List Int)(w:World)(hv:IntsAt w va v)(hok:VOk v)(hl:v.length<=256):
 Calls Tryz.prog 96 #[va] w fun e w'=>e=.returned (I 0)/\Ext w w':=by
 have HV:=Hd hv
 obtain⟨a,cap,rfl,a1,a2,a3⟩:=hv.form
 clear a3 hv
 unfold maxLen at a2
 have HM:=Hd (vok_may hok)
 have hld:decide (256<(v.length:Int))=false:=dF (by omega)
 go_enter Tryz.func96,Tryz.ntmps96
 go_wp2_with (first
  |(go_at_call 141;(with_reducible refine(vecMay_any _ v _ HV.out).mono ?_);rintro e w2 ⟨he,hx2⟩;rw[HM.out]at he;subst he;have HX2:=Hd hx2;clear hx2))
 go_ret
 exact⟨rfl,HX2.out⟩
def sliceN:Value->Nat
 | .slice _ n _=>n
 |_=>0
theorem gRound_any(va:Value)(v:List Int)(x:Int)(p:Nat)(w:World)(hv:IntsAt w va v)(hok:VOk v)(hl:v.length<=256)(hx:0<=x)(hp:IsPer v x p):
 Calls Tryz.prog 98 #[va,I x] w fun e w'=>∃u,e=.returned u/\OwnI w' w.heap.size u (wayV v x p)/\Ext w w':=by
 have HV:=Hd hv
 have HON:=Hd (hp.on hx)
 have HP:=Hd hp
 have HOK:=Hd hok
 have HPL:=Hd (Nat.le_trans (hp.le hok hx) hl)
 obtain⟨a,cap,rfl,a1,a2,a3⟩:=hv.form
 have A3:=Hd a3
 clear a3 hv hp hok
 unfold maxLen at a2
 have HIT:=Hd (fun k=>(HON.out.it HOK.out k).is HOK.out)
 have HAT:=Hd (fun(k:Nat)=>(show∃(q:Nat) (b o:Nat),itv v k x=q/\q<v.length/\a=some ⟨b,o,none⟩/\w.cell? ⟨b,o+q,none⟩=some (I (itv v (k+1) x))from by
  obtain⟨h1,h2⟩:=HIT.out k
  obtain⟨q,hq⟩:∃q:Nat,itv v k x=q:=⟨(itv v k x).toNat,by omega⟩
  have hql:q<v.length:=by omega
  obtain⟨b,o,he,hc⟩:=A3.out q _ (gE hql)
  exact⟨q,b,o,hq,hql,he,by rw[itv_out,hq,nxv_at hql];exact hc⟩))
 obtain⟨q0,b0,o0,hq0,hql0,he0,hc0⟩:=HAT.out 0
 replace hq0:x=q0:=hq0
 subst he0 hq0
 go_enter Tryz.func98,Tryz.ntmps98
 go_upto_region 2 with fail
 refine hWp (fun W=>Ext w W/\OwnI W w.heap.size (.slice (some ⟨w.heap.size,0,none⟩) 1 1) [(q0:Int)])
  ⟨by(repeat with_reducible first|exact eR _|assumption|refine eA ?_ _|refine eD ?_|refine eW ?_ _|(refine eS ?_ ?_;focus(first|(simp;done)|(simp;omega)|omega))),own_made w 1 3 1 [I q0] rfl (by unfold maxLen;omega)⟩ (fun W1 hW1=>?_)
 obtain⟨hx1,ho1⟩:=hW1
 have HX1:=Hd hx1
 have HO1:=Hd ho1
 replace hc0:=hx1.cell hc0
 clear hx1 ho1
 go_wp2_with fail
 have HW1:=Hd (show wayV v q0 1=[(q0:Int)]from rfl)
 have hpl:=HPL.out
 go_loopw[5,6] (fun l y wr=>∃(k:Nat) (ua:Option Addr) (uc:Nat),0<k/\k<=p/\y=I (itv v k q0)/\l=.slice ua k uc/\Hid (OwnI wr w.heap.size (.slice ua k uc) (wayV v q0 k))/\Hid (Ext w wr)) (fun l _ _=>p-sliceN l)
 case atStart=>exact⟨1,some ⟨w.heap.size,0,none⟩,1,Nat.one_pos,HP.out.pos,rfl,rfl,HO1.out,HX1.out⟩
 case round=>
  obtain⟨k,ua,uc,hk0,hkp,rfl,rfl,HO,HX⟩:=hrel
  rcases Nat.lt_or_ge k p with hlt|hge
  ·have hb:(itv v k q0 !=q0)=true:=bne_iff_ne.2 (HP.out.first k hk0 hlt)
   obtain⟨q,b1,o1,hq,hql,he1,hc1⟩:=HAT.out k
   cases he1
   have HQ:=Hd hq
   have HLT:=Hd (show k<p/\0<k from⟨hlt,hk0⟩)
   have HST:=Hd (wayV_step v q0 k)
   have HLN:=Hd (wayV_len v q0 k)
   generalize hy:itv v (k+1) q0=y1 at hc1
   have HY:=Hd hy
   rw[hq]at hb ⊢
   clear hlt hy hq
   have HXA:=Hd (show Ext w (wr.alloc (.cells #[I q] 3))from HX.out.alloc _)
   have HOA:=Hd (show(wr.alloc (.cells #[I q] 3)).ownsRow w.heap.size 3 1 (.slice ua k uc) k (icells (wayV v q0 k))from by have h:=HO.out.later ((eR wr).alloc (.cells #[I q] 3));unfold OwnI at h;rwa [HLN.out]at h)
   have HSRC:=Hd (Reads.made wr 1 3 1 [I q] rfl (by unfold maxLen;omega))
   have HC1:=Hd hc1
   clear hc1
   go_upto_region 4 with(first
    |(at_builtin
      refine wpList_app rfl (.tmp 20) (.tmp 22) 47 rfl w.heap.size 3 _ 1 8 Tryz.underlying47 infoInt rfl (by decide) (by decide) _ _ _ rfl HOA.out _ _ _ rfl HSRC.out (by intro q hq;simp at hq;subst hq;rfl) (by omega) HXA.out.size ?_
      intro v7 w7 ho7 hg7
      have HX7:=Hd (Ext.grown HXA.out hg7 HOA.out (Nat.le_refl _))
      have HO7:=Hd (show OwnI w7 w.heap.size v7 (wayV v q0 (k+1))from by
       unfold OwnI
       rw[HST.out,List.length_append,HLN.out,icells_app,HQ.out]
       exact ho7)
      clear ho7 hg7))
   have hc1:=HX7.out.cell HC1.out
   obtain⟨ya,yc,hyv,y1b,y2b,-⟩:=HO7.out.ints.form
   rw[wayV_len]at hyv y1b
   subst hyv
   unfold maxLen at y2b
   clear HXA HOA HSRC
   go_wp2_with fail
   go_roundw
   case rel=>exact⟨k+1,ya,yc,Nat.succ_pos k,HLT.out.1,by rw[HY.out],rfl,HO7.out,HX7.out⟩
   case measure=>have:=HLT.out;simp[sliceN];omega
  ·have hke:k=p:=by omega
   subst hke
   have hb:(itv v k q0 !=q0)=false:=by rw[HP.out.back];exact bne_self_eq_false' _
   go_wp2_with fail
   go_ret
   exact⟨_,rfl,HO.out,HX.out⟩
def sinksV(v:List Int)(k:Nat):List Int:=((List.range k).filter fun j=>v.getD j 0== -1).map fun(j:Nat)=>(j:Int)
theorem sinks_yes{v:List Int}{k:Nat}(h:v.getD k 0= -1):sinksV v (k+1)=sinksV v k++[(k:Int)]:=by
 unfold sinksV
 rw[List.range_succ,List.filter_append,List.map_append,List.filter_cons_of_pos (by rw[h];rfl)]
 rfl
theorem sinks_no{v:List Int}{k:Nat}(h:v.getD k 0≠ -1):sinksV v (k+1)=sinksV v k:=by
 unfold sinksV
 rw[List.range_succ,List.filter_append,List.filter_cons_of_neg (by rw[beq_iff_eq];exact h),List.filter_nil,List.append_nil]
theorem sinks_len(v:List Int)(k:Nat):(sinksV v k).length<=k:=by
 unfold sinksV
 rw[List.length_map]
 exact Nat.le_trans (List.length_filter_le _ _) (by simp)
theorem gSinks_any(va:Value)(v:List Int)(w:World)(hv:IntsAt w va v)(hok:VOk v)(hl:v.length<=256):
 Calls Tryz.prog 143 #[va] w fun e w'=>∃u,e=.returned (.tuple #[u,I 0])/\OwnI w' w.heap.size u (sinksV v v.length)/\Ext w w':=by
 have HV:=Hd hv
 have HOK:=Hd hok
 obtain⟨a,cap,rfl,a1,a2,a3⟩:=hv.form
 have A3:=Hd a3
 clear a3 hv hok
 unfold maxLen at a2
 go_enter Tryz.func143,Tryz.ntmps143
 go_upto_region 4 with(first
  |(go_at_call 96;(with_reducible refine(gMay_any _ v _ HV.out HOK.out hl).mono ?_);rintro e w2 ⟨rfl,hx2⟩;have HX2:=Hd hx2;clear hx2))
 go_wp2_with fail
 go_loopw[5,15] (fun l i wr=>∃(k:Nat) (ua:Option Addr) (uc:Nat),k<=v.length/\i=I k/\l=.slice ua (sinksV v k).length uc/\Hid (OwnI wr w.heap.size (.slice ua (sinksV v k).length uc) (sinksV v k))/\Hid (Ext w wr)) (fun _ i _=>v.length-(intOf i).toNat)
 case atStart=>exact⟨0,none,0,Nat.zero_le _,rfl,rfl,⟨rfl,.inl ⟨rfl,rfl⟩⟩,HX2.out⟩
 case round=>
  obtain⟨k,ua,uc,hk,rfl,rfl,HO,HX⟩:=hrel
  by_cases hlt:k<v.length
  ·have hkd:decide ((k:Int)<(v.length:Int))=true:=dT (by omega)
   obtain⟨b1,o1,he1,hc1⟩:=A3.out k _ (gE hlt)
   subst he1
   replace hc1:=HX.out.cell hc1
   have HLT:=Hd hlt
   have HG:=Hd (show v.getD k 0=v[k]by rw[List.getD_eq_getElem?_getD,gE hlt];rfl)
   have HSL:=Hd (sinks_len v k)
   generalize v[k]=y at*
   by_cases hy:y= -1
   ·subst hy
    have HST:=Hd (sinks_yes HG.out)
    have hsl:=HSL.out
    have HXA:=Hd (show Ext w (wr.alloc (.cells #[I k] 3))from HX.out.alloc _)
    have HOA:=Hd (show(wr.alloc (.cells #[I k] 3)).ownsRow w.heap.size 3 1 (.slice ua (sinksV v k).length uc) (sinksV v k).length (icells (sinksV v k))from HO.out.later ((eR wr).alloc (.cells #[I k] 3)))
    have HSRC:=Hd (Reads.made wr 1 3 1 [I k] rfl (by unfold maxLen;omega))
    go_wp2_with (first
     |(at_builtin
       refine wpList_app rfl (.tmp 22) (.tmp 24) 47 rfl w.heap.size 3 _ 1 8 Tryz.underlying47 infoInt rfl (by decide) (by decide) _ _ _ rfl HOA.out _ _ _ rfl HSRC.out (by intro q hq;simp at hq;subst hq;rfl) (by omega) HXA.out.size ?_
       intro v7 w7 ho7 hg7
       have HX7:=Hd (Ext.grown HXA.out hg7 HOA.out (Nat.le_refl _))
       have HO7:=Hd (show OwnI w7 w.heap.size v7 (sinksV v (k+1))from by
        unfold OwnI
        rw[HST.out,List.length_append,icells_app]
        exact ho7)
       obtain⟨ya,yc,rfl,-,-,-⟩:=HO7.out.ints.form
       clear ho7 hg7))
    go_roundw
    case rel=>exact⟨k+1,ya,yc,Nat.succ_le_of_lt HLT.out,by go_num,rfl,HO7.out,HX7.out⟩
    case measure=>have:=HLT.out;simp[intOf];omega
   ·have HST:=Hd (sinks_no (v:=v) (k:=k) (by rw[HG.out];exact hy))
    have hyb:(y== -1)=false:=beq_false_of_ne hy
    clear hy
    go_wp2_with fail
    go_roundw
    case rel=>exact⟨k+1,ua,uc,Nat.succ_le_of_lt HLT.out,by go_num,by rw[HST.out],by rw[HST.out];exact HO.out,HX.out⟩
    case measure=>have:=HLT.out;simp[intOf];omega
  ·have HKE:=Hd (show k=v.length by omega)
   go_wp2_with fail
   go_ret2
   exact⟨_,rfl,by rw[<-HKE.out];exact HO.out,HX.out⟩
def GLoopOut(v:List Int)(w:World)(e:Ending)(w':World):Prop:=
 ∃(u:Value) (l:List Int),e=.returned (.tuple #[u,I 0])/\LoopIs v l/\OwnI w' w.heap.size u l/\Ext w w'
theorem Wlk.same{v s s':List Int}{u:Nat}(h:Wlk v u s s' 0)(hs:s.length=v.length):s'=s:=by
 apply List.ext_getElem (by rw[h.len,hs])
 intro i h1 h2
 have hm:=h.mark (i:Int) ⟨by omega,by rw[h.len]at h1;omega⟩
 rw[if_neg (by unfold wayV;simp)]at hm
 unfold mkv at hm
 rw[Int.toNat_natCast,List.getD_eq_getElem?_getD,List.getD_eq_getElem?_getD,gE h1,gE h2]at hm
 exact hm
def WlkR(v:List Int)(k:Nat)(s:List Int)(sb:Nat)(w0:World)(n:Nat)(x:Value)(w:World):Prop:=
 ∃(j:Nat) (s':List Int),n+j=v.length/\x=I (itv v j k)/\isN v (itv v j k)/\Wlk v k s s' j/\Blk w sb (icells s') 3/\Ext w0 w
theorem gLoop_any(va:Value)(v:List Int)(w:World)(hv:IntsAt w va v)(hok:VOk v)(hl:v.length<=256):
 Calls Tryz.prog 38 #[va] w (GLoopOut v w):=by
 have HV:=Hd hv
 have HOK:=Hd hok
 obtain⟨a,cap,rfl,a1,a2,a3⟩:=hv.form
 have A3:=Hd a3
 clear a3 hv hok
 unfold maxLen at a2
 have hmk:=fun w=>run_make_row' (P:=Tryz.prog) 47 3 (I 0) 8 Tryz.underlying47 infoInt rfl .i64 .i64 v.length (by omega) (by omega) w
 go_enter Tryz.func38,Tryz.ntmps38
 go_upto_region 1 with fail
 go_step3
 go_upto_region 4 with(first
  |(go_at_call 96;(with_reducible refine(gMay_any _ v _ HV.out HOK.out hl).mono ?_);rintro e w2 ⟨rfl,hx2⟩;have HX2:=Hd hx2;clear hx2))
 go_wp2_with fail
 have eI:(madeCells #[I 0] v.length)=(icells (List.replicate v.length 0)).toArray:=by unfold icells;rw[<-Array.toList_inj,toList_madeCells_one,List.map_replicate]
 rw[eI]
 refine hWp (fun W=>Ext w2 W/\Blk W w2.heap.size (icells (List.replicate v.length 0)) 3)
  ⟨by(repeat with_reducible first|exact eR _|assumption|refine eA ?_ _|refine eD ?_|refine eW ?_ _|(refine eS ?_ ?_;focus(first|(simp;done)|(simp;omega)|omega))),Blk.new w2 (icells (List.replicate v.length 0)) 3⟩ (fun W1 hW1=>?_)
 obtain⟨hx1,hs1⟩:=hW1
 have HX1:=Hd (HX2.out.trans hx1)
 have HS1:=Hd hs1
 have HSB:=Hd (show w.heap.size<=w2.heap.size from HX2.out.size)
 clear hx1 hs1 hmk eI
 generalize w2.heap.size=sb at*
 go_step3
 go_wp2_with fail
 go_loopw[5,20] (fun b i wr=>∃(k:Nat) (s:List Int) (best:Int) (fo:Bool),k<=v.length/\i=I k/\b=I best/\Hid (fo=false->best= -1)/\Hid (Marks v k s fo best)/\Hid (Blk wr sb (icells s) 3)/\Hid (Ext w wr)) (fun _ i _=>v.length-(intOf i).toNat)
 case atStart=>exact⟨0,List.replicate v.length 0,-1,false,Nat.zero_le _,rfl,rfl,fun _=>rfl,Marks.start _ _,HS1.out,HX1.out⟩
 case round=>
  obtain⟨k,s,best,fo,hk,rfl,rfl,HF,HK,HS,HX⟩:=hrel
  by_cases hlt:k<v.length
  ·have hkd:decide ((k:Int)<(v.length:Int))=true:=dT (by omega)
   have HLT:=Hd hlt
   have HNK:=Hd (show isN v (k:Int)from⟨by omega,by omega⟩)
   have HKU:=Hd (show k<v.length from hlt)
   obtain⟨wo,rfl⟩:∃wo:World,wo=wr:=⟨_,rfl⟩
   have HW0:=Hd (show WlkR v k s sb w v.length (I k) wo from⟨0,s,rfl,rfl,HNK.out,Wlk.start HK.out.len,HS.out,HX.out⟩)
   clear hlt
   go_wp2_with fail
   go_loopw[8] (fun x wq=>∃n,WlkR v k s sb w n x wq) (fun x wq=>leastOf fun n=>WlkR v k s sb w n x wq)
   case atStart=>exact⟨_,HW0.out⟩
   case round=>
    have HLE:=Hd (leastOf_spec hrel)
    obtain⟨j,s',hj,rfl,hn,hw,hs,hx⟩:=HLE.out.1
    have HJ:=Hd hj
    have HN:=Hd hn
    have HW:=Hd hw
    have HSQ:=Hd hs
    have HXQ:=Hd hx
    have HSL:=Hd (show s'.length=v.length from hw.len)
    clear hj hw hs hx hrel
    obtain⟨q,hq⟩:∃q:Nat,itv v j k=q:=⟨(itv v j k).toNat,by have:=hn.1;omega⟩
    have hql:q<v.length:=by have:=hn.2;omega
    have HMK:=Hd (show mkv s' (itv v j k)=s'.getD q 0 by rw[hq];unfold mkv;rw[Int.toNat_natCast])
    have HGT:=Hd (icell_get (q:=s') (k:=q) (by rw[HSL.out];exact hql))
    have HQ:=Hd hq
    generalize s'.getD q 0=z at HMK HGT
    have hsc:=(HSQ.out.cells q).trans HGT.out
    have hsf:=HSQ.out.frozen
    rw[hq]
    clear hn hq
    by_cases hz:z=0
    ·have hzb:(z==0)=true:=by simp[hz]
     obtain⟨b1,o1,he1,hc1⟩:=A3.out q _ (gE hql)
     subst he1
     have hw2:=HW.out.step HN.out (by rw[HMK.out];exact hz)
     rw[show(itv v j (k:Int)).toNat=q by rw[HQ.out];exact Int.toNat_natCast q]at hw2
     have HW2:=Hd hw2
     have HY:=Hd (show itv v (j+1) k=v[q]by rw[itv_out,HQ.out,nxv_at hql])
     have HOKY:=Hd ((itv_ok HOK.out HNK.out (j+1)))
     generalize v[q]=y at HY hc1
     have HS2:=Hd (show∀W,Blk W sb (icells s') 3->Blk (W.setCell ⟨sb,q,none⟩ (I ((k:Int)+1))) sb (icells (s'.set q ((k:Int)+1))) 3 from fun W hW=>by have h:=hW.set q (I ((k:Int)+1));unfold icells at*;rw[List.map_set];exact h)
     have HX2':=Hd (show Ext w (wr.setCell ⟨sb,q,none⟩ (I ((k:Int)+1)))from HXQ.out.setCell HSB.out _)
     replace hc1:=HX2'.out.cell hc1
     clear hz hw2
     by_cases hy:y= -1
     ·have hyb:(y== -1)=true:=by simp[hy]
      have HYE:=Hd hy
      clear hy
      go_wp2_with fail
      go_roundw
      case rel=>exact⟨k+1,_,best,fo,Nat.succ_le_of_lt HKU.out,by go_num,rfl,HF.out,HK.out.out HOK.out HW2.out (Nat.succ_pos _) HKU.out (by rw[HY.out];exact HYE.out),HS2.out _ HSQ.out,HX2'.out⟩
      case measure=>have:=HKU.out;simp[intOf];omega
     ·have hyb:(y== -1)=false:=beq_false_of_ne hy
      have HYN:=Hd (show isN v (itv v (j+1) k)from HOKY.out.resolve_left (by rw[HY.out];exact hy))
      clear hy
      have HFEW:=Hd HW2.out.few
      have HN4:=Hd (show WlkR v k s sb w (v.length-(j+1)) (I y) (wr.setCell ⟨sb,q,none⟩ (I ((k:Int)+1)))from
       ⟨j+1,_,by have:=HFEW.out;omega,by rw[HY.out],HYN.out,HW2.out,HS2.out _ HSQ.out,HX2'.out⟩)
      go_wp2_with fail
      go_roundw
      case rel=>exact⟨_,HN4.out⟩
      case measure=>
       have h1:=(leastOf_spec (p:=fun n=>WlkR v k s sb w n (I y) (wr.setCell ⟨sb,q,none⟩ (I ((k:Int)+1)))) ⟨_,HN4.out⟩).2 _ HN4.out
       have h2:=HJ.out
       have h3:=HFEW.out
       rw[HQ.out]at h2
       refine Nat.lt_of_le_of_lt h1 ?_
       omega
    ·have hzb:(z==0)=false:=beq_false_of_ne hz
     have HZ:=Hd hz
     clear hz
     have HBD:=Hd (HK.out.bd k)
     rcases Nat.eq_zero_or_pos j with hj0|hj0
     ·subst hj0
      have HSS:=Hd (HW.out.same HK.out.len)
      have HMZ:=Hd (show mkv s k=z by rw[<-HSS.out];exact HMK.out)
      have hzk:(z !=(k:Int)+1)=true:=bne_iff_ne.2 (by have h1:=HBD.out;rw[HMZ.out]at h1;omega)
      go_wp2_with fail
      go_roundw
      case rel=>exact⟨k+1,s,best,fo,Nat.succ_le_of_lt HKU.out,by go_num,rfl,HF.out,HK.out.skip (by rw[HMZ.out];exact HZ.out),by rw[<-HSS.out];exact HSQ.out,HXQ.out⟩
      case measure=>have:=HKU.out;simp[intOf];omega
     ·have HJ0:=Hd hj0
      clear hj0
      by_cases hzk:z=(k:Int)+1
      ·obtain⟨p,hp,hlow⟩:=HK.out.loop HOK.out HW.out HJ0.out HKU.out HN.out (by rw[HMK.out];exact hzk)
       rw[HQ.out]at hp hlow
       have HP:=Hd hp
       have HLOW:=Hd hlow
       have HPL:=Hd (show 0<(wayV v q p).length/\(wayV v q p).length<=9223372036854775807 by
        rw[wayV_len];have h1:=hp.le HOK.out (Int.natCast_nonneg q);have:=hp.pos;omega)
       have HMIN:=Hd (show Lib.minOf (wayV v q p)∈wayV v q p/\∀z∈wayV v q p,Lib.minOf (wayV v q p)<=z by have h:=minOf_all HPL.out.1;rwa [List.take_length]at h)
       have HUP:=Hd (fun b hb=>HLOW.out _ HMIN.out.1 HMIN.out.2 b hb)
       have HLN:=Hd (show 0<=Lib.minOf (wayV v q p)from by
        obtain⟨m,_,hm⟩:=wayV_mem.1 HMIN.out.1
        rw[<-hm]
        exact(((hp.on (Int.natCast_nonneg q)).it HOK.out m).1))
       have hzk2:(z !=(k:Int)+1)=false:=by rw[hzk];exact bne_self_eq_false' _
       clear hp hlow hzk HMIN
       go_upto_region 16 with(first
        |(go_at_call 98;(with_reducible refine(gRound_any _ v q p _ (HV.out.later HXQ.out) HOK.out hl (Int.natCast_nonneg q) HP.out).mono ?_);rintro e w3 ⟨v3,he,ho3,hx3⟩;subst he;have HO3:=Hd ho3;have HX3:=Hd hx3;clear ho3 hx3)
        |(go_at_call 97;(with_reducible refine(minInts_any _ _ _ HO3.out.ints HPL.out.1 HPL.out.2).mono ?_);rintro e w4 ⟨he,hw4⟩;subst he;subst hw4))
       generalize Lib.minOf (wayV v q p)=low at*
       cases fo with
       |false=>
        obtain rfl:=HF.out rfl
        go_wp2_with fail
        go_roundw
        case rel=>exact⟨k+1,s',low,true,Nat.succ_le_of_lt HKU.out,by go_num,rfl,fun h=>(by cases h),HUP.out low (.inl ⟨rfl,rfl⟩),HSQ.out.later HX3.out,HXQ.out.trans HX3.out⟩
        case measure=>have:=HKU.out;simp[intOf];omega
       |true=>
        have hb0:(0:Int)<=best:=(HK.out.yes rfl).1.1
        have hb1:(best== -1)=false:=beq_false_of_ne (by omega)
        by_cases hlb:low<best
        ·have hld:decide (low<best)=true:=dT hlb
         have HLB:=Hd hlb
         clear hlb hb0
         go_wp2_with fail
         go_roundw
         case rel=>exact⟨k+1,s',low,true,Nat.succ_le_of_lt HKU.out,by go_num,rfl,fun h=>(by cases h),HUP.out low (.inr ⟨rfl,(Int.min_eq_right (Int.le_of_lt HLB.out)).symm⟩),HSQ.out.later HX3.out,HXQ.out.trans HX3.out⟩
         case measure=>have:=HKU.out;simp[intOf];omega
        ·have hld:decide (low<best)=false:=dF hlb
         have HLB:=Hd hlb
         clear hlb hb0
         go_wp2_with fail
         go_roundw
         case rel=>exact⟨k+1,s',best,true,Nat.succ_le_of_lt HKU.out,by go_num,rfl,fun h=>(by cases h),HUP.out best (.inr ⟨rfl,(Int.min_eq_left (by have:=HLB.out;omega)).symm⟩),HSQ.out.later HX3.out,HXQ.out.trans HX3.out⟩
         case measure=>have:=HKU.out;simp[intOf];omega
      ·have HZK:=Hd hzk
       have hzk2:(z !=(k:Int)+1)=true:=bne_iff_ne.2 hzk
       clear hzk
       go_wp2_with fail
       go_roundw
       case rel=>exact⟨k+1,s',best,fo,Nat.succ_le_of_lt HKU.out,by go_num,rfl,HF.out,HK.out.met HOK.out HW.out HJ0.out HKU.out HN.out (by rw[HMK.out];exact HZ.out) (by rw[HMK.out];exact HZK.out),HSQ.out,HXQ.out⟩
       case measure=>have:=HKU.out;simp[intOf];omega
  ·have HD:=Hd (Marks.done HOK.out (by rw[<-show k=v.length by omega];exact HK.out))
   cases fo with
   |false=>
    obtain rfl:=HF.out rfl
    have HD1:=Hd (HD.out.1 rfl)
    clear HD HK
    go_wp2_with fail
    go_ret2
    unfold GLoopOut
    exact⟨.slice none 0 0,[],rfl,.inl ⟨rfl,HD1.out⟩,⟨rfl,.inl ⟨rfl,rfl⟩⟩,HX.out⟩
   |true=>
    have HD2:=Hd (HD.out.2 rfl)
    clear HD HK
    obtain⟨p,hp⟩:=HD2.out.1.per
    have hb0:(0:Int)<=best:=HD2.out.1.1
    have hb1:(best== -1)=false:=beq_false_of_ne (by omega)
    have HB0:=Hd hb0
    have HP:=Hd hp
    clear hp hb0
    go_wp2_with (first
     |(go_at_call 98;(with_reducible refine(gRound_any _ v best p _ (HV.out.later HX.out) HOK.out hl HB0.out HP.out).mono ?_);rintro e w3 ⟨v3,he,ho3,hx3⟩;subst he;have HO3:=Hd ho3;have HX3:=Hd hx3;clear ho3 hx3))
    go_ret2
    unfold GLoopOut
    exact⟨v3,wayV v best p,rfl,.inr ⟨best,p,HD2.out,HP.out,rfl⟩,own_low HO3.out HX.out.size,HX.out.trans HX3.out⟩
def predN(v:List Int)(k x:Nat):List Nat:=(List.range k).filter fun u=>v.getD u 0==(x:Int)
def cntN(v:List Int)(k x:Nat):Nat:=(predN v k x).length
def offN(v:List Int)(x:Nat):Nat:=((List.range v.length).filter fun u=>decide (0<=v.getD u 0)&&decide (v.getD u 0<(x:Int))).length
theorem pred_yes{v:List Int}{k x:Nat}(h:v.getD k 0=(x:Int)):predN v (k+1) x=predN v k x++[k]:=by
 unfold predN
 rw[List.range_succ,List.filter_append,List.filter_cons_of_pos (by rw[h];exact beq_self_eq_true _)]
 rfl
theorem pred_no{v:List Int}{k x:Nat}(h:v.getD k 0≠(x:Int)):predN v (k+1) x=predN v k x:=by
 unfold predN
 rw[List.range_succ,List.filter_append,List.filter_cons_of_neg (by rw[beq_iff_eq];exact h),List.filter_nil,List.append_nil]
theorem cnt_yes{v:List Int}{k x:Nat}(h:v.getD k 0=(x:Int)):cntN v (k+1) x=cntN v k x+1:=by
 unfold cntN;rw[pred_yes h,List.length_append];rfl
theorem cnt_no{v:List Int}{k x:Nat}(h:v.getD k 0≠(x:Int)):cntN v (k+1) x=cntN v k x:=by
 unfold cntN;rw[pred_no h]
theorem cnt_zero(v:List Int)(x:Nat):cntN v 0 x=0:=rfl
theorem cnt_step(v:List Int)(k x:Nat):cntN v k x<=cntN v (k+1) x:=by
 by_cases h:v.getD k 0=(x:Int)
 ·rw[cnt_yes h];omega
 ·rw[cnt_no h];exact Nat.le_refl _
theorem cnt_mono(v:List Int)(x:Nat){k m:Nat}(h:k<=m):cntN v k x<=cntN v m x:=by
 induction m with
 |zero=>rw[Nat.le_zero.1 h];exact Nat.le_refl _
 |succ m ih=>
  rcases Nat.lt_or_ge k (m+1)with g|g
  ·exact Nat.le_trans (ih (by omega)) (cnt_step v m x)
  ·rw[show k=m+1 by omega];exact Nat.le_refl _
theorem cnt_lt{v:List Int}{k n x:Nat}(hk:k<n)(h:v.getD k 0=(x:Int)):cntN v k x<cntN v n x:=by
 have:=cnt_mono v x (show k+1<=n by omega)
 rw[cnt_yes h]at this
 omega
theorem filter_split{p q r:Nat->Bool}(h:∀u,r u=(p u||q u)/\(p u&&q u)=false):∀l:List Nat,(l.filter r).length=(l.filter p).length+(l.filter q).length
 |[]=>rfl
 |u::l=>by
  have ih:=filter_split h l
  obtain⟨h1,h2⟩:=h u
  cases hp:p u<;>cases hq:q u<;>rw[hp,hq]at h1 h2<;>simp only[Bool.or_false,Bool.or_true,Bool.and_self,Bool.and_false,Bool.false_and,Bool.true_eq_false]at h1 h2
  ·rw[List.filter_cons_of_neg (by rw[h1];decide),List.filter_cons_of_neg (by rw[hp];decide),List.filter_cons_of_neg (by rw[hq];decide),ih]
  ·rw[List.filter_cons_of_pos h1,List.filter_cons_of_neg (by rw[hp];decide),List.filter_cons_of_pos hq,List.length_cons,List.length_cons,ih];omega
  ·rw[List.filter_cons_of_pos h1,List.filter_cons_of_pos hp,List.filter_cons_of_neg (by rw[hq];decide),List.length_cons,List.length_cons,ih];omega
theorem at_zero(v:List Int):offN v 0=0:=by
 unfold offN
 rw[List.filter_eq_nil_iff.2]
 ·rfl
 ·intro u _ h
  simp only[Bool.and_eq_true,decide_eq_true_eq]at h
  omega
theorem at_succ(v:List Int)(x:Nat):offN v (x+1)=offN v x+cntN v v.length x:=by
 unfold offN cntN predN
 refine filter_split (fun u=>⟨?_,?_⟩) _
 ·rw[Bool.eq_iff_iff]
  simp only[Bool.or_eq_true,Bool.and_eq_true,decide_eq_true_eq,beq_iff_eq]
  omega
 ·rw[Bool.eq_false_iff]
  simp only[ne_eq,Bool.and_eq_true,decide_eq_true_eq,beq_iff_eq]
  omega
theorem at_le(v:List Int)(x:Nat):offN v x<=v.length:=by
 unfold offN
 exact Nat.le_trans (List.length_filter_le _ _) (by simp)
theorem at_end(v:List Int)(x:Nat):offN v x+cntN v v.length x<=v.length:=by rw[<-at_succ];exact at_le v _
theorem at_mono(v:List Int){x y:Nat}(h:x<y):offN v x+cntN v v.length x<=offN v y:=by
 induction y with
 |zero=>omega
 |succ y ih=>
  rcases Nat.lt_or_ge x y with g|g
  ·have:=ih g;have:=at_succ v y;omega
  ·rw[show y=x by omega,at_succ];exact Nat.le_refl _
theorem pred_mem{v:List Int}{k x u:Nat}:u∈predN v k x↔u<k/\v.getD u 0=(x:Int):=by
 unfold predN
 simp only[List.mem_filter,List.mem_range,beq_iff_eq]
def BackIn(v:List Int)(k:Nat)(g:List Int):Prop:=g.length=v.length/\∀x:Nat,x<v.length->∀(j u:Nat),(predN v k x)[j]? =some u->g.getD (offN v x+j) 0=(u:Int)
theorem BackIn.start(v:List Int)(g:List Int)(h:g.length=v.length):BackIn v 0 g:=⟨h,fun x _ j u h=>by unfold predN at h;simp at h⟩
theorem BackIn.no{v g:List Int}{k:Nat}(h:BackIn v k g)(hk:∀x:Nat,x<v.length->v.getD k 0≠(x:Int)):BackIn v (k+1) g:=
 ⟨h.1,fun x hx j u hj=>by rw[pred_no (hk x hx)]at hj;exact h.2 x hx j u hj⟩
theorem BackIn.yes{v g:List Int}{k x:Nat}(h:BackIn v k g)(hk:k<v.length)(hx:x<v.length)(he:v.getD k 0=(x:Int)):BackIn v (k+1) (g.set (offN v x+cntN v k x) (k:Int)):=by
 have hc:=cnt_lt hk he
 have he2:=at_end v x
 refine⟨by rw[List.length_set];exact h.1,fun y hy j u hj=>?_⟩
 have hget:∀i m:Nat,i<g.length->(g.set i (k:Int)).getD m 0=if m=i then(k:Int)else g.getD m 0:=fun i m hi=>by
  rw[List.getD_eq_getElem?_getD,List.getElem?_set]
  by_cases e:i=m
  ·rw[if_pos e,if_pos e.symm,if_pos (by omega)];rfl
  ·rw[if_neg e,if_neg (Ne.symm e),List.getD_eq_getElem?_getD]
 rw[hget _ _ (by rw[h.1];omega)]
 by_cases e:y=x
 ·subst e
  rw[pred_yes he,List.getElem?_append]at hj
  split at hj
  ·rename_i hlt
   rw[if_neg (by unfold cntN;omega)]
   exact h.2 y hy j u hj
  ·rename_i hge
   have hj0:j=cntN v k y:=by
    have:=(List.getElem?_eq_some_iff.1 hj).1
    simp at this
    unfold cntN
    omega
   rw[if_pos (by rw[hj0])]
   rw[show j-(predN v k y).length=0 by rw[hj0];unfold cntN;omega]at hj
   simp at hj
   rw[hj]
 ·rw[pred_no (by rw[he];omega)]at hj
  have hjl:j<cntN v k y:=(List.getElem?_eq_some_iff.1 hj).1
  have hjn:=Nat.lt_of_lt_of_le hjl (cnt_mono v y (Nat.le_of_lt hk))
  rw[if_neg]
  ·exact h.2 y hy j u hj
  ·rcases Nat.lt_or_ge y x with g1|g1
   ·have:=at_mono v g1;omega
   ·have:=at_mono v (show x<y by omega);omega
def cntsV(v:List Int)(k:Nat):List Int:=(List.range v.length).map fun x=>(cntN v k x:Int)
theorem cnts_len(v:List Int)(k:Nat):(cntsV v k).length=v.length:=by unfold cntsV;simp
theorem cnts_get{v:List Int}{k x:Nat}(h:x<v.length):(cntsV v k)[x]? =some (cntN v k x:Int):=by unfold cntsV;simp[h]
theorem cnts_start(v:List Int):cntsV v 0=List.replicate v.length 0:=by
 apply List.ext_getElem (by rw[cnts_len,List.length_replicate])
 intro i h1 h2
 rw[cnts_len]at h1
 have:=cnts_get (k:=0) h1
 rw[gE (by rw[cnts_len];exact h1)]at this
 rw[Option.some.inj this,List.getElem_replicate];rfl
theorem cnts_yes{v:List Int}{k x:Nat}(hx:x<v.length)(h:v.getD k 0=(x:Int)):cntsV v (k+1)=(cntsV v k).set x ((cntN v k x:Int)+1):=by
 apply List.ext_getElem?
 intro i
 rw[List.getElem?_set]
 rcases Nat.lt_or_ge i v.length with g|g
 ·rw[cnts_get g]
  by_cases e:x=i
  ·subst e
   rw[if_pos rfl,if_pos (by rw[cnts_len];exact g),cnt_yes h];rfl
  ·rw[if_neg e,cnts_get g,cnt_no (by rw[h];omega)]
 ·rw[List.getElem?_eq_none (by rw[cnts_len];exact g),if_neg (by omega),List.getElem?_eq_none (by rw[cnts_len];exact g)]
theorem cnts_no{v:List Int}{k:Nat}(h:v.getD k 0= -1):cntsV v (k+1)=cntsV v k:=by
 unfold cntsV
 refine List.map_congr_left fun x _=>?_
 rw[cnt_no (by rw[h];omega)]
theorem infoInts':(Tryz.prog.info? 47).map (fun i=>(i.zero,i.size,i.bytes))=some (some (.slice none 0 0),1,24):=by kernel_rfl
theorem run_slice_three{P:Program}{w:World}{o:Oper}{a:Act}{x l h m:Operand}{t e:TypeId}{s:Nat}(ho:o.op=.slice t x (some l) (some h) (some m))(ht:P.underlying t=some (.slice e))(hs:∀w,(sizeOf (P.elem t)).run P w=.ok s w)
 {ad:Option Addr} {n cap i j k:Nat} (hx:a.eval x=.slice ad n cap) (hl:a.eval l=.int .i64 (i:Int)) (hh:a.eval h=.int .i64 (j:Int)) (hm:a.eval m=.int .i64 (k:Int)) (hi:i<=j) (hj:j<=k) (hk:k<=cap):
 (execOp a.eval o).run P w=.ok (.value (sliced ad i j k s)) w:=by
 simp only[execOp,ho,hx,hl,hh,hm,Option.map_some]
 simp[Instr.sliceAt,Instr.slice,run_underlying ht,Instr.sliceBounds,Instr.sliceBound,asIntOf,hk,hj,hi,sliced,Result.andThen]
 have:=hs w
 simp[Program.elem,ht]at this
 simp[this]
def HeadsIn(v:List Int)(k m:Nat)(ab:Nat)(cs:List Value):Prop:=
 cs.length=v.length/\∀x,x<m->∃a,cs[x]? =some (.slice a (cntN v k x) (cntN v v.length x))/\(0<cntN v v.length x->a=some ⟨ab,offN v x,none⟩)
theorem gBack_any(va:Value)(v:List Int)(w:World)(hv:IntsAt w va v)(hok:VOk v)(hl:v.length<=256):
 Calls Tryz.prog 146 #[va] w fun e w'=>∃(fb ab:Nat) (cs:List Value) (g:List Int),e=.returned (.slice (some ⟨fb,0,none⟩) v.length v.length)/\HeadsIn v v.length v.length ab cs/\BackIn v v.length g/\
  Blk w' fb cs 47/\Blk w' ab (icells g) 3/\w.heap.size<=fb/\w.heap.size<=ab/\fb≠ab/\Ext w w':=by
 have HV:=Hd hv
 have HOK:=Hd hok
 obtain⟨a,cap,rfl,a1,a2,a3⟩:=hv.form
 have A3:=Hd a3
 clear a3 hv hok
 unfold maxLen at a2
 have hmk:=fun w=>run_make_row' (P:=Tryz.prog) 47 3 (I 0) 8 Tryz.underlying47 infoInt rfl .i64 .i64 v.length (by omega) (by omega) w
 have eI:(madeCells #[I 0] v.length)=(icells (List.replicate v.length 0)).toArray:=by unfold icells;rw[<-Array.toList_inj,toList_madeCells_one,List.map_replicate]
 have EI:=Hd eI
 clear eI
 go_enter Tryz.func146,Tryz.ntmps146
 go_upto_region 2 with fail
 rw[EI.out]
 refine hWp (fun W=>Ext w W/\Blk W w.heap.size (icells (cntsV v 0)) 3)
  ⟨by(repeat with_reducible first|exact eR _|assumption|refine eA ?_ _|refine eD ?_|refine eW ?_ _|(refine eS ?_ ?_;focus(first|(simp;done)|(simp;omega)|omega))),by rw[cnts_start];exact Blk.new w (icells (List.replicate v.length 0)) 3⟩ (fun W1 hW1=>?_)
 obtain⟨hx1,hs1⟩:=hW1
 have HX1:=Hd hx1
 have HS1:=Hd hs1
 have HTB:=Hd (show w.heap.size<=w.heap.size from Nat.le_refl _)
 clear hx1 hs1
 generalize htb:w.heap.size=tb at HS1 HTB ⊢
 have HTE:=Hd htb
 clear htb
 go_upto_block 0 with fail
 go_cut[18] (fun _ wc=>Hid (Blk wc tb (icells (cntsV v v.length)) 3)/\Hid (Ext w wc))
 case first=>
  go_wp2_with fail
  go_loopw[18] (fun i wr=>∃k:Nat,k<=v.length/\i=I k/\Hid (Blk wr tb (icells (cntsV v k)) 3)/\Hid (Ext w wr)) (fun i _=>v.length-(intOf i).toNat)
  case atStart=>exact⟨0,Nat.zero_le _,rfl,HS1.out,HX1.out⟩
  case round=>
   obtain⟨k,hk,rfl,HS,HX⟩:=hrel
   by_cases hlt:k<v.length
   ·have hkd:decide ((k:Int)<(v.length:Int))=true:=dT (by omega)
    obtain⟨b1,o1,he1,hc1⟩:=A3.out k _ (gE hlt)
    subst he1
    replace hc1:=HX.out.cell hc1
    have HLT:=Hd hlt
    have HG:=Hd (show v.getD k 0=v[k]by rw[List.getD_eq_getElem?_getD,gE hlt];rfl)
    have hyb:=HOK.out _ (List.getElem_mem hlt)
    generalize v[k]=y at*
    by_cases hy:y= -1
    ·subst hy
     have HST:=Hd (cnts_no HG.out)
     go_wp2_with fail
     go_roundw
     case rel=>exact⟨k+1,Nat.succ_le_of_lt HLT.out,by go_num,by rw[HST.out];exact HS.out,HX.out⟩
     case measure=>have:=HLT.out;simp[intOf];omega
    ·have hyn:(y != -1)=true:=bne_iff_ne.2 hy
     obtain⟨q,rfl⟩:∃q:Nat,y=q:=⟨y.toNat,by omega⟩
     have hql:q<v.length:=by omega
     have HST:=Hd (cnts_yes hql HG.out)
     have HCB:=Hd (cnt_mono v q (Nat.le_of_lt hlt))
     have HCE:=Hd (at_end v q)
     have hcb:cntN v k q<=256:=by have:=HCB.out;have:=HCE.out;omega
     have hsc:=(HS.out.cells q).trans (show(icells (cntsV v k))[q]? =some (I (cntN v k q))by unfold icells;rw[List.getElem?_map,cnts_get hql];rfl)
     have hsf:=HS.out.frozen
     have HS2:=Hd (show Blk (wr.setCell ⟨tb,q,none⟩ (I ((cntN v k q:Int)+1))) tb (icells (cntsV v (k+1))) 3 from by have h:=HS.out.set q (I ((cntN v k q:Int)+1));rw[HST.out];unfold icells at*;rw[List.map_set];exact h)
     have HX2:=Hd (show Ext w (wr.setCell ⟨tb,q,none⟩ (I ((cntN v k q:Int)+1)))from HX.out.setCell (Nat.le_of_eq HTE.out) _)
     clear hyb hy
     generalize cntN v k q=cn at*
     go_wp2_with fail
     go_roundw
     case rel=>exact⟨k+1,Nat.succ_le_of_lt HLT.out,by go_num,HS2.out,HX2.out⟩
     case measure=>have:=HLT.out;simp[intOf];omega
   ·have HKE:=Hd (show k=v.length by omega)
    go_wp2_with fail
    go_meet
    case rel=>exact⟨by rw[<-HKE.out];exact HS.out,HX.out⟩
 case rest=>
  obtain⟨HSC,HXC⟩:=hcut
  have hmk2:=fun w=>run_make_row' (P:=Tryz.prog) 71 47 (.slice none 0 0) 24 Tryz.underlying71 infoInts' rfl .i64 .i64 v.length (by omega) (by omega) w
  have eN:(madeCells #[(.slice none 0 0:Value)] v.length)=(List.replicate v.length (.slice none 0 0:Value)).toArray:=by rw[<-Array.toList_inj,toList_madeCells_one]
  have EN:=Hd eN
  clear eN
  go_upto_block 2 with fail
  rw[EI.out,EN.out]
  refine hWp (fun W=>Ext wc W/\Blk W wc.heap.size (icells (List.replicate v.length 0)) 3/\Blk W (wc.heap.size+1) (List.replicate v.length (.slice none 0 0)) 47)
   ⟨by(repeat with_reducible first|exact eR _|assumption|refine eA ?_ _|refine eD ?_|refine eW ?_ _|(refine eS ?_ ?_;focus(first|(simp;done)|(simp;omega)|omega))),(Blk.new wc (icells (List.replicate v.length 0)) 3).old _,Blk.newAt _ (by simp)⟩ (fun W2 hW2=>?_)
  obtain⟨hx2,hab,hfb⟩:=hW2
  have HX2:=Hd (HXC.out.trans hx2)
  have HT2:=Hd (HSC.out.later hx2)
  have HAB:=Hd hab
  have HFB:=Hd hfb
  have HLE:=Hd (show tb<wc.heap.size/\w.heap.size<=wc.heap.size from⟨HSC.out.lt,HXC.out.size⟩)
  clear hx2 hab hfb hmk hmk2 HSC HXC
  generalize wc.heap.size=ab at*
  go_cut[8,39] (fun _ _ wd=>Hid (∃cs,HeadsIn v 0 v.length ab cs/\Blk wd (ab+1) cs 47)/\Hid (Blk wd ab (icells (List.replicate v.length 0)) 3)/\Hid (Ext w wd))
  case first=>
   go_wp2_with fail
   go_loopw[8,39] (fun t i wr=>∃k:Nat,k<=v.length/\i=I k/\t=I (offN v k)/\Hid (∃cs,HeadsIn v 0 k ab cs/\Blk wr (ab+1) cs 47)/\Hid (Blk wr ab (icells (List.replicate v.length 0)) 3)/\Hid (Blk wr tb (icells (cntsV v v.length)) 3)/\Hid (Ext w wr)) (fun _ i _=>v.length-(intOf i).toNat)
   case atStart=>exact⟨0,Nat.zero_le _,rfl,by rw[at_zero];rfl,⟨_,⟨List.length_replicate,fun x h=>absurd h (Nat.not_lt_zero x)⟩,HFB.out⟩,HAB.out,HT2.out,HX2.out⟩
   case round=>
    obtain⟨k,hk,rfl,rfl,HC,HA,HT,HX⟩:=hrel
    obtain⟨cs,hcs,hfb⟩:=HC.out
    have HCS:=Hd hcs
    have HF:=Hd hfb
    clear hcs hfb
    by_cases hlt:k<v.length
    ·have hkd:decide ((k:Int)<(v.length:Int))=true:=dT (by omega)
     have HLT:=Hd hlt
     have hsc:=(HT.out.cells k).trans (show(icells (cntsV v v.length))[k]? =some (I (cntN v v.length k))by unfold icells;rw[List.getElem?_map,cnts_get hlt];rfl)
     have HST:=Hd (at_succ v k)
     have hae:=at_end v k
     generalize hcn:cntN v v.length k=cn at*
     have HCN:=Hd hcn
     generalize hof:offN v k=off at*
     have HOF:=Hd hof
     clear hcn hof
     have hff:=HF.out.frozen
     have hcl:cs.length=v.length:=HCS.out.1
     have hfc:=HF.out.cells k
     rw[gE (by rw[hcl];exact hlt)]at hfc
     generalize cs[k]=c0 at hfc
     clear hcl
     go_upto_region 15 with(first
      |(refine wpList_of_run rfl (run_slice_three (o:=⟨some 52,_,_,_,_,_⟩) rfl Tryz.underlying47 sizeInt rfl rfl rfl rfl (by omega) (by omega) hae) ?_))
     have HHN:=Hd (show HeadsIn v 0 (k+1) ab (cs.set k (.slice (if cn=0 then some ⟨ab,0,none⟩else some ⟨ab,off,none⟩) 0 cn))from by
      refine⟨by rw[List.length_set];exact HCS.out.1,fun x hx=>?_⟩
      rw[List.getElem?_set]
      by_cases e:k=x
      ·subst e
       rw[if_pos rfl,if_pos (by rw[HCS.out.1];exact HLT.out),cnt_zero,HCN.out,HOF.out]
       exact⟨_,rfl,fun h=>if_neg (by omega)⟩
      ·rw[if_neg e]
       exact HCS.out.2 x (by omega))
     generalize (if cn=0 then some (⟨ab,0,none⟩:Addr)else some ⟨ab,off,none⟩)=xa at*
     have HF2:=Hd (HF.out.set k (.slice xa 0 cn))
     have HA2:=Hd (HA.out.other (p:=⟨ab+1,k,none⟩) (by show ab+1≠ab;omega) (.slice xa 0 cn))
     have HT2:=Hd (HT.out.other (p:=⟨ab+1,k,none⟩) (by show ab+1≠tb;have:=HLE.out;omega) (.slice xa 0 cn))
     have HX2:=Hd (HX.out.setCell (p:=⟨ab+1,k,none⟩) (by show w.heap.size<=ab+1;have:=HLE.out;omega) (.slice xa 0 cn))
     clear hsc hfc hff
     go_wp2_with fail
     go_roundw
     case rel=>exact⟨k+1,Nat.succ_le_of_lt HLT.out,by go_num,by rw[HST.out];go_num,⟨_,HHN.out,HF2.out⟩,HA2.out,HT2.out,HX2.out⟩
     case measure=>have:=HLT.out;simp[intOf];omega
    ·have HKE:=Hd (show k=v.length by omega)
     go_wp2_with fail
     go_meet
     case rel=>exact⟨by rw[<-HKE.out];exact HC.out,HA.out,HX.out⟩
  case rest=>
   obtain⟨HC,HA,HX⟩:=hcut
   obtain⟨cs,hcs,hfb⟩:=HC.out
   have HCS:=Hd hcs
   have HF:=Hd hfb
   clear hcs hfb HC HT2 HAB HFB HX2
   go_wp2_with fail
   go_loopw[60] (fun i wr=>∃k:Nat,k<=v.length/\i=I k/\Hid (∃cs g,HeadsIn v k v.length ab cs/\BackIn v k g/\Blk wr (ab+1) cs 47/\Blk wr ab (icells g) 3)/\Hid (Ext w wr)) (fun i _=>v.length-(intOf i).toNat)
   case atStart=>exact⟨0,Nat.zero_le _,rfl,⟨cs,_,HCS.out,BackIn.start v _ List.length_replicate,HF.out,HA.out⟩,HX.out⟩
   case round=>
    obtain⟨k,hk,rfl,HC,HXr⟩:=hrel
    obtain⟨ds,g,hds,hg,hfb,hab⟩:=HC.out
    have HDS:=Hd hds
    have HGG:=Hd hg
    have HFr:=Hd hfb
    have HAr:=Hd hab
    clear hds hg hfb hab
    by_cases hlt:k<v.length
    ·have hkd:decide ((k:Int)<(v.length:Int))=true:=dT (by omega)
     obtain⟨b1,o1,he1,hc1⟩:=A3.out k _ (gE hlt)
     subst he1
     replace hc1:=HXr.out.cell hc1
     have HLT:=Hd hlt
     have HG:=Hd (show v.getD k 0=v[k]by rw[List.getD_eq_getElem?_getD,gE hlt];rfl)
     have hyb:=HOK.out _ (List.getElem_mem hlt)
     generalize v[k]=y at*
     by_cases hy:y= -1
     ·subst hy
      have HDN:=Hd (show HeadsIn v (k+1) v.length ab ds from⟨HDS.out.1,fun x hx=>by rw[cnt_no (by rw[HG.out];omega)];exact HDS.out.2 x hx⟩)
      have HGN:=Hd (HGG.out.no fun x _=>(by rw[HG.out];omega))
      go_wp2_with fail
      go_roundw
      case rel=>exact⟨k+1,Nat.succ_le_of_lt HLT.out,by go_num,⟨ds,g,HDN.out,HGN.out,HFr.out,HAr.out⟩,HXr.out⟩
      case measure=>have:=HLT.out;simp[intOf];omega
     ·have hyn:(y != -1)=true:=bne_iff_ne.2 hy
      obtain⟨q,rfl⟩:∃q:Nat,y=q:=⟨y.toNat,by omega⟩
      have hql:q<v.length:=by omega
      obtain⟨xa,hxc,hxe⟩:=HDS.out.2 q hql
      have hcl:=cnt_lt hlt HG.out
      obtain rfl:=hxe (by omega)
      have HGN:=Hd (HGG.out.yes hlt hql HG.out)
      have hae:=at_end v q
      have HDN:=Hd (show HeadsIn v (k+1) v.length ab (ds.set q (.slice (some ⟨ab,offN v q,none⟩) (cntN v k q+1) (cntN v v.length q)))from by
       refine⟨by rw[List.length_set];exact HDS.out.1,fun x hx=>?_⟩
       rw[List.getElem?_set]
       by_cases e:q=x
       ·subst e
        rw[if_pos rfl,if_pos (by rw[HDS.out.1];exact hql),cnt_yes HG.out]
        exact⟨_,rfl,fun _=>rfl⟩
       ·rw[if_neg e,cnt_no (by rw[HG.out];omega)]
        exact HDS.out.2 x hx)
      have hgl:g.length=v.length:=HGG.out.1
      generalize cntN v k q=cm at*
      generalize cntN v v.length q=cn at*
      generalize offN v q=off at*
      have HFo:=Hd (HFr.out.old (.cells #[I k] 3))
      have HAo:=Hd (HAr.out.old (.cells #[I k] 3))
      have hfc:=(HFr.out.cells q).trans hxc
      have hfc2:=(HFo.out.cells q).trans hxc
      have hff2:=HFo.out.frozen
      have hac2:=(HAo.out.cells (off+cm)).trans (icell_get (q:=g) (k:=off+cm) (by omega))
      have haf2:=HAo.out.frozen
      clear hyb hy hxe hgl
      have HF3:=Hd ((HFo.out.other (p:=⟨ab,off+cm,none⟩) (by show ab≠ab+1;omega) (I k)).set q (.slice (some ⟨ab,off,none⟩) (cm+1) cn))
      have HA3:=Hd (show Blk (((wr.alloc (.cells #[I k] 3)).setCell ⟨ab,off+cm,none⟩ (I k)).setCell ⟨ab+1,q,none⟩ (.slice (some ⟨ab,off,none⟩) (cm+1) cn)) ab (icells (g.set (off+cm) (k:Int))) 3 from by
       have h:=(HAo.out.set (off+cm) (I k)).other (p:=⟨ab+1,q,none⟩) (by show ab+1≠ab;omega) (.slice (some ⟨ab,off,none⟩) (cm+1) cn)
       unfold icells at*
       rw[List.map_set]
       exact h)
      have HX3:=Hd (((HXr.out.alloc (.cells #[I k] 3)).setCell (p:=⟨ab,off+cm,none⟩) HLE.out.2 (I k)).setCell (p:=⟨ab+1,q,none⟩) (Nat.le_succ_of_le HLE.out.2) (.slice (some ⟨ab,off,none⟩) (cm+1) cn))
      go_wp2_with fail
      go_roundw
      case rel=>exact⟨k+1,Nat.succ_le_of_lt HLT.out,by go_num,⟨_,_,HDN.out,HGN.out,HF3.out,HA3.out⟩,HX3.out⟩
      case measure=>have:=HLT.out;simp[intOf];omega
    ·have HKE:=Hd (show k=v.length by omega)
     go_wp2_with fail
     go_ret
     obtain⟨ds,g,h1,h2,h3,h4⟩:=HC.out
     rw[HKE.out]at h1 h2
     exact⟨ab+1,ab,ds,g,rfl,h1,h2,h3,h4,Nat.le_succ_of_le HLE.out.2,HLE.out.2,by omega,HXr.out⟩
theorem nxv_get{v:List Int}{u:Nat}(hu:u<v.length):nxv v (u:Int)=v.getD u 0:=by
 rw[nxv_at hu,List.getD_eq_getElem?_getD,gE hu];rfl
def sinkN(v:List Int)(k:Nat):List Nat:=(List.range k).filter fun j=>v.getD j 0== -1
theorem sinkN_sinks(v:List Int)(k:Nat):sinksV v k=(sinkN v k).map fun(j:Nat)=>(j:Int):=rfl
theorem sinkN_mem{v:List Int}{k u:Nat}:u∈sinkN v k↔u<k/\v.getD u 0= -1:=by
 unfold sinkN
 simp only[List.mem_filter,List.mem_range,beq_iff_eq]
theorem sinkN_nodup(v:List Int)(k:Nat):(sinkN v k).Nodup:=List.Pairwise.filter _ List.nodup_range
theorem predN_nodup(v:List Int)(k x:Nat):(predN v k x).Nodup:=List.Pairwise.filter _ List.nodup_range
theorem nodup_sub:∀(l m:List Nat),l.Nodup->(∀x∈l,x∈m)->l.length<=m.length
 |[],_,_,_=>Nat.zero_le _
 |x::t,m,hd,h=>by
  obtain⟨h1,h2⟩:=List.nodup_cons.1 hd
  have hx:=h x (List.mem_cons_self ..)
  have h3:=nodup_sub t (m.erase x) h2 fun y hy=>(List.mem_erase_of_ne (show y≠x from fun e=>h1 (by rw[<-e];exact hy))).2 (h y (List.mem_cons_of_mem _ hy))
  rw[List.length_erase,if_pos hx]at h3
  have:=List.length_pos_of_mem hx
  rw[List.length_cons]
  omega
theorem nodupN_few{l:List Nat}{n:Nat}(h:l.Nodup)(hb:∀x∈l,x<n):l.length<=n:=by
 have:=nodup_sub l (List.range n) h fun x hx=>List.mem_range.2 (hb x hx)
 simpa using this
theorem nodup_all{l:List Nat}{n:Nat}(h:l.Nodup)(hb:∀x∈l,x<n)(hl:n<=l.length){u:Nat}(hu:u<n):u∈l:=
 Classical.byContradiction fun hc=>by
  have h2:(u::l).Nodup:=List.nodup_cons.2 ⟨hc,h⟩
  have h3:=nodupN_few h2 (n:=n) fun x hx=>by
   rcases List.mem_cons.1 hx with rfl|g
   ·exact hu
   ·exact hb x g
  simp at h3
  omega
structure Bfs(v:List Int)(D Q:List Nat)(rs:List Int):Prop where
 nodup:(D++Q).Nodup
 bd:∀u∈D++Q,u<v.length
 mem:∀u,u<v.length->(u∈D++Q↔v.getD u 0= -1\/∃x∈D,v.getD u 0=(x:Int))
 len:rs.length=v.length
 rank:∀u∈D++Q,∃m:Nat,rs[u]? =some (m:Int)/\RankIs v u m
structure BfsIn(v:List Int)(D:List Nat)(x j:Nat)(Q:List Nat)(rs:List Int):Prop where
 nodup:(D++x::Q).Nodup
 bd:∀u∈D++x::Q,u<v.length
 mem:∀u,u<v.length->(u∈D++x::Q↔v.getD u 0= -1\/(∃y∈D,v.getD u 0=(y:Int))\/∃i,i<j/\(predN v v.length x)[i]? =some u)
 len:rs.length=v.length
 rank:∀u∈D++x::Q,∃m:Nat,rs[u]? =some (m:Int)/\RankIs v u m
theorem Bfs.start(v:List Int):Bfs v [] (sinkN v v.length) (List.replicate v.length 0) where
 nodup:=sinkN_nodup _ _
 bd u hu:=(sinkN_mem.1 hu).1
 mem u hu:=by
  rw[List.nil_append,sinkN_mem]
  exact⟨fun h=>.inl h.2,fun h=>⟨hu,h.resolve_right fun⟨x,hx,_⟩=>by cases hx⟩⟩
 len:=List.length_replicate
 rank u hu:=by
  have h:=sinkN_mem.1 hu
  refine⟨0,by rw[List.getElem?_replicate,if_pos h.1];rfl,rank_end ⟨by omega,by omega⟩ ?_⟩
  rw[nxv_get h.1];exact h.2
theorem Bfs.take{v:List Int}{D Q:List Nat}{x:Nat}{rs:List Int}(h:Bfs v D (x::Q) rs):BfsIn v D x 0 Q rs where
 nodup:=h.nodup
 bd:=h.bd
 mem u hu:=by
  rw[h.mem u hu]
  exact⟨fun g=>g.imp id .inl,fun g=>g.imp id fun g=>g.resolve_right fun⟨i,hi,_⟩=>absurd hi (Nat.not_lt_zero i)⟩
 len:=h.len
 rank:=h.rank
theorem Bfs.few{v:List Int}{D Q:List Nat}{rs:List Int}(h:Bfs v D Q rs):D.length+Q.length<=v.length:=by
 have:=nodupN_few h.nodup h.bd
 rwa [List.length_append]at this
theorem BfsIn.few{v:List Int}{D Q:List Nat}{x j:Nat}{rs:List Int}(h:BfsIn v D x j Q rs):D.length+(Q.length+1)<=v.length:=by
 have:=nodupN_few h.nodup h.bd
 rwa [List.length_append]at this
theorem BfsIn.new{v:List Int}{D Q:List Nat}{x j u:Nat}{rs:List Int}(h:BfsIn v D x j Q rs)(hu:(predN v v.length x)[j]? =some u):u∉D++x::Q:=by
 intro hm
 obtain⟨hul,hux⟩:=pred_mem.1 (List.mem_of_getElem? hu)
 rcases(h.mem u hul).1 hm with g|⟨y,hy,g⟩|⟨i,hi,g⟩
 ·omega
 ·obtain rfl:x=y:=by omega
  have:=List.nodup_append.1 h.nodup
  exact this.2.2 x hy x (List.mem_cons_self ..) rfl
 ·obtain⟨gi,ge⟩:=List.getElem?_eq_some_iff.1 g
  obtain⟨ui,ue⟩:=List.getElem?_eq_some_iff.1 hu
  exact(List.pairwise_iff_getElem.1 (predN_nodup v v.length x)) i j gi ui hi (ge.trans ue.symm)
theorem BfsIn.room{v:List Int}{D Q:List Nat}{x j u:Nat}{rs:List Int}(h:BfsIn v D x j Q rs)(hu:(predN v v.length x)[j]? =some u):D.length+(Q.length+1)<v.length:=by
 have h2:(u::(D++x::Q)).Nodup:=List.nodup_cons.2 ⟨h.new hu,h.nodup⟩
 have:=nodupN_few h2 (n:=v.length) fun y hy=>by
  rcases List.mem_cons.1 hy with rfl|g
  ·exact(pred_mem.1 (List.mem_of_getElem? hu)).1
  ·exact h.bd y g
 simp at this
 omega
theorem BfsIn.step{v:List Int}{D Q:List Nat}{x j u:Nat}{rs:List Int}{r:Int}(h:BfsIn v D x j Q rs)(hu:(predN v v.length x)[j]? =some u)(hr:rs[x]? =some r):BfsIn v D x (j+1) (Q++[u]) (rs.set u (r+1)):=by
 have hnew:=h.new hu
 obtain⟨hul,hux⟩:=pred_mem.1 (List.mem_of_getElem? hu)
 have he:D++x::(Q++[u])=(D++x::Q)++[u]:=by simp
 have hx:x∈D++x::Q:=List.mem_append_right _ (List.mem_cons_self ..)
 refine⟨?_,?_,?_,by rw[List.length_set];exact h.len,?_⟩
 ·rw[he]
  refine List.nodup_append.2 ⟨h.nodup,by simp,fun a ha b hb e=>?_⟩
  rw[List.mem_singleton]at hb
  subst hb;subst e
  exact hnew ha
 ·intro y hy
  rw[he]at hy
  rcases List.mem_append.1 hy with g|g
  ·exact h.bd y g
  ·rw[List.mem_singleton.1 g];exact hul
 ·intro y hy
  rw[he,List.mem_append,List.mem_singleton,h.mem y hy]
  constructor
  ·rintro((g|g|⟨i,hi,g⟩)|rfl)
   ·exact .inl g
   ·exact .inr (.inl g)
   ·exact .inr (.inr ⟨i,by omega,g⟩)
   ·exact .inr (.inr ⟨j,by omega,hu⟩)
  ·rintro(g|g|⟨i,hi,g⟩)
   ·exact .inl (.inl g)
   ·exact .inl (.inr (.inl g))
   ·by_cases e:i=j
    ·subst e
     rw[hu]at g
     exact .inr (Option.some.inj g).symm
    ·exact .inl (.inr (.inr ⟨i,by omega,g⟩))
 ·intro y hy
  rw[he]at hy
  rw[List.getElem?_set]
  rcases List.mem_append.1 hy with g|g
  ·have hne:u≠y:=fun e=>hnew (e▸g)
   rw[if_neg hne]
   exact h.rank y g
  ·obtain rfl:=List.mem_singleton.1 g
   obtain⟨m,h1,h2⟩:=h.rank x hx
   rw[hr]at h1
   rw[if_pos rfl,if_pos (by rw[h.len];exact hul),Option.some.inj h1]
   refine⟨m+1,by simp,RankIs.back ?_⟩
   rw[nxv_get hul,hux]
   exact h2
theorem BfsIn.done{v:List Int}{D Q:List Nat}{x:Nat}{rs:List Int}(h:BfsIn v D x (cntN v v.length x) Q rs):Bfs v (D++[x]) Q rs:=by
 have he:(D++[x])++Q=D++x::Q:=by simp
 refine⟨by rw[he];exact h.nodup,by rw[he];exact h.bd,fun u hu=>?_,h.len,by rw[he];exact h.rank⟩
 rw[he,h.mem u hu]
 constructor
 ·rintro(g|⟨y,hy,g⟩|⟨i,hi,g⟩)
  ·exact .inl g
  ·exact .inr ⟨y,List.mem_append_left _ hy,g⟩
  ·exact .inr ⟨x,by simp,(pred_mem.1 (List.mem_of_getElem? g)).2⟩
 ·rintro(g|⟨y,hy,g⟩)
  ·exact .inl g
  ·rcases List.mem_append.1 hy with hy|hy
   ·exact .inr (.inl ⟨y,hy,g⟩)
   ·rw[List.mem_singleton.1 hy]at g
    obtain⟨i,hi⟩:=List.getElem?_of_mem (pred_mem.2 ⟨hu,g⟩:u∈predN v v.length x)
    exact .inr (.inr ⟨i,(List.getElem?_eq_some_iff.1 hi).1,hi⟩)
theorem Bfs.closed{v:List Int}(hv:VOk v){D:List Nat}{rs:List Int}(h:Bfs v D [] rs):∀(k u:Nat),u<v.length->itv v k u= -1->u∈D:=by
 intro k
 induction k with
 |zero=>intro u hu he;have e:(u:Int)= -1:=he;omega
 |succ k ih=>
  intro u hu he
  have hm:=h.mem u hu
  rw[List.append_nil]at hm
  rw[hm]
  have hx:=nxv_get hu
  rcases nxv_ok hv u with g|g
  ·exact .inl (by rw[<-hx];exact g)
  ·refine .inr ⟨(nxv v u).toNat,ih _ (by have:=g.2;have:=g.1;omega) ?_,by rw[<-hx];have:=g.1;omega⟩
   rw[Int.toNat_of_nonneg g.1]
   exact he
theorem Bfs.full{v:List Int}{D:List Nat}{rs:List Int}(h:Bfs v D [] rs)(hl:v.length<=D.length):RanksIs v rs:=by
 have hn:=h.nodup;have hb:=h.bd;have hr:=h.rank
 rw[List.append_nil]at hn hb hr
 exact⟨h.len,fun k hk=>hr k (nodup_all hn hb hl hk)⟩
theorem Bfs.loops{v:List Int}(hv:VOk v){D:List Nat}{rs:List Int}(h:Bfs v D [] rs)(hl:D.length<v.length):∃x,OnL v x:=
 Classical.byContradiction fun hc=>by
  have hn:=h.nodup
  rw[List.append_nil]at hn
  have hall:∀u∈List.range v.length,u∈D:=fun u hu=>by
   have hu':=List.mem_range.1 hu
   obtain⟨k,hk⟩:=ends_all hv (fun y hy=>hc ⟨y,hy⟩) (x:=(u:Int)) ⟨by omega,by omega⟩
   exact h.closed hv k u hu' hk
  have:=nodup_sub _ _ (List.nodup_range (n:=v.length)) hall
  simp at this
  omega
end Go.Proofs.YtjflkifodfncmaaGreatDoor
