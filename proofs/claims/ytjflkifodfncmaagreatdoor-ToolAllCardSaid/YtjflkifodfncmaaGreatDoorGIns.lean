/- Inside, InsideL, Part, Points: these texts in one. Conditions: each theorem names its own. -/
import Derived.Test.YtjflkifodfncmaaGreatDoorGCuts
import Derived.Laws.OwnMore
namespace Go.Proofs.YtjflkifodfncmaaGreatDoor
set_option maxHeartbeats 4000000
set_option maxRecDepth 100000
open Go.RowKit
def insB(lo hi c:BitVec 32):Bool:=decide (uv lo<uv c)&&decide (uv c<=uv hi)
def insideV(l:List (BitVec 32))(lo hi:BitVec 32):List (BitVec 32):=lo::l.filter (insB lo hi)
theorem insideV_in{l:List (BitVec 32)}{lo hi:BitVec 32}{k:Nat}(h:k<l.length)(hb:insB lo hi l[k]=true):insideV (l.take (k+1)) lo hi=insideV (l.take k) lo hi++[l[k]]:=by
 unfold insideV
 rw[List.take_succ_eq_append_getElem h,List.filter_append,List.cons_append]
 simp[hb]
theorem insideV_out{l:List (BitVec 32)}{lo hi:BitVec 32}{k:Nat}(h:k<l.length)(hb:insB lo hi l[k]=false):insideV (l.take (k+1)) lo hi=insideV (l.take k) lo hi:=by
 unfold insideV
 rw[List.take_succ_eq_append_getElem h,List.filter_append]
 simp[hb]
theorem insideV_len(l:List (BitVec 32))(lo hi:BitVec 32):(insideV l lo hi).length<=l.length+1:=by
 unfold insideV
 rw[List.length_cons]
 have:=List.length_filter_le (insB lo hi) l
 omega
theorem insideV_all{l:List (BitVec 32)}{lo hi:BitVec 32}{k:Nat}(h:l.length<=k):insideV (l.take k) lo hi=insideV l lo hi:=by rw[List.take_of_length_le h]
theorem own1_at{w:World}(x:BitVec 32):OwnU (w.alloc (.cells #[U x] 23)) w.heap.size (.slice (some ⟨w.heap.size,0,none⟩) 1 1) [x]:=ownU_made w [x] (by unfold maxLen;simp)
theorem one_U(x:BitVec 32):∀u∈[U x],u.oneCell'=true:=ucells_one [x]
theorem cutsInside_any(lv:Value)(l:List (BitVec 32))(lo hi:BitVec 32)(w:World)(hl:UsAt w lv l)(hn:l.length<=100000000):
 Calls Tryz.prog 195 #[lv,U lo,U hi] w fun e w'=>∃v,e=.returned v/\OwnU w' w.heap.size v (insideV l lo hi)/\Ext w w':=by
 obtain⟨ad,cap,rfl,a1,a2,a3⟩:=hl.form
 have A3:=Hd a3
 have HS:=Hd (own1_at (w:=w) lo)
 clear a3 hl
 unfold maxLen at a2
 go_enter Tryz.func195,Tryz.ntmps195
 go_wp2_with fail
 go_loopw[7,14] (fun v i wr=>∃k:Nat,k<=l.length/\i=I k/\Hid (OwnU wr w.heap.size v (insideV (l.take k) lo hi))/\Hid (Ext w wr)) (fun _ i _=>l.length-(intOf i).toNat)
 case atStart=>exact⟨0,by omega,rfl,HS.out,(eR w).alloc _⟩
 case round=>
  obtain⟨k,hk,rfl,HO,HX⟩:=hrel
  by_cases hlt:k<l.length
  ·obtain⟨b0,o0,rfl,p0⟩:=A3.out k l[k] (gE hlt)
   replace p0:=HX.out.cell p0
   by_cases h1:uv lo<uv l[k]
   ·have hd1:decide (uv lo<uv l[k])=true:=dT h1
    by_cases h2:uv l[k]<=uv hi
    ·have hd2:decide (uv l[k]<=uv hi)=true:=dT h2
     have HST:=Hd (insideV_in hlt (show insB lo hi l[k]=true by unfold insB;rw[hd1,hd2];rfl))
     have HLEN:=Hd (show(insideV (l.take k) lo hi).length<=k+1 by have:=insideV_len (l.take k) lo hi;rw[List.length_take]at this;omega)
     have HA:=Hd (show Ext w (wr.alloc (.cells #[U l[k]] 23))from HX.out.alloc _)
     have HOA:=Hd (show(wr.alloc (.cells #[U l[k]] 23)).ownsRow w.heap.size 23 1 _ (insideV (l.take k) lo hi).length (ucells (insideV (l.take k) lo hi))from HO.out.later ((eR wr).alloc _))
     have HSRC:=Hd (show Reads (wr.alloc (.cells #[U l[k]] 23)) 1 (.slice (some ⟨wr.heap.size,0,none⟩) 1 1) 1 [U l[k]]from(own1_at l[k]).us)
     clear h1 h2 HO
     generalize l[k]=x at*
     go_wp2_with (first
      |(at_builtin;refine wpList_app rfl (.tmp 26) (.tmp 28) 70 rfl w.heap.size 23 _ 1 4 Tryz.underlying70 infoU32 rfl (by decide) (by decide) _ _ _ rfl HOA.out _ _ _ rfl HSRC.out (one_U _) (by have:=HLEN.out;omega) HA.out.size ?_;intro v9 w9 ho9 hg9;have HO9:=Hd ho9;have HX9:=Hd (Ext.grown HA.out hg9 HOA.out (Nat.le_refl _));clear ho9 hg9))
     go_roundw
     case rel=>
      refine⟨k+1,by omega,by go_num,?_,HX9.out⟩
      show OwnU _ _ _ _
      rw[HST.out]
      unfold OwnU
      rw[List.length_append,ucells_app]
      exact HO9.out
     case measure=>simp[intOf];omega
    ·have hd2:decide (uv l[k]<=uv hi)=false:=dF h2
     have HST:=Hd (insideV_out hlt (show insB lo hi l[k]=false by unfold insB;rw[hd1,hd2];rfl))
     clear h1 h2
     generalize l[k]=x at*
     go_wp2_with fail
     go_roundw
     case rel=>exact⟨k+1,by omega,by go_num,by show OwnU _ _ _ _;rw[HST.out];exact HO.out,HX.out⟩
     case measure=>simp[intOf];omega
   ·have hd1:decide (uv lo<uv l[k])=false:=dF h1
    have HST:=Hd (insideV_out hlt (show insB lo hi l[k]=false by unfold insB;rw[hd1];rfl))
    clear h1
    generalize l[k]=x at*
    go_wp2_with fail
    go_roundw
    case rel=>exact⟨k+1,by omega,by go_num,by show OwnU _ _ _ _;rw[HST.out];exact HO.out,HX.out⟩
    case measure=>simp[intOf];omega
  ·have HE:=Hd (insideV_all (lo:=lo) (hi:=hi) (show l.length<=k by omega))
   go_wp2_with fail
   go_ret
   exact⟨_,rfl,by rw[<-HE.out];exact HO.out,HX.out⟩
theorem r12Inside_any(lv:Value)(l:List (BitVec 32))(lo hi:BitVec 32)(w:World)(hl:UsAt w lv l)(hn:l.length<=100000000):
 Calls Tryz.prog 167 #[lv,U lo,U hi] w fun e w'=>∃v,e=.returned v/\OwnU w' w.heap.size v (insideV l lo hi)/\Ext w w':=by
 obtain⟨ad,cap,rfl,a1,a2,a3⟩:=hl.form
 have A3:=Hd a3
 have HS:=Hd (own1_at (w:=w) lo)
 clear a3 hl
 unfold maxLen at a2
 go_enter Tryz.func167,Tryz.ntmps167
 go_wp2_with fail
 go_loopw[7,8] (fun v i wr=>∃k:Nat,k<=l.length/\i=I k/\Hid (OwnU wr w.heap.size v (insideV (l.take k) lo hi))/\Hid (Ext w wr)) (fun _ i _=>l.length-(intOf i).toNat)
 case atStart=>exact⟨0,by omega,rfl,HS.out,(eR w).alloc _⟩
 case round=>
  obtain⟨k,hk,rfl,HO,HX⟩:=hrel
  by_cases hlt:k<l.length
  ·obtain⟨b0,o0,rfl,p0⟩:=A3.out k l[k] (gE hlt)
   replace p0:=HX.out.cell p0
   by_cases h1:uv lo<uv l[k]
   ·have hd1:decide (uv lo<uv l[k])=true:=dT h1
    by_cases h2:uv l[k]<=uv hi
    ·have hd2:decide (uv l[k]<=uv hi)=true:=dT h2
     have HST:=Hd (insideV_in hlt (show insB lo hi l[k]=true by unfold insB;rw[hd1,hd2];rfl))
     have HLEN:=Hd (show(insideV (l.take k) lo hi).length<=k+1 by have:=insideV_len (l.take k) lo hi;rw[List.length_take]at this;omega)
     have HA:=Hd (show Ext w (wr.alloc (.cells #[U l[k]] 23))from HX.out.alloc _)
     have HOA:=Hd (show(wr.alloc (.cells #[U l[k]] 23)).ownsRow w.heap.size 23 1 _ (insideV (l.take k) lo hi).length (ucells (insideV (l.take k) lo hi))from HO.out.later ((eR wr).alloc _))
     have HSRC:=Hd (show Reads (wr.alloc (.cells #[U l[k]] 23)) 1 (.slice (some ⟨wr.heap.size,0,none⟩) 1 1) 1 [U l[k]]from(own1_at l[k]).us)
     clear h1 h2 HO
     generalize l[k]=x at*
     go_wp2_with (first
      |(at_builtin;refine wpList_app rfl (.tmp 31) (.tmp 36) 70 rfl w.heap.size 23 _ 1 4 Tryz.underlying70 infoU32 rfl (by decide) (by decide) _ _ _ rfl HOA.out _ _ _ rfl HSRC.out (one_U _) (by have:=HLEN.out;omega) HA.out.size ?_;intro v9 w9 ho9 hg9;have HO9:=Hd ho9;have HX9:=Hd (Ext.grown HA.out hg9 HOA.out (Nat.le_refl _));clear ho9 hg9))
     go_roundw
     case rel=>
      refine⟨k+1,by omega,by go_num,?_,HX9.out⟩
      show OwnU _ _ _ _
      rw[HST.out]
      unfold OwnU
      rw[List.length_append,ucells_app]
      exact HO9.out
     case measure=>simp[intOf];omega
    ·have hd2:decide (uv l[k]<=uv hi)=false:=dF h2
     have HST:=Hd (insideV_out hlt (show insB lo hi l[k]=false by unfold insB;rw[hd1,hd2];rfl))
     clear h1 h2
     generalize l[k]=x at*
     go_wp2_with fail
     go_roundw
     case rel=>exact⟨k+1,by omega,by go_num,by show OwnU _ _ _ _;rw[HST.out];exact HO.out,HX.out⟩
     case measure=>simp[intOf];omega
   ·have hd1:decide (uv lo<uv l[k])=false:=dF h1
    have HST:=Hd (insideV_out hlt (show insB lo hi l[k]=false by unfold insB;rw[hd1];rfl))
    clear h1
    generalize l[k]=x at*
    go_wp2_with fail
    go_roundw
    case rel=>exact⟨k+1,by omega,by go_num,by show OwnU _ _ _ _;rw[HST.out];exact HO.out,HX.out⟩
    case measure=>simp[intOf];omega
  ·have HE:=Hd (insideV_all (lo:=lo) (hi:=hi) (show l.length<=k by omega))
   go_wp2_with fail
   go_ret
   exact⟨_,rfl,by rw[<-HE.out];exact HO.out,HX.out⟩
def CutsS(S:List Int)(l:List (BitVec 32)):Prop:=Rising l/\∀c:BitVec 32,c∈l↔uv c∈S
theorem CutsS.put{S:List Int}{l:List (BitVec 32)}(h:CutsS S l)(x:BitVec 32):CutsS (S++[uv x]) (putC l x):=
 ⟨putC_rising h.1 x,fun c=>by
   rw[putC_mem,h.2,List.mem_append,List.mem_singleton]
   exact⟨fun g=>g.imp id (congrArg uv),fun g=>g.imp id uv_inj⟩⟩
theorem CutsS.len{S:List Int}{l:List (BitVec 32)}(h:CutsS S l):l.length<=S.length:=by
 have:=len_sub (l.map uv) S h.1.nodup fun x hx=>by
  obtain⟨c,hc,rfl⟩:=List.mem_map.1 hx
  exact(h.2 c).1 hc
 simpa using this
theorem CutsS.start:CutsS (cutI []) [0#32]:=⟨by simp[Rising],fun c=>by
 simp only[cutI,List.flatMap_nil,List.mem_singleton]
 exact⟨fun h=>by rw[h];rfl,fun h=>uv_inj (by rw[h];rfl)⟩⟩
theorem r12Of_any(lv:Value)(ls:List (List Rul))(w:World)(hl:TablesAt w lv ls)(hok:TablesOk ls)(hs:sizeN ls<=10000000):
 Calls Tryz.prog 110 #[.agg #[lv]] w fun e w'=>∃v l,e=.returned v/\UsAt w' v l/\Cuts ls.flatten l/\Ext w w':=by
 have HLT:=Hd (show(cutI ls.flatten).length<=20000001 by have:=cutI_len ls.flatten;rw[sizeN_flat]at this;omega)
 have HOK:=Hd hok
 obtain⟨ad,cap,rfl,a1,a2,a3⟩:=hl.form
 have A3:=Hd a3
 clear a3 hok hl
 unfold maxLen at a2
 have HU0:=Hd (show UsAt ((w.alloc (.cells #[.slice ad ls.length cap] 43)).alloc (.cells #[.int .u32 0] 23)) (.slice (some ⟨w.heap.size+1,0,none⟩) 1 1) [0#32]from by
  have h:=us_made (w.alloc (.cells #[.slice ad ls.length cap] 43)) [0#32] (by unfold maxLen;simp)
  have e:(w.alloc (.cells #[.slice ad ls.length cap] 43)).heap.size=w.heap.size+1:=by simp
  rw[e]at h
  exact h)
 go_enter Tryz.func110,Tryz.ntmps110
 go_upto_region 2 with(fail)
 refine hWp (fun W=>Ext w W/\Blk W w.heap.size [.slice ad ls.length cap] 43/\UsAt W (.slice (some ⟨w.heap.size+1,0,none⟩) 1 1) [0#32])
  ⟨by(repeat with_reducible first|exact eR _|assumption|refine eA ?_ _|refine eD ?_|refine eW ?_ _|(refine eS ?_ ?_;focus(first|(simp;done)|(simp;omega)|omega))),(Blk.new w [.slice ad ls.length cap] 43).old _,HU0.out⟩ (fun W1 hW1=>?_)
 obtain⟨hx1,hb1,hu1⟩:=hW1
 have HX1:=Hd hx1
 have HB1:=Hd hb1
 have HU1:=Hd hu1
 clear hx1 hb1 hu1 HU0
 generalize w.heap.size=nb at*
 go_wp2_with fail
 go_loopw[3,4] (fun v i wr=>∃(k:Nat) (l:List (BitVec 32)),k<=ls.length/\i=I k/\Hid (UsAt wr v l)/\Hid (CutsS (cutI (ls.take k).flatten) l)/\Hid (Ext W1 wr)) (fun _ i _=>ls.length-(intOf i).toNat)
 case atStart=>exact⟨0,[0#32],by omega,rfl,HU1.out,CutsS.start,eR _⟩
 case round=>
  obtain⟨k,l,hk,rfl,HU,HC,HX⟩:=hrel
  have hbc:=(HB1.out.later HX.out).cells
  by_cases hlt:k<ls.length
  ·obtain⟨b0,o0,u,rfl,p0,hru⟩:=A3.out k ls[k] (gE hlt)
   obtain⟨ra,rcap,rfl,r1,r2,r3⟩:=hru.form
   have R3:=Hd r3
   have HP:=Hd p0
   have HO1:=Hd (HOK.out.at hlt)
   clear r3 hru p0
   unfold maxLen at r2
   obtain⟨wo,rfl⟩:∃wo:World,wo=wr:=⟨_,rfl⟩
   go_wp2_with fail
   go_loopw[3,5] (fun v i wq=>∃(j:Nat) (l:List (BitVec 32)),j<=ls[k].length/\i=I j/\Hid (UsAt wq v l)/\Hid (CutsS (cutI ((ls.take k).flatten++ls[k].take j)) l)/\Hid (Ext W1 wq)) (fun _ i _=>ls[k].length-(intOf i).toNat)
   case atStart=>exact⟨0,l,by omega,rfl,HU.out,Hd (by simpa using HC.out),HX.out⟩
   case round=>
    obtain⟨j,z,hj,rfl,HUj,HCj,HXj⟩:=hrel
    have hbcj:=(HB1.out.later HXj.out).cells
    have hp0:=(HX1.out.trans HXj.out).cell HP.out
    by_cases hjl:j<ls[k].length
    ·have HLEN:=Hd (cutI_part hlt hjl)
     have HZL:=Hd HCj.out.len
     obtain⟨b1,o1,rfl,q0,q1,q2,q3⟩:=R3.out j ls[k][j] (gE hjl)
     have kb:=(HB1.out.later HXj.out).keep
     replace hp0:=Ext.keep hp0
     replace q0:=Ext.keep ((HX1.out.trans HXj.out).cell q0)
     replace q1:=Ext.keep ((HX1.out.trans HXj.out).cell q1)
     clear q2 q3 hbcj hbc
     have HOK1:=Hd (HO1.out ls[k][j] (List.getElem_mem hjl)).pl
     have HST:=Hd (show cutI ((ls.take k).flatten++ls[k].take (j+1))=cutI ((ls.take k).flatten++ls[k].take j)++rcut ls[k][j]by rw[List.take_succ_eq_append_getElem hjl,<-List.append_assoc,cutI_app])
     have HRC:=Hd (show rcut ls[k][j]=uv (lowV ls[k][j].pa ls[k][j].pl)::(if uv (highV ls[k][j].pa ls[k][j].pl)=4294967295 then []else [uv (highV ls[k][j].pa ls[k][j].pl)+1])from rfl)
     have HEC:=Hd (show∀W,Calls Tryz.prog 154 #[U ls[k][j].pa,I ls[k][j].pl] W fun e w'=>e=.returned (.tuple #[U (lowV ls[k][j].pa ls[k][j].pl),U (highV ls[k][j].pa ls[k][j].pl)])/\W=w' from fun W=>r06Ends_any _ _ _ HOK1.out)
     go_wp2_with fail
     refine wp_region_E 23 rfl (by kernel_rfl) (by kernel_rfl) ?_
     refine WEi_at 0 ?_
     iterate 23
      refine WEi_q rfl (by decide) (by kernel_rfl) rfl ?_;apply Exists.intro;refine⟨fun w1 hx1=>?_,?_⟩
      ·have hq1:=hx1.cells;go_simp;try go_bits
       first|with_reducible rfl|(refine(HEC.out _).mono ?_;rintro e w' ⟨rfl,rfl⟩;exact⟨rfl,eR _⟩)
      go_frame;try simp only[Nat.reduceAdd]
     refine WEi_out ?_
     refine WE_done (by kernel_rfl) (fun w8 hx8=>?_)
     (try simp only[List.drop_succ_cons,List.drop_zero])
     clear kb hp0 q0 q1
     have HX8:=Hd (HXj.out.trans hx8)
     have HU8:=Hd (HUj.out.later hx8)
     clear hx8
     have HLT2:=Hd (show z.length+(rcut ls[k][j]).length<=20000001 by have h1:=HLEN.out;have h2:=HZL.out;have h3:=HLT.out;omega)
     clear HLEN HZL
     generalize hS:cutI ((ls.take k).flatten++ls[k].take j)=S at*
     clear hS
     generalize rcut ls[k][j]=rc at*
     generalize lowV ls[k][j].pa ls[k][j].pl=lo at*
     generalize highV ls[k][j].pa ls[k][j].pl=hi at*
     have HN1:=Hd (show z.length<=100000000 by have:=HLT2.out;omega)
     have HN2:=Hd (show(putC z lo).length<=100000000 by have h1:=HLT2.out;have h2:=putC_len z lo;omega)
     have HP1:=Hd (HCj.out.put lo)
     by_cases ht:uv hi=4294967295
     ·have ht1:(hi !=4294967295#32)=false:=by rw[bne_eq_false_iff_eq];exact uv_inj (by rw[ht];rfl)
      have ht2:(uv hi !=4294967295)=false:=by simpa using ht
      have HRC':=Hd (show rc=[uv lo]by rw[HRC.out,if_pos ht])
      clear ht
      go_wp2_with (first
       |(go_at_call 155;(with_reducible refine(r12Put_any _ z lo _ HU8.out HN1.out).mono ?_);rintro e w9 ⟨v9,rfl,hu9,hx9⟩;have HU9:=Hd hu9;have HX9:=Hd (HX8.out.trans hx9);clear hu9 hx9))
      go_roundw
      case rel=>
       refine⟨j+1,putC z lo,by omega,by go_num,HU9.out,?_,HX9.out⟩
       show CutsS _ _
       rw[HST.out,HRC'.out]
       exact HP1.out
      case measure=>simp[intOf];omega
     ·have ht1:(hi !=4294967295#32)=true:=by rw[bne_iff_ne];intro e;exact ht (by rw[e];rfl)
      have ht2:(uv hi !=4294967295)=true:=by simpa using ht
      have HRC':=Hd (show rc=[uv lo,uv hi+1]by rw[HRC.out,if_neg ht])
      have HP2:=Hd (HP1.out.put (hi+1#32))
      have HI:=Hd (uv_inc ht)
      clear ht
      go_wp2_with (first
       |(go_at_call 155;(with_reducible refine(r12Put_any _ z lo _ HU8.out HN1.out).mono ?_);rintro e w9 ⟨v9,rfl,hu9,hx9⟩;have HU9:=Hd hu9;have HX9:=Hd (HX8.out.trans hx9);clear hu9 hx9)
       |(go_at_call 155;(with_reducible refine(r12Put_any _ (putC z lo) (hi+1#32) _ HU9.out HN2.out).mono ?_);rintro e w10 ⟨v10,rfl,hu10,hx10⟩;have HU10:=Hd hu10;have HX10:=Hd (HX9.out.trans hx10);clear hu10 hx10))
      go_roundw
      case rel=>
       refine⟨j+1,putC (putC z lo) (hi+1#32),by omega,by go_num,HU10.out,?_,HX10.out⟩
       show CutsS _ _
       have:=HP2.out
       rw[HI.out,List.append_assoc]at this
       rw[HST.out,HRC'.out]
       exact this
      case measure=>simp[intOf];omega
    ·have hje:j=ls[k].length:=by omega
     have HE:=Hd (show(ls.take k).flatten++ls[k].take j=(ls.take (k+1)).flatten by rw[hje,flat_step hlt,List.take_of_length_le (Nat.le_refl _)])
     have hjd:decide ((j:Int)<(ls[k].length:Int))=false:=dF (by omega)
     have hjn:decide (j<ls[k].length)=false:=dF hjl
     clear hje
     go_wp2_with fail
     go_roundw
     case rel=>exact⟨k+1,z,by omega,by go_num,HUj.out,by show CutsS _ _;rw[<-HE.out];exact HCj.out,HXj.out⟩
     case measure=>simp[intOf];omega
  ·have HE:=Hd (show ls.take k=ls by rw[List.take_of_length_le (by omega)])
   have hkd:decide ((k:Int)<(ls.length:Int))=false:=dF (by omega)
   have hkn:decide (k<ls.length)=false:=dF hlt
   go_wp2_with fail
   go_ret
   refine⟨_,l,rfl,HU.out,?_,HX1.out.trans HX.out⟩
   have:=HC.out
   rw[HE.out]at this
   exact this
theorem insB_iff{lo hi c:BitVec 32}:insB lo hi c=true↔uv lo<uv c/\uv c<=uv hi:=by
 unfold insB;rw[Bool.and_eq_true,decide_eq_true_iff,decide_eq_true_iff]
theorem inside_mem{l:List (BitVec 32)}{lo hi c:BitVec 32}:c∈insideV l lo hi↔c=lo\/(c∈l/\uv lo<uv c/\uv c<=uv hi):=by
 unfold insideV;rw[List.mem_cons,List.mem_filter,insB_iff]
theorem inside_rising{l:List (BitVec 32)}(hr:Rising l)(lo hi:BitVec 32):Rising (insideV l lo hi):=by
 unfold insideV Rising
 rw[List.pairwise_cons]
 refine⟨fun c hc=>?_,hr.sublist List.filter_sublist⟩
 rw[List.mem_filter,insB_iff]at hc
 exact hc.2.1
theorem inside_bd{l:List (BitVec 32)}{lo hi c:BitVec 32}(h:uv lo<=uv hi)(hc:c∈insideV l lo hi):uv lo<=uv c/\uv c<=uv hi:=by
 rcases inside_mem.1 hc with rfl|⟨_,h1,h2⟩
 ·exact⟨Int.le_refl _,h⟩
 ·exact⟨Int.le_of_lt h1,h2⟩
structure Prt where
 fr:BitVec 32
 up:BitVec 32
 ra:Option Addr
 rn:Nat
 rc:Nat
abbrev Prt.rk(p:Prt):Value:=.slice p.ra p.rn p.rc
def Prt.cells(p:Prt):List Value:=[U p.fr,U p.up,p.rk]
abbrev Prt.val(p:Prt):Value:=.agg #[U p.fr,U p.up,p.rk]
def pcells(l:List Prt):List Value:=l.flatMap Prt.cells
theorem pcells_len(l:List Prt):(pcells l).length=l.length*3:=flat_len _ 3 (fun _=>rfl) l
theorem pcells_app(a b:List Prt):pcells (a++b)=pcells a++pcells b:=List.flatMap_append
theorem pcells_one(l:List Prt):∀u∈pcells l,u.oneCell'=true:=by
 intro u hu
 obtain⟨r,_,hr⟩:=List.mem_flatMap.1 hu
 simp only[Prt.cells,List.mem_cons,List.not_mem_nil,or_false]at hr
 rcases hr with rfl|rfl|rfl<;>rfl
def PartsAt(w:World)(v:Value)(l:List Prt):Prop:=Reads w 3 v l.length (pcells l)
def OwnP(w:World)(B:Nat)(v:Value)(l:List Prt):Prop:=w.ownsRow B 85 3 v l.length (pcells l)
theorem PartsAt.later{w w':World}{v:Value}{l:List Prt}(h:PartsAt w v l)(hx:Ext w w'):PartsAt w' v l:=Reads.later h hx
theorem OwnP.later{w w':World}{B:Nat}{v:Value}{l:List Prt}(h:OwnP w B v l)(hx:Ext w w'):OwnP w' B v l:=own_later h hx
theorem OwnP.parts{w:World}{B:Nat}{v:Value}{l:List Prt}(h:OwnP w B v l):PartsAt w v l:=Reads.of_own h
theorem PartsAt.form{w:World}{v:Value}{l:List Prt}(h:PartsAt w v l):
 ∃a cap,v=.slice a l.length cap/\l.length<=cap/\cap<=maxLen/\∀(i:Nat) (r:Prt),l[i]? =some r->∃b off,a=some ⟨b,off,none⟩/\
  w.cell? ⟨b,off+i*3,none⟩=some (U r.fr)/\w.cell? ⟨b,off+i*3+1,none⟩=some (U r.up)/\w.cell? ⟨b,off+i*3+2,none⟩=some r.rk:=by
 obtain⟨h0,a,cap,h1,h2,h3,h4,h5⟩:=h
 refine⟨a,cap,h1,h2,h3,fun i r hi=>?_⟩
 have hil:=(List.getElem?_eq_some_iff.1 hi).1
 cases a with
 |none=>have:=h4 rfl;omega
 |some b=>
  obtain⟨e1,e2⟩:=h5 b rfl
  replace e1:b.spot=none:=by
   rcases e1 with e1|e1
   ·exact e1
   ·have:=pcells_len l;rw[e1]at this;simp at this;omega
  have g:∀k,k<3->(pcells l)[i*3+k]? =r.cells[k]?:=fun k hk=>flat_get Prt.cells 3 (fun _=>rfl) l i k r hi hk
  obtain⟨bb,bo,bs⟩:=b
  simp only at e1
  subst e1
  refine⟨bb,bo,rfl,?_,?_,?_⟩
  ·have:=e2 (i*3+0) (U r.fr) (by rw[g 0 (by omega)];rfl);simpa using this
  ·have:=e2 (i*3+1) (U r.up) (by rw[g 1 (by omega)];rfl);simpa[Nat.add_assoc]using this
  ·have:=e2 (i*3+2) r.rk (by rw[g 2 (by omega)];rfl);simpa[Nat.add_assoc]using this
theorem parts_nil(w:World):PartsAt w (.slice none 0 0) []:=Reads.nil w 3
def UUsAt(w:World)(v:Value)(ls:List (List (BitVec 32))):Prop:=
 ∃vs:List Value,Reads w 1 v ls.length vs/\∀(i:Nat) (l:List (BitVec 32)),ls[i]? =some l->∃u,vs[i]? =some u/\UsAt w u l
def OwnUU(w:World)(B:Nat)(v:Value)(ls:List (List (BitVec 32))):Prop:=
 ∃vs:List Value,w.ownsRow B 70 1 v ls.length vs/\∀(i:Nat) (l:List (BitVec 32)),ls[i]? =some l->∃u,vs[i]? =some u/\OwnU w B u l
theorem UUsAt.later{w w':World}{v:Value}{ls:List (List (BitVec 32))}(h:UUsAt w v ls)(hx:Ext w w'):UUsAt w' v ls:=
 let⟨vs,h1,h2⟩:=h
 ⟨vs,h1.later hx,fun i l hi=>let⟨u,g1,g2⟩:=h2 i l hi;⟨u,g1,g2.later hx⟩⟩
theorem UUsAt.nil(w:World):UUsAt w (.slice none 0 0) []:=⟨[],Reads.nil w 1,fun i l h=>by cases h⟩
theorem UUsAt.form{w:World}{v:Value}{ls:List (List (BitVec 32))}(h:UUsAt w v ls):
 ∃a cap,v=.slice a ls.length cap/\ls.length<=cap/\cap<=maxLen/\∀(i:Nat) (l:List (BitVec 32)),ls[i]? =some l->∃b off u,a=some ⟨b,off,none⟩/\w.cell? ⟨b,off+i,none⟩=some u/\UsAt w u l:=by
 obtain⟨vs,⟨h0,a,cap,h1,h2,h3,h4,h5⟩,hv⟩:=h
 refine⟨a,cap,h1,h2,h3,fun i l hi=>?_⟩
 have hil:=(List.getElem?_eq_some_iff.1 hi).1
 obtain⟨u,g1,g2⟩:=hv i l hi
 cases a with
 |none=>have:=h4 rfl;omega
 |some b=>
  obtain⟨e1,e2⟩:=h5 b rfl
  replace e1:b.spot=none:=by
   rcases e1 with e1|e1
   ·exact e1
   ·rw[e1]at g1;cases g1
  obtain⟨bb,bo,bs⟩:=b
  simp only at e1
  subst e1
  exact⟨bb,bo,u,rfl,e2 i u g1,g2⟩
theorem OwnUU.nil(w:World)(B:Nat):OwnUU w B (.slice none 0 0) []:=⟨[],⟨by simp,.inl ⟨rfl,rfl⟩⟩,fun i l h=>by cases h⟩
theorem OwnUU.later{w w':World}{B:Nat}{v:Value}{ls:List (List (BitVec 32))}(h:OwnUU w B v ls)(hx:Ext w w'):OwnUU w' B v ls:=
 let⟨vs,h1,h2⟩:=h
 ⟨vs,own_later h1 hx,fun i l hi=>let⟨u,g1,g2⟩:=h2 i l hi;⟨u,g1,own_later g2 hx⟩⟩
theorem OwnUU.low{w:World}{B B':Nat}{v:Value}{ls:List (List (BitVec 32))}(h:OwnUU w B v ls)(hB:B'<=B):OwnUU w B' v ls:=
 let⟨vs,h1,h2⟩:=h
 ⟨vs,own_low h1 hB,fun i l hi=>let⟨u,g1,g2⟩:=h2 i l hi;⟨u,g1,own_low g2 hB⟩⟩
theorem OwnUU.read{w:World}{B:Nat}{v:Value}{ls:List (List (BitVec 32))}(h:OwnUU w B v ls):UUsAt w v ls:=
 let⟨vs,h1,h2⟩:=h
 ⟨vs,Reads.of_own h1,fun i l hi=>let⟨u,g1,g2⟩:=h2 i l hi;⟨u,g1,g2.us⟩⟩
theorem OwnUU.app{w w':World}{B:Nat}{v v' u:Value}{ls:List (List (BitVec 32))}{l:List (BitVec 32)}{vs:List Value}(hown:w.ownsRow B 70 1 v ls.length vs)
 (hvs:∀(i:Nat) (l:List (BitVec 32)),ls[i]? =some l->∃u,vs[i]? =some u/\OwnU w B u l)
 (ho:w'.ownsRow B 70 1 v' (ls.length+1) (vs++[u])) (hg:w.grownBy w' v.ownBlock) (hu:OwnU w B u l):OwnUU w' B v' (ls++[l]):=by
 have hlen:vs.length=ls.length:=by have:=hown.1;simpa using this
 refine⟨vs++[u],by rw[List.length_append];exact ho,fun i m hi=>?_⟩
 rcases snoc_get hi with hi|⟨rfl,rfl⟩
 ·obtain⟨q,q1,q2⟩:=hvs i m hi
  have hil:=(List.getElem?_eq_some_iff.1 hi).1
  exact⟨q,by rw[List.getElem?_append_left (by omega)];exact q1,own_apart q2 hown (by decide) hg⟩
 ·exact⟨u,by rw[List.getElem?_append_right (by omega),hlen];simp,own_apart hu hown (by decide) hg⟩
theorem infoU32s:(Tryz.prog.info? 70).map (fun i=>(i.zero,i.size,i.bytes))=some (some (.slice none 0 0),1,24):=by kernel_rfl
theorem usAt_slice{w:World}{v:Value}{l:List (BitVec 32)}(h:UsAt w v l):∃a cap,v=.slice a l.length cap:=let ⟨a,cap,h1,_⟩:=h.form;⟨a,cap,h1⟩
def pointsL(l:List (BitVec 32))(ps:List Prt):List (List (BitVec 32)):=ps.map fun p=>insideV l p.fr p.up
theorem pointsL_len(l:List (BitVec 32))(ps:List Prt):(pointsL l ps).length=ps.length:=List.length_map _
theorem pointsL_step{l:List (BitVec 32)}{ps:List Prt}{k:Nat}(h:k<ps.length):pointsL l (ps.take (k+1))=pointsL l (ps.take k)++[insideV l ps[k].fr ps[k].up]:=by
 unfold pointsL
 rw[List.take_succ_eq_append_getElem h,List.map_append]
 rfl
theorem coverPointsAll_any(lv pv:Value)(ls:List (List Rul))(ps:List Prt)(w:World)(hl:TablesAt w lv ls)(hok:TablesOk ls)(hs:sizeN ls<=10000000)(hp:PartsAt w pv ps)(hn:ps.length<=1000000):
 Calls Tryz.prog 164 #[.agg #[lv],pv] w fun e w'=>∃v l,e=.returned v/\Cuts ls.flatten l/\OwnUU w' w.heap.size v (pointsL l ps)/\Ext w w':=by
 have HL:=Hd hl
 have HOK:=Hd hok
 have HS:=Hd hs
 obtain⟨ad,cap,rfl,a1,a2,a3⟩:=hl.form
 obtain⟨pd,pcap,rfl,p1,p2,p3⟩:=hp.form
 have P3:=Hd p3
 clear a3 p3 hok hl hp
 unfold maxLen at a2 p2
 obtain⟨i32s,hi0,hi1,hi2,hi3⟩:=info_parts infoU32s
 go_enter Tryz.func164,Tryz.ntmps164
 go_upto_region 1 with(fail)
 refine hBk w [.slice ad ls.length cap] 43 (fun W1 hW1=>?_)
 obtain⟨hx1,hb1⟩:=hW1
 have HX1:=Hd hx1
 have HL1:=Hd (HL.out.later hx1)
 have hbc:=hb1.cells
 clear hx1 hb1
 generalize hnb:w.heap.size=nb at*
 have HNB:=Hd hnb
 clear hnb
 go_upto_region 2 with(first
  |(go_at_call 92;(with_reducible refine(cutsOf_any _ ls _ HL1.out HOK.out (cap_of HS.out)).mono ?_);rintro e w2 ⟨v2,l,he,hO,hC,hx2⟩;subst he;have HU2:=Hd hO.us;have HC:=Hd hC;have HX2:=Hd (HX1.out.trans hx2);clear hO hC hx2))
 have HLEN:=Hd (show l.length<=100000000 by have h1:=HC.out.len;rw[sizeN_flat]at h1;have:=HS.out;omega)
 clear hbc HL1 HX1
 go_upto_region 3 with(first
  |(at_make;refine wpList_make_own _ rfl _ _ 168 rfl w2.heap.size 70 i32s _ 1 Tryz.underlying168 hi0 hi1 hi2 .i64 .i64 _ ps.length rfl rfl rfl (by rw[hi3];omega) (by unfold maxLen;omega) (Nat.le_refl _) ?_;intro w3 ho3 hg3))
 have HX3:=Hd (show Ext w2 w3 from Below.grown (Below.refl _ _) hg3 (Nat.le_refl _) (fun k hk=>by cases hk))
 have HO3:=Hd (show OwnUU w3 w2.heap.size (.slice (some ⟨w2.heap.size,0,none⟩) 0 ps.length) (pointsL l (ps.take 0))from⟨[],by simpa[pointsL]using ho3,fun i l h=>by simp[pointsL]at h⟩)
 clear ho3 hg3 hi0 hi1 hi2 hi3
 go_wp2_with fail
 go_loopw[6,16] (fun v i wr=>∃k:Nat,k<=ps.length/\i=I k/\Hid (OwnUU wr w2.heap.size v (pointsL l (ps.take k)))/\Hid (Ext w2 wr)) (fun _ i _=>ps.length-(intOf i).toNat)
 case atStart=>exact⟨0,by omega,rfl,HO3.out,HX3.out⟩
 case round=>
  obtain⟨k,hk,rfl,HO,HX⟩:=hrel
  by_cases hlt:k<ps.length
  ·obtain⟨b0,o0,rfl,q0,q1,q2⟩:=P3.out k ps[k] (gE hlt)
   have HXX:=Hd (HX2.out.trans HX.out)
   replace q0:=HXX.out.cell q0
   replace q1:=HXX.out.cell q1
   replace q2:=HXX.out.cell q2
   have HST:=Hd (pointsL_step (l:=l) hlt)
   have HPL:=Hd (show(pointsL l (ps.take k)).length=k by rw[pointsL_len,List.length_take];omega)
   generalize ps[k]=p at*
   go_upto_region 6 with(fail)
   refine hBk wr [U p.fr,U p.up,p.rk] 85 (fun W4 hW4=>?_)
   obtain⟨hx4,hb4⟩:=hW4
   have HX4:=Hd (HX.out.trans hx4)
   have HO4:=Hd (HO.out.later hx4)
   have hpc:=hb4.cells
   clear hx4 hb4 HO HX q0 q1 q2 HXX
   generalize wr.heap.size=kb at*
   go_wp2_with (first
    |(go_at_call 195;(with_reducible refine(cutsInside_any _ l _ _ _ (HU2.out.later HX4.out) HLEN.out).mono ?_);rintro e w5 ⟨v5,he,hO,hx5⟩;subst he;obtain⟨u5,c5,hv5⟩:=usAt_slice hO.us;subst hv5
      have HX5:=Hd (HX4.out.trans hx5)
      have HI5:=Hd (own_low hO HX4.out.size)
      have HO5:=HO4.out.later hx5
      obtain⟨vs,hown,hvs⟩:=HO5
      have HX6:=Hd (HX5.out.alloc (.cells #[.slice u5 (insideV l p.fr p.up).length c5] 70))
      have HA:=Hd ((eR w5).alloc (.cells #[.slice u5 (insideV l p.fr p.up).length c5] 70))
      have HOWN:=Hd (own_later hown HA.out)
      have HVS:=Hd (fun i l h=>let⟨u,g1,g2⟩:=hvs i l h;(⟨u,g1,own_later g2 HA.out⟩:∃u,vs[i]? =some u/\OwnU _ _ u l))
      have HI6:=Hd (own_later HI5.out HA.out)
      have HSRC:=Hd (Reads.made w5 1 70 1 [.slice u5 (insideV l p.fr p.up).length c5] rfl (by unfold maxLen;omega))
      clear hown hvs hO hx5 HI5)
    |(at_builtin;refine wpList_app rfl (.tmp 20) (.tmp 27) 168 rfl w2.heap.size 70 _ 1 24 Tryz.underlying168 infoU32s rfl (by decide) (by decide) _ _ _ rfl HOWN.out _ _ _ rfl HSRC.out (by intro u hu;simp at hu;subst hu;rfl) (by rw[HPL.out];omega) HX6.out.size ?_;intro v9 w9 ho9 hg9
      have HO9:=Hd (OwnUU.app HOWN.out HVS.out ho9 hg9 HI6.out)
      have HX9:=Hd (Ext.grown HX6.out hg9 HOWN.out (Nat.le_refl _))
      clear ho9 hg9))
   go_roundw
   case rel=>exact⟨k+1,by omega,by go_num,by show OwnUU _ _ _ _;rw[HST.out];exact HO9.out,HX9.out⟩
   case measure=>simp[intOf];omega
  ·have HE:=Hd (show ps.take k=ps by rw[List.take_of_length_le (by omega)])
   go_wp2_with fail
   go_ret
   refine⟨_,l,rfl,HC.out,?_,HX2.out.trans HX.out⟩
   have:=HO.out
   rw[HE.out]at this
   exact this.low HX2.out.size
end Go.Proofs.YtjflkifodfncmaaGreatDoor
