/- GGrQ, GAna: these texts in one. Conditions: each theorem names its own. -/
import Derived.Test.YtjflkifodfncmaaGreatDoorGGr
import Derived.Conc.LoneSelect
import Derived.Conc.LoneSelectN
import Derived.KernelRfl
import Derived.Laws.Rows
import Derived.Test.YtjflkifodfncmaaGreatDoorGAtC
import Derived.Laws.ResultCell
namespace Go.Proofs.YtjflkifodfncmaaGreatDoor
set_option maxHeartbeats 4000000
set_option maxRecDepth 100000
open Go.RowKit Go.Conc
theorem qPut_any(qb cb cap s r:Nat)(buf:Array Value)(x:Int)(w:World)(hq:Blk w qb [.chan (some cb)] 241)(hc:w.heap[cb]? =some (.chan cap buf false s r false))(hroom:buf.size<cap):
 Calls Tryz.prog 145 #[.pointer (some ⟨qb,0,none⟩),I x] w fun e w'=>e=.returned (I 0)/\w'=w.setChan cb cap (buf.push (I x)) false (s+1) r false:=by
 have hqc:=hq.cells
 refine calls_of_loneTo fun cs=>?_
 have e:Frame.enter Tryz.prog 145 #[.pointer (some ⟨qb,0,none⟩),I x] .normal=(base 145).at ⟨#[.pointer (some ⟨qb,0,none⟩),I x,undef,undef,undef,undef,undef,undef,undef,undef,undef,undef,undef],[]⟩ [.code (Tryz.f145.body.getD .skip)]:=by
  simp[Frame.enter,Frame.at,Tryz.func145,base,Tryz.f145]
 rw[e]
 refine LoneTo.goes (n:=22) ?_
 simp only[Tryz.f145,Option.getD_some]
 s_c stepG_seq
 s_reg
 s_op
 s_c stepG_region_end
 s_c stepG_seq
 s_c stepG_seq
 s_reg
 s_op
 s_op
 s_op
 s_op
 s_c stepG_region_end
 s_reg
 s_op
 s_c stepG_region_end
 s_c stepG_seq
 s_reg
 s_stop
 refine LoneTo.step (step_lone_select_send_room (c:=cb) (cap:=cap) (buf:=buf) (s:=s) (r:=r) (tm:=false) (stepG_comm (cases:=#[scase cb (I x) (I 0)]) (blocking:=false) (shape:=.select) (w':=w) rfl rfl (by decide) (by simp[go_sem,execOp,scase,Act.eval])) hc hroom) ?_
 rw[Frame.finish_at]
 walk_nrm
 refine LoneTo.goes (n:=16) ?_
 s_op
 s_op
 s_c stepG_region_end
 s_c stepG_block
 s_cond true
 s_c stepG_seq
 s_reg
 s_op
 s_c stepG_region_end
 s_c stepG_ret'
 s_stop
 refine LoneTo.done ⟨.returned (I 0),_,rfl,⟨rfl,rfl⟩,rfl,rfl,rfl,rfl,_,Tryz.func145,by simp[results,Tryz.f145,Frame.at]⟩
theorem qTake_any(qb cb cap s r:Nat)(x:Int)(buf:Array Value)(w:World)(hq:Blk w qb [.chan (some cb)] 241)(hc:w.heap[cb]? =some (.chan cap buf false s r false))(hsome:0<buf.size)(hx:buf.getD 0 undef=I x):
 Calls Tryz.prog 148 #[.pointer (some ⟨qb,0,none⟩)] w fun e w'=>e=.returned (.tuple #[I x,I 0])/\w'=w.setChan cb cap (buf.extract 1 buf.size) false s (r+1) false:=by
 have hqc:=hq.cells
 refine calls_of_loneTo fun cs=>?_
 have e:Frame.enter Tryz.prog 148 #[.pointer (some ⟨qb,0,none⟩)] .normal=(base 148).at ⟨#[.pointer (some ⟨qb,0,none⟩),undef,undef,undef,undef,undef,undef,undef,undef,undef,undef,undef,undef,undef],[]⟩ [.code (Tryz.f148.body.getD .skip)]:=by
  simp[Frame.enter,Frame.at,Tryz.func148,base,Tryz.f148]
 rw[e]
 refine LoneTo.goes (n:=22) ?_
 simp only[Tryz.f148,Option.getD_some]
 s_c stepG_seq
 s_reg
 s_op
 s_op
 s_c stepG_region_end
 s_c stepG_seq
 s_reg
 s_op
 s_op
 s_op
 s_op
 s_c stepG_region_end
 s_c stepG_seq
 s_reg
 s_stop
 refine LoneTo.step (step_lone_select_recv_buf (c:=cb) (z:=I 0) (closed:=false) (buf:=buf) (cap:=cap) (s:=s) (r:=r) (tm:=false) (stepG_comm (cases:=#[rcase cb (I 0)]) (blocking:=false) (shape:=.select) (w':=w) rfl rfl (by decide) (by simp[go_sem,execOp,rcase,Act.eval])) hc hsome) ?_
 rw[Frame.finish_at,hx]
 walk_nrm
 refine LoneTo.goes (n:=22) ?_
 s_op
 s_op
 s_c stepG_region_end
 s_c stepG_block
 s_cond true
 s_c stepG_seq
 s_reg
 s_op
 s_op
 s_c stepG_region_end
 s_c stepG_seq
 s_reg
 s_op
 s_op
 s_op
 s_c stepG_region_end
 s_c stepG_ret'
 s_stop
 refine LoneTo.done ⟨.returned (.tuple #[I x,I 0]),_,rfl,⟨rfl,rfl⟩,rfl,rfl,rfl,rfl,_,Tryz.func148,by simp[results,Tryz.f148,Frame.at]⟩
theorem qLen_any(qb cb cap s r:Nat)(buf:Array Value)(w:World)(hq:Blk w qb [.chan (some cb)] 241)(hc:w.heap[cb]? =some (.chan cap buf false s r false)):
 Calls Tryz.prog 147 #[.pointer (some ⟨qb,0,none⟩)] w fun e w'=>e=.returned (I buf.size)/\Ext w w':=by
 have hqc:=hq.cells
 have hln:=run_len_chan (P:=Tryz.prog) 239 3 Tryz.underlying239 hc
 clear hc
 go_enter Tryz.func147,Tryz.ntmps147
 go_wp2_with fail
 go_ret
 exact⟨rfl,eR _⟩
theorem qNew_any(n:Nat)(w:World)(hn:1<=n/\n<=4096):
 Calls Tryz.prog 144 #[I n] w fun e w'=>∃qb cb,e=.returned (.tuple #[.pointer (some ⟨qb,0,none⟩),I 0])/\Blk w' qb [.chan (some cb)] 241/\w'.heap[cb]? =some (.chan n #[] false 0 0 false)/\w.heap.size<=qb/\w.heap.size<=cb/\Ext w w':=by
 have hn1:decide ((n:Int)<1)=false:=dF (by omega)
 have hn2:decide (4096<(n:Int))=false:=dF (by omega)
 have hb:∃i,Tryz.prog.info? 3=some i/\i.bytes=8:=by
  have h:(Tryz.prog.info? 3).map (·.bytes)=some 8:=by kernel_rfl
  obtain⟨i,hi,hb⟩:=Option.map_eq_some_iff.1 h
  exact⟨i,hi,hb⟩
 obtain⟨i,hi,hb8⟩:=hb
 have hmc:=fun w=>run_makeChan (P:=Tryz.prog) (w:=w) Tryz.underlying239 hi .i64 n (by omega) (by rw[hb8];omega)
 go_enter Tryz.func144,Tryz.ntmps144
 go_wp2_with fail
 go_ret2
 refine⟨w.heap.size+1,w.heap.size,rfl,Blk.newAt _ (by simp),?_,Nat.le_succ _,Nat.le_refl _,by(repeat with_reducible first|exact eR _|assumption|refine eA ?_ _|refine eD ?_|refine eW ?_ _|(refine eS ?_ ?_;focus(first|(simp;done)|(simp;omega)|omega)))⟩
 have h:(w.alloc (.chan n #[] false 0 0 false)).heap[w.heap.size]? =some (.chan n #[] false 0 0 false):=World.alloc_heap_new w _
 exact(Ext.heap ((eR _).alloc _) (by simp)).trans h
def ChQ(w:World)(cb n:Nat)(q:List Nat):Prop:=∃s r,w.heap[cb]? =some (.chan n (q.map fun(x:Nat)=>I (x:Int)).toArray false s r false)
theorem ChQ.lt{w:World}{cb n:Nat}{q:List Nat}(h:ChQ w cb n q):cb<w.heap.size:=by
 obtain⟨s,r,h⟩:=h
 rcases Nat.lt_or_ge cb w.heap.size with g|g
 ·exact g
 ·rw[Array.getElem?_eq_none g]at h;cases h
theorem ChQ.later{w w':World}{cb n:Nat}{q:List Nat}(h:ChQ w cb n q)(hx:Ext w w'):ChQ w' cb n q:=by
 have hlt:=h.lt
 obtain⟨s,r,h2⟩:=h
 exact⟨s,r,(Ext.heap hx hlt).trans h2⟩
theorem ChQ.grown{w w':World}{cb n:Nat}{q:List Nat}{b:Option Nat}(h:ChQ w cb n q)(hg:w.grownBy w' b)(hb:b≠some cb):ChQ w' cb n q:=by
 have hlt:=h.lt
 obtain⟨s,r,h2⟩:=h
 exact⟨s,r,(hg.block cb hlt (Ne.symm hb)).trans h2⟩
theorem ChQ.setCell{w:World}{cb n:Nat}{q:List Nat}(h:ChQ w cb n q){p:Addr}(hp:p.block≠cb)(u:Value):ChQ (w.setCell p u) cb n q:=
 h.grown (grown_set w p u) fun e=>hp (Option.some.inj e)
theorem grown_chan{w:World}{cb:Nat}(cap:Nat)(buf:Array Value)(cl:Bool)(s r:Nat)(tm:Bool):w.grownBy (w.setChan cb cap buf cl s r tm) (some cb):=
 ⟨rfl,rfl,rfl,by simp[World.setChan],fun k _ hne=>by
   have:cb≠k:=fun e=>hne (by rw[e])
   simp only[World.setChan]
   rw[Array.getElem?_setIfInBounds_ne this]⟩
theorem Ext.grownC{a w w':World}{cb:Nat}(h:Ext a w)(hg:w.grownBy w' (some cb))(hcb:a.heap.size<=cb):Ext a w':=
 Below.grown h hg h.size fun k e=>by cases e;exact hcb
theorem qPut_at(qb cb n:Nat)(q:List Nat)(x:Nat)(w:World)(hq:Blk w qb [.chan (some cb)] 241)(hc:ChQ w cb n q)(hroom:q.length<n):
 Calls Tryz.prog 145 #[.pointer (some ⟨qb,0,none⟩),I (x:Int)] w fun e w'=>e=.returned (I 0)/\ChQ w' cb n (q++[x])/\w.grownBy w' (some cb):=by
 have hlt:=hc.lt
 obtain⟨s,r,h⟩:=hc
 refine(qPut_any qb cb n s r _ x w hq h (by simpa using hroom)).mono ?_
 rintro e w' ⟨he,rfl⟩
 refine⟨he,⟨s+1,r,?_⟩,grown_chan _ _ _ _ _ _⟩
 rw[heap_setChan _ _ _ _ _ _ _ _ hlt]
 simp
theorem qTake_at(qb cb n:Nat)(q:List Nat)(x:Nat)(w:World)(hq:Blk w qb [.chan (some cb)] 241)(hc:ChQ w cb n (x::q)):
 Calls Tryz.prog 148 #[.pointer (some ⟨qb,0,none⟩)] w fun e w'=>e=.returned (.tuple #[I (x:Int),I 0])/\ChQ w' cb n q/\w.grownBy w' (some cb):=by
 have hlt:=hc.lt
 obtain⟨s,r,h⟩:=hc
 refine(qTake_any qb cb n s r x _ w hq h (by simp) (by simp)).mono ?_
 rintro e w' ⟨he,rfl⟩
 refine⟨he,⟨s,r+1,?_⟩,grown_chan _ _ _ _ _ _⟩
 rw[heap_setChan _ _ _ _ _ _ _ _ hlt]
 have e:Array.extract ((x::q).map fun(x:Nat)=>I (x:Int)).toArray 1 ((x::q).map fun(x:Nat)=>I (x:Int)).toArray.size=(q.map fun(x:Nat)=>I (x:Int)).toArray:=by
  rw[List.extract_toArray]
  simp[List.extract,<-List.map_take]
 rw[e]
theorem qLen_at(qb cb n:Nat)(q:List Nat)(w:World)(hq:Blk w qb [.chan (some cb)] 241)(hc:ChQ w cb n q):
 Calls Tryz.prog 147 #[.pointer (some ⟨qb,0,none⟩)] w fun e w'=>e=.returned (I q.length)/\Ext w w':=by
 obtain⟨s,r,h⟩:=hc
 refine(qLen_any qb cb n s r _ w hq h).mono ?_
 rintro e w' ⟨rfl,hx⟩
 exact⟨by simp,hx⟩
theorem ChQ.ne{w:World}{cb n b:Nat}{q:List Nat}{cs:List Value}{T:TypeId}(h:ChQ w cb n q)(hb:Blk w b cs T):b≠cb:=fun e=>by
 obtain⟨s,r,h⟩:=h
 unfold Blk at hb
 rw[e,h]at hb;cases hb
theorem Blk.grownC{w w':World}{b cb n:Nat}{q:List Nat}{cs:List Value}{T:TypeId}(h:Blk w b cs T)(hc:ChQ w cb n q)(hg:w.grownBy w' (some cb)):Blk w' b cs T:=
 blk_grown h (fun g e=>by cases e;exact hc.ne h) hg
structure RkS(w0 w:World)(v:List Int)(qb cb rb fb ab:Nat)(cs:List Value)(g:List Int)(Q:List Nat)(rs:List Int):Prop where
 ext:Ext w0 w
 q:Blk w qb [.chan (some cb)] 241
 ch:ChQ w cb v.length Q
 rk:Blk w rb (icells rs) 3
 fr:Blk w fb cs 47
 al:Blk w ab (icells g) 3
theorem RkS.grown{w0 w w':World}{v:List Int}{qb cb rb fb ab:Nat}{cs:List Value}{g rs:List Int}{Q Q':List Nat}(h:RkS w0 w v qb cb rb fb ab cs g Q rs)(hg:w.grownBy w' (some cb))(hcb:w0.heap.size<=cb)(hc:ChQ w' cb v.length Q'):RkS w0 w' v qb cb rb fb ab cs g Q' rs:=
 ⟨h.ext.grownC hg hcb,h.q.grownC h.ch hg,hc,h.rk.grownC h.ch hg,h.fr.grownC h.ch hg,h.al.grownC h.ch hg⟩
theorem RkS.later{w0 w w':World}{v:List Int}{qb cb rb fb ab:Nat}{cs:List Value}{g rs:List Int}{Q:List Nat}(h:RkS w0 w v qb cb rb fb ab cs g Q rs)(hx:Ext w w'):RkS w0 w' v qb cb rb fb ab cs g Q rs:=
 ⟨h.ext.trans hx,h.q.later hx,h.ch.later hx,h.rk.later hx,h.fr.later hx,h.al.later hx⟩
theorem RkS.set{w0 w:World}{v:List Int}{qb cb rb fb ab:Nat}{cs:List Value}{g rs:List Int}{Q:List Nat}(h:RkS w0 w v qb cb rb fb ab cs g Q rs)(hrb:w0.heap.size<=rb)(hne:rb≠qb/\rb≠fb/\rb≠ab)(u:Nat)(r:Int):RkS w0 (w.setCell ⟨rb,u,none⟩ (I r)) v qb cb rb fb ab cs g Q (rs.set u r):=
 ⟨h.ext.setCell hrb _,h.q.other hne.1 _,h.ch.setCell (h.ch.ne h.rk) _,by have h2:=h.rk.set u (I r);unfold icells at*;rw[List.map_set];exact h2,h.fr.other hne.2.1 _,h.al.other hne.2.2 _⟩
theorem gRanks_any(va:Value)(v:List Int)(w:World)(hv:IntsAt w va v)(hok:VOk v)(hl:v.length<=256):
 Calls Tryz.prog 100 #[va] w fun e w'=>(∃(u:Value) (rs:List Int),e=.returned (.tuple #[u,I 0])/\RanksIs v rs/\OwnI w' w.heap.size u rs/\Ext w w')\/(e=.returned (.tuple #[.slice none 0 0,I 17])/\(∃x,OnL v x)/\Ext w w'):=by
 have HV:=Hd hv
 have HOK:=Hd hok
 obtain⟨a,cap,rfl,a1,a2,a3⟩:=hv.form
 clear a3 hv hok
 unfold maxLen at a2
 have hmk:=fun w=>run_make_row' (P:=Tryz.prog) 47 3 (I 0) 8 Tryz.underlying47 infoInt rfl .i64 .i64 v.length (by omega) (by omega) w
 have eI:(madeCells #[I 0] v.length)=(icells (List.replicate v.length 0)).toArray:=by unfold icells;rw[<-Array.toList_inj,toList_madeCells_one,List.map_replicate]
 have EI:=Hd eI
 clear eI
 go_enter Tryz.func100,Tryz.ntmps100
 go_upto_region 5 with(first
  |(go_at_call 143;(with_reducible refine(gSinks_any _ v _ HV.out HOK.out hl).mono ?_);rintro e w2 ⟨u,rfl,hO,hx2⟩;have HO:=Hd hO;obtain⟨sa,sc,rfl,-,-,-⟩:=hO.ints.form;have HX2:=Hd hx2;clear hO hx2))
 rw[EI.out]
 refine hWp (fun W=>Ext w2 W/\Blk W w2.heap.size (icells (List.replicate v.length 0)) 3)
  ⟨by(repeat with_reducible first|exact eR _|assumption|refine eA ?_ _|refine eD ?_|refine eW ?_ _|(refine eS ?_ ?_;focus(first|(simp;done)|(simp;omega)|omega))),Blk.new w2 (icells (List.replicate v.length 0)) 3⟩ (fun W1 hW1=>?_)
 obtain⟨hx1,hs1⟩:=hW1
 have HX1:=Hd hx1
 have HS1:=Hd hs1
 have HRB:=Hd (show w2.heap.size<=w2.heap.size from Nat.le_refl _)
 clear hx1 hs1 hmk
 generalize htb:w2.heap.size=rb at HS1 HRB ⊢
 have HTE:=Hd htb
 clear htb
 by_cases hn:v.length=0
 ·obtain rfl:=List.length_eq_zero_iff.1 hn
  go_wp2_with fail
  go_ret2
  refine .inl ⟨_,[],rfl,⟨rfl,fun k hk=>absurd hk (Nat.not_lt_zero k)⟩,own_low (own_blk HS1.out rfl (Nat.zero_le _)) ?_,HX2.out.trans HX1.out⟩
  rw[<-HTE.out];exact HX2.out.size
 ·have hnd:decide ((v.length:Int)=0)=false:=dF (by omega)
  have hnb:((v.length:Int)==0)=false:=beq_false_of_ne (by omega)
  have HN1:=Hd (show 1<=v.length/\v.length<=4096 by omega)
  go_upto_block 0 with(first
   |(go_at_call 144;(with_reducible refine(qNew_any v.length _ HN1.out).mono ?_);rintro e w4 ⟨qb,cb,he,hq,hc,q1,q2,hx4⟩;subst he;have HQ4:=Hd hq;have HC4:=Hd (show ChQ w4 cb v.length []from⟨0,0,hc⟩);have HQ12:=Hd (And.intro q1 q2);have HX4:=Hd hx4;clear hq hc q1 q2 hx4))
  have HSL:=Hd (show(sinksV v v.length).length=(sinkN v v.length).length by rw[sinkN_sinks,List.length_map])
  have HRL:=Hd (show rb<W1.heap.size from HS1.out.lt)
  have HS4:=Hd (HS1.out.later HX4.out)
  have HX4':=Hd (HX1.out.trans HX4.out)
  have HCB:=Hd (show w2.heap.size<=cb by have:=HX1.out.size;have:=HQ12.out.2;omega)
  have HNQ:=Hd (show rb≠qb by have:=HRL.out;have:=HQ12.out.1;omega)
  have HBF:=Hd (Bfs.start v)
  have HSK:=Hd (show∀(k u:Nat),(sinkN v v.length)[k]? =some u->(sinksV v v.length)[k]? =some (u:Int)from fun k u h=>by rw[sinkN_sinks,List.getElem?_map,h];rfl)
  have HFW:=Hd HBF.out.few
  clear HX4 HS1 hn hnd hnb
  generalize hsk:sinkN v v.length=SK at*
  clear hsk
  generalize hzs:List.replicate v.length (0:Int)=zs at*
  clear hzs
  have hsb:SK.length<=256:=by have:=HFW.out;simp at this;omega
  rw[HSL.out]
  go_cut[42] (fun _ wc=>Hid (ChQ wc cb v.length SK)/\Hid (Blk wc qb [.chan (some cb)] 241)/\Hid (Blk wc rb (icells zs) 3)/\Hid (Ext w2 wc))
  case first=>
   go_wp2_with fail
   go_loopw[42] (fun i wr=>∃k:Nat,k<=SK.length/\i=I k/\Hid (ChQ wr cb v.length (SK.take k))/\Hid (Blk wr qb [.chan (some cb)] 241)/\Hid (Blk wr rb (icells zs) 3)/\Hid (Ext w2 wr)) (fun i _=>SK.length-(intOf i).toNat)
   case atStart=>exact⟨0,Nat.zero_le _,rfl,HC4.out,HQ4.out,HS4.out,HX4'.out⟩
   case round=>
    obtain⟨k,hk,rfl,HC,HQ,HS,HX⟩:=hrel
    by_cases hlt:k<SK.length
    ·have hkd:decide ((k:Int)<(SK.length:Int))=true:=dT (by omega)
     have HLT:=Hd hlt
     obtain⟨sa',sc',hse,-,-,hsf⟩:=HO.out.ints.form
     obtain⟨b1,o1,he1,hc1⟩:=hsf k _ (HSK.out k _ (gE hlt))
     cases hse
     subst he1
     replace hc1:=HX.out.cell hc1
     clear hsf
     have HTK:=Hd (List.take_succ_eq_append_getElem hlt)
     have HTL:=Hd (show(SK.take k).length<v.length by rw[List.length_take];have:=HFW.out;simp at this;omega)
     generalize SK[k]=y at*
     go_wp2_with (first
      |(go_at_call 145;(with_reducible refine(qPut_at qb cb v.length _ y _ HQ.out HC.out HTL.out).mono ?_);rintro e w5 ⟨he,hc5,hg5⟩;subst he;have HC5:=Hd hc5;have HQ5:=Hd (HQ.out.grownC HC.out hg5);have HS5:=Hd (HS.out.grownC HC.out hg5);have HX5:=Hd (HX.out.grownC hg5 HCB.out);clear hc5 hg5))
     go_roundw
     case rel=>exact⟨k+1,Nat.succ_le_of_lt HLT.out,by go_num,by rw[HTK.out];exact HC5.out,HQ5.out,HS5.out,HX5.out⟩
     case measure=>have:=HLT.out;simp[intOf];omega
    ·have hkd:decide ((k:Int)<(SK.length:Int))=false:=dF (by omega)
     have HKE:=Hd (show k=SK.length by omega)
     go_wp2_with fail
     go_meet
     case rel=>exact⟨by have h:=HC.out;rw[HKE.out,List.take_length]at h;exact h,HQ.out,HS.out,HX.out⟩
  case rest=>
   obtain⟨HC,HQ,HS,HX⟩:=hcut
   clear HC4 HQ4 HS4 HX4'
   go_upto_block 2 with(first
    |(go_at_call 146;(with_reducible refine(gBack_any _ v _ (HV.out.later (HX2.out.trans HX.out)) HOK.out hl).mono ?_);rintro e w6 ⟨fb,ab,cs,g,he,hcs,hg,hfb,hab,f1,f2,f3,hx6⟩;subst he;have HCS:=Hd hcs;have HGG:=Hd hg;have HST:=Hd (show RkS w2 w6 v qb cb rb fb ab cs g SK zs from⟨HX.out.trans hx6,HQ.out.later hx6,HC.out.later hx6,HS.out.later hx6,hfb,hab⟩);have HNE:=Hd (show rb≠qb/\rb≠fb/\rb≠ab by have h1:=HNQ.out;have h2:=HS.out.lt;omega);clear hcs hg hfb hab f1 f2 f3 hx6))
   have HRB2:=Hd (show w2.heap.size<=rb from Nat.le_of_eq HTE.out)
   clear HC HQ HS HX HX1 hsb HSL HSK HFW HO HQ12 HRL HNQ HTE HRB EI HN1
   go_wp2_with fail
   go_loopw[11] (fun d wr=>∃(D Q:List Nat) (rs:List Int),d=I D.length/\D.length<=v.length/\Hid (Bfs v D Q rs)/\Hid (RkS w2 wr v qb cb rb fb ab cs g Q rs)) (fun d _=>v.length-(intOf d).toNat)
   case atStart=>exact⟨[],SK,zs,rfl,Nat.zero_le _,HBF.out,HST.out⟩
   case round=>
    obtain⟨D,Q,rs,rfl,hD,HB,HR⟩:=hrel
    cases Q with
    |nil=>
     have HLEN:=Hd (show((([]:List Nat).length:Nat):Int)=0 from rfl)
     by_cases hdl:D.length<v.length
     ·have hdd:decide ((D.length:Int)<(v.length:Int))=true:=dT (by omega)
      have HDL:=Hd hdl
      go_wp2_with (first
       |(go_at_call 147;(with_reducible refine(qLen_at qb cb v.length _ _ HR.out.q HR.out.ch).mono ?_);rintro e w7 ⟨he,hx7⟩;rw[HLEN.out]at he;subst he;have HR7:=Hd (HR.out.later hx7);clear hx7))
      go_ret2
      exact .inr ⟨rfl,HB.out.loops HOK.out HDL.out,HX2.out.trans HR7.out.ext⟩
     ·have HDL:=Hd (show v.length<=D.length by omega)
      have hdd:decide ((D.length:Int)<(v.length:Int))=false:=dF (by omega)
      go_wp2_with (first
       |(go_at_call 147;(with_reducible refine(qLen_at qb cb v.length _ _ HR.out.q HR.out.ch).mono ?_);rintro e w7 ⟨he,hx7⟩;rw[HLEN.out]at he;subst he;have HR7:=Hd (HR.out.later hx7);clear hx7))
      go_ret2
      exact .inl ⟨_,rs,rfl,HB.out.full HDL.out,own_low (own_blk HR7.out.rk HB.out.len (by unfold maxLen;omega)) (Nat.le_trans HX2.out.size HRB2.out),HX2.out.trans HR7.out.ext⟩
    |cons x Q=>
     have HQL:=Hd (show(((x::Q).length:Nat):Int)=((Q.length+1:Nat):Int)from rfl)
     have hql:decide ((0:Int)<((Q.length+1:Nat):Int))=true:=dT (by omega)
     have hq0:0<Q.length+1:=Nat.succ_pos _
     have HFW:=Hd HB.out.few
     have hdl:D.length<v.length:=by have:=HFW.out;simp at this;omega
     have HXL:=Hd (show x<v.length from HB.out.bd x (List.mem_append_right _ (List.mem_cons_self ..)))
     generalize hql1:Q.length+1=ql at*
     clear hql1
     obtain⟨xa,hxc,hxe⟩:=HCS.out.2 x HXL.out
     have HXE:=Hd hxe
     have HAE:=Hd (at_end v x)
     have HXC:=Hd hxc
     have hxl:=HXL.out
     have hcnb:cntN v v.length x<=256:=by have:=HAE.out;omega
     clear hxe hxc
     generalize hcn:cntN v v.length x=cn at HXE HAE HXC hcnb
     have HCN:=Hd hcn
     clear hcn
     obtain⟨wo,rfl⟩:∃wo:World,wo=wr:=⟨_,rfl⟩
     go_wp2_with (first
      |(go_at_call 147;(with_reducible refine(qLen_at qb cb v.length _ _ HR.out.q HR.out.ch).mono ?_);rintro e w7 ⟨he,hx7⟩;rw[HQL.out]at he;subst he;have HR7:=Hd (HR.out.later hx7);clear hx7)
      |(go_at_call 148;(with_reducible refine(qTake_at qb cb v.length Q x _ HR7.out.q HR7.out.ch).mono ?_);rintro e w8 ⟨he,hc8,hg8⟩;subst he;have HR8:=Hd (HR7.out.grown hg8 HCB.out hc8);have hfc8:=(HR8.out.fr.cells x).trans HXC.out;clear hc8 hg8))
     go_loopw[67] (fun j wq=>∃(jn:Nat) (Q':List Nat) (rs':List Int),jn<=cn/\j=I jn/\Hid (BfsIn v D x jn Q' rs')/\Hid (RkS w2 wq v qb cb rb fb ab cs g Q' rs')) (fun j _=>cn-(intOf j).toNat)
     case atStart=>exact⟨0,Q,rs,Nat.zero_le _,rfl,HB.out.take,HR8.out⟩
     case round=>
      obtain⟨j,Q',rs',hj,rfl,HBI,HRI⟩:=hrel
      clear hfc8
      by_cases hlt:j<cn
      ·have hjd:decide ((j:Int)<(cn:Int))=true:=dT (by omega)
       have HLT:=Hd hlt
       obtain rfl:=HXE.out (by omega)
       obtain⟨u,hu⟩:∃u,(predN v v.length x)[j]? =some u:=⟨_,gE (by show j<cntN v v.length x;rw[HCN.out];exact hlt)⟩
       have HU:=Hd hu
       have HUL:=Hd (pred_mem.1 (List.mem_of_getElem? hu)).1
       have hul:=HUL.out
       obtain⟨m,hm1,hm2⟩:=HBI.out.rank x (List.mem_append_right _ (List.mem_cons_self ..))
       have hmb:m<v.length:=hm2.lt HOK.out ⟨by omega,by omega⟩
       have HM:=Hd hm1
       have hac:=(HRI.out.al.cells (offN v x+j)).trans ((icell_get (q:=g) (k:=offN v x+j) (by rw[HGG.out.1];have:=HAE.out;omega)).trans (by rw[HGG.out.2 x hxl j u hu]))
       have hrc:=(HRI.out.rk.cells x).trans (show(icells rs')[x]? =some (I (m:Int))by unfold icells;rw[List.getElem?_map,hm1];rfl)
       obtain⟨z,hz⟩:∃z,(icells rs')[u]? =some z:=⟨_,gE (by rw[icells_len,HBI.out.len];exact hul)⟩
       have hrc2:=(HRI.out.rk.cells u).trans hz
       have hrf:=HRI.out.rk.frozen
       have HRS:=Hd (HRI.out.set HRB2.out HNE.out u ((m:Int)+1))
       have HBS:=Hd (HBI.out.step hu hm1)
       have HRM:=Hd (show Q'.length<v.length by have:=HBI.out.room hu;omega)
       clear hu hm1 hm2 hz
       generalize offN v x=off at*
       go_wp2_with (first
        |(go_at_call 145;(with_reducible refine(qPut_at qb cb v.length _ u _ HRS.out.q HRS.out.ch HRM.out).mono ?_);rintro e w9 ⟨he,hc9,hg9⟩;subst he;have HR9:=Hd (HRS.out.grown hg9 HCB.out hc9);clear hc9 hg9))
       go_roundw
       case rel=>exact⟨j+1,_,_,Nat.succ_le_of_lt HLT.out,by go_num,HBS.out,HR9.out⟩
       case measure=>have:=HLT.out;simp[intOf];omega
      ·have HJE:=Hd (show j=cn by omega)
       have HBD:=Hd (show Bfs v (D++[x]) Q' rs' from by have h:=HBI.out;rw[HJE.out,<-HCN.out]at h;exact h.done)
       have HDL:=Hd hdl
       go_wp2_with fail
       go_roundw
       case rel=>exact⟨D++[x],Q',rs',by rw[List.length_append];go_num,by rw[List.length_append];exact Nat.succ_le_of_lt HDL.out,HBD.out,HRI.out⟩
       case measure=>have:=HDL.out;simp[intOf];omega
open Go Go.Maps Go.Proofs
structure AnaLoop(ls:List (List Rul))(fr:List (BitVec 32))(i:Nat)(c:Crt):Prop where
 dest:fr[i]? =some c.dest
 first:∀(j:Nat) (a:BitVec 32),j<i->fr[j]? =some a->∀x,¬OnL (vecV ls a) x
 loop:LoopIs (vecV ls c.dest) c.tr
 ne:c.tr≠[]
 vd:c.vd=2
 ps:c.ps=[]
 rks:c.rks=[]
structure AnaFree(ls:List (List Rul))(fr:List (BitVec 32))(c:Crt):Prop where
 all:∀a∈fr,∀x,¬OnL (vecV ls a) x
 vd:c.vd=1
 dest:c.dest=0#32
 tr:c.tr=[]
 len:c.ps.length=fr.length
 rln:c.rks.length=fr.length
 parts:∀(i:Nat) (a:BitVec 32),fr[i]? =some a->∃p r,c.ps[i]? =some p/\c.rks[i]? =some r/\p.fr=a/\p.up=endV fr i/\RanksIs (vecV ls a) r
def AnaFr(ls:List (List Rul))(fr:List (BitVec 32))(c:Crt):Prop:=(∃i,AnaLoop ls fr i c)\/AnaFree ls fr c
def AnaIs(ls:List (List Rul))(c:Crt):Prop:=∃l,Cuts ls.flatten l/\AnaFr ls (atomsL (vecV ls) l).fr c
structure CrtEq(c d:Crt):Prop where
 vd:c.vd=d.vd
 dest:c.dest=d.dest
 tr:c.tr=d.tr
 rks:c.rks=d.rks
 ps:c.ps.map (fun p=>(p.fr,p.up))=d.ps.map fun p=>(p.fr,p.up)
theorem LoopIs.on{v l:List Int}(h:LoopIs v l)(hl:l≠[]):∃x,OnL v x:=by
 obtain⟨b,p,h1,h2,h3⟩:=h.cons hl
 exact⟨b,h1.1⟩
theorem AnaFr.one{ls:List (List Rul)}{fr:List (BitVec 32)}{c d:Crt}(h:AnaFr ls fr c)(k:AnaFr ls fr d):CrtEq c d:=by
 rcases h with⟨i,h⟩|h
 ·rcases k with⟨j,k⟩|k
  ·obtain rfl:i=j:=by
    rcases Nat.lt_trichotomy i j with g|g|g
    ·obtain⟨x,hx⟩:=h.loop.on h.ne
     exact absurd hx (k.first i _ g h.dest x)
    ·exact g
    ·obtain⟨x,hx⟩:=k.loop.on k.ne
     exact absurd hx (h.first j _ g k.dest x)
   have hd:c.dest=d.dest:=Option.some.inj (h.dest.symm.trans k.dest)
   have hl:=h.loop
   rw[hd]at hl
   exact⟨h.vd.trans k.vd.symm,hd,hl.one k.loop,h.rks.trans k.rks.symm,by rw[h.ps,k.ps]⟩
  ·obtain⟨x,hx⟩:=h.loop.on h.ne
   exact absurd hx (k.all _ (List.mem_of_getElem? h.dest) x)
 ·rcases k with⟨j,k⟩|k
  ·obtain⟨x,hx⟩:=k.loop.on k.ne
   exact absurd hx (h.all _ (List.mem_of_getElem? k.dest) x)
  ·refine⟨h.vd.trans k.vd.symm,h.dest.trans k.dest.symm,h.tr.trans k.tr.symm,?_,?_⟩
   ·refine List.ext_getElem? fun i=>?_
    cases hf:fr[i]? with
    |none=>
     have:=List.getElem?_eq_none_iff.1 hf
     rw[List.getElem?_eq_none (by rw[h.rln];exact this),List.getElem?_eq_none (by rw[k.rln];exact this)]
    |some a=>
     obtain⟨p,r,h1,h2,h3,h4,h5⟩:=h.parts i a hf
     obtain⟨q,t,k1,k2,k3,k4,k5⟩:=k.parts i a hf
     rw[h2,k2,h5.one k5]
   ·refine List.ext_getElem? fun i=>?_
    rw[List.getElem?_map,List.getElem?_map]
    cases hf:fr[i]? with
    |none=>
     have:=List.getElem?_eq_none_iff.1 hf
     rw[List.getElem?_eq_none (by rw[h.len];exact this),List.getElem?_eq_none (by rw[k.len];exact this)]
    |some a=>
     obtain⟨p,r,h1,h2,h3,h4,h5⟩:=h.parts i a hf
     obtain⟨q,t,k1,k2,k3,k4,k5⟩:=k.parts i a hf
     rw[h1,k1]
     show some (p.fr,p.up)=some (q.fr,q.up)
     rw[h3,k3,h4,k4]
theorem AnaIs.at{ls:List (List Rul)}{l:List (BitVec 32)}{c:Crt}(h:AnaIs ls c)(hC:Cuts ls.flatten l):AnaFr ls (atomsL (vecV ls) l).fr c:=by
 obtain⟨l',h1,h2⟩:=h
 rw[Cuts.at hC h1];exact h2
theorem AnaIs.one{ls:List (List Rul)}{c d:Crt}(h:AnaIs ls c)(k:AnaIs ls d):CrtEq c d:=by
 obtain⟨l,h1,h2⟩:=h
 exact h2.one (k.at h1)
theorem wh_has{wh:List Int}(ho:∀(j:Nat) (x:Int),wh[j]? =some x->x<=mxW (wh.take j)+1):∀(j:Nat) (k:Int),0<=k->k<=mxW (wh.take j)->∃i,i<j/\wh[i]? =some k:=by
 intro j
 induction j with
 |zero=>intro k h0 h1;have:mxW (wh.take 0)= -1:=rfl;omega
 |succ j ih=>
  intro k h0 h1
  cases hj:wh[j]? with
  |none=>
   have:=List.getElem?_eq_none_iff.1 hj
   rw[List.take_of_length_le (by omega),<-List.take_of_length_le (i:=j) this]at h1
   obtain⟨i,hi,hk⟩:=ih k h0 h1
   exact⟨i,by omega,hk⟩
  |some x=>
   obtain⟨hjl,hx⟩:=List.getElem?_eq_some_iff.1 hj
   rw[List.take_succ_eq_append_getElem hjl,mxW_snoc,hx]at h1
   by_cases g:k<=mxW (wh.take j)
   ·obtain⟨i,hi,hk⟩:=ih k h0 g
    exact⟨i,by omega,hk⟩
   ·have:=ho j x hj
    exact⟨j,Nat.lt_succ_self j,by rw[hj];congr 1;omega⟩
theorem AtInv.first{vec:BitVec 32->List Int}{s:Ats}{l:List (BitVec 32)}(h:AtInv vec s l){k:Nat}(hk:k<s.vs.length):
 ∃i,i<s.wh.length/\s.wh.getD i 0=(k:Int)/\(∀j,j<i->s.wh.getD j 0≠(k:Int))/\∀j x,j<i->s.wh[j]? =some x->0<=x/\x<k:=by
 have hm:=h.mx
 obtain⟨i0,hi0,hw0⟩:=wh_has h.ord s.wh.length (k:Int) (by omega) (by rw[List.take_length];omega)
 obtain⟨i,hi,hmin⟩:=least_nat (P:=fun i=>s.wh[i]? =some (k:Int)) ⟨i0,hw0⟩
 have hil:=(List.getElem?_eq_some_iff.1 hi).1
 refine⟨i,hil,by rw[List.getD_eq_getElem?_getD,hi];rfl,fun j hj he=>?_,fun j x hj hx=>?_⟩
 ·refine hmin j hj ?_
  rw[List.getD_eq_getElem?_getD,gE (by omega)]at he
  rw[gE (by omega)]
  exact congrArg some he
 ·obtain⟨hjl,hxe⟩:=List.getElem?_eq_some_iff.1 hx
  refine⟨(h.ok.wh x (List.mem_of_getElem? hx)).1,Classical.byContradiction fun hc=>?_⟩
  have hle:(k:Int)<=mxW (s.wh.take (j+1)):=by
   rw[List.take_succ_eq_append_getElem hjl,mxW_snoc,hxe];omega
  obtain⟨i',h1,h2⟩:=wh_has h.ord (j+1) (k:Int) (by omega) hle
  exact hmin i' (by omega) h2
theorem AtInv.vec{vec:BitVec 32->List Int}{s:Ats}{l:List (BitVec 32)}(h:AtInv vec s l){v:List Int}(hv:v∈s.vs):∃a∈s.fr,v=vec a:=by
 obtain⟨k,hk⟩:=List.getElem?_of_mem hv
 obtain⟨i,h1,h2,_⟩:=h.first (List.getElem?_eq_some_iff.1 hk).1
 have hl:=h.ok.len
 obtain⟨q,h3,h4⟩:=h.place i _ (gE (by omega))
 rw[List.getD_eq_getElem?_getD,h3]at h2
 obtain rfl:q=k:=by have h2':(q:Int)=k:=h2;omega
 exact⟨_,List.getElem_mem _,Option.some.inj (hk.symm.trans h4)⟩
theorem AtomsIt.loop{ls:List (List Rul)}{l:List (BitVec 32)}{s:Ats}(h:AtomsIt ls l s){k i:Nat}{v tr:List Int}(hk:s.vs[k]? =some v)(hi:s.wh[i]? =some (k:Int))(hpre:∀j x,j<i->s.wh[j]? =some x->0<=x/\x<k)
 (hno:∀j u,j<k->s.vs[j]? =some u->∀x,¬OnL u x) (ht:LoopIs v tr) (hne:tr≠[]):∃a,s.fr[i]? =some a/\AnaLoop ls s.fr i ⟨2,[],[],a,tr⟩:=by
 have hl:=h.inv.ok.len
 have hil:=(List.getElem?_eq_some_iff.1 hi).1
 have hf:s.fr[i]? =some s.fr[i]:=gE (by omega)
 obtain⟨q,h3,h4⟩:=h.inv.place i _ hf
 rw[hi]at h3
 obtain rfl:q=k:=by have:=Option.some.inj h3;omega
 rw[hk]at h4
 refine⟨_,hf,hf,fun j a hj ha x hx=>?_,?_,hne,rfl,rfl,rfl⟩
 ·obtain⟨q,h5,h6⟩:=h.inv.place j a ha
  obtain⟨h7,h8⟩:=hpre j _ hj h5
  exact hno q _ (by omega) h6 x hx
 ·show LoopIs (vecV ls s.fr[i]) tr
  rw[<-Option.some.inj h4];exact ht
theorem fr_few{ls:List (List Rul)}{l:List (BitVec 32)}(hC:Cuts ls.flatten l):(atomsL (vecV ls) l).fr.length<=2*sizeN ls+1:=by
 have h1:=ats_few (vecV ls) l
 have h2:=hC.len
 rw[sizeN_flat]at h2
 omega
structure AnaFacts(ls:List (List Rul))(c:Crt):Prop where
 few:c.ps.length<=2*sizeN ls+1
 tr:c.tr.length<=ls.length
 rln:c.rks.length=c.ps.length
 rks:∀r∈c.rks,r.length=ls.length/\∀x∈r,0<=x/\x<ls.length
 trb:∀x∈c.tr,0<=x/\x<ls.length
 which:(c.vd=2/\c.ps=[]/\0<c.tr.length)\/(c.vd=1/\0<c.ps.length/\c.tr=[]/\c.dest=0#32)
theorem AnaIs.facts{ls:List (List Rul)}{c:Crt}(hm:netMayV ls=0)(h:AnaIs ls c):AnaFacts ls c:=by
 obtain⟨l,hC,h⟩:=h
 have hI:=atomsIt hC
 have hf:=fr_few hC
 rcases h with⟨i,h⟩|h
 ·have hv:=vec_ok hm c.dest
  obtain⟨b,p,h1,h2,h3⟩:=h.loop.cons h.ne
  have h0:0<=b:=h1.1.1
  have hle:=h2.le hv h0
  rw[vecV_len]at hle
  refine⟨by rw[h.ps];simp,by rw[h3,wayV_len];exact hle,by rw[h.rks,h.ps];rfl,fun r hr=>(by rw[h.rks]at hr;cases hr),fun x hx=>?_,.inl ⟨h.vd,h.ps,List.length_pos_iff.2 h.ne⟩⟩
  rw[h3]at hx
  obtain⟨j,_,rfl⟩:=wayV_mem.1 hx
  have:=((h1.1.it hv j).is hv)
  unfold isN at this
  rw[vecV_len]at this
  exact this
 ·refine⟨by rw[h.len];exact hf,by rw[h.tr];simp,by rw[h.rln,h.len],fun r hr=>?_,fun x hx=>(by rw[h.tr]at hx;cases hx),.inr ⟨h.vd,?_,h.tr,h.dest⟩⟩
  ·obtain⟨i,hi⟩:=List.getElem?_of_mem hr
   have hil:i<(atomsL (vecV ls) l).fr.length:=by rw[<-h.rln];exact(List.getElem?_eq_some_iff.1 hi).1
   obtain⟨p,r',h1,h2,h3,h4,h5⟩:=h.parts i _ (gE hil)
   rw[hi]at h2
   obtain rfl:=Option.some.inj h2
   have hb:=h5.bd (vec_ok hm _)
   rw[vecV_len]at hb
   exact⟨by rw[h5.1,vecV_len],hb⟩
  ·rw[h.len];exact(List.getElem?_eq_some_iff.1 hI.zero).1
theorem AnaFacts.vd{ls:List (List Rul)}{c:Crt}(h:AnaFacts ls c):c.vd=1\/c.vd=2:=h.which.elim (fun h=>.inr h.1) fun h=>.inl h.1
theorem AnaFacts.one{ls:List (List Rul)}{c:Crt}(h:AnaFacts ls c):((((c.ps.length:Nat):Int)==0)==(c.vd==2))=true/\((((c.tr.length:Nat):Int)==0)==(c.vd==1))=true:=by
 rcases h.which with⟨h1,h2,h3⟩|⟨h1,h2,h3,_⟩
 ·rw[h1,h2]
  refine⟨rfl,?_⟩
  rw[beq_false_of_ne (by omega:((c.tr.length:Nat):Int)≠0)];rfl
 ·rw[h1,h3]
  refine⟨?_,rfl⟩
  rw[beq_false_of_ne (by omega:((c.ps.length:Nat):Int)≠0)];rfl
theorem results_cellA{fn:Func}{p:Tmp}{ty:TypeId}(h:fn.results=#[.cell p ty])(tmps:Array Value)(P:Program)(w:World):
 (results fn tmps).run P w=((asAddr (tmps.getD p undef)).run P w).andThen fun a w₁=>(loadVar ty a).run P w₁:=by
 simp only[results,h]
 simp[Sem.run_bind,Result.andThen]
def OwnII(w:World)(B:Nat)(v:Value)(ls:List (List Int)):Prop:=
 ∃vs:List Value,w.ownsRow B 47 1 v ls.length vs/\∀(i:Nat) (l:List Int),ls[i]? =some l->∃u,vs[i]? =some u/\OwnI w B u l
theorem OwnII.later{w w':World}{B:Nat}{v:Value}{ls:List (List Int)}(h:OwnII w B v ls)(hx:Ext w w'):OwnII w' B v ls:=
 let⟨vs,h1,h2⟩:=h
 ⟨vs,own_later h1 hx,fun i l hi=>let⟨u,g1,g2⟩:=h2 i l hi;⟨u,g1,own_later g2 hx⟩⟩
theorem OwnII.low{w:World}{B B':Nat}{v:Value}{ls:List (List Int)}(h:OwnII w B v ls)(hB:B'<=B):OwnII w B' v ls:=
 let⟨vs,h1,h2⟩:=h
 ⟨vs,own_low h1 hB,fun i l hi=>let⟨u,g1,g2⟩:=h2 i l hi;⟨u,g1,own_low g2 hB⟩⟩
theorem OwnII.read{w:World}{B:Nat}{v:Value}{ls:List (List Int)}(h:OwnII w B v ls):IssAt w v ls:=
 let⟨vs,h1,h2⟩:=h
 ⟨vs,Reads.of_own h1,fun i l hi=>let⟨u,g1,g2⟩:=h2 i l hi;⟨u,g1,g2.ints⟩⟩
theorem OwnII.app{w w':World}{B:Nat}{v v' u:Value}{ls:List (List Int)}{l:List Int}{vs:List Value}(hown:w.ownsRow B 47 1 v ls.length vs)
 (hvs:∀(i:Nat) (l:List Int),ls[i]? =some l->∃u,vs[i]? =some u/\OwnI w B u l)
 (ho:w'.ownsRow B 47 1 v' (ls.length+1) (vs++[u])) (hg:w.grownBy w' v.ownBlock) (hu:OwnI w B u l):OwnII w' B v' (ls++[l]):=by
 have hlen:vs.length=ls.length:=by have:=hown.1;simpa using this
 refine⟨vs++[u],by rw[List.length_append];exact ho,fun i m hi=>?_⟩
 rcases snoc_get hi with hi|⟨rfl,rfl⟩
 ·obtain⟨q,q1,q2⟩:=hvs i m hi
  have hil:=(List.getElem?_eq_some_iff.1 hi).1
  exact⟨q,by rw[List.getElem?_append_left (by omega)];exact q1,own_apart q2 hown (by decide) hg⟩
 ·exact⟨u,by rw[List.getElem?_append_right (by omega),hlen];simp,own_apart hu hown (by decide) hg⟩
def RksAre(vs rs:List (List Int)):Prop:=rs.length=vs.length/\∀(i:Nat) (v r:List Int),vs[i]? =some v->rs[i]? =some r->RanksIs v r
def ARanksOut(vs:List (List Int))(w:World)(e:Ending)(w':World):Prop:=
 (∃(u:Value) (rs:List (List Int)),e=.returned (.tuple #[u,I 0])/\RksAre vs rs/\OwnII w' w.heap.size u rs/\Ext w w')\/(e=.returned (.tuple #[.slice none 0 0,I 17])/\(∃v∈vs,∃x,OnL v x)/\Ext w w')
theorem rk_form{v:List Int}{w w':World}{e:Ending}(h:(∃(u:Value) (rs:List Int),e=.returned (.tuple #[u,I 0])/\RanksIs v rs/\OwnI w' w.heap.size u rs/\Ext w w')\/(e=.returned (.tuple #[.slice none 0 0,I 17])/\(∃x,OnL v x)/\Ext w w')):
 ∃(a:Option Addr) (n c:Nat) (z:Int),e=.returned (.tuple #[.slice a n c,I z])/\Ext w w'/\((z=0/\∃rs,RanksIs v rs/\OwnI w' w.heap.size (.slice a n c) rs)\/(z=17/\∃x,OnL v x)):=by
 rcases h with⟨u,rs,rfl,h1,h2,h3⟩|⟨rfl,h1,h2⟩
 ·obtain⟨a,c,rfl,-⟩:=h2.ints.form
  exact⟨a,rs.length,c,0,rfl,h3,.inl ⟨rfl,rs,h1,h2⟩⟩
 ·exact⟨none,0,0,17,rfl,h2,.inr ⟨rfl,h1⟩⟩
theorem aRanks_any(fv hv vv:Value)(s:Ats)(w:World)(h:AtomsAt w fv hv vv s)(hok:∀v∈s.vs,VOk v/\v.length<=256)(hfew:s.vs.length<=1000000):
 Calls Tryz.prog 41 #[.agg #[fv,hv,vv]] w (ARanksOut s.vs w):=by
 have HOK:=Hd hok
 obtain⟨va,vc,rfl,v1,v2,hvf⟩:=h.vs.form
 obtain⟨fa,fc,rfl,-⟩:=h.fr.form
 obtain⟨ha,hc,rfl,-⟩:=h.wh.form
 have HVF:=Hd hvf
 clear hvf h hok
 unfold maxLen at v2
 obtain⟨i8,hi8,hz8,hs8,hb8⟩:=info_parts (infoInts':(Tryz.prog.info? 47).map (fun i=>(i.zero,i.size,i.bytes))=some (some (.slice none 0 0),1,24))
 have HI8:=Hd hi8
 have HZ8:=Hd hz8
 have HS8:=Hd hs8
 clear hi8 hz8 hs8
 go_enter Tryz.func41,Tryz.ntmps41
 go_upto_region 1 with fail
 refine hBk w [.slice fa s.fr.length fc,.slice ha s.wh.length hc,.slice va s.vs.length vc] 73 (fun W1 hW1=>?_)
 obtain⟨hx1,hb1⟩:=hW1
 have HX1:=Hd hx1
 have HB1:=Hd hb1
 have hbc1:=hb1.cells
 have HW1:=Hd (show w.heap.size<=W1.heap.size from hx1.size)
 clear hx1 hb1
 go_upto_region 2 with(at_make;go_loud(refine wpList_make_own _ rfl _ _ 71 rfl w.heap.size 47 i8 (.slice none 0 0) 1 Tryz.underlying71 HI8.out HZ8.out HS8.out .i64 .i64 _ s.vs.length rfl rfl (by omega) (by rw[hb8];omega) (by unfold maxLen;omega) HW1.out ?_);intro w1 hown1 hgrow1;have HO1:=Hd (show OwnII w1 w.heap.size _ []from⟨[],hown1,fun i l h=>by cases h⟩);have HX2:=Hd (show Ext w w1 from Below.grown HX1.out hgrow1 HX1.out.size (fun j hj=>by cases hj));have hbc2:=(blk_grown HB1.out (fun g e=>by cases e) hgrow1).cells;clear hown1 hgrow1)
 clear hbc1
 go_wp2_with fail
 go_loopw[4,16] (fun u i wr=>∃(k:Nat) (rs:List (List Int)),k<=s.vs.length/\i=I k/\Hid (RksAre (s.vs.take k) rs)/\Hid (OwnII wr w.heap.size u rs)/\Hid (Ext w wr)) (fun _ i _=>s.vs.length-(intOf i).toNat)
 case atStart=>exact⟨0,[],Nat.zero_le _,rfl,⟨rfl,fun i v r h=>by cases h⟩,HO1.out,HX2.out⟩
 case round=>
  obtain⟨k,rs,hk,rfl,HR,HO,HX⟩:=hrel
  clear hbc2
  have hrl:rs.length=k:=by rw[HR.out.1,List.length_take];omega
  have HRL:=Hd hrl
  clear hrl
  by_cases hlt:k<s.vs.length
  ·have hkd:decide ((k:Int)<(s.vs.length:Int))=true:=dT (by omega)
   have HLT:=Hd hlt
   obtain⟨b,o,x,he,hc,hx⟩:=HVF.out k _ (gE hlt)
   subst he
   replace hc:=HX.out.cell hc
   obtain⟨ya,yc,rfl,-⟩:=hx.form
   have HI:=Hd (hx.later HX.out)
   have HV:=Hd (HOK.out _ (List.getElem_mem hlt))
   have HTK:=Hd (List.take_succ_eq_append_getElem hlt)
   have HGK:=Hd (show s.vs[k]? =some s.vs[k]from gE hlt)
   have HMM:=Hd (List.getElem_mem hlt)
   clear hx
   generalize s.vs[k]=v at*
   go_upto_region 6 with(first
    |(go_at_call 100;(with_reducible refine(gRanks_any _ v _ HI.out HV.out.1 HV.out.2).mono ?_);intro e w5 h5;obtain⟨ra,rn,rc,z,he,hx5,hz⟩:=rk_form h5;subst he;have HX5:=Hd (HX.out.trans hx5);have HXR:=Hd hx5;have HZ:=Hd hz;clear h5 hx5 hz))
   rcases HZ.out with⟨rfl,r,hr,ho⟩|⟨rfl,ho⟩
   ·have HRI:=Hd hr
    have HOR:=Hd ho
    clear hr ho HZ
    obtain⟨vs,hvs,hvi⟩:=HO.out
    obtain⟨ua,uc,rfl,ub1,ub2⟩:∃a c,u4=.slice a rs.length c/\rs.length<=c/\c<=maxLen:=by
     obtain⟨a,c,h1,h2,h3,-⟩:=HO.out.read.form
     exact⟨a,c,h1,h2,h3⟩
    have HVS:=Hd hvs
    have HVI:=Hd hvi
    clear hvs hvi
    have HXA:=Hd (HX5.out.alloc (.cells #[.slice ra rn rc] 47))
    have HOA:=Hd (show(w5.alloc (.cells #[.slice ra rn rc] 47)).ownsRow w.heap.size 47 1 (.slice ua rs.length uc) rs.length vs from own_later HVS.out (HXR.out.alloc _))
    have HVA:=Hd (show∀(i:Nat) (l:List Int),rs[i]? =some l->∃u,vs[i]? =some u/\OwnI (w5.alloc (.cells #[.slice ra rn rc] 47)) w.heap.size u l from fun i l hi=>let⟨u,g1,g2⟩:=HVI.out i l hi;⟨u,g1,own_later g2 (HXR.out.alloc _)⟩)
    have HUA:=Hd (show OwnI (w5.alloc (.cells #[.slice ra rn rc] 47)) w.heap.size (.slice ra rn rc) r from own_low (HOR.out.later ((eR w5).alloc _)) HX.out.size)
    have HSC:=Hd (show(w5.alloc (.cells #[.slice ra rn rc] 47)).cell? ⟨w5.heap.size,0,none⟩=some (.slice ra rn rc)from(Blk.new w5 [.slice ra rn rc] 47).cells 0)
    have hrb:rs.length<=1000000:=by have:=HRL.out;omega
    go_wp2_with (first
     |(at_builtin
       refine wpList_app1 rfl (.tmp 28) (.tmp 30) 71 rfl w.heap.size 47 (.slice none 0 0) 24 Tryz.underlying71 infoInts' rfl (by decide) _ _ _ rfl HOA.out w5.heap.size rfl (.slice ra rn rc) HSC.out rfl (by omega) HXA.out.size ?_
       intro v7 w7 ho7 hg7 hl7
       have HX7:=Hd (Ext.grown HXA.out hg7 HOA.out (Nat.le_refl _))
       have HO7:=Hd (OwnII.app HOA.out HVA.out ho7 hg7 HUA.out)
       clear ho7 hg7 hl7))
    go_roundw
    case rel=>
     refine⟨k+1,rs++[r],Nat.succ_le_of_lt HLT.out,by go_num,⟨by rw[HTK.out,List.length_append,List.length_append,HR.out.1];rfl,fun i x y hx hy=>?_⟩,HO7.out,HX7.out⟩
     rw[HTK.out]at hx
     rcases snoc_get hx with hx|⟨rfl,rfl⟩
     ·have hi:=(List.getElem?_eq_some_iff.1 hx).1
      rw[List.getElem?_append_left (by rw[HR.out.1];exact hi)]at hy
      exact HR.out.2 i x y hx hy
     ·rw[List.getElem?_append_right (by rw[HR.out.1];exact Nat.le_refl _),HR.out.1,Nat.sub_self]at hy
      simp at hy;subst hy
      exact HRI.out
    case measure=>have:=HLT.out;simp[intOf];omega
   ·have HON:=Hd ho
    clear ho HZ
    go_wp2_with fail
    go_ret2
    unfold ARanksOut
    exact .inr ⟨rfl,⟨v,HMM.out,HON.out⟩,HX5.out⟩
  ·have hkd:decide ((k:Int)<(s.vs.length:Int))=false:=dF (by omega)
   obtain rfl:k=s.vs.length:=by omega
   have HRE:=Hd (show RksAre s.vs rs by have h:=HR.out;rw[List.take_length]at h;exact h)
   go_wp2_with fail
   go_ret2
   unfold ARanksOut
   exact .inl ⟨_,rs,rfl,HRE.out,HO.out,HX.out⟩
theorem aEnds_any(fv hv vv:Value)(s:Ats)(i:Nat)(w:World)(h:AtomsAt w fv hv vv s)(hi:i<s.fr.length):
 Calls Tryz.prog 39 #[.agg #[fv,hv,vv],I i] w fun e w'=>e=.returned (.agg #[U s.fr[i],U (endV s.fr i)])/\Ext w w':=by
 have HE:=Hd (show∀W,UsAt W fv s.fr->Calls Tryz.prog 142 #[fv,I i] W fun e w'=>e=.returned (.tuple #[U s.fr[i],U (endV s.fr i),.bool true])/\Ext W w' from fun W hW=>(cutsEnds_any fv s.fr i W hW hi).mono fun e w' ⟨h1,h2⟩=>⟨h1,h2▸eR W⟩)
 have HA:=Hd h
 obtain⟨fa,fc,ha,hc,va,vc,rfl,rfl,rfl⟩:=h.forms
 clear h
 generalize s.fr[i]=lo at*
 generalize endV s.fr i=hi at*
 go_enter Tryz.func39,Tryz.ntmps39
 go_upto_region 1 with fail
 refine hWp (fun W=>Ext w W/\Blk W w.heap.size [.slice fa s.fr.length fc,.slice ha s.wh.length hc,.slice va s.vs.length vc] 73/\Blk W (w.heap.size+1) [U 0#32,U 0#32] 78)
  ⟨by(repeat with_reducible first|exact eR _|assumption|refine eA ?_ _|refine eD ?_|refine eW ?_ _|(refine eS ?_ ?_;focus(first|(simp;done)|(simp;omega)|omega))),(Blk.new w [.slice fa s.fr.length fc,.slice ha s.wh.length hc,.slice va s.vs.length vc] 73).old _,Blk.newAt [U 0#32,U 0#32] (by simp)⟩ (fun W1 hW1=>?_)
 obtain⟨hx1,hb1,hr1⟩:=hW1
 have HX1:=Hd hx1
 have HR1:=Hd hr1
 have hbc:=hb1.cells
 have HRB:=Hd (show w.heap.size<=w.heap.size+1 from Nat.le_succ _)
 clear hx1 hb1 hr1
 generalize w.heap.size+1=rb at*
 go_upto_region 2 with(first
  |(go_at_call 99;(with_reducible refine(atomsEnds_any _ _ _ s i _ (HA.out.later HX1.out) _ HE.out ⟨_,_,_,rfl⟩).mono ?_);rintro e w2 ⟨he,hx2⟩;subst he;have HX2:=Hd (HX1.out.trans hx2);have HR2:=Hd (HR1.out.later hx2);clear hx2))
 clear hbc
 have hrc:=HR2.out.cells
 have hrf:=HR2.out.frozen
 have HX3:=Hd (show∀u v,Ext w ((w2.setCell ⟨rb,0,none⟩ u).setCell ⟨rb,1,none⟩ v)from fun u v=>(HX2.out.setCell HRB.out u).setCell HRB.out v)
 go_wp2_with fail
 refine hideW (Φ:=fun W=>bodyPost _ _ _ _ _ W) (fun W=>Ext w W/\Blk W rb [U lo,U hi] 78)
  ⟨HX3.out _ _,(HR2.out.set 0 (U lo)).set 1 (U hi)⟩ (fun W3 hW3=>?_)
 obtain⟨hx3,hr3⟩:=hW3
 have hc3:=hr3.cells
 refine bodyPost_ret (v:=.agg #[U lo,U hi]) (by rw[results_cellA rfl];go_simp) rfl ?_
 exact⟨rfl,hx3⟩
def crt0:Crt:=⟨0,[],[],0#32,[]⟩
def RK(A:Nat->Prop):World->World->Prop:=fun w w'=>w.heap.size<=w'.heap.size/\∀b,A b->b<w.heap.size->w'.heap[b]? =w.heap[b]?
theorem preRK(A:Nat->Prop):Pre (RK A):=
 ⟨fun _=>⟨Nat.le_refl _,fun _ _ _=>rfl⟩,fun h k=>⟨Nat.le_trans h.1 k.1,fun b hb hl=>(k.2 b hb (Nat.lt_of_lt_of_le hl h.1)).trans (h.2 b hb hl)⟩⟩
theorem RK.ext{A:Nat->Prop}{w w':World}(h:Ext w w'):RK A w w':=⟨h.size,fun b _ hl=>Below.block h b hl⟩
theorem RK.grown{A:Nat->Prop}{w w':World}{r:Option Nat}(h:w.grownBy w' r)(hr:∀g,r=some g->¬A g):RK A w w':=
 ⟨h.size,fun b hb hl=>h.block b hl fun e=>hr b e.symm hb⟩
theorem RK.keep{A:Nat->Prop}{w:World}{p:Addr}{v:Value}(hp:A p.block)(h:w.cell? p=some v):∀w',RK A w w'->w'.cell? p=some v:=fun w' hx=>by
 have hl:p.block<w.heap.size:=by
  rcases Nat.lt_or_ge p.block w.heap.size with g|g
  ·exact g
  ·simp[World.cell?,Array.getElem?_eq_none g]at h
 rw[World.cell?_of_block (hx.2 _ hp hl)];exact h
structure NtS(w5 w:World)(kb:Nat)(pv:Value)(ps:List Prt)(rks:List (List Int)):Prop where
 ext:Ext w5 w
 box:Blk w kb [I 1,pv,U 0#32,sNil] 49
 own:OwnP w (kb+1) pv ps
 len:rks.length=ps.length
 rk:∀(i:Nat) (p:Prt) (r:List Int),ps[i]? =some p->rks[i]? =some r->OwnI w (kb+1) p.rk r
theorem NtS.later{w5 w w':World}{kb:Nat}{pv:Value}{ps:List Prt}{rks:List (List Int)}(h:NtS w5 w kb pv ps rks)(hx:Ext w w'):NtS w5 w' kb pv ps rks:=
 ⟨h.ext.trans hx,h.box.later hx,h.own.later hx,h.len,fun i p r h1 h2=>(h.rk i p r h1 h2).later hx⟩
theorem NtS.add{w5 w w':World}{kb:Nat}{pv v':Value}{ps:List Prt}{rks:List (List Int)}{p:Prt}{r:List Int}(h:NtS w5 w kb pv ps rks)(hkb:w5.heap.size<=kb)(hr:OwnI w (kb+1) p.rk r)
 (ho:w'.ownsRow (kb+1) 85 3 v' (ps.length+1) (pcells ps++p.cells)) (hg:w.grownBy w' pv.ownBlock):NtS w5 (w'.setCell ⟨kb,1,none⟩ v') kb v' (ps++[p]) (rks++[r]):=by
 have hne:∀g,pv.ownBlock=some g->kb+1<=g:=own_ge h.own
 refine⟨(Below.grown h.ext hg h.ext.size fun g e=>by have:=hne g e;omega).setCell hkb _,(blk_grown h.box (fun g e=>by have:=hne g e;omega) hg).set 1 v',?_,by simp[h.len],fun i q t h1 h2=>?_⟩
 ·refine own_set ?_ (Nat.lt_succ_self kb) v'
  unfold OwnP at*
  rw[List.length_append,pcells_app]
  have e:pcells [p]=p.cells:=by unfold pcells;simp
  rw[e];exact ho
 ·refine own_set ?_ (Nat.lt_succ_self kb) v'
  rcases snoc_get h1 with h1|⟨rfl,rfl⟩
  ·have hi:=(List.getElem?_eq_some_iff.1 h1).1
   rw[List.getElem?_append_left (by rw[h.len];exact hi)]at h2
   exact own_apart (h.rk i q t h1 h2) h.own (by decide) hg
  ·rw[List.getElem?_append_right (by rw[h.len];exact Nat.le_refl _),h.len,Nat.sub_self]at h2
   simp at h2;subst h2
   exact own_apart hr h.own (by decide) hg
theorem NtS.at{w5 w:World}{kb:Nat}{pv:Value}{ps:List Prt}{rks:List (List Int)}(h:NtS w5 w kb pv ps rks):CertAt w pv sNil ⟨1,ps,rks,0#32,[]⟩:=
 ⟨h.own.parts,h.len,fun i p r h1 h2=>(h.rk i p r h1 h2).ints,Reads.nil w 1⟩
theorem ranks_ok{vs:List (List Int)}{w w':World}{e:Ending}(h:ARanksOut vs w e w')(hn:∀v∈vs,∀x,¬OnL v x):
 ∃(ua:Option Addr) (uc:Nat) (rs:List (List Int)),e=.returned (.tuple #[.slice ua rs.length uc,I 0])/\RksAre vs rs/\OwnII w' w.heap.size (.slice ua rs.length uc) rs/\Ext w w':=by
 rcases h with⟨u,rs,he,h1,h2,h3⟩|⟨_,⟨v,hv,x,hx⟩,_⟩
 ·obtain⟨a,c,rfl,-⟩:=h2.read.form
  exact⟨a,c,rs,he,h1,h2,h3⟩
 ·exact absurd hx (hn v hv x)
def ANetOut(ls:List (List Rul))(w:World)(e:Ending)(w':World):Prop:=
 ∃pv tv c,e=.returned (.tuple #[.agg #[I c.vd,pv,U c.dest,tv],I 0])/\CertAt w' pv tv c/\AnaIs ls c/\Ext w w'
theorem aNet_good(lv:Value)(ls:List (List Rul))(w:World)(hl:TablesAt w lv ls)(hok:TablesOk ls)(hm:netMayV ls=0):
 Calls Tryz.prog 15 #[.agg #[lv]] w (ANetOut ls w):=by
 have HL:=Hd hl
 have HOK:=Hd hok
 have HM:=Hd hm
 have HNB:=Hd (netMay_tabs hm)
 obtain⟨ad,cap,rfl,a1,a2,a3⟩:=hl.form
 clear a3 hl hm hok
 unfold maxLen at a2
 go_enter Tryz.func15,Tryz.ntmps15
 go_upto_region 1 with(fail)
 refine hWp (fun W=>Ext w W/\Blk W w.heap.size [.slice ad ls.length cap] 43/\Blk W (w.heap.size+1) [I 0,sNil,U 0#32,sNil] 49)
  ⟨by(repeat with_reducible first|exact eR _|assumption|refine eA ?_ _|refine eD ?_|refine eW ?_ _|(refine eS ?_ ?_;focus(first|(simp;done)|(simp;omega)|omega))),(Blk.new w [.slice ad ls.length cap] 43).old _,Blk.newAt [I 0,sNil,U 0#32,sNil] (by simp)⟩ (fun W1 hW1=>?_)
 obtain⟨hx1,hb1,hr1⟩:=hW1
 have HX1:=Hd hx1
 have hbc1:=hb1.cells
 have HR1:=Hd hr1
 clear hr1 hx1 hb1
 have HRB:=Hd (show w.heap.size<=w.heap.size+1 from Nat.le_succ _)
 generalize w.heap.size+1=rb at*
 go_upto_region 2 with(first
  |(go_at_call 37;(with_reducible refine(atomsOf_good _ ls _ (HL.out.later HX1.out) HOK.out HM.out).mono ?_);rintro e w2 ⟨fv,hv,vv,l,he,hC,hA,hx2⟩;subst he;have HC:=Hd hC;have HA2:=Hd hA;obtain⟨fa,fc,ha,hc,va,vc,hf1,hf2,hf3⟩:=hA.forms;subst hf1;subst hf2;subst hf3;have HX2:=Hd (HX1.out.trans hx2);have HR2:=Hd (HR1.out.later hx2);clear hx2 hC hA))
 clear hbc1
 have HIT:=Hd (atomsIt HC.out)
 have HFEW:=Hd (show(atomsL (vecV ls) l).fr.length<=8193 from by
  have h1:=ats_few (vecV ls) l
  have h2:=HC.out.len
  rw[sizeN_flat]at h2
  have:=HNB.out.2.1
  omega)
 generalize hse:atomsL (vecV ls) l=s at*
 have HSE:=Hd hse
 clear hse
 have HVK:=Hd (show∀v∈s.vs,VOk v/\v.length<=256 from fun v hv=>by
  obtain⟨a,_,rfl⟩:=HIT.out.inv.vec hv
  exact⟨vec_ok HM.out a,by rw[vecV_len];exact HNB.out.1⟩)
 refine hWp (fun W=>Ext w W/\Blk W rb [I 0,sNil,U 0#32,sNil] 49/\Blk W w2.heap.size [.slice fa s.fr.length fc,.slice ha s.wh.length hc,.slice va s.vs.length vc] 73/\AtomsAt W (.slice fa s.fr.length fc) (.slice ha s.wh.length hc) (.slice va s.vs.length vc) s)
  ⟨HX2.out.alloc _,HR2.out.old _,Blk.new w2 _ 73,HA2.out.later ((eR _).alloc _)⟩ (fun W3 hW3=>?_)
 obtain⟨hx3,hr3,hb3,ha3⟩:=hW3
 have HX3:=Hd hx3
 have HR3:=Hd hr3
 have HB3:=Hd hb3
 have HA3:=Hd ha3
 have hbc3:=hb3.cells
 clear hx3 hr3 hb3 ha3 HA2 HX2 HR2
 generalize w2.heap.size=xb at*
 have hvl:s.vs.length<=8193:=by have h1:=HIT.out.inv.ok.short;have h2:=HIT.out.inv.ok.len;have h3:=HFEW.out;omega
 have HRX:=Hd (show rb<W3.heap.size from HR3.out.lt)
 go_upto_block 0 with fail
 go_cut[28] (fun _ wc=>Hid (∀v∈s.vs,∀x,¬OnL v x)/\Hid (Blk wc rb [I 0,sNil,U 0#32,sNil] 49)/\Hid (Ext W3 wc))
 case first=>
  go_wp2_with fail
  go_loopw[28] (fun i wr=>∃k:Nat,k<=s.vs.length/\i=I k/\Hid (∀j u,j<k->s.vs[j]? =some u->∀x,¬OnL u x)/\Hid (Ext W3 wr)) (fun i _=>s.vs.length-(intOf i).toNat)
  case atStart=>exact⟨0,Nat.zero_le _,rfl,fun j u h=>absurd h (Nat.not_lt_zero j),eR _⟩
  case round=>
   obtain⟨k,hk,rfl,HN,HX⟩:=hrel
   clear hbc3
   by_cases hlt:k<s.vs.length
   ·have hkd:decide ((k:Int)<(s.vs.length:Int))=true:=dT (by omega)
    have HLT:=Hd hlt
    obtain⟨va',vc',hve,-,-,hvf⟩:=HA3.out.vs.form
    obtain⟨b1,o1,x1,he1,hc1,hi1⟩:=hvf k _ (gE hlt)
    cases hve
    subst he1
    replace hc1:=HX.out.cell hc1
    obtain⟨ya,yc,rfl,-⟩:=hi1.form
    have HI:=Hd (hi1.later HX.out)
    have HV:=Hd (HVK.out _ (List.getElem_mem hlt))
    have HGK:=Hd (show s.vs[k]? =some s.vs[k]from gE hlt)
    clear hi1 hvf
    generalize s.vs[k]=v at*
    go_upto_region 10 with(first
     |(go_at_call 38;(with_reducible refine(gLoop_any _ v _ HI.out HV.out.1 HV.out.2).mono ?_);rintro e w5 ⟨u5,tr,he,hl5,ho5,hx5⟩;subst he;have HLI:=Hd hl5;have HO5:=Hd ho5;obtain⟨ta,tc,hte,-⟩:=ho5.ints.form;subst hte;have HX5:=Hd (HX.out.trans hx5);have HXR:=Hd hx5;clear hl5 ho5 hx5))
    by_cases htr:tr=[]
    ·subst htr
     have HNO:=Hd (LoopIs.nil.1 HLI.out)
     clear HLI
     go_wp2_with fail
     go_roundw
     case rel=>
      refine⟨k+1,Nat.succ_le_of_lt HLT.out,by go_num,fun j u hj hu=>?_,HX5.out⟩
      rcases Nat.lt_or_ge j k with g|g
      ·exact HN.out j u g hu
      ·obtain rfl:j=k:=by omega
       rw[HGK.out]at hu
       cases hu
       exact HNO.out
     case measure=>have:=HLT.out;simp[intOf];omega
    ·have htl:0<tr.length:=List.length_pos_iff.2 htr
     have htd:decide ((0:Int)<(tr.length:Int))=true:=dT (by omega)
     have HTR:=Hd htr
     clear htr
     obtain⟨i,i1,i2,i3,i4⟩:=HIT.out.inv.first HLT.out
     have hwl:=HIT.out.inv.ok.len
     obtain⟨a,hfa,hAL⟩:=HIT.out.loop HGK.out (by rw[gE i1];rw[List.getD_eq_getElem?_getD,gE i1]at i2;exact congrArg some i2) i4 HN.out HLI.out HTR.out
     have HFA:=Hd hfa
     have HAL:=Hd hAL
     have HIF:=Hd (show i<s.fr.length by omega)
     obtain⟨hb,ho,hhf⟩:∃hb ho,ha=some ⟨hb,ho,none⟩:=by
      obtain⟨ha',hc',hhe,-,-,hhf⟩:=HA3.out.wh.form
      obtain⟨hb,ho,he,-⟩:=hhf i _ (gE i1)
      cases hhe
      exact⟨hb,ho,he⟩
     subst hhf
     have HWC:=Hd (show∀W,Ext W3 W->∀j,j<s.wh.length->W.cell? ⟨hb,ho+j,none⟩=some (I (s.wh.getD j 0))from fun W hW j hj=>by
      obtain⟨ha',hc',hhe,-,-,hhf⟩:=HA3.out.wh.form
      obtain⟨hb',ho',he,hcell⟩:=hhf j _ (gE hj)
      cases hhe
      cases he
      rw[List.getD_eq_getElem?_getD,gE hj]
      exact hW.cell hcell)
     have HIX:=Hd (show∀W,Ext W3 W->Calls Tryz.prog 40 #[.slice (some ⟨hb,ho,none⟩) s.wh.length hc,I (k:Int)] W fun e w'=>e=.returned (I (i:Int))/\Ext W w' from fun W hW=>by
      refine(Tryz.slices_Index_int hb ho s.wh.length hc s.wh (k:Int) W (Nat.le_refl _) (by have:=HFEW.out;omega) (HWC.out W hW)).mono ?_
      rintro e w' ⟨rfl,rfl⟩
      refine⟨?_,eR _⟩
      rw[Lib.idxOf_hit s.wh s.wh.length i (k:Int) i1 (Nat.le_refl _) i2 i3])
     have HEN:=Hd (show∀W,Ext W3 W->Calls Tryz.prog 39 #[.agg #[.slice fa s.fr.length fc,.slice (some ⟨hb,ho,none⟩) s.wh.length hc,.slice (some ⟨b1,o1,none⟩) s.vs.length vc],I (i:Int)] W fun e w'=>e=.returned (.agg #[U a,U (endV s.fr i)])/\Ext W w' from fun W hW=>by
      refine(aEnds_any _ _ _ s i W (HA3.out.later hW) HIF.out).mono ?_
      rintro e w' ⟨he,hx⟩
      refine⟨?_,hx⟩
      rw[he]
      have h2:=HFA.out
      rw[gE HIF.out]at h2
      rw[Option.some.inj h2])
     clear i1 i2 i3 i4 hfa hAL hwl
     generalize endV s.fr i=eh at*
     go_upto_region 11 with fail
     have kB:=(HB3.out.later HX5.out).keep
     refine wp_region_E 7 rfl (by kernel_rfl) (by kernel_rfl) ?_
     refine WEi_at 0 ?_
     iterate 6
      refine WEi_q rfl (by decide) (by kernel_rfl) rfl ?_;apply Exists.intro;refine⟨fun w1 hx1=>?_,?_⟩
      ·have hq1:=hx1.cells;go_simp;try go_bits
       first|with_reducible rfl|(first|(refine(HIX.out _ (HX5.out.trans hx1)).mono ?_;rintro e w' ⟨rfl,hx⟩;exact⟨rfl,hx⟩)|(refine(HEN.out _ (HX5.out.trans hx1)).mono ?_;rintro e w' ⟨rfl,hx⟩;exact⟨rfl,hx⟩))
      go_frame;try simp only[Nat.reduceAdd]
     refine WEi_out ?_
     refine WE_do 6 rfl (by decide) (by kernel_rfl) rfl (fun wa hxa K hK=>?_)
     go_simp
     refine hK _ _ ((eR _).alloc _) ?_
     clear hK K
     refine WE_done (by kernel_rfl) (fun wb hxb=>?_)
     (try simp only[List.drop_succ_cons,List.drop_zero])
     have HSA:=Hd (show w5.heap.size<=wa.heap.size from hxa.size)
     have hx1b:Ext w5 wb:=hxa.trans (((eR wa).alloc _).trans hxb)
     have cS:Blk wb wa.heap.size [.int .u32 0,.int .u32 0] 78:=Blk.later (by(repeat(first|with_reducible assumption|(with_reducible refine Blk.newAt _ ?_;focus(first|with_reducible rfl|(simp;done)))|with_reducible refine Blk.old ?_ _|with_reducible refine Blk.drew ?_))) hxb
     have kS:=cS.cells
     have kSf:=cS.frozen
     clear hxa hxb kB
     go_upto_region 12 with fail
     refine hWp (fun W=>Ext w5 W/\Blk W wa.heap.size [U a,U eh] 78) ⟨?_,(cS.set 0 _).set 1 _⟩ (fun W4 hW4=>?_)
     ·exact Ext.setCellP HSA.out (Ext.setCellP HSA.out hx1b)
     clear cS kS kSf hx1b
     obtain⟨hx4,cS4⟩:=hW4
     have HX4:=Hd hx4
     have kS:=cS4.cells
     have HR4:=Hd ((HR3.out.later HX5.out).later hx4)
     have hrf:=HR4.out.frozen
     have hrc:=HR4.out.cells
     have HT4:=Hd (HO5.out.later hx4)
     clear hx4 cS4
     generalize wa.heap.size=sb at*
     clear wa wb
     go_wp2_with fail
     refine hideW (Φ:=fun W=>bodyPost Tryz.prog Tryz.f15 (ANetOut ls w) _ _ W) (fun W=>Ext w W/\Blk W rb [I 2,sNil,U a,.slice ta tr.length tc] 49/\IntsAt W (.slice ta tr.length tc) tr)
      ⟨?_,?_,?_⟩ (fun W6 hW6=>?_)
     ·refine Ext.setCell (Ext.setCell (Ext.setCell (Ext.setCell (HX3.out.trans (HX5.out.trans HX4.out)) ?_ _) ?_ _) ?_ _) ?_ _<;>exact HRB.out
     ·exact(((HR4.out.set 0 (I 2)).set 1 sNil).set 2 (U a)).set 3 (.slice ta tr.length tc)
     ·have h0:rb<wr.heap.size:=Nat.lt_of_lt_of_le HRX.out HX.out.size
      exact OwnI.ints (own_set (own_set (own_set (own_set HT4.out (p:=⟨rb,0,none⟩) h0 _) (p:=⟨rb,1,none⟩) h0 _) (p:=⟨rb,2,none⟩) h0 _) (p:=⟨rb,3,none⟩) h0 _)
     obtain⟨hx6,hr6,ht6⟩:=hW6
     have hc6:=hr6.cells
     refine bodyPost_ret (v:=.tuple #[.agg #[I 2,sNil,U a,.slice ta tr.length tc],I 0]) (by rw[results_cell_tmp rfl];go_simp) rfl ?_
     refine⟨sNil,.slice ta tr.length tc,⟨2,[],[],a,tr⟩,rfl,⟨parts_nil W6,rfl,fun i p r h1 h2=>(by cases h1),ht6⟩,⟨l,HC.out,.inl ⟨i,?_⟩⟩,hx6⟩
     rw[HSE.out];exact HAL.out
   ·have HKE:=Hd (show k=s.vs.length by omega)
    go_wp2_with fail
    go_meet
    case rel=>
     refine⟨fun v hv x=>?_,HR3.out.later HX.out,HX.out⟩
     obtain⟨j,hj⟩:=List.getElem?_of_mem hv
     exact HN.out j v (by rw[HKE.out];exact(List.getElem?_eq_some_iff.1 hj).1) hj x
 case rest=>
  obtain⟨HNO,HRC,HXC⟩:=hcut
  clear hbc3
  have hbc:=(HB3.out.later HXC.out).cells
  go_upto_region 15 with(first
   |(go_at_call 41;(with_reducible refine(aRanks_any _ _ _ s _ (HA3.out.later HXC.out) HVK.out (Nat.le_trans hvl (by decide))).mono ?_);intro e w5 h5;obtain⟨ua,uc,rks,he,hk5,ho5,hx5⟩:=ranks_ok h5 HNO.out;subst he;have HRK:=Hd hk5;have HO5:=Hd ho5;have HX5:=Hd (HXC.out.trans hx5);clear h5 hk5 ho5 hx5))
  clear hbc
  have hbc:=(HB3.out.later HX5.out).cells
  go_upto_region 18 with fail
  refine hWp (fun W=>Ext w5 W/\Blk W w5.heap.size [I 1,sNil,U 0#32,sNil] 49)
   ⟨(eR _).alloc _,Blk.new w5 [I 1,sNil,U 0#32,sNil] 49⟩ (fun W6 hW6=>?_)
  obtain⟨hx6,hk6⟩:=hW6
  have HX6:=Hd (HX5.out.trans hx6)
  have HRS:=Hd HO5.out.read
  have HT6:=Hd (show NtS w5 W6 w5.heap.size sNil [] []from⟨hx6,hk6,⟨rfl,.inl ⟨rfl,rfl⟩⟩,rfl,fun i p r h1 h2=>by cases h1⟩)
  have HKB:=Hd (show w5.heap.size<=w5.heap.size from Nat.le_refl _)
  clear hx6 hk6 hbc
  have hbc:=(HB3.out.later HX6.out).cells
  generalize hkb:w5.heap.size=kb at HT6 ⊢
  have HKE:=Hd hkb
  clear hkb
  have hwl8:s.wh.length<=8193:=by have h2:=HIT.out.inv.ok.len;have h3:=HFEW.out;omega
  have HK5:=Hd (show W3.heap.size<=kb from by rw[<-HKE.out];exact HX5.out.size)
  go_wp2_with fail
  go_loopw[69] (fun i wr=>∃(k:Nat) (pa:Option Addr) (pc:Nat) (ps:List Prt) (rs:List (List Int)),k<=s.wh.length/\i=I k/\ps.length=k/\Hid (NtS w5 wr kb (.slice pa k pc) ps rs)/\
   Hid (∀(j:Nat) (a:BitVec 32),j<k->s.fr[j]? =some a->∃p r,ps[j]? =some p/\rs[j]? =some r/\p.fr=a/\p.up=endV s.fr j/\RanksIs (vecV ls a) r)) (fun i _=>s.wh.length-(intOf i).toNat)
  case atStart=>exact⟨0,none,0,[],[],Nat.zero_le _,rfl,rfl,HT6.out,fun j a h=>absurd h (Nat.not_lt_zero j)⟩
  case round=>
   obtain⟨k,pa,pc,ps,rs,hk,rfl,hpl,HT,HPR⟩:=hrel
   have HPL:=Hd hpl
   clear hbc hpl
   have HXT:=Hd (HX5.out.trans HT.out.ext)
   have hbc:=(HB3.out.later HXT.out).cells
   have hkc:=HT.out.box.cells
   have hkf:=HT.out.box.frozen
   by_cases hlt:k<s.wh.length
   ·have hkd:decide ((k:Int)<(s.wh.length:Int))=true:=dT (by omega)
    have HLT:=Hd hlt
    have hfl:k<s.fr.length:=by have h2:=HIT.out.inv.ok.len;omega
    have HFL:=Hd hfl
    obtain⟨q,hq1,hq2⟩:=HIT.out.inv.place k _ (gE hfl)
    obtain⟨ha',hc',hhe,-,-,hhf⟩:=HA3.out.wh.form
    obtain⟨b1,o1,he1,hc1⟩:=hhf k _ hq1
    cases hhe
    subst he1
    replace hc1:=HXT.out.cell hc1
    have hql:=(List.getElem?_eq_some_iff.1 hq2).1
    have hrl:q<rks.length:=by rw[HRK.out.1];exact hql
    obtain⟨ub,uo,ru,hue,hru,hri⟩:∃b o u,ua=some ⟨b,o,none⟩/\w5.cell? ⟨b,o+q,none⟩=some u/\IntsAt w5 u rks[q]:=by
     obtain⟨ua',uc',he,-,-,hf⟩:=HRS.out.form
     obtain⟨b,o,u,h1,h2,h3⟩:=hf q _ (gE hrl)
     cases he
     exact⟨b,o,u,h1,h2,h3⟩
    subst hue
    have HRI:=Hd (HRK.out.2 q _ rks[q] hq2 (gE hrl))
    have HR7:=Hd (hri.later HT.out.ext)
    obtain⟨ra,rc,rfl,-⟩:=hri.form
    have HUB:=Hd (show ub<kb from by
     rw[<-HKE.out]
     rcases Nat.lt_or_ge ub w5.heap.size with g|g
     ·exact g
     ·simp[World.cell?,Array.getElem?_eq_none g]at hru)
    replace hru:=HT.out.ext.cell hru
    have HRU:=Hd hru
    have HRN:=Hd (show rks[q].length<=1000000 by rw[HRI.out.1,vecV_len];have:=HNB.out.1;omega)
    have HSF:=Hd (gE hfl)
    have HAE:=Hd (aEnds_any _ _ _ s k _ (HA3.out.later HXT.out) hfl)
    clear hhf hq1 hq2 hri hru
    generalize rks[q]=r at*
    generalize s.fr[k]=a at*
    generalize hee:endV s.fr k=ee at*
    have HEE:=Hd hee
    clear hee
    go_upto_region 22 with(first
     |(go_at_call 39;refine HAE.out.mono ?_;rintro e w7 ⟨he,hx7⟩;subst he;have HT7:=Hd (HT.out.later hx7);have HX7:=Hd hx7;clear hx7))
    clear hkc hkf
    refine hWp (fun W=>Ext w7 W/\Blk W w7.heap.size [U a,U ee] 78)
     ⟨(eR _).alloc _,Blk.new w7 [U a,U ee] 78⟩ (fun W8 hW8=>?_)
    obtain⟨hx8,hb8⟩:=hW8
    have HT8:=Hd (HT7.out.later hx8)
    have HX8:=Hd (HX7.out.trans hx8)
    have HB8:=Hd hb8
    have HAB:=Hd (show kb<w7.heap.size from HT7.out.box.lt)
    clear hx8 hb8 hbc HT7 HX7
    generalize w7.heap.size=ab at*
    refine wp_region_R (RK (fun b=>b<kb+1\/b=ab)) 15 rfl (by kernel_rfl) (by kernel_rfl) (fun w0 hx0=>?_)
    have HX0:=Hd (HX8.out.trans hx0)
    have HT0:=Hd (HT8.out.later hx0)
    have HB0:=Hd (HB8.out.later hx0)
    have q1:=RK.keep (A:=fun b=>b<kb+1\/b=ab) (.inl (Nat.lt_succ_self kb)) (HT0.out.box.cells 1)
    have q2:=RK.keep (A:=fun b=>b<kb+1\/b=ab) (.inr rfl) (HB0.out.cells 0)
    have q3:=RK.keep (A:=fun b=>b<kb+1\/b=ab) (.inr rfl) (HB0.out.cells 1)
    have q4:=RK.keep (A:=fun b=>b<kb+1\/b=ab) (.inl (Nat.lt_succ_of_lt HUB.out)) (HX0.out.cell HRU.out)
    refine WRi_at 0 ?_
    iterate 10
     refine WRi_q (preRK _) rfl (by decide) (by kernel_rfl) rfl ?_;apply Exists.intro;refine⟨fun w1 hx1=>?_,?_⟩
     ·go_simp;try go_bits
      first|with_reducible rfl|rfl
     go_frame;try simp only[Nat.reduceAdd]
    refine WRi_out ?_
    clear q1 q2 q3 q4
    refine WR_one 10 rfl (by decide) (by kernel_rfl) rfl (fun K hK=>?_)
    go_simp
    (with_reducible refine(cloneI_any _ r _ (HR7.out.later HX0.out) HRN.out).mono ?_)
    rintro e wA ⟨uA,he,hoA,hxA⟩
    subst he
    have HOA:=Hd (own_low hoA (show kb+1<=w0.heap.size from HT0.out.box.lt))
    obtain⟨ca,cc,hue,-⟩:=hoA.ints.form
    subst hue
    have HTA:=Hd (HT0.out.later hxA)
    refine hK _ _ (RK.ext hxA) ?_
    clear hK K hoA hxA
    refine WR_q (preRK _) 11 rfl (by decide) (by kernel_rfl) rfl ?_;apply Exists.intro;refine⟨fun w1 hx1=>?_,?_⟩
    ·go_simp;try go_bits
     first|with_reducible rfl|rfl
    go_frame
    refine WR_one 12 rfl (by decide) (by kernel_rfl) rfl (fun K hK=>?_)
    go_simp
    refine hK _ _ (RK.ext ((eR _).alloc _)) ?_
    clear hK K
    have HXB:=Hd ((eR wA).alloc (.cells #[U a,U ee,.slice ca r.length cc] 85))
    have HTB:=Hd (HTA.out.later HXB.out)
    have HOB:=Hd (own_later HOA.out HXB.out)
    have HSB:=Hd (show Reads (wA.alloc (.cells #[U a,U ee,.slice ca r.length cc] 85)) 3 (.slice (some ⟨wA.heap.size,0,none⟩) 1 1) 1 (Prt.cells ⟨a,ee,ca,r.length,cc⟩)from Reads.made wA 3 85 1 (Prt.cells ⟨a,ee,ca,r.length,cc⟩) rfl (by unfold maxLen;omega))
    have HPO:=Hd (show(wA.alloc (.cells #[U a,U ee,.slice ca r.length cc] 85)).ownsRow (kb+1) 85 3 (.slice pa k pc) k (pcells ps)from by have h:=HTB.out.own;unfold OwnP at h;rw[HPL.out]at h;exact h)
    have HBB:=Hd ((HB8.out.later hx0))
    have HNA:=Hd (show∀g,(Value.slice pa k pc).ownBlock=some g->¬(g<kb+1\/g=ab)from fun g hg ha=>by
     have h1:=own_ge HPO.out g hg
     obtain⟨_,_,cur,h2⟩:=own_cells HT0.out.own (g:=g) hg
     rcases ha with ha|rfl
     ·omega
     ·have h3:=HB0.out
      unfold Blk at h3
      rw[h2]at h3
      have h4:=Option.some.inj h3
      injection h4 with _ h5 _
      exact absurd h5 (by decide))
    have HSZ:=Hd (show kb+1<=(wA.alloc (.cells #[U a,U ee,.slice ca r.length cc] 85)).heap.size from HTB.out.box.lt)
    refine WR_one 13 rfl (by decide) (by kernel_rfl) rfl (fun K hK=>?_)
    refine wp_of_list (ops:=#[]) rfl ?_
    refine wpList_app_at rfl (.tmp 78) (.tmp 89) 46 rfl (kb+1) 85 _ 3 32 Tryz.underlying46 infoPart rfl (by decide) (by decide) _ _ _ rfl HPO.out _ _ _ rfl HSB.out (fun q hq=>pcells_one [⟨a,ee,ca,r.length,cc⟩] q (by simpa[pcells]using hq)) (by omega) HSZ.out ?_
    intro v8 w8 ho8 hg8 hl8
    refine⟨rfl,hK _ _ (RK.grown hg8 HNA.out) ?_⟩
    clear hK K
    obtain⟨ya,yc,hv8⟩:=own_form ho8
    subst hv8
    have HT9:=Hd (HTB.out.add (p:=⟨a,ee,ca,r.length,cc⟩) (Nat.le_of_eq HKE.out) HOB.out (by rw[HPL.out];exact ho8) hg8)
    have hb9:=blk_grown HTB.out.box (fun g e=>by have:=own_ge HPO.out g e;omega) hg8
    have hkc9:=hb9.cells
    have hkf9:=hb9.frozen
    clear ho8 hg8 hl8 hb9 hx0
    refine WR_q (preRK _) 14 rfl (by decide) (by kernel_rfl) rfl ?_;apply Exists.intro;refine⟨fun w1 hx1=>?_,?_⟩
    ·go_simp;try go_bits
     first|with_reducible rfl|rfl
    go_frame
    refine WR_done (by kernel_rfl) ?_
    (try simp only[List.drop_succ_cons,List.drop_zero])
    go_wp2_with fail
    go_roundw
    case rel=>
     refine⟨k+1,ya,yc,ps++[(⟨a,ee,ca,r.length,cc⟩:Prt)],rs++[r],Nat.succ_le_of_lt HLT.out,by go_num,by rw[List.length_append,HPL.out];rfl,HT9.out,fun j b hj hb=>?_⟩
     have hrsl:rs.length=k:=by rw[HT0.out.len,HPL.out]
     have hpsl:=HPL.out
     rcases Nat.lt_or_ge j k with g|g
     ·obtain⟨p,t,h1,h2,h3,h4,h5⟩:=HPR.out j b g hb
      exact⟨p,t,by rw[List.getElem?_append_left (by omega)];exact h1,by rw[List.getElem?_append_left (by omega)];exact h2,h3,h4,h5⟩
     ·obtain rfl:j=k:=by omega
      rw[HSF.out]at hb
      cases hb
      refine⟨(⟨a,ee,ca,r.length,cc⟩:Prt),r,?_,?_,rfl,HEE.out.symm,HRI.out⟩
      ·rw[List.getElem?_append_right (by omega),hpsl,Nat.sub_self];rfl
      ·rw[List.getElem?_append_right (by omega),hrsl,Nat.sub_self];rfl
    case measure=>have:=HLT.out;simp[intOf];omega
   ·have hkd:decide ((k:Int)<(s.wh.length:Int))=false:=dF (by omega)
    have HKL:=Hd (show k=s.fr.length by have h2:=HIT.out.inv.ok.len;omega)
    have HRW:=Hd ((HR3.out.later HXT.out))
    have hrc:=HRW.out.cells
    have hrf:=HRW.out.frozen
    have HRK2:=Hd (show rb<kb from Nat.lt_of_lt_of_le HRX.out HK5.out)
    clear hbc
    go_wp2_with fail
    refine hideW (Φ:=fun W=>bodyPost Tryz.prog Tryz.f15 (ANetOut ls w) _ _ W) (fun W=>Ext w W/\Blk W rb [I 1,.slice pa k pc,U 0#32,sNil] 49/\CertAt W (.slice pa k pc) sNil ⟨1,ps,rs,0#32,[]⟩)
     ⟨?_,?_,?_⟩ (fun W6 hW6=>?_)
    ·refine Ext.setCell (Ext.setCell (Ext.setCell (Ext.setCell (HX3.out.trans HXT.out) ?_ _) ?_ _) ?_ _) ?_ _<;>exact HRB.out
    ·exact(((HRW.out.set 0 (I 1)).set 1 (.slice pa k pc)).set 2 (U 0#32)).set 3 sNil
    ·have h0:rb<kb+1:=Nat.lt_succ_of_lt HRK2.out
     have st:∀(W:World) (o:Nat) (x:Value),OwnP W (kb+1) (.slice pa k pc) ps/\(∀(i:Nat) (p:Prt) (r:List Int),ps[i]? =some p->rs[i]? =some r->OwnI W (kb+1) p.rk r)->
      OwnP (W.setCell ⟨rb,o,none⟩ x) (kb+1) (.slice pa k pc) ps/\(∀(i:Nat) (p:Prt) (r:List Int),ps[i]? =some p->rs[i]? =some r->OwnI (W.setCell ⟨rb,o,none⟩ x) (kb+1) p.rk r):=
      fun W o x h=>⟨own_set h.1 h0 x,fun i p r h1 h2=>own_set (h.2 i p r h1 h2) h0 x⟩
     obtain⟨g1,g2⟩:=st _ 3 sNil (st _ 2 (U 0#32) (st _ 1 (.slice pa k pc) (st _ 0 (I 1) ⟨HT.out.own,HT.out.rk⟩)))
     exact⟨g1.parts,HT.out.len,fun i p r h1 h2=>(g2 i p r h1 h2).ints,Reads.nil _ 1⟩
    obtain⟨hx6,hr6,ht6⟩:=hW6
    have hc6:=hr6.cells
    refine bodyPost_ret (v:=.tuple #[.agg #[I 1,.slice pa k pc,U 0#32,sNil],I 0]) (by rw[results_cell_tmp rfl];go_simp) rfl ?_
    refine⟨.slice pa k pc,sNil,⟨1,ps,rs,0#32,[]⟩,rfl,ht6,⟨l,HC.out,.inr ?_⟩,hx6⟩
    rw[HSE.out]
    refine⟨fun a ha x hx=>?_,rfl,rfl,rfl,by rw[<-HKL.out];exact HPL.out,by rw[<-HKL.out];exact HT.out.len.trans HPL.out,fun i a ha=>HPR.out i a (by rw[HKL.out];exact(List.getElem?_eq_some_iff.1 ha).1) ha⟩
    obtain⟨i,hi⟩:=List.getElem?_of_mem ha
    obtain⟨q,h1,h2⟩:=HIT.out.inv.place i a hi
    exact HNO.out _ (List.mem_of_getElem? h2) x hx
end Go.Proofs.YtjflkifodfncmaaGreatDoor
