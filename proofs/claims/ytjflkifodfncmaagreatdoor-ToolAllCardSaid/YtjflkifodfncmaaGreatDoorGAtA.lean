/- Keys, AtomsP, AtomsS, Kind: these texts in one. Conditions: each theorem names its own. -/
import Derived.Test.YtjflkifodfncmaaGreatDoorGVec
import Derived.OwnWalk
import Derived.Laws.BytesArg
import Derived.Maps.OwnSet
import Derived.Test.YtjflkifodfncmaaGreatDoorGIns
namespace Go.Proofs.YtjflkifodfncmaaGreatDoor
set_option maxHeartbeats 2000000
set_option maxRecDepth 100000
open Go.RowKit
theorem infoU8:(Tryz.prog.info? 5).map (fun i=>(i.zero,i.size,i.bytes))=some (some (.int .u8 0),1,1):=by kernel_rfl
abbrev B8(x:Int):Value:=.int .u8 x
def kv2(x:Int):List Int:=[(x+1)/256,(x+1)%256]
def kvs(l:List Int):List Int:=l.flatMap kv2
theorem kvs_len(l:List Int):(kvs l).length=l.length*2:=flat_len _ 2 (fun _=>rfl) l
theorem kvs_step{l:List Int}{k:Nat}(h:k<l.length):kvs (l.take (k+1))=kvs (l.take k)++kv2 l[k]:=by
 unfold kvs
 rw[List.take_succ_eq_append_getElem h,List.flatMap_append];simp
def OwnB(w:World)(B:Nat)(v:Value)(l:List Int):Prop:=w.ownsRow B 5 1 v l.length (l.map B8)
theorem OwnB.later{w w':World}{B:Nat}{v:Value}{l:List Int}(h:OwnB w B v l)(hx:Ext w w'):OwnB w' B v l:=own_later h hx
theorem OwnB.none{w:World}{B:Nat}{v:Value}{l:List Int}(h:OwnB w B v l):∃a cap,v=.slice a l.length cap/\l.length<=cap/\(∀(i:Nat),i<l.length->∃b off,a=some ⟨b,off,none⟩/\w.cell? ⟨b,off+i,none⟩=some (B8 (l.getD i 0))):=by
 obtain⟨h0,a,cap,h1,h2,h3,h4,h5⟩:=Reads.of_own h
 refine⟨a,cap,h1,h2,fun i hi=>?_⟩
 cases a with
 |none=>have:=h4 rfl;omega
 |some b=>
  have hg:(l.map B8)[i]? =some (B8 (l.getD i 0)):=by rw[List.getElem?_map,gE hi,List.getD_eq_getElem?_getD,gE hi];rfl
  obtain⟨e1,e2⟩:=h5 b rfl
  replace e1:b.spot=Option.none:=by
   rcases e1 with e1|e1
   ·exact e1
   ·rw[e1]at hg;cases hg
  obtain⟨bb,bo,bs⟩:=b
  simp only at e1
  subst e1
  exact⟨bb,bo,rfl,e2 i _ hg⟩
theorem key_any(v:Value)(l:List Int)(w:World)(hv:IntsAt w v l)(hn:l.length<=1000000)(hb:∀x∈l,-1<=x/\x<=65534):
 Calls Tryz.prog 94 #[v] w fun e w'=>e=.returned (.string (strOfNums (kvs l)))/\Ext w w':=by
 obtain⟨ad,cap,rfl,a1,a2,a3⟩:=hv.form
 have A3:=Hd a3
 have HBD:=Hd hb
 clear a3 hb hv
 unfold maxLen at a2
 obtain⟨i8,hi8,hz8,hs8,hb8⟩:=info_parts infoU8
 have HI8:=Hd hi8
 have HZ8:=Hd hz8
 have HS8:=Hd hs8
 clear hi8 hz8 hs8
 go_enter Tryz.func94,Tryz.ntmps94
 go_upto_region 2 with(at_make;go_loud(refine wpList_make_own _ rfl _ _ 22 rfl w.heap.size 5 i8 (.int .u8 0) 1 Tryz.underlying22 HI8.out HZ8.out HS8.out .i64 .i64 _ (2*l.length) rfl rfl (by omega) (by rw[hb8];omega) (by unfold maxLen;omega) (Nat.le_refl _) ?_);intro w1 hown1 hgrow1;have HO1:=Hd (show OwnB w1 w.heap.size _ []from hown1);have HX1:=Hd (show Ext w w1 from Below.grown (eR w) hgrow1 (Nat.le_refl _) (fun j hj=>by cases hj));clear hown1 hgrow1)
 go_wp2_with fail
 go_loopw[3,12] (fun v i wr=>∃k:Nat,k<=l.length/\i=I k/\Hid (OwnB wr w.heap.size v (kvs (l.take k)))/\Hid (Ext w wr)) (fun _ i _=>l.length-(intOf i).toNat)
 case atStart=>exact⟨0,by omega,rfl,HO1.out,HX1.out⟩
 case round=>
  obtain⟨k,hk,rfl,HO,HX⟩:=hrel
  by_cases hlt:k<l.length
  ·obtain⟨b0,o0,rfl,p0⟩:=A3.out k l[k] (gE hlt)
   replace p0:=HX.out.cell p0
   obtain⟨xlo,xhi⟩:=HBD.out _ (List.getElem_mem hlt)
   have HST:=Hd (kvs_step hlt)
   generalize l[k]=x at*
   have HLEN:=Hd (show(kvs (l.take k)).length<=2000000 by rw[kvs_len,List.length_take];omega)
   have HA:=Hd (show Ext w (wr.alloc (.cells #[B8 ((x+1)/256),B8 ((x+1)%256)] 5))from HX.out.alloc _)
   have HOA:=Hd (show(wr.alloc (.cells #[B8 ((x+1)/256),B8 ((x+1)%256)] 5)).ownsRow w.heap.size 5 1 _ (kvs (l.take k)).length ((kvs (l.take k)).map B8)from HO.out.later ((eR wr).alloc _))
   have HSRC:=Hd (show Reads (wr.alloc (.cells #[B8 ((x+1)/256),B8 ((x+1)%256)] 5)) 1 (.slice (some ⟨wr.heap.size,0,none⟩) 2 2) 2 [B8 ((x+1)/256),B8 ((x+1)%256)]from Reads.made wr 1 5 2 [B8 ((x+1)/256),B8 ((x+1)%256)] rfl (by unfold maxLen;omega))
   have HONE:=Hd (show∀u∈[B8 ((x+1)/256),B8 ((x+1)%256)],u.oneCell'=true from by intro u hu;simp only[List.mem_cons,List.not_mem_nil,or_false]at hu;rcases hu with rfl|rfl<;>rfl)
   go_wp2_with (first
    |(at_builtin;refine wpList_app rfl (.tmp 16) (.tmp 24) 22 rfl w.heap.size 5 _ 1 1 Tryz.underlying22 infoU8 rfl (by decide) (by decide) _ _ _ rfl HOA.out _ _ _ rfl HSRC.out HONE.out (by have:=HLEN.out;omega) HA.out.size ?_;intro v9 w9 ho9 hg9;have HO9:=Hd ho9;have HX9:=Hd (Ext.grown HA.out hg9 HOA.out (Nat.le_refl _));clear ho9 hg9))
   go_roundw
   case rel=>
    refine⟨k+1,by omega,by go_num,?_,HX9.out⟩
    show OwnB _ _ _ _
    rw[HST.out]
    unfold OwnB
    rw[List.length_append,List.map_append]
    exact HO9.out
   case measure=>simp[intOf];omega
  ·have HE:=Hd (show kvs (l.take k)=kvs l by rw[List.take_of_length_le (by omega)])
   rw[HE.out]at HO
   obtain⟨va,vcap,rfl,v1,v2⟩:=HO.out.none
   have hdone:decide ((k:Int)<(l.length:Int))=false:=dF (by omega)
   have hcv:(convert 22 9 (.slice va (kvs l).length vcap)).run Tryz.prog wr=.ok (.string (strOfNums (kvs l))) wr:=by
    cases va with
    |none=>
     have h0:(kvs l).length=0:=by
      rcases Nat.eq_zero_or_pos (kvs l).length with g|g
      ·exact g
      ·obtain⟨_,_,h,_⟩:=v2 0 g;cases h
     have he:kvs l=[]:=List.length_eq_zero_iff.1 h0
     rw[run_convert_bytes_nil (P:=Tryz.prog) wr 22 5 Tryz.underlying22 Tryz.underlying5 (kvs l).length vcap 9 Tryz.underlying9,he]
     rfl
    |some p=>
     by_cases hz:0<(kvs l).length
     ·obtain⟨b,o,hp,_⟩:=v2 0 hz
      obtain rfl:=Option.some.inj hp
      exact run_convert_bytes_arg (P:=Tryz.prog) wr 22 5 Tryz.underlying22 Tryz.underlying5 b o _ vcap (kvs l) rfl (fun i hi=>by
       obtain⟨b',o',hp',h⟩:=v2 i hi
       simp only[Option.some.injEq,Addr.mk.injEq,and_true]at hp'
       obtain⟨rfl,rfl⟩:=hp'
       exact h) 9 Tryz.underlying9
     ·have he:kvs l=[]:=List.length_eq_zero_iff.1 (by omega)
      rw[he,run_convert_bytes_string wr 22 9 5 _ _ _ Tryz.underlying22 Tryz.underlying5 Tryz.underlying9]
      rw[run_bytesToString wr p _ _ [] (by rfl)]
      rfl
   clear v2
   go_wp2_with fail
   go_ret
   exact⟨rfl,HX.out⟩
open Go Go.Maps Go.Proofs
def VecB(u:List Int):Prop:=∀x∈u,-1<=x/\x<=65534
theorem byt_inj{a b:Int}(ha:0<=a/\a<256)(hb:0<=b/\b<256)(h:UInt8.ofNat a.toNat=UInt8.ofNat b.toNat):a=b:=by
 have h1:=congrArg UInt8.toNat h
 rw[UInt8.toNat_ofNat',UInt8.toNat_ofNat']at h1
 omega
def keyB(u:List Int):List UInt8:=(kvs u).map fun n=>UInt8.ofNat n.toNat
theorem keyB_cons(x:Int)(u:List Int):keyB (x::u)=UInt8.ofNat ((x+1)/256).toNat::UInt8.ofNat ((x+1)%256).toNat::keyB u:=rfl
theorem keyB_inj:∀{a b:List Int},VecB a->VecB b->keyB a=keyB b->a=b
 |[],[],_,_,_=>rfl
 |[],y::b,_,_,h=>by rw[keyB_cons]at h;cases h
 |x::a,[],_,_,h=>by rw[keyB_cons]at h;cases h
 |x::a,y::b,ha,hb,h=>by
  rw[keyB_cons,keyB_cons]at h
  obtain⟨h1,h2⟩:=List.cons.inj h
  obtain⟨h2,h3⟩:=List.cons.inj h2
  have hx:=ha x (by simp)
  have hy:=hb y (by simp)
  have e1:=byt_inj (by omega) (by omega) h1
  have e2:=byt_inj (by omega) (by omega) h2
  have e3:=keyB_inj (fun z hz=>ha z (by simp[hz])) (fun z hz=>hb z (by simp[hz])) h3
  rw[e3,show x=y by omega]
def keyL(u:List Int):Lit:=.string (keyB u)
theorem keyL_ne{a b:List Int}(ha:VecB a)(hb:VecB b)(h:a≠b):keyL a≠keyL b:=fun e=>h (keyB_inj ha hb (by unfold keyL at e;simpa using e))
theorem keyOf_vec{u:List Int}(h:u.length<=1000000):keyOf Tryz.prog 9 (.string (strOfNums (kvs u)))=some (keyL u):=by
 rw[WideMaps.keyOf_string_mk Tryz.underlying9 (by rw[strOfNums_size,kvs_len];unfold maxLen;omega),strOfNums_data]
 rfl
theorem lawS:Keyed Tryz.prog 9:=string_keyed Tryz.underlying9
structure Ats where
 fr:List (BitVec 32)
 wh:List Int
 vs:List (List Int)
def Ats.nil:Ats:=⟨[],[],[]⟩
def Ats.last(s:Ats):Int:=s.wh.getLast?.getD (-1)
def idxV(vs:List (List Int))(v:List Int):Nat:=vs.idxOf v
theorem idxV_in{vs:List (List Int)}{v:List Int}:v∈vs↔idxV vs v<vs.length:=List.idxOf_lt_length_iff.symm
theorem idxV_out{vs:List (List Int)}{v:List Int}(h:v∉vs):idxV vs v=vs.length:=List.idxOf_eq_length h
theorem idxV_le(vs:List (List Int))(v:List Int):idxV vs v<=vs.length:=List.idxOf_le_length
theorem idxV_get{vs:List (List Int)}{v:List Int}(h:idxV vs v<vs.length):vs[idxV vs v]=v:=List.getElem_idxOf h
theorem idxV_new{vs:List (List Int)}{v:List Int}(h:v∉vs):idxV (vs++[v]) v=vs.length:=by
 unfold idxV
 rw[List.idxOf_append,if_neg h,List.idxOf_cons_self]
 omega
theorem idxV_old{vs:List (List Int)}{u v:List Int}(h:u∈vs):idxV (vs++[v]) u=idxV vs u:=by
 unfold idxV
 rw[List.idxOf_append,if_pos h]
def atStep(vec:BitVec 32->List Int)(s:Ats)(a:BitVec 32):Ats:=
 if s.last=(idxV s.vs (vec a):Int)then s
 else⟨s.fr++[a],s.wh++[(idxV s.vs (vec a):Int)],if vec a∈s.vs then s.vs else s.vs++[vec a]⟩
def atomsL(vec:BitVec 32->List Int)(l:List (BitVec 32)):Ats:=l.foldl (atStep vec) Ats.nil
theorem atomsL_step{vec:BitVec 32->List Int}{l:List (BitVec 32)}{k:Nat}(h:k<l.length):atomsL vec (l.take (k+1))=atStep vec (atomsL vec (l.take k)) l[k]:=by
 unfold atomsL
 rw[List.take_succ_eq_append_getElem h,List.foldl_append];rfl
structure AtsOk(s:Ats):Prop where
 wh:∀k∈s.wh,0<=k/\k<s.vs.length
 len:s.fr.length=s.wh.length
 nodup:s.vs.Nodup
 short:s.vs.length<=s.wh.length
theorem AtsOk.nil:AtsOk Ats.nil:=⟨fun k h=>(by cases h),rfl,List.nodup_nil,Nat.le_refl _⟩
theorem last_snoc(fr:List (BitVec 32))(wh:List Int)(k:Int)(vs:List (List Int)):(Ats.mk fr (wh++[k]) vs).last=k:=by
 unfold Ats.last;simp
theorem AtsOk.last{s:Ats}(h:AtsOk s): -1<=s.last/\s.last<s.vs.length:=by
 unfold Ats.last
 cases hg:s.wh.getLast? with
 |none=>simp;omega
 |some k=>
  have:=h.wh k (List.mem_of_getLast? hg)
  simp;omega
theorem AtsOk.step{s:Ats}(h:AtsOk s)(vec:BitVec 32->List Int)(a:BitVec 32):AtsOk (atStep vec s a):=by
 unfold atStep
 have hle:=idxV_le s.vs (vec a)
 split
 ·exact h
 ·split
  ·rename_i hm
   have hlt:=idxV_in.1 hm
   refine⟨fun k hk=>?_,by simp[h.len],h.nodup,by have:=h.short;simp;omega⟩
   rcases List.mem_append.1 hk with g|g
   ·exact h.wh k g
   ·simp at g;subst g
    exact⟨by omega,show((idxV s.vs (vec a):Nat):Int)<((s.vs.length:Nat):Int)by omega⟩
  ·rename_i hm
   refine⟨fun k hk=>?_,by simp[h.len],?_,by have:=h.short;simp;omega⟩
   ·simp only[List.length_append,List.length_cons,List.length_nil]
    rcases List.mem_append.1 hk with g|g
    ·have:=h.wh k g;omega
    ·simp at g;subst g;constructor<;>omega
   ·rw[List.nodup_append]
    exact⟨h.nodup,by simp,fun x hx y hy e=>by simp at hy;subst hy;subst e;exact hm hx⟩
theorem atsOk_all(vec:BitVec 32->List Int)(l:List (BitVec 32)):AtsOk (atomsL vec l):=by
 unfold atomsL
 suffices h:∀s,AtsOk s->AtsOk (l.foldl (atStep vec) s)from h _ AtsOk.nil
 induction l with
 |nil=>exact fun s h=>h
 |cons a l ih=>exact fun s h=>ih _ (h.step vec a)
theorem ats_few(vec:BitVec 32->List Int)(l:List (BitVec 32)):(atomsL vec l).fr.length<=l.length:=by
 unfold atomsL
 suffices h:∀s:Ats,(l.foldl (atStep vec) s).fr.length<=s.fr.length+l.length by simpa[Ats.nil]using h Ats.nil
 induction l with
 |nil=>intro s;simp
 |cons a l ih=>
  intro s
  have:=ih (atStep vec s a)
  have h1:(atStep vec s a).fr.length<=s.fr.length+1:=by unfold atStep;split<;>simp
  rw[List.foldl_cons,List.length_cons];omega
def MapV(w:World)(mb:Nat)(vs:List (List Int)):Prop:=
 ∃(n:Nat) (D:DataW Unit),w.ownsMap Tryz.prog 9 (plainElem Tryz.prog 3) mb n D/\n<=vs.length/\
  ∀u,VecB u->has D (keyL u)=decide (u∈vs)/\(u∈vs->D.atKey (keyL u) (.lit (.int .i64 0))=.lit (.int .i64 (idxV vs u)))
theorem MapV.start(w:World):MapV (w.alloc (.map #[] 0)) w.heap.size []:=
 ⟨0,.map [],World.ownsMap_made _ _ _ _,Nat.le_refl _,fun u _=>⟨rfl,fun h=>by cases h⟩⟩
theorem MapV.put{w1:World}{mb n:Nat}{D:DataW Unit}{vs:List (List Int)}{v:List Int}(hh:∀u,VecB u->has D (keyL u)=decide (u∈vs)/\(u∈vs->D.atKey (keyL u) (.lit (.int .i64 0))=.lit (.int .i64 (idxV vs u))))
 (hn:n<=vs.length) (hD:IsMap D) (hv:VecB v) (hnew:v∉vs) (hown:w1.ownsMap Tryz.prog 9 (plainElem Tryz.prog 3) mb (n+1) (D.put (keyL v) (.lit (.int .i64 vs.length)))):MapV w1 mb (vs++[v]):=by
 refine⟨n+1,_,hown,by simp;omega,fun u hu=>?_⟩
 by_cases e:u=v
 ·subst e
  refine⟨?_,fun _=>?_⟩
  ·rw[has_put_same hD (by first|trivial|simp[WideAt.IsKeyLit,keyL])]
   simp
  ·rw[atKey_put_same hD (by first|trivial|simp[WideAt.IsKeyLit,keyL]),idxV_new hnew]
 ·have hne:=keyL_ne hu hv e
  refine⟨?_,fun hm=>?_⟩
  ·rw[has_put_other hne,(hh u hu).1]
   simp[e]
  ·have hm':u∈vs:=by simpa[e]using hm
   rw[atKey_put_other hne,(hh u hu).2 hm',idxV_old hm']
def IssAt(w:World)(v:Value)(ls:List (List Int)):Prop:=
 ∃vs:List Value,Reads w 1 v ls.length vs/\∀(i:Nat) (l:List Int),ls[i]? =some l->∃u,vs[i]? =some u/\IntsAt w u l
theorem IssAt.later{w w':World}{v:Value}{ls:List (List Int)}(h:IssAt w v ls)(hx:Ext w w'):IssAt w' v ls:=
 let⟨vs,h1,h2⟩:=h
 ⟨vs,h1.later hx,fun i l hi=>let⟨u,g1,g2⟩:=h2 i l hi;⟨u,g1,g2.later hx⟩⟩
theorem IssAt.form{w:World}{v:Value}{ls:List (List Int)}(h:IssAt w v ls):
 ∃a cap,v=.slice a ls.length cap/\ls.length<=cap/\cap<=maxLen/\∀(i:Nat) (l:List Int),ls[i]? =some l->∃b off u,a=some ⟨b,off,none⟩/\w.cell? ⟨b,off+i,none⟩=some u/\IntsAt w u l:=by
 obtain⟨vs,⟨h0,a,cap,h1,h2,h3,h4,h5⟩,hv⟩:=h
 refine⟨a,cap,h1,h2,h3,fun i l hi=>?_⟩
 have hil:=(List.getElem?_eq_some_iff.1 hi).1
 obtain⟨u,g1,g2⟩:=hv i l hi
 cases a with
 |none=>have:=h4 rfl;omega
 |some b=>
  obtain⟨e1,e2⟩:=h5 b rfl
  replace e1:b.spot=none:=by
   rcases e1 with e1|e1
   ·exact e1
   ·rw[e1]at g1;cases g1
  obtain⟨bb,bo,bs⟩:=b
  simp only at e1
  subst e1
  exact⟨bb,bo,u,rfl,e2 i u g1,g2⟩
structure AtomsAt(w:World)(fv hv vv:Value)(s:Ats):Prop where
 fr:UsAt w fv s.fr
 wh:IntsAt w hv s.wh
 vs:IssAt w vv s.vs
theorem AtomsAt.later{w w':World}{fv hv vv:Value}{s:Ats}(h:AtomsAt w fv hv vv s)(hx:Ext w w'):AtomsAt w' fv hv vv s:=⟨h.fr.later hx,h.wh.later hx,h.vs.later hx⟩
def RowsO(w:World)(B:Nat)(hv vv:Value)(vs:List (List Int)):Prop:=
 ∃vals:List Value,w.ownsRow B 47 1 vv vs.length vals/\∀(i:Nat) (u:List Int),vs[i]? =some u->∃x,vals[i]? =some x/\OwnI w B x u/\∀g,hv.ownBlock=some g->x.ownBlock≠some g
structure AtS(w:World)(B:Nat)(s:Ats)(fv hv vv:Value):Prop where
 fr:OwnU w B fv s.fr
 wh:OwnI w B hv s.wh
 rows:RowsO w B hv vv s.vs
theorem own_keep{w w':World}{B:Nat}{e:TypeId}{z:Nat}{v:Value}{n:Nat}{xs:List Value}(h:w.ownsRow B e z v n xs)(hs:∀g,v.ownBlock=some g->w'.heap[g]? =w.heap[g]?):w'.ownsRow B e z v n xs:=by
 obtain⟨h0,h1⟩:=h
 refine⟨h0,?_⟩
 rcases h1 with h1|⟨g,cap,cur,rfl,h2,h3,h4⟩
 ·exact .inl h1
 ·exact .inr ⟨g,cap,cur,rfl,h2,by rw[hs g rfl];exact h3,h4⟩
theorem own_cells{w:World}{B:Nat}{e:TypeId}{z:Nat}{v:Value}{n:Nat}{xs:List Value}(h:w.ownsRow B e z v n xs){g:Nat}(hg:v.ownBlock=some g):B<=g/\g<w.heap.size/\∃cur,w.heap[g]? =some (.cells cur e (0,0)):=by
 obtain⟨h0,h1⟩:=h
 rcases h1 with⟨rfl,_⟩|⟨g',cap,cur,rfl,h2,h3,h4⟩
 ·cases hg
 ·simp only[Value.ownBlock,Option.some.injEq]at hg
  subst hg
  refine⟨h2,?_,cur,h3⟩
  rcases Nat.lt_or_ge g' w.heap.size with h'|h'
  ·exact h'
  ·rw[Array.getElem?_eq_none h']at h3;cases h3
theorem own_mapped{w w':World}{B:Nat}{e:TypeId}{z:Nat}{v:Value}{n:Nat}{xs:List Value}{H:Type}{P:Program}{k:TypeId}{R:Value->Option (DataW H × List MemPlace)}{mb m:Nat}{D:DataW H}
 (h:w.ownsRow B e z v n xs) (hm:w.ownsMap P k R mb m D) (hg:w.grownBy w' (some mb)):w'.ownsRow B e z v n xs:=by
 refine own_keep h fun g hv=>?_
 obtain⟨_,hlt,cur,hc⟩:=own_cells h hv
 refine hg.block g hlt fun e=>?_
 cases e
 obtain⟨es,clock,hb,_⟩:=hm
 rw[hc]at hb;cases hb
theorem AtS.later{w w':World}{B:Nat}{s:Ats}{fv hv vv:Value}(h:AtS w B s fv hv vv)(hx:Ext w w'):AtS w' B s fv hv vv:=by
 obtain⟨vals,h1,h2⟩:=h.rows
 exact⟨own_later h.fr hx,own_later h.wh hx,vals,own_later h1 hx,fun i u hi=>let⟨x,g1,g2,g3⟩:=h2 i u hi;⟨x,g1,own_later g2 hx,g3⟩⟩
theorem AtS.mapped{w w':World}{B:Nat}{s:Ats}{fv hv vv:Value}{H:Type}{P:Program}{k:TypeId}{R:Value->Option (DataW H × List MemPlace)}{mb m:Nat}{D:DataW H}(h:AtS w B s fv hv vv)
 (hm:w.ownsMap P k R mb m D) (hg:w.grownBy w' (some mb)):AtS w' B s fv hv vv:=by
 obtain⟨vals,h1,h2⟩:=h.rows
 exact⟨own_mapped h.fr hm hg,own_mapped h.wh hm hg,vals,own_mapped h1 hm hg,fun i u hi=>let⟨x,g1,g2,g3⟩:=h2 i u hi;⟨x,g1,own_mapped g2 hm hg,g3⟩⟩
theorem AtS.setCell{w:World}{B:Nat}{s:Ats}{fv hv vv:Value}(h:AtS w B s fv hv vv){p:Addr}(hp:p.block<B)(x:Value):AtS (w.setCell p x) B s fv hv vv:=by
 obtain⟨vals,h1,h2⟩:=h.rows
 exact⟨own_set h.fr hp x,own_set h.wh hp x,vals,own_set h1 hp x,fun i u hi=>let⟨y,g1,g2,g3⟩:=h2 i u hi;⟨y,g1,own_set g2 hp x,g3⟩⟩
theorem AtS.at{w:World}{B:Nat}{s:Ats}{fv hv vv:Value}(h:AtS w B s fv hv vv):AtomsAt w fv hv vv s:=by
 obtain⟨vals,h1,h2⟩:=h.rows
 exact⟨h.fr.us,h.wh.ints,vals,Reads.of_own h1,fun i u hi=>let⟨x,g1,g2,_⟩:=h2 i u hi;⟨x,g1,g2.ints⟩⟩
theorem AtS.nil(w:World)(B:Nat):AtS w B Ats.nil (.slice none 0 0) (.slice none 0 0) (.slice none 0 0):=
 ⟨⟨rfl,.inl ⟨rfl,rfl⟩⟩,⟨rfl,.inl ⟨rfl,rfl⟩⟩,[],⟨rfl,.inl ⟨rfl,rfl⟩⟩,fun i l h=>by cases h⟩
theorem AtS.addFr{w w':World}{B:Nat}{s:Ats}{fv hv vv v':Value}{a:BitVec 32}(h:AtS w B s fv hv vv)(ho:w'.ownsRow B 23 1 v' (s.fr.length+1) (ucells s.fr++[U a]))(hg:w.grownBy w' fv.ownBlock):
 AtS w' B ⟨s.fr++[a],s.wh,s.vs⟩ v' hv vv:=by
 obtain⟨vals,h1,h2⟩:=h.rows
 refine⟨?_,own_apart h.wh h.fr (by decide) hg,vals,own_apart h1 h.fr (by decide) hg,fun i u hi=>let⟨x,g1,g2,g3⟩:=h2 i u hi;⟨x,g1,own_apart g2 h.fr (by decide) hg,g3⟩⟩
 unfold OwnU
 rw[List.length_append,ucells_app]
 exact ho
theorem AtS.addWh{w w':World}{B:Nat}{s:Ats}{fv hv vv v':Value}{k:Int}(h:AtS w B s fv hv vv)(ho:w'.ownsRow B 3 1 v' (s.wh.length+1) (icells s.wh++[I k]))(hg:w.grownBy w' hv.ownBlock)
 (hloc:v'.ownBlock=hv.ownBlock\/v'.ownBlock=some w.heap.size):AtS w' B ⟨s.fr,s.wh++[k],s.vs⟩ fv v' vv:=by
 obtain⟨vals,h1,h2⟩:=h.rows
 refine⟨own_apart h.fr h.wh (by decide) hg,?_,vals,own_apart h1 h.wh (by decide) hg,fun i u hi=>?_⟩
 ·unfold OwnI
  rw[List.length_append,icells_app]
  exact ho
 ·obtain⟨x,g1,g2,g3⟩:=h2 i u hi
  refine⟨x,g1,own_keep g2 fun g hx=>?_,fun g hg' hx=>?_⟩
  ·refine hg.block g (own_cells g2 hx).2.1 fun e=>?_
   exact g3 g e.symm hx
  ·have hlt:=(own_cells g2 hx).2.1
   rcases hloc with e|e
   ·exact g3 g (by rw[<-e];exact hg') hx
   ·rw[e]at hg';simp at hg';omega
theorem AtS.addVs'{w w':World}{B:Nat}{s:Ats}{fv hv vv v' y:Value}{u:List Int}{vals:List Value}(h:AtS w B s fv hv vv)(hy:OwnI w B y u)(hfar:∀g,hv.ownBlock=some g->y.ownBlock≠some g)
 (h1:w.ownsRow B 47 1 vv s.vs.length vals) (h2:∀(i:Nat) (m:List Int),s.vs[i]? =some m->∃x,vals[i]? =some x/\OwnI w B x m/\∀g,hv.ownBlock=some g->x.ownBlock≠some g)
 (ho:w'.ownsRow B 47 1 v' (s.vs.length+1) (vals++[y])) (hg:w.grownBy w' vv.ownBlock):AtS w' B ⟨s.fr,s.wh,s.vs++[u]⟩ fv hv v':=by
 have hlen:vals.length=s.vs.length:=by have:=h1.1;simpa using this
 refine⟨own_apart h.fr h1 (by decide) hg,own_apart h.wh h1 (by decide) hg,vals++[y],by rw[List.length_append];exact ho,fun i m hi=>?_⟩
 rcases snoc_get hi with hi|⟨rfl,rfl⟩
 ·obtain⟨x,q1,q2,q3⟩:=h2 i m hi
  have hil:=(List.getElem?_eq_some_iff.1 hi).1
  exact⟨x,by rw[List.getElem?_append_left (by omega)];exact q1,own_apart q2 h1 (by decide) hg,q3⟩
 ·exact⟨y,by rw[List.getElem?_append_right (by omega),hlen];simp,own_apart hy h1 (by decide) hg,hfar⟩
def kindV(place:Int)(met:Bool)(last:Int):Int:=if met then(if place=last then 2 else 1)else 0
theorem kind_any(place last:Int)(met:Bool)(w:World):
 Calls Tryz.prog 95 #[I place,.bool met,I last] w fun e w'=>e=.returned (I (kindV place met last))/\w'=w:=by
 cases met
 ·go_enter Tryz.func95,Tryz.ntmps95
  go_wp2
  go_ret
  exact⟨rfl,rfl⟩
 ·by_cases h:place=last
  ·have hd:(place !=last)=false:=by simp[h]
   have hv:kindV place true last=2:=by unfold kindV;rw[if_pos rfl,if_pos h]
   rw[hv]
   clear h
   go_enter Tryz.func95,Tryz.ntmps95
   go_wp2
   go_ret
   exact⟨rfl,rfl⟩
  ·have hd:(place !=last)=true:=by simp[h]
   have hv:kindV place true last=1:=by unfold kindV;rw[if_pos rfl,if_neg h]
   rw[hv]
   clear h
   go_enter Tryz.func95,Tryz.ntmps95
   go_wp2
   go_ret
   exact⟨rfl,rfl⟩
end Go.Proofs.YtjflkifodfncmaaGreatDoor
