/- GFitC, GShort, GPl: these texts in one. Conditions: each theorem names its own. -/
import Derived.Test.YtjflkifodfncmaaGreatDoorGFit17
import Derived.Test.YtjflkifodfncmaaGreatDoorGChk
namespace Go.Proofs.YtjflkifodfncmaaGreatDoor
open Go.RowKit
def addT(v:Int)(o:List Int):List Int:=if v∈o then o else if o=[]\/o.headD 0<v then o++[v]else o
def tryT(n:Nat)(tr:List Int):List Int:=if tr=[]then [0]else tr.map (fitRk n)
def fitTr(n:Nat)(tr:List Int):List Int:=(tryT n tr).foldl (fun o v=>addT v o) []
structure GoodT(n:Nat)(o:List Int):Prop where
 nodup:o.Nodup
 low:∀x∈o,o.headD 0<=x
 mem:∀x∈o,0<=x/\x<n
theorem GoodT.nil(n:Nat):GoodT n []:=⟨List.nodup_nil,(fun x h=>by cases h),(fun x h=>by cases h)⟩
theorem GoodT.add{n:Nat}{o:List Int}(h:GoodT n o){v:Int}(hv:0<=v/\v<n):GoodT n (addT v o):=by
 unfold addT
 split
 ·exact h
 ·rename_i hn
  split
  ·rename_i hf
   refine⟨?_,?_,?_⟩
   ·rw[List.nodup_append]
    refine⟨h.nodup,by simp,fun a ha b hb=>?_⟩
    simp only[List.mem_singleton]at hb
    subst hb
    intro e;subst e;exact hn ha
   ·intro x hx
    cases o with
    |nil=>simp at hx;subst hx;simp
    |cons y t=>
     rcases List.mem_append.1 hx with hx|hx
     ·exact h.low x hx
     ·simp only[List.mem_singleton]at hx
      subst hx
      rcases hf with hf|hf
      ·cases hf
      ·simp at hf ⊢;omega
   ·intro x hx
    rcases List.mem_append.1 hx with hx|hx
    ·exact h.mem x hx
    ·simp only[List.mem_singleton]at hx
     subst hx;exact hv
  ·exact h
theorem nodup_few:∀(n:Nat) (l:List Int),l.Nodup->(∀x∈l,0<=x/\x<(n:Int))->l.length<=n
 |0,l,_,h=>by
  cases l with
  |nil=>simp
  |cons x t=>have:=h x (List.mem_cons_self ..);omega
 |n+1,l,hd,h=>by
  have h1:=nodup_few n (l.erase (n:Int)) (hd.erase _) (fun x hx=>by
   have hx2:=(hd.mem_erase_iff).1 hx
   have:=h x hx2.2
   have:=hx2.1
   omega)
  rw[List.length_erase]at h1
  split at h1<;>omega
theorem trG_no{f:Int}:∀(t s:List Int),(s++t).Nodup->(∀x∈t,f<=x)->trG f s t=false
 |[],_,_,_=>rfl
 |x::t,s,hd,hl=>by
  have h1:x∉s:=fun hx=>by
   rw[List.nodup_append]at hd
   exact hd.2.2 x hx x (List.mem_cons_self ..) rfl
  have h2:=hl x (List.mem_cons_self ..)
  show(decide (x∈s)||(decide (x<f)||trG f (s++[x]) t))=false
  rw[trG_no t (s++[x]) (by simpa using hd) (fun y hy=>hl y (List.mem_cons_of_mem _ hy)),dF h1,dF (show¬x<f by omega)]
  rfl
theorem meet_cuts{L:List (BitVec 32)}(hr:Rising L)(h0:L[0]? =some 0#32){ps:List Prt}(hl:ps.length=L.length)(hm:∀(i:Nat) (h:i<L.length) (p:Prt),ps[i]? =some p->p.fr=L[i]/\p.up=endV L i):meetV ps=0:=by
 have key:∀(d k:Nat),k+d=L.length->meetG (if h:k<L.length then uv L[k]else 4294967296) (ps.drop k)=true:=by
  intro d
  induction d with
  |zero=>
   intro k hk
   rw[dif_neg (by omega),meetG_end _ (by omega)]
   rfl
  |succ d ih=>
   intro k hk
   have h1:k<L.length:=by omega
   have h2:k<ps.length:=by omega
   obtain⟨e1,e2⟩:=hm k h1 ps[k] (gE h2)
   have e3:=ih (k+1) (by omega)
   rw[dif_pos h1,meetG_step _ h2,e1,e2]
   have e4:=end_ge hr h1
   have e5:uv (endV L k)+1=(if h:k+1<L.length then uv L[k+1]else 4294967296):=by
    split
    ·rename_i h;rw[end_pos hr h];omega
    ·rename_i h;rw[end_top h];decide
   rw[e5,e3,dT e4]
   simp
 have h1:0<L.length:=(List.getElem?_eq_some_iff.1 h0).1
 have h2:L[0]=0#32:=by rw[gE h1]at h0;exact Option.some.inj h0
 have h:=key L.length 0 (by omega)
 rw[dif_pos h1,h2]at h
 exact meetV_yes h
theorem rksV_zero(n:Int):∀rks:List (List Int),(∀r∈rks,(r.length:Int)=n/\∀x∈r,0<=x/\x<n)->rksV n rks=0
 |[],_=>rfl
 |r::t,h=>by
  obtain⟨h1,h2⟩:=h r (List.mem_cons_self ..)
  have h3:r.any (outB n)=false:=by
   rw[List.any_eq_false]
   intro x hx
   have:=h2 x hx
   unfold outB
   simp;omega
  show(if(r.length:Int)≠n then 1 else if r.any (outB n)then 16 else rksV n t)=0
  rw[if_neg (by simpa using h1),if_neg (by rw[h3];simp)]
  exact rksV_zero n t fun r' hr=>h r' (List.mem_cons_of_mem _ hr)
structure CertOwn(w:World)(B:Nat)(pv tv:Value)(c:Crt):Prop where
 parts:OwnP w B pv c.ps
 len:c.rks.length=c.ps.length
 rk:∀(i:Nat) (p:Prt) (r:List Int),c.ps[i]? =some p->c.rks[i]? =some r->OwnI w B p.rk r
 tr:OwnI w B tv c.tr
theorem CertOwn.at{w:World}{B:Nat}{pv tv:Value}{c:Crt}(h:CertOwn w B pv tv c):CertAt w pv tv c:=
 ⟨h.parts.parts,h.len,fun i p r h1 h2=>Reads.of_own (h.rk i p r h1 h2),Reads.of_own h.tr⟩
theorem CertOwn.later{w w':World}{B:Nat}{pv tv:Value}{c:Crt}(h:CertOwn w B pv tv c)(hx:Ext w w'):CertOwn w' B pv tv c:=
 ⟨h.parts.later hx,h.len,fun i p r h1 h2=>(h.rk i p r h1 h2).later hx,h.tr.later hx⟩
theorem CertOwn.setCell{w:World}{B:Nat}{pv tv:Value}{c:Crt}(h:CertOwn w B pv tv c){p:Addr}(hp:p.block<B)(x:Value):CertOwn (w.setCell p x) B pv tv c:=
 ⟨own_set h.parts hp x,h.len,fun i p r h1 h2=>own_set (h.rk i p r h1 h2) hp x,own_set h.tr hp x⟩
def usedV(n:Nat)(o:List Int):List Value:=(List.range n).map fun(v:Nat)=>Value.bool (decide ((v:Int)∈o))
def foldT(l:List Int):List Int:=l.foldl (fun o v=>addT v o) []
structure ShortOf(c c':Crt):Prop where
 vd:c'.vd=c.vd
 dest:c'.dest=c.dest
 tr:c'.tr=c.tr.take 20
 plen:c'.ps.length<=20
 rks:c'.rks=(c.rks.take 20).map fun r=>r.take 20
theorem flat_bd{m:Nat}:∀(rs:List (List Int)),(∀r∈rs,r.length<=m)->rs.flatten.length<=rs.length*m
 |[],_=>by simp
 |r::t,h=>by
  have h1:=h r (List.mem_cons_self ..)
  have h2:=flat_bd t fun q hq=>h q (List.mem_cons_of_mem _ hq)
  rw[List.flatten_cons,List.length_append,List.length_cons,Nat.succ_mul]
  omega
theorem ShortOf.cap{c c':Crt}(h:ShortOf c c'):(ranksF c'.rks).length<=1000000000:=by
 unfold ranksF
 have h1:∀r∈c'.rks.take 12,r.length<=20:=fun r hr=>by
  have:=List.mem_of_mem_take hr
  rw[h.rks]at this
  obtain⟨q,_,rfl⟩:=List.mem_map.1 this
  rw[List.length_take];omega
 have h2:=flat_bd _ h1
 have h3:(c'.rks.take 12).length<=12:=by rw[List.length_take];omega
 have h4:=Nat.mul_le_mul_right 20 h3
 omega
theorem rksV_all{n:Int}:∀{rks:List (List Int)},rksV n rks=0->∀r∈rks,(r.length:Int)=n/\∀x∈r,0<=x/\x<n
 |[],_,r,hr=>by cases hr
 |q::t,h,r,hr=>by
  unfold rksV at h
  split at h
  ·cases h
  ·rename_i h1
   split at h
   ·cases h
   ·rename_i h2
    rcases List.mem_cons.1 hr with rfl|hr
    ·refine⟨by omega,fun x hx=>?_⟩
     rw[Bool.not_eq_true,List.any_eq_false]at h2
     have:=h2 x hx
     simp only[outB,Bool.or_eq_true,decide_eq_true_eq,not_or]at this
     omega
    ·exact rksV_all h r hr
structure FreeOk(n:Nat)(c:Crt):Prop where
 vd:c.vd=1
 dest:c.dest=0#32
 tr:c.tr=[]
 few:c.ps.length<=8193
 meet:meetV c.ps=0
 rks:rksV n c.rks=0
theorem FreeOk.may{n:Nat}{c:Crt}(h:FreeOk n c):certMayV n c=0:=by
 unfold certMayV freeV
 rw[if_pos h.vd,if_neg (by simp[h.dest,h.tr]),if_neg (by have:=h.few;omega),if_neg (by simp[h.meet])]
 exact h.rks
theorem free_ok{n:Nat}{c:Crt}(h:certMayV n c=0)(hv:c.vd=1):FreeOk n c:=by
 unfold certMayV at h
 rw[if_pos hv]at h
 unfold freeV at h
 split at h
 ·cases h
 ·rename_i h1
  split at h
  ·cases h
  ·rename_i h2
   split at h
   ·cases h
   ·rename_i h3
    have h4:c.dest=0#32:=Classical.byContradiction fun e=>h1 (.inl e)
    have h5:c.tr=[]:=List.eq_nil_of_length_eq_zero (by omega)
    exact⟨hv,h4,h5,by omega,Classical.byContradiction fun e=>h3 e,h⟩
structure LoopOk(n:Nat)(c:Crt):Prop where
 vd:c.vd=2
 ps:c.ps=[]
 pos:0<c.tr.length
 few:c.tr.length<=n
 bd:∀x∈c.tr,0<=x/\x<n
 once:trG (c.tr.headD 0) [] c.tr=false
theorem LoopOk.may{n:Nat}{c:Crt}(h:LoopOk n c):certMayV n c=0:=by
 unfold certMayV loopsV
 rw[if_neg (by rw[h.vd];decide),if_pos h.vd,if_neg (by simp[h.ps]),if_neg (by have:=h.pos;have:=h.few;omega),if_neg,if_neg (by rw[h.once];decide)]
 rw[Bool.not_eq_true,List.any_eq_false]
 intro x hx
 have:=h.bd x hx
 simp only[outB,Bool.or_eq_true,decide_eq_true_eq,not_or]
 omega
theorem loop_ok{n:Nat}{c:Crt}(h:certMayV n c=0)(hv:c.vd≠1):LoopOk n c:=by
 unfold certMayV at h
 rw[if_neg hv]at h
 split at h
 ·rename_i h2
  unfold loopsV at h
  split at h
  ·cases h
  ·rename_i h3
   split at h
   ·cases h
   ·rename_i h4
    split at h
    ·cases h
    ·rename_i h5
     split at h
     ·cases h
     ·rename_i h6
      refine⟨h2,List.eq_nil_of_length_eq_zero (by omega),by omega,by omega,fun x hx=>?_,by simpa using h6⟩
      rw[Bool.not_eq_true,List.any_eq_false]at h5
      have:=h5 x hx
      simp only[outB,Bool.or_eq_true,decide_eq_true_eq,not_or]at this
      omega
 ·cases h
theorem trG_spec{f:Int}:∀{t s:List Int},s.Nodup->trG f s t=false->(s++t).Nodup/\∀x∈t,f<=x
 |[],s,hs,_=>⟨by simpa using hs,fun x hx=>by cases hx⟩
 |x::t,s,hs,h=>by
  unfold trG at h
  simp only[Bool.or_eq_false_iff,decide_eq_false_iff_not]at h
  obtain⟨h1,h2,h3⟩:=h
  have hs':(s++[x]).Nodup:=by
   rw[List.nodup_append]
   refine⟨hs,by simp,fun a ha b hb=>?_⟩
   rw[List.mem_singleton]at hb;subst hb
   exact fun e=>h1 (e▸ha)
  obtain⟨g1,g2⟩:=trG_spec hs' h3
  refine⟨by simpa using g1,fun y hy=>?_⟩
  rcases List.mem_cons.1 hy with rfl|hy
  ·omega
  ·exact g2 y hy
theorem LoopOk.nodup{n:Nat}{c:Crt}(h:LoopOk n c):c.tr.Nodup:=by simpa using(trG_spec List.nodup_nil h.once).1
structure CutParts(L:List (BitVec 32))(ps:List Prt):Prop where
 rise:Rising L
 zero:L[0]? =some 0#32
 len:ps.length=L.length
 fr:∀(i:Nat) (h:i<ps.length) (h':i<L.length),ps[i].fr=L[i]
 up:∀(i:Nat) (h:i<ps.length),ps[i].up=endV L i
theorem CutParts.pos{L:List (BitVec 32)}{ps:List Prt}(h:CutParts L ps):0<ps.length:=by
 rw[h.len];exact(List.getElem?_eq_some_iff.1 h.zero).1
theorem CutParts.meetG{L:List (BitVec 32)}{ps:List Prt}(h:CutParts L ps):∀(d k:Nat),ps.length-k=d->k<=ps.length->meetG (nxt L k) (ps.drop k)=true
 |0,k,hd,hk=>by
  have e:k=ps.length:=by omega
  rw[meetG_end _ (by omega)]
  have:¬k<L.length:=by rw[<-h.len];omega
  unfold nxt
  rw[dif_neg this];rfl
 |d+1,k,hd,hk=>by
  have hlt:k<ps.length:=by omega
  have hL:k<L.length:=by rw[<-h.len];exact hlt
  rw[meetG_step _ hlt,h.fr k hlt hL,h.up k hlt,nxt_at hL,<-nxt_step h.rise,h.meetG d (k+1) (by omega) hlt,dT (end_ge h.rise hL)]
  simp
theorem CutParts.meet{L:List (BitVec 32)}{ps:List Prt}(h:CutParts L ps):meetV ps=0:=by
 refine meetV_yes ?_
 have h1:=h.meetG ps.length 0 (by omega) (by omega)
 have h2:nxt L 0=0:=by
  obtain⟨g,e⟩:=List.getElem?_eq_some_iff.1 h.zero
  rw[nxt_at g,e];rfl
 rw[h2,List.drop_zero]at h1
 exact h1
theorem inP_iff{a:BitVec 32}{p:Prt}:inP a p=true↔uv p.fr<=uv a/\uv a<=uv p.up:=by
 unfold inP;rw[Bool.and_eq_true,decide_eq_true_iff,decide_eq_true_iff]
theorem CutParts.inIff{L:List (BitVec 32)}{ps:List Prt}(h:CutParts L ps)(a:BitVec 32){k:Nat}(hk:k<ps.length):inP a ps[k]=true↔k=ivN L a:=by
 have hL:k<L.length:=by rw[<-h.len];exact hk
 rw[inP_iff,h.fr k hk hL,h.up k hk]
 constructor
 ·rintro⟨h1,h2⟩
  have:=atN_eq h.rise hL h1 (fun g=>by rw[end_pos h.rise g]at h2;omega)
  unfold ivN;omega
 ·intro e
  subst e
  exact⟨iv_from h.zero a,iv_to h.rise h.zero a⟩
theorem CutParts.at{L:List (BitVec 32)}{ps:List Prt}(h:CutParts L ps)(a:BitVec 32):coN ps a=ivN L a/\ivN L a<ps.length:=by
 have hlt:ivN L a<ps.length:=by rw[h.len];exact ivN_lt h.zero a
 refine⟨?_,hlt⟩
 have hle:=coN_le ps a
 rcases Nat.lt_or_ge (coN ps a) ps.length with g|g
 ·exact(h.inIff a g).1 (coN_end g)
 ·have:=coN_lt (ps:=ps) (a:=a) (j:=ivN L a) (by omega) hlt
  rw[(h.inIff a hlt).2 rfl]at this;cases this
theorem CutParts.place{L:List (BitVec 32)}{ps:List Prt}(h:CutParts L ps){l:List (BitVec 32)}{i:Nat}(hi:i<ps.length){c:BitVec 32}(hc:c∈insideV l ps[i].fr ps[i].up):coN ps c=i:=by
 have hL:i<L.length:=by rw[<-h.len];exact hi
 have hle:uv ps[i].fr<=uv ps[i].up:=by rw[h.fr i hi hL,h.up i hi];exact end_ge h.rise hL
 have hb:=inside_bd hle hc
 have h1:=(h.inIff c hi).1 (inP_iff.2 hb)
 rw[(h.at c).1,<-h1]
theorem CutParts.best{L:List (BitVec 32)}{ps:List Prt}(h:CutParts L ps)(a:BitVec 32){k:Nat}(hk:k<ps.length):uv ps[k].fr<=uv a↔k<=ivN L a:=by
 have hL:k<L.length:=by rw[<-h.len];exact hk
 rw[h.fr k hk hL]
 constructor
 ·intro g
  rcases Nat.lt_or_ge (ivN L a) k with q|q
  ·have h1:=iv_next h.zero a (by omega)
   have h2:=h.rise.le (show ivN L a+1<=k from q) hL
   omega
  ·exact q
 ·intro g
  have h1:=iv_from h.zero a
  have h2:=h.rise.le g (ivN_lt h.zero a)
  omega
theorem point_find{ls:List (List Rul)}{l:List (BitVec 32)}(hC:Cuts ls.flatten l){lo hi a:BitVec 32}(h1:uv lo<=uv a)(h2:uv a<=uv hi):
 ∃(k:Nat) (h:k<(insideV l lo hi).length),atN (insideV l lo hi) a=k+1/\uv (insideV l lo hi)[k]<=uv a/\∀t∈ls,findL t (insideV l lo hi)[k]=findL t a:=by
 have hr:=inside_rising hC.rise lo hi
 have hpos:0<(insideV l lo hi).length:=by unfold insideV;simp
 have hle:=atN_le (insideV l lo hi) a
 have h0:(insideV l lo hi)[0]=lo:=rfl
 have hat:0<atN (insideV l lo hi) a:=by
  rcases Nat.lt_or_ge 0 (atN (insideV l lo hi) a)with g|g
  ·exact g
  ·exfalso
   have e:atN (insideV l lo hi) a=0:=by omega
   have h3:=atN_end (l:=insideV l lo hi) (a:=a) (by omega)
   simp only[e]at h3
   exact h3 (by rw[h0];exact h1)
 have hk:atN (insideV l lo hi) a-1<(insideV l lo hi).length:=by omega
 have hka:=atN_lt (l:=insideV l lo hi) (a:=a) (j:=atN (insideV l lo hi) a-1) (by omega) hk
 refine⟨atN (insideV l lo hi) a-1,hk,by omega,hka,fun t ht=>?_⟩
 refine find_same hC (fun c hc=>⟨fun g=>by omega,fun g=>?_⟩) ht
 rcases Int.lt_or_le (uv lo) (uv c)with q|q
 ·have hm:c∈insideV l lo hi:=inside_mem.2 (.inr ⟨hc,q,by omega⟩)
  obtain⟨j,hj,rfl⟩:=List.getElem_of_mem hm
  rcases Nat.lt_or_ge j (atN (insideV l lo hi) a)with x|x
  ·exact hr.le (by omega) hk
  ·exfalso
   have h3:=atN_end (l:=insideV l lo hi) (a:=a) (by omega)
   have h4:=hr.le x hj
   omega
 ·have h3:=hr.le (Nat.zero_le (atN (insideV l lo hi) a-1)) hk
  rw[h0]at h3
  omega
theorem stepN_congr{ls:List (List Rul)}{a b:BitVec 32}(h:∀t∈ls,findL t a=findL t b)(v:Int):stepN ls a v=stepN ls b v:=by
 unfold stepN
 by_cases hv:v<0
 ·rw[if_pos hv,if_pos hv]
 ·rw[if_neg hv,if_neg hv]
  cases hk:ls[v.toNat]? with
  |none=>rfl
  |some t=>
   show stepO t a=stepO t b
   unfold stepO
   rw[h t (List.mem_of_getElem? hk)]
theorem badS_congr{ls:List (List Rul)}{a b:BitVec 32}(h:∀t∈ls,findL t a=findL t b)(rk:List Int)(v:Nat):badS ls rk a v=badS ls rk b v:=by
 unfold badS;rw[stepN_congr h]
theorem fallV_zero{ls:List (List Rul)}{pts:List (BitVec 32)}{rk:List Int}:fallV ls pts rk=0↔∀a∈pts,∀v,v<ls.length->badS ls rk a v=false:=by
 constructor
 ·intro h a ha v hv
  cases hb:badS ls rk a v with
  |false=>rfl
  |true=>
   obtain⟨k,hk,rfl⟩:=List.getElem_of_mem ha
   rw[fallV_bad hk hv hb]at h
   cases h
 ·intro h
  exact fallV_ok (k:=pts.length) (fun a ha=>h a (List.mem_of_mem_take ha)) (Nat.le_refl _)
theorem fall_iff{ls:List (List Rul)}{l:List (BitVec 32)}(hC:Cuts ls.flatten l){lo hi:BitVec 32}(hle:uv lo<=uv hi)(rk:List Int):
 fallV ls (insideV l lo hi) rk=0↔∀a,uv lo<=uv a->uv a<=uv hi->∀v,v<ls.length->badS ls rk a v=false:=by
 rw[fallV_zero]
 constructor
 ·intro h a h1 h2 v hv
  obtain⟨k,hk,_,_,hf⟩:=point_find hC h1 h2
  rw[<-badS_congr hf]
  exact h _ (List.getElem_mem hk) v hv
 ·intro h a ha v hv
  obtain⟨h1,h2⟩:=inside_bd hle ha
  exact h a h1 h2 v hv
theorem partV_eq{l:List (BitVec 32)}{ls:List (List Rul)}{p:Prt}{rk:List Int}(h:rk.length=ls.length):partV l ls p rk=fallV ls (insideV l p.fr p.up) rk:=by
 unfold partV;rw[if_neg (by simp[h])]
theorem partsZ_all{l:List (BitVec 32)}{ls:List (List Rul)}:∀{qs:List (Prt × List Int)},(∀q∈qs,partV l ls q.1 q.2=0)->partsZ l ls qs=0
 |[],_=>rfl
 |x::t,h=>by
  unfold partsZ
  rw[if_neg (by simp[h x (List.mem_cons_self ..)])]
  exact partsZ_all fun q hq=>h q (List.mem_cons_of_mem _ hq)
def wideN(ls:List (List Rul)):List (List Rul):=ls++List.replicate ls.length []
def dblR(r:List Int):List Int:=r.map (2* ·)++List.replicate r.length 0
theorem step_in{ls:List (List Rul)}(h:netMayV ls=0){a:BitVec 32}{v x:Int}(hs:stepN ls a v=some x):0<=v/\v<ls.length/\0<=x/\x<ls.length:=by
 unfold stepN at hs
 by_cases hv:v<0
 ·rw[if_pos hv]at hs;cases hs
 ·rw[if_neg hv]at hs
  cases hk:ls[v.toNat]? with
  |none=>rw[hk]at hs;cases hs
  |some t=>
   rw[hk]at hs
   have hl:=(List.getElem?_eq_some_iff.1 hk).1
   have:=step_bd h (List.mem_of_getElem? hk) a hs
   omega
theorem ans_free{ls:List (List Rul)}{l:List (BitVec 32)}(h:netMayV ls=0){c:Crt}(hf:FreeOk ls.length c):ansV l ls c=if partsZ l ls (c.ps.zip c.rks)≠0 then(0,partsZ l ls (c.ps.zip c.rks))else(1,0):=by
 unfold ansV
 rw[if_neg (by rw[h];simp),if_neg (by rw[hf.may];simp),if_pos hf.vd]
theorem ans_loop{ls:List (List Rul)}{l:List (BitVec 32)}(h:netMayV ls=0){c:Crt}(hf:LoopOk ls.length c):ansV l ls c=if traceV ls c.dest c.tr≠0 then(0,17)else(c.vd,0):=by
 unfold ansV
 rw[if_neg (by rw[h];simp),if_neg (by rw[hf.may];simp),if_neg (by rw[hf.vd];decide)]
theorem least_nat{P:Nat->Prop}(h:∃n,P n):∃n,P n/\∀m,m<n->¬P m:=by
 obtain⟨n,hn⟩:=h
 induction n using Nat.strongRecOn with
 |ind n ih=>
  by_cases g:∃m,m<n/\P m
  ·obtain⟨m,hm,hp⟩:=g
   exact ih m hm hp
  ·exact⟨n,hn,fun m hm hp=>g ⟨m,hm,hp⟩⟩
def nxv(v:List Int)(x:Int):Int:=if x<0 then-1 else v.getD x.toNat (-1)
def VOk(v:List Int):Prop:=∀x∈v,-1<=x/\x<v.length
def isN(v:List Int)(x:Int):Prop:=0<=x/\x<v.length
def itv(v:List Int):Nat->Int->Int
 |0,x=>x
 |k+1,x=>itv v k (nxv v x)
theorem nxv_neg(v:List Int){x:Int}(h:x<0):nxv v x= -1:=by unfold nxv;rw[if_pos h]
theorem nxv_at{v:List Int}{k:Nat}(h:k<v.length):nxv v k=v[k]:=by
 unfold nxv
 rw[if_neg (by omega),Int.toNat_natCast,List.getD_eq_getElem?_getD,gE h];rfl
theorem nxv_ok{v:List Int}(h:VOk v)(x:Int):nxv v x= -1\/isN v (nxv v x):=by
 by_cases hx:x<0
 ·exact .inl (nxv_neg v hx)
 ·unfold nxv
  rw[if_neg hx]
  by_cases hl:x.toNat<v.length
  ·rw[List.getD_eq_getElem?_getD,gE hl,Option.getD_some]
   have:=h _ (List.getElem_mem hl)
   by_cases e:v[x.toNat]= -1
   ·exact .inl e
   ·exact .inr ⟨by omega,this.2⟩
  ·rw[List.getD_eq_getElem?_getD,List.getElem?_eq_none (by omega)];exact .inl rfl
theorem itv_out(v:List Int):∀(k:Nat) (x:Int),itv v (k+1) x=nxv v (itv v k x)
 |0,_=>rfl
 |k+1,x=>by rw[show itv v (k+1+1) x=itv v (k+1) (nxv v x)from rfl,itv_out v k];rfl
theorem itv_add(v:List Int)(a:Nat):∀(b:Nat) (x:Int),itv v (a+b) x=itv v a (itv v b x)
 |0,_=>rfl
 |b+1,x=>by rw[show a+(b+1)=(a+b)+1 from rfl];exact itv_add v a b (nxv v x)
theorem itv_neg(v:List Int):∀(k:Nat),itv v k (-1)= -1
 |0=>rfl
 |k+1=>by rw[show itv v (k+1) (-1)=itv v k (nxv v (-1))from rfl,nxv_neg v (by decide),itv_neg v k]
theorem itv_ok{v:List Int}(h:VOk v){x:Int}(hx:isN v x):∀k,itv v k x= -1\/isN v (itv v k x)
 |0=>.inr hx
 |k+1=>by rw[itv_out];exact nxv_ok h _
theorem itv_stay{v:List Int}{x:Int}{k:Nat}(h:itv v k x= -1){j:Nat}(hj:k<=j):itv v j x= -1:=by
 rw[show j=(j-k)+k by omega,itv_add,h,itv_neg]
def OnL(v:List Int)(x:Int):Prop:=0<=x/\∃k,0<k/\itv v k x=x
def Ends(v:List Int)(x:Int):Prop:=∃k,itv v k x= -1
theorem itv_mul{v:List Int}{x:Int}{k:Nat}(h:itv v k x=x):∀m,itv v (m*k) x=x
 |0=>by rw[Nat.zero_mul];rfl
 |m+1=>by rw[Nat.succ_mul,itv_add,h,itv_mul h m]
theorem OnL.not_ends{v:List Int}{x:Int}(h:OnL v x):¬Ends v x:=by
 rintro⟨j,hj⟩
 obtain⟨h0,k,hk,he⟩:=h
 have h1:=itv_mul he j
 have h2:itv v (j*k) x= -1:=itv_stay hj (Nat.le_mul_of_pos_right j hk)
 omega
theorem OnL.is{v:List Int}(h:VOk v){x:Int}(hx:OnL v x):isN v x:=by
 obtain⟨h0,k,hk,he⟩:=hx
 obtain⟨j,rfl⟩:∃j,k=j+1:=⟨k-1,by omega⟩
 rw[itv_out]at he
 rcases nxv_ok h (itv v j x)with g|g
 ·rw[g]at he;omega
 ·rw[he]at g;exact g
theorem OnL.next{v:List Int}(h:VOk v){x:Int}(hx:OnL v x):OnL v (nxv v x):=by
 have hn:=hx.not_ends
 obtain⟨h0,k,hk,he⟩:=hx
 refine⟨?_,k,hk,?_⟩
 ·rcases nxv_ok h x with g|g
  ·exact absurd ⟨1,g⟩ hn
  ·exact g.1
 ·rw[show itv v k (nxv v x)=itv v (k+1) x from rfl,itv_out,he]
theorem OnL.it{v:List Int}(h:VOk v){x:Int}(hx:OnL v x):∀k,OnL v (itv v k x)
 |0=>hx
 |k+1=>by rw[itv_out];exact(hx.it h k).next h
structure IsPer(v:List Int)(x:Int)(p:Nat):Prop where
 pos:0<p
 back:itv v p x=x
 first:∀j,0<j->j<p->itv v j x≠x
theorem OnL.per{v:List Int}{x:Int}(h:OnL v x):∃p,IsPer v x p:=by
 obtain⟨p,⟨h1,h2⟩,h3⟩:=least_nat (P:=fun k=>0<k/\itv v k x=x) h.2
 exact⟨p,h1,h2,fun j hj hjp he=>h3 j hjp ⟨hj,he⟩⟩
theorem IsPer.on{v:List Int}{x:Int}{p:Nat}(h:IsPer v x p)(hx:0<=x):OnL v x:=⟨hx,p,h.pos,h.back⟩
theorem IsPer.one{v:List Int}{x:Int}{p q:Nat}(h:IsPer v x p)(k:IsPer v x q):p=q:=by
 rcases Nat.lt_trichotomy p q with g|g|g
 ·exact absurd h.back (k.first p h.pos g)
 ·exact g
 ·exact absurd k.back (h.first q k.pos g)
def wayV(v:List Int)(x:Int)(k:Nat):List Int:=(List.range k).map fun j=>itv v j x
theorem wayV_len(v:List Int)(x:Int)(k:Nat):(wayV v x k).length=k:=by unfold wayV;simp
theorem wayV_step(v:List Int)(x:Int)(k:Nat):wayV v x (k+1)=wayV v x k++[itv v k x]:=by unfold wayV;rw[List.range_succ,List.map_append];rfl
theorem wayV_mem{v:List Int}{x y:Int}{k:Nat}:y∈wayV v x k↔∃j,j<k/\itv v j x=y:=by
 unfold wayV;rw[List.mem_map];simp
theorem wayV_get?{v:List Int}{x:Int}{k j:Nat}(h:j<k):(wayV v x k)[j]? =some (itv v j x):=by unfold wayV;simp[h]
theorem wayV_get{v:List Int}{x:Int}{k j:Nat}(h:j<(wayV v x k).length):(wayV v x k)[j]=itv v j x:=
 Option.some.inj ((gE h).symm.trans (wayV_get? (by rwa [wayV_len]at h)))
theorem IsPer.nodup{v:List Int}{x:Int}{p:Nat}(h:IsPer v x p):(wayV v x p).Nodup:=by
 rw[List.nodup_iff_pairwise_ne,List.pairwise_iff_getElem]
 intro i j hi hj hij e
 rw[wayV_get,wayV_get]at e
 rw[wayV_len]at hi hj
 have h1:itv v ((p-j)+i) x=x:=by rw[itv_add,e,<-itv_add,show p-j+j=p by omega,h.back]
 exact h.first _ (by omega) (by omega) h1
theorem IsPer.le{v:List Int}(hv:VOk v){x:Int}{p:Nat}(h:IsPer v x p)(hx:0<=x):p<=v.length:=by
 have h1:=nodup_few v.length _ h.nodup fun y hy=>by
  obtain⟨j,_,rfl⟩:=wayV_mem.1 hy
  exact((h.on hx).it hv j).is hv
 rwa [wayV_len]at h1
theorem ends_or{v:List Int}(hv:VOk v){x:Int}(hx:isN v x):(∃k,k<=v.length/\itv v k x= -1)\/∃i j,i<j/\j<=v.length/\itv v i x=itv v j x/\isN v (itv v i x):=by
 by_cases h:∃k,k<=v.length/\itv v k x= -1
 ·exact .inl h
 ·right
  have hall:∀k,k<=v.length->isN v (itv v k x):=fun k hk=>(itv_ok hv hx k).resolve_left fun e=>h ⟨k,hk,e⟩
  have hnd:¬(wayV v x (v.length+1)).Nodup:=fun hn=>by
   have:=nodup_few v.length _ hn fun y hy=>by
    obtain⟨j,hj,rfl⟩:=wayV_mem.1 hy
    exact hall j (by omega)
   rw[wayV_len]at this
   omega
  rw[List.nodup_iff_pairwise_ne,List.pairwise_iff_getElem]at hnd
  refine Classical.byContradiction fun hc=>hnd fun i j hi hj hij e=>hc ?_
  rw[wayV_len]at hi hj
  rw[wayV_get,wayV_get]at e
  exact⟨i,j,hij,by omega,e,hall i (by omega)⟩
theorem on_of_eq{v:List Int}{x:Int}{i j:Nat}(hij:i<j)(he:itv v i x=itv v j x)(h0:0<=itv v i x):OnL v (itv v i x):=
 ⟨h0,j-i,by omega,by rw[<-itv_add,show j-i+i=j by omega,<-he]⟩
theorem ends_short{v:List Int}(hv:VOk v){x:Int}(hx:isN v x)(h:Ends v x):∃k,k<=v.length/\itv v k x= -1:=by
 rcases ends_or hv hx with g|⟨i,j,hij,_,he,hi⟩
 ·exact g
 ·exfalso
  have ho:=on_of_eq hij he hi.1
  obtain⟨k,hk⟩:=h
  exact ho.not_ends ⟨k,by rw[<-itv_add,Nat.add_comm,itv_add,hk,itv_neg]⟩
theorem ends_all{v:List Int}(hv:VOk v)(h:∀x,¬OnL v x){x:Int}(hx:isN v x):Ends v x:=by
 rcases ends_or hv hx with⟨k,_,hk⟩|⟨i,j,hij,_,he,hi⟩
 ·exact⟨k,hk⟩
 ·exact absurd (on_of_eq hij he hi.1) (h _)
def LeastL(v:List Int)(b:Int):Prop:=OnL v b/\∀x,OnL v x->b<=x
def LoopIs(v:List Int)(l:List Int):Prop:=(l=[]/\∀x,¬OnL v x)\/∃b p,LeastL v b/\IsPer v b p/\l=wayV v b p
theorem LoopIs.one{v l l':List Int}(h:LoopIs v l)(k:LoopIs v l'):l=l':=by
 rcases h with⟨h1,h2⟩|⟨b,p,h1,h2,h3⟩
 ·rcases k with⟨k1,_⟩|⟨b',p',k1,_,_⟩
  ·rw[h1,k1]
  ·exact absurd k1.1 (h2 _)
 ·rcases k with⟨_,k2⟩|⟨b',p',k1,k2,k3⟩
  ·exact absurd h1.1 (k2 _)
  ·obtain rfl:b=b':=Int.le_antisymm (h1.2 _ k1.1) (k1.2 _ h1.1)
   obtain rfl:=h2.one k2
   rw[h3,k3]
theorem LoopIs.nil{v:List Int}:LoopIs v []↔∀x,¬OnL v x:=by
 constructor
 ·rintro(⟨_,h⟩|⟨b,p,_,h2,h3⟩)
  ·exact h
  ·have:=congrArg List.length h3
   rw[wayV_len]at this
   have:=h2.pos
   simp at*
   omega
 ·exact fun h=>.inl ⟨rfl,h⟩
theorem LoopIs.cons{v l:List Int}(h:LoopIs v l)(hl:l≠[]):∃b p,LeastL v b/\IsPer v b p/\l=wayV v b p:=by
 rcases h with⟨h1,_⟩|h
 ·exact absurd h1 hl
 ·exact h
theorem IsPer.mod{v:List Int}{y:Int}{p:Nat}(h:IsPer v y p)(m:Nat):itv v m y=itv v (m%p) y:=by
 conv=>lhs;rw[<-Nat.mod_add_div m p,itv_add,Nat.mul_comm,itv_mul h.back]
theorem IsPer.in_way{v:List Int}{y:Int}{p:Nat}(h:IsPer v y p)(m:Nat):itv v m y∈wayV v y p:=
 wayV_mem.2 ⟨m%p,Nat.mod_lt _ h.pos,(h.mod m).symm⟩
theorem OnL.reach{v:List Int}{x:Int}(h:OnL v x)(d:Nat):∃m,itv v m (itv v d x)=x:=by
 obtain⟨_,p,hp,he⟩:=h
 refine⟨d*p-d,?_⟩
 rw[<-itv_add,Nat.sub_add_cancel (Nat.le_mul_of_pos_right d hp),itv_mul he]
def mkv(s:List Int)(x:Int):Int:=s.getD x.toNat 0
structure Marks(v:List Int)(u:Nat)(s:List Int)(found:Bool)(best:Int):Prop where
 len:s.length=v.length
 bd:∀x,0<=mkv s x/\mkv s x<=u
 shut:∀x,isN v x->mkv s x≠0->nxv v x= -1\/mkv s (nxv v x)≠0
 all:∀x:Nat,x<u->mkv s x≠0
 no:found=false->∀x,OnL v x->mkv s x=0
 yes:found=true->OnL v best/\∀x,OnL v x->mkv s x≠0->best<=x
theorem mkv_rep(n:Nat)(x:Int):mkv (List.replicate n 0) x=0:=by
 unfold mkv
 rw[List.getD_eq_getElem?_getD,List.getElem?_replicate]
 split<;>rfl
theorem Marks.start(v:List Int)(best:Int):Marks v 0 (List.replicate v.length 0) false best:=
 ⟨List.length_replicate,(fun x=>by rw[mkv_rep];decide),(fun x _ h=>absurd (mkv_rep _ _) h),(fun x h=>absurd h (Nat.not_lt_zero x)),(fun _ x _=>mkv_rep _ _),(fun h=>by cases h)⟩
theorem Marks.done{v s:List Int}{found:Bool}{best:Int}(hv:VOk v)(h:Marks v v.length s found best):(found=false->∀x,¬OnL v x)/\(found=true->LeastL v best):=by
 have hall:∀x,OnL v x->mkv s x≠0:=fun x hx=>by
  have h1:=hx.is hv
  have h2:=h.all x.toNat (by have:=h1.1;have:=h1.2;omega)
  rwa [Int.toNat_of_nonneg h1.1]at h2
 exact⟨fun hf x hx=>hall x hx (h.no hf x hx),fun hf=>⟨(h.yes hf).1,fun x hx=>(h.yes hf).2 x hx (hall x hx)⟩⟩
theorem Marks.skip{v s:List Int}{u:Nat}{found:Bool}{best:Int}(h:Marks v u s found best)(hu:mkv s u≠0):Marks v (u+1) s found best:=
 ⟨h.len,(fun x=>by have:=h.bd x;omega),h.shut,(fun x hx=>by
   rcases Nat.lt_or_ge x u with g|g
   ·exact h.all x g
   ·rw[show x=u by omega];exact hu),h.no,h.yes⟩
structure Wlk(v:List Int)(u:Nat)(s s':List Int)(k:Nat):Prop where
 len:s'.length=v.length
 way:∀j,j<k->isN v (itv v j u)/\mkv s (itv v j u)=0
 inj:(wayV v u k).Nodup
 mark:∀x,isN v x->mkv s' x=if x∈wayV v u k then(u:Int)+1 else mkv s x
theorem Wlk.start{v s:List Int}{u:Nat}(h:s.length=v.length):Wlk v u s s 0:=
 ⟨h,(fun j hj=>absurd hj (Nat.not_lt_zero j)),(by unfold wayV;simp),(fun x _=>by unfold wayV;simp)⟩
theorem Wlk.few{v s s':List Int}{u k:Nat}(h:Wlk v u s s' k):k<=v.length:=by
 have:=nodup_few v.length _ h.inj fun y hy=>by
  obtain⟨j,hj,rfl⟩:=wayV_mem.1 hy
  exact(h.way j hj).1
 rwa [wayV_len]at this
theorem mkv_set{s:List Int}{y x m:Int}(hy:0<=y/\y<s.length)(hx:0<=x):mkv (s.set y.toNat m) x=if x=y then m else mkv s x:=by
 unfold mkv
 rw[List.getD_eq_getElem?_getD,List.getElem?_set]
 by_cases e:x=y
 ·subst e
  rw[if_pos rfl,if_pos rfl,if_pos (by omega)];rfl
 ·rw[if_neg (by omega),if_neg e,List.getD_eq_getElem?_getD]
theorem Wlk.step{v s s':List Int}{u k:Nat}(h:Wlk v u s s' k)(hy:isN v (itv v k u))(h0:mkv s' (itv v k u)=0):Wlk v u s (s'.set (itv v k u).toNat ((u:Int)+1)) (k+1):=by
 have hm:=h.mark _ hy
 have hnot:itv v k u∉wayV v u k:=fun e=>by rw[if_pos e]at hm;omega
 rw[if_neg hnot]at hm
 refine⟨by rw[List.length_set];exact h.len,fun j hj=>?_,?_,fun x hx=>?_⟩
 ·rcases Nat.lt_or_ge j k with g|g
  ·exact h.way j g
  ·rw[show j=k by omega];exact⟨hy,by rw[<-hm,h0]⟩
 ·rw[wayV_step,List.nodup_append]
  refine⟨h.inj,by simp,fun a ha b hb=>?_⟩
  rw[List.mem_singleton]at hb;subst hb
  exact fun e=>hnot (e▸ha)
 ·rw[mkv_set ⟨hy.1,by rw[h.len];exact hy.2⟩ hx.1,h.mark x hx,wayV_step]
  by_cases e:x=itv v k u
  ·rw[if_pos e,if_pos (by rw[List.mem_append];exact .inr (by simp[e]))]
  ·rw[if_neg e]
   by_cases g:x∈wayV v u k
   ·rw[if_pos g,if_pos (List.mem_append.2 (.inl g))]
   ·rw[if_neg g,if_neg (by rw[List.mem_append,List.mem_singleton];exact fun q=>q.elim g e)]
theorem Wlk.marked{v s s':List Int}{u k:Nat}(h:Wlk v u s s' k){x:Int}(hx:isN v x):mkv s' x≠0↔x∈wayV v u k\/mkv s x≠0:=by
 rw[h.mark x hx]
 by_cases g:x∈wayV v u k
 ·rw[if_pos g];exact⟨fun _=>.inl g,fun _=>by omega⟩
 ·rw[if_neg g];exact⟨fun e=>.inr e,fun e=>e.resolve_left g⟩
theorem Wlk.bd{v s s':List Int}{u k:Nat}(h:Wlk v u s s' k)(hb:∀x,0<=mkv s x/\mkv s x<=u):∀x,0<=mkv s' x/\mkv s' x<=((u+1:Nat):Int):=by
 intro x
 by_cases hx:x.toNat<v.length
 ·have e:mkv s' x=mkv s' (x.toNat:Int):=by unfold mkv;rw[Int.toNat_natCast]
  rw[e,h.mark _ ⟨by omega,by omega⟩]
  have:=hb (x.toNat:Int)
  split<;>omega
 ·unfold mkv
  rw[List.getD_eq_getElem?_getD,List.getElem?_eq_none (by rw[h.len];omega)]
  simp;omega
theorem Wlk.shut{v s s':List Int}(hv:VOk v){u k:Nat}(h:Wlk v u s s' k)(hs:∀x,isN v x->mkv s x≠0->nxv v x= -1\/mkv s (nxv v x)≠0)(hend:itv v k u= -1\/isN v (itv v k u)/\mkv s' (itv v k u)≠0):
 ∀x,isN v x->mkv s' x≠0->nxv v x= -1\/mkv s' (nxv v x)≠0:=by
 intro x hx hm
 rcases nxv_ok hv x with g|g
 ·exact .inl g
 ·rcases(h.marked hx).1 hm with q|q
  ·obtain⟨j,hj,rfl⟩:=wayV_mem.1 q
   rw[<-itv_out]at g ⊢
   rcases Nat.lt_or_ge (j+1) k with r|r
   ·exact .inr ((h.marked g).2 (.inl (wayV_mem.2 ⟨j+1,r,rfl⟩)))
   ·rw[show j+1=k by omega]
    exact hend.imp id fun e=>e.2
  ·rcases hs x hx q with r|r
   ·exact .inl r
   ·exact .inr ((h.marked g).2 (.inr r))
theorem Wlk.all{v s s':List Int}{u k:Nat}(h:Wlk v u s s' k)(hk:0<k)(hu:u<v.length)(ha:∀x:Nat,x<u->mkv s x≠0):∀x:Nat,x<u+1->mkv s' x≠0:=by
 intro x hx
 refine(h.marked ⟨by omega,by omega⟩).2 ?_
 rcases Nat.lt_or_ge x u with g|g
 ·exact .inr (ha x g)
 ·exact .inl (wayV_mem.2 ⟨0,hk,by rw[show x=u by omega];rfl⟩)
theorem Marks.old{v s s':List Int}(hv:VOk v){u k:Nat}{found:Bool}{best:Int}(h:Marks v u s found best)(w:Wlk v u s s' k)(hk:0<k)(hu:u<v.length)
 (hend:itv v k u= -1\/isN v (itv v k u)/\mkv s' (itv v k u)≠0) (hn:∀x,OnL v x->x∉wayV v u k):Marks v (u+1) s' found best:=by
 have hold:∀x,OnL v x->mkv s' x=mkv s x:=fun x hx=>by rw[w.mark x (hx.is hv),if_neg (hn x hx)]
 exact⟨w.len,w.bd h.bd,w.shut hv h.shut hend,w.all hk hu h.all,(fun hf x hx=>by rw[hold x hx];exact h.no hf x hx),
  (fun hf=>⟨(h.yes hf).1,fun x hx hm=>(h.yes hf).2 x hx (by rw[<-hold x hx];exact hm)⟩)⟩
theorem Marks.out{v s s':List Int}(hv:VOk v){u k:Nat}{found:Bool}{best:Int}(h:Marks v u s found best)(w:Wlk v u s s' k)(hk:0<k)(hu:u<v.length)(he:itv v k u= -1):Marks v (u+1) s' found best:=
 h.old hv w hk hu (.inl he) fun x hx hm=>by
  obtain⟨j,hj,rfl⟩:=wayV_mem.1 hm
  exact hx.not_ends ⟨k-j,by rw[<-itv_add,Nat.sub_add_cancel (Nat.le_of_lt hj)];exact he⟩
theorem shut_all{v s:List Int}(hv:VOk v)(hs:∀x,isN v x->mkv s x≠0->nxv v x= -1\/mkv s (nxv v x)≠0){y:Int}(hy:isN v y)(hm:mkv s y≠0):∀m,itv v m y= -1\/(isN v (itv v m y)/\mkv s (itv v m y)≠0)
 |0=>.inr ⟨hy,hm⟩
 |m+1=>by
  rw[itv_out]
  rcases shut_all hv hs hy hm m with g|⟨g1,g2⟩
  ·rw[g,nxv_neg v (by decide)];exact .inl rfl
  ·rcases nxv_ok hv (itv v m y)with q|q
   ·exact .inl q
   ·rcases hs _ g1 g2 with r|r
    ·exact .inl r
    ·exact .inr ⟨q,r⟩
theorem Marks.met{v s s':List Int}(hv:VOk v){u k:Nat}{found:Bool}{best:Int}(h:Marks v u s found best)(w:Wlk v u s s' k)(hk:0<k)(hu:u<v.length)(hy:isN v (itv v k u))(h0:mkv s' (itv v k u)≠0)(h1:mkv s' (itv v k u)≠(u:Int)+1):
 Marks v (u+1) s' found best:=
 h.old hv w hk hu (.inr ⟨hy,h0⟩) fun x hx hm=>by
  obtain⟨j,hj,rfl⟩:=wayV_mem.1 hm
  have hmy:=w.mark _ hy
  have hny:itv v k u∉wayV v u k:=fun e=>h1 (by rw[hmy,if_pos e])
  rw[if_neg hny]at hmy
  have hsy:mkv s (itv v k u)≠0:=by rw[<-hmy];exact h0
  obtain⟨m,he⟩:=hx.reach (k-j)
  rw[<-itv_add v (k-j) j,Nat.sub_add_cancel (Nat.le_of_lt hj)]at he
  rcases shut_all hv h.shut hy hsy m with g|⟨_,g⟩
  ·rw[g]at he
   have:=hx.1
   omega
  ·rw[he]at g
   exact g (w.way j hj).2
theorem Marks.loop{v s s':List Int}(hv:VOk v){u k:Nat}{found:Bool}{best:Int}(h:Marks v u s found best)(w:Wlk v u s s' k)(hk:0<k)(hu:u<v.length)(hy:isN v (itv v k u))(h1:mkv s' (itv v k u)=(u:Int)+1):
 ∃p,IsPer v (itv v k u) p/\∀low,low∈wayV v (itv v k u) p->(∀z∈wayV v (itv v k u) p,low<=z)->∀b,(found=false/\b=low\/found=true/\b=min best low)->Marks v (u+1) s' true b:=by
 have hmy:=w.mark _ hy
 have hin:itv v k u∈wayV v u k:=Classical.byContradiction fun e=>by
  rw[if_neg e]at hmy
  have:=(h.bd (itv v k u)).2
  omega
 obtain⟨i,hi,hie⟩:=wayV_mem.1 hin
 have hon:OnL v (itv v k u):=by
  have:=on_of_eq hi hie (by rw[hie];exact hy.1)
  rwa [hie]at this
 obtain⟨p,hp⟩:=hon.per
 refine⟨p,hp,fun low hl hle b hb=>?_⟩
 obtain⟨q,hq,rfl⟩:=wayV_mem.1 hl
 have hlo:OnL v (itv v q (itv v k u)):=hon.it hv q
 have hnew:∀x,OnL v x->x∈wayV v u k->itv v q (itv v k u)<=x:=fun x hx hm=>by
  obtain⟨j,hj,rfl⟩:=wayV_mem.1 hm
  obtain⟨m,he⟩:=hx.reach (k-j)
  rw[<-itv_add v (k-j) j,Nat.sub_add_cancel (Nat.le_of_lt hj)]at he
  rw[<-he]
  exact hle _ (hp.in_way m)
 refine⟨w.len,w.bd h.bd,w.shut hv h.shut (.inr ⟨hy,by rw[h1];omega⟩),w.all hk hu h.all,(fun hf=>by cases hf),fun _=>⟨?_,fun x hx hm=>?_⟩⟩
 ·rcases hb with⟨_,rfl⟩|⟨hf,rfl⟩
  ·exact hlo
  ·rcases Int.le_total best (itv v q (itv v k u))with g|g
   ·rw[Int.min_eq_left g];exact(h.yes hf).1
   ·rw[Int.min_eq_right g];exact hlo
 ·rcases(w.marked (hx.is hv)).1 hm with g|g
  ·have:=hnew x hx g
   rcases hb with⟨_,rfl⟩|⟨_,rfl⟩<;>omega
  ·rcases hb with⟨hf,_⟩|⟨hf,rfl⟩
   ·exact absurd (h.no hf x hx) g
   ·have:=(h.yes hf).2 x hx g
    omega
def RankIs(v:List Int)(x:Int)(m:Nat):Prop:=isN v (itv v m x)/\itv v (m+1) x= -1
theorem RankIs.one{v:List Int}{x:Int}{m n:Nat}(h:RankIs v x m)(k:RankIs v x n):m=n:=by
 rcases Nat.lt_trichotomy m n with g|g|g
 ·have:=itv_stay h.2 (show m+1<=n by omega)
  have:=k.1.1
  omega
 ·exact g
 ·have:=itv_stay k.2 (show n+1<=m by omega)
  have:=h.1.1
  omega
theorem RankIs.ends{v:List Int}{x:Int}{m:Nat}(h:RankIs v x m):Ends v x:=⟨_,h.2⟩
theorem ends_rank{v:List Int}(hv:VOk v){x:Int}(hx:isN v x)(h:Ends v x):∃m,m<v.length/\RankIs v x m:=by
 obtain⟨k,h1,h2⟩:=least_nat (P:=fun k=>itv v k x= -1) h
 obtain⟨k',hk',hk2⟩:=ends_short hv hx h
 have hle:k<=k':=by
  rcases Nat.lt_or_ge k' k with g|g
  ·exact absurd hk2 (h2 k' g)
  ·exact g
 cases k with
 |zero=>have:=hx.1;have e:x= -1:=h1;omega
 |succ m=>
  refine⟨m,by omega,?_,h1⟩
  exact(itv_ok hv hx m).resolve_left (h2 m (by omega))
theorem RankIs.lt{v:List Int}(hv:VOk v){x:Int}(hx:isN v x){m:Nat}(h:RankIs v x m):m<v.length:=by
 obtain⟨n,h1,h2⟩:=ends_rank hv hx h.ends
 rw[h.one h2];exact h1
theorem RankIs.step{v:List Int}{x:Int}{m:Nat}(h:RankIs v x m)(hs:nxv v x≠ -1):∃n,m=n+1/\RankIs v (nxv v x) n:=by
 cases m with
 |zero=>exact absurd h.2 hs
 |succ n=>exact⟨n,rfl,h⟩
theorem RankIs.back{v:List Int}{x:Int}{n:Nat}(h:RankIs v (nxv v x) n):RankIs v x (n+1):=h
theorem rank_end{v:List Int}{x:Int}(hx:isN v x)(hs:nxv v x= -1):RankIs v x 0:=⟨hx,hs⟩
def RanksIs(v:List Int)(rs:List Int):Prop:=rs.length=v.length/\∀k,k<v.length->∃m:Nat,rs[k]? =some (m:Int)/\RankIs v k m
theorem RanksIs.one{v a b:List Int}(h:RanksIs v a)(k:RanksIs v b):a=b:=by
 refine List.ext_getElem? fun i=>?_
 by_cases hi:i<v.length
 ·obtain⟨m,h1,h2⟩:=h.2 i hi
  obtain⟨n,k1,k2⟩:=k.2 i hi
  rw[h1,k1,h2.one k2]
 ·rw[List.getElem?_eq_none (by rw[h.1];omega),List.getElem?_eq_none (by rw[k.1];omega)]
theorem RanksIs.at{v rs:List Int}(h:RanksIs v rs){x:Int}(hx:isN v x):∃m:Nat,rs.getD x.toNat 0=m/\RankIs v x m:=by
 obtain⟨m,h1,h2⟩:=h.2 x.toNat (by have:=hx.1;have:=hx.2;omega)
 rw[Int.toNat_of_nonneg hx.1]at h2
 exact⟨m,by rw[List.getD_eq_getElem?_getD,h1];rfl,h2⟩
theorem RanksIs.bd{v rs:List Int}(hv:VOk v)(h:RanksIs v rs):∀x∈rs,0<=x/\x<v.length:=fun x hx=>by
 obtain⟨i,hi,rfl⟩:=List.getElem_of_mem hx
 have hi':i<v.length:=by rw[<-h.1];exact hi
 obtain⟨m,h1,h2⟩:=h.2 i hi'
 rw[gE hi]at h1
 have:=h2.lt hv ⟨by omega,by omega⟩
 rw[Option.some.inj h1]
 omega
theorem RanksIs.falls{v rs:List Int}(h:RanksIs v rs)(hv:VOk v){x:Int}(hx:isN v x)(hs:nxv v x≠ -1):rs.getD x.toNat 0=rs.getD (nxv v x).toNat 0+1:=by
 obtain⟨m,h1,h2⟩:=h.at hx
 obtain⟨n,h3,h4⟩:=h.at ((nxv_ok hv x).resolve_left hs)
 obtain⟨q,rfl,h5⟩:=h2.step hs
 rw[h1,h3,h4.one h5]
 simp
theorem RanksIs.no{v rs:List Int}(h:RanksIs v rs)(hv:VOk v):∀x,¬OnL v x:=fun x hx=>by
 obtain⟨m,_,h2⟩:=h.at (hx.is hv)
 exact hx.not_ends h2.ends
theorem on_of_no_end{v:List Int}(hv:VOk v){x:Int}(hx:isN v x){k:Nat}(hk:v.length<=k)(h:itv v k x≠ -1):∃y,OnL v y:=
 Classical.byContradiction fun hc=>by
  have he:=ends_all hv (fun y hy=>hc ⟨y,hy⟩) hx
  obtain⟨j,h1,h2⟩:=ends_short hv hx he
  exact h (itv_stay h2 (Nat.le_trans h1 hk))
theorem vec_nx(ls:List (List Rul))(a:BitVec 32)(x:Int):nxv (vecV ls a) x=(stepN ls a x).getD (-1):=by
 unfold nxv stepN
 by_cases h:x<0
 ·rw[if_pos h,if_pos h];rfl
 ·rw[if_neg h,if_neg h]
  unfold vecV
  rw[List.getD_eq_getElem?_getD,List.getElem?_map]
  cases ls[x.toNat]? with
  |none=>rfl
  |some t=>rfl
theorem vec_ok{ls:List (List Rul)}(h:netMayV ls=0)(a:BitVec 32):VOk (vecV ls a):=fun x hx=>by
 unfold vecV at hx
 obtain⟨t,ht,rfl⟩:=List.mem_map.1 hx
 rw[vecV_len]
 cases hs:stepO t a with
 |none=>simp;omega
 |some y=>have:=step_bd h ht a hs;simp;omega
theorem step_nx{ls:List (List Rul)}(h:netMayV ls=0){a:BitVec 32}{x y:Int}:stepN ls a x=some y↔nxv (vecV ls a) x=y/\y≠ -1:=by
 rw[vec_nx]
 constructor
 ·intro hs
  have:=step_in h hs
  rw[hs]
  exact⟨rfl,by omega⟩
 ·rintro⟨h1,h2⟩
  cases hs:stepN ls a x with
  |none=>rw[hs]at h1;exact absurd h1.symm h2
  |some z=>rw[hs]at h1;exact congrArg some h1
theorem one_pt(l:List (BitVec 32))(a:BitVec 32):insideV l a a=[a]:=by
 unfold insideV
 rw[List.filter_eq_nil_iff.2 fun c _ hc=>by rw[insB_iff]at hc;omega]
theorem holds_ok{ls:List (List Rul)}(h:netMayV ls=0){l:List (BitVec 32)}{a:BitVec 32}{rs:List Int}(hr:RanksIs (vecV ls a) rs):fallV ls (insideV l a a) rs=0:=by
 rw[one_pt,fallV_zero]
 intro b hb v hv
 simp only[List.mem_singleton]at hb;subst hb
 unfold badS
 cases hs:stepN ls b v with
 |none=>rfl
 |some x=>
  have g:=step_in h hs
  obtain⟨e1,e2⟩:=(step_nx h).1 hs
  have hf:=hr.falls (vec_ok h b) (x:=(v:Int)) ⟨g.1,by rw[vecV_len];exact g.2.1⟩ (by rw[e1];exact e2)
  rw[e1,Int.toNat_natCast]at hf
  show badX _ _ _ _=false
  unfold badX
  simp only[Bool.or_eq_false_iff,decide_eq_false_iff_not]
  omega
theorem icell_get{q:List Int}{k:Nat}(h:k<q.length):(icells q)[k]? =some (I (q.getD k 0)):=by
 unfold icells
 rw[List.getElem?_map,gE h,List.getD_eq_getElem?_getD,gE h];rfl
end Go.Proofs.YtjflkifodfncmaaGreatDoor
