/- Byt, NumP, GrpP, CrcP, NetB: these texts in one. Conditions: each theorem names its own. -/
import Derived.Test.YtjflkifodfncmaaGreatDoorGNetP
namespace Go.Proofs.YtjflkifodfncmaaGreatDoor
open Go.RowKit
abbrev Byt:=BitVec 8
def yv(a:Byt):Int:=(a.toNat:Int)
abbrev Y(a:Byt):Value:=.int .u8 (yv a)
theorem yv_nonneg(a:Byt):0<=yv a:=by unfold yv;omega
theorem yv_lt(a:Byt):yv a<256:=by unfold yv;omega
theorem yv_bd(a:Byt):0<=yv a/\yv a<256:=⟨yv_nonneg a,yv_lt a⟩
theorem yv_inj{a b:Byt}(h:yv a=yv b):a=b:=BitVec.eq_of_toNat_eq (by unfold yv at h;omega)
@[simp,go_sem] theorem ofInt_yv(a:Byt):BitVec.ofInt 8 (yv a)=a:=by simp[yv]
def byt(n:Nat):Byt:=BitVec.ofNat 8 n
theorem byt_nat(n:Nat):(byt n).toNat=n%256:=by unfold byt;simp
theorem yv_byt(n:Nat):yv (byt n)=((n%256:Nat):Int):=by unfold yv;rw[byt_nat]
theorem byt_toNat(a:Byt):byt a.toNat=a:=by unfold byt;simp
@[go_sem high] theorem wrap_u8_yv(a:Byt):IntKind.u8.wrap (yv a)=yv a:=by
  have:=yv_bd a
  show(yv a)%2^8=_
  omega
@[go_sem high] theorem wrap_i64_yv(a:Byt):IntKind.i64.wrap (yv a)=yv a:=by have:=yv_bd a;rw[IntKind.wrap_i64];omega
@[go_sem high] theorem wrap_u32_yv(a:Byt):IntKind.u32.wrap (yv a)=uv (a.setWidth 32):=by
  have:=yv_bd a
  rw[IntKind.wrap_u32']
  unfold uv yv
  simp
@[go_sem high] theorem yv_beq(a b:Byt):(yv a==yv b)=(a==b):=by
  by_cases h:a=b
  ·subst h;simp
  ·have:yv a≠yv b:=fun e=>h (yv_inj e)
   rw[beq_eq_false_iff_ne.2 this,beq_eq_false_iff_ne.2 h]
@[go_sem high] theorem yv_bne(a b:Byt):(yv a !=yv b)=(a !=b):=by rw[bne,bne,yv_beq]
@[go_sem high] theorem bits_xor_yv(a b:Byt):bits .xor .u8 (yv a) (yv b)=yv (a^^^b):=by
  show IntKind.u8.wrap ((BitVec.ofInt 8 (yv a)^^^BitVec.ofInt 8 (yv b)).toNat:Int)=_
  rw[ofInt_yv,ofInt_yv]
  exact wrap_u8_yv (a^^^b)
def ycells(l:List Byt):List Value:=l.map Y
def BsAt(w:World)(v:Value)(l:List Byt):Prop:=Reads w 1 v l.length (ycells l)
def OwnY(w:World)(B:Nat)(v:Value)(l:List Byt):Prop:=w.ownsRow B 5 1 v l.length (ycells l)
theorem BsAt.later{w w':World}{v:Value}{l:List Byt}(h:BsAt w v l)(hx:Ext w w'):BsAt w' v l:=Reads.later h hx
theorem OwnY.later{w w':World}{B:Nat}{v:Value}{l:List Byt}(h:OwnY w B v l)(hx:Ext w w'):OwnY w' B v l:=own_later h hx
theorem OwnY.bs{w:World}{B:Nat}{v:Value}{l:List Byt}(h:OwnY w B v l):BsAt w v l:=Reads.of_own h
theorem OwnY.low{w:World}{B B':Nat}{v:Value}{l:List Byt}(h:OwnY w B v l)(hB:B'<=B):OwnY w B' v l:=own_low h hB
theorem ycells_len(l:List Byt):(ycells l).length=l.length:=List.length_map _
theorem ycells_app(a b:List Byt):ycells (a++b)=ycells a++ycells b:=List.map_append
theorem ycells_one(l:List Byt):∀u∈ycells l,u.oneCell'=true:=by
 intro u hu
 obtain⟨r,_,hr⟩:=List.mem_map.1 hu
 subst hr;rfl
theorem ycells_get{l:List Byt}{i:Nat}{x:Byt}(h:l[i]?=some x):(ycells l)[i]?=some (Y x):=by unfold ycells;rw[List.getElem?_map,h];rfl
theorem BsAt.nil(w:World):BsAt w (.slice none 0 0) []:=Reads.nil w 1
theorem OwnY.nil(w:World)(B:Nat):OwnY w B (.slice none 0 0) []:=⟨rfl,.inl ⟨rfl,rfl⟩⟩
theorem BsAt.form{w:World}{v:Value}{l:List Byt}(h:BsAt w v l):
 ∃a cap,v=.slice a l.length cap/\l.length<=cap/\cap<=maxLen/\∀(i:Nat) (x:Byt),l[i]?=some x->∃b off,a=some ⟨b,off,none⟩/\w.cell? ⟨b,off+i,none⟩=some (Y x):=by
 obtain⟨h0,a,cap,h1,h2,h3,h4,h5⟩:=h
 refine⟨a,cap,h1,h2,h3,fun i x hi=>?_⟩
 have hil:=(List.getElem?_eq_some_iff.1 hi).1
 cases a with
 |none=>have:=h4 rfl;omega
 |some b=>
  obtain⟨e1,e2⟩:=h5 b rfl
  replace e1:b.spot=none:=by
   rcases e1 with e1|e1
   ·exact e1
   ·have:=ycells_len l;rw[e1]at this;simp at this;omega
  obtain⟨bb,bo,bs⟩:=b
  simp only at e1
  subst e1
  exact⟨bb,bo,rfl,e2 i (Y x) (ycells_get hi)⟩
theorem BsAt.piece{w:World}{v:Value}{l:List Byt}(h:BsAt w v l){j k:Nat}(hj:j<=k)(hk:k<=l.length):BsAt w (slv 1 v j k) ((l.take k).drop j):=by
 have:=Reads.piece h hj hk
 unfold BsAt
 rw[List.length_drop,List.length_take,Nat.min_eq_left hk]
 rw[Nat.mul_one,Nat.mul_one]at this
 unfold ycells at*
 rw[<-List.map_take,<-List.map_drop]at this
 exact this
theorem infoU8':(Tryz.prog.info? 5).map (fun i=>(i.zero,i.size,i.bytes))=some (some (.int .u8 0),1,1):=by kernel_rfl
theorem sizeU8(w:World):(sizeOf (Tryz.prog.elem 22)).run Tryz.prog w=.ok 1 w:=by kernel_rfl
theorem ownY_made(w:World)(l:List Byt)(h:l.length<=maxLen):OwnY (w.alloc (.cells (ycells l).toArray 5)) w.heap.size (.slice (some ⟨w.heap.size,0,none⟩) l.length l.length) l:=
 own_made w 1 5 l.length (ycells l) (by rw[ycells_len];omega) h
theorem ownY_blk{w:World}{b:Nat}{l:List Byt}(h:Blk w b (ycells l) 5)(hm:l.length<=maxLen):OwnY w b (.slice (some ⟨b,0,none⟩) l.length l.length) l:=by
 refine⟨by rw[ycells_len];omega,.inr ⟨b,l.length,(ycells l).toArray,rfl,Nat.le_refl _,h,Nat.le_refl _,hm,?_,?_⟩⟩
 ·simp[ycells_len]
 ·rw[Nat.mul_one];simp only[ycells];exact List.take_of_length_le (by simp)
def beN:Nat->Nat->List Byt
 |0,_=>[]
 |k+1,n=>beN k (n/256)++[byt n]
theorem beN_len:∀(k n:Nat),(beN k n).length=k
 |0,_=>rfl
 |k+1,n=>by unfold beN;rw[List.length_append,beN_len k];rfl
theorem beN_cons:∀(k n:Nat),beN (k+1) n=byt (n/256^k)::beN k n
 |0,n=>by simp[beN]
 |k+1,n=>by
  have h:=beN_cons k (n/256)
  rw[show beN (k+1+1) n=beN (k+1) (n/256)++[byt n]from rfl,h,show beN (k+1) n=beN k (n/256)++[byt n]from rfl,Nat.div_div_eq_div_mul,Nat.pow_succ,Nat.mul_comm 256]
  rfl
def deN(l:List Byt):Nat:=l.foldl (fun n b=>n*256+b.toNat) 0
theorem deN_snoc(l:List Byt)(b:Byt):deN (l++[b])=deN l*256+b.toNat:=by unfold deN;rw[List.foldl_append];rfl
theorem deN_lt:∀(k:Nat) (l:List Byt),l.length=k->deN l<256^k
 |0,l,h=>by rw[List.length_eq_zero_iff.1 h];decide
 |k+1,l,h=>by
  have hne:l≠[]:=fun e=>by rw[e]at h;cases h
  have e:=List.dropLast_concat_getLast hne
  have ih:=deN_lt k l.dropLast (by rw[List.length_dropLast,h];rfl)
  rw[<-e,deN_snoc]
  have hb:(l.getLast hne).toNat<256:=by omega
  have:(deN l.dropLast+1)*256<=256^k*256:=Nat.mul_le_mul_right _ ih
  rw[Nat.pow_succ]
  omega
theorem deN_beN:∀(k n:Nat),n<256^k->deN (beN k n)=n
 |0,n,h=>by have h0:n=0:=(by simpa using h);rw[h0];rfl
 |k+1,n,h=>by
  rw[show beN (k+1) n=beN k (n/256)++[byt n]from rfl,deN_snoc,deN_beN k (n/256) (by rw[Nat.pow_succ]at h;exact Nat.div_lt_of_lt_mul (by omega)),byt_nat]
  omega
theorem beN_deN:∀(k:Nat) (l:List Byt),l.length=k->beN k (deN l)=l
 |0,l,h=>by rw[List.length_eq_zero_iff.1 h];rfl
 |k+1,l,h=>by
  have hne:l≠[]:=fun e=>by rw[e]at h;cases h
  have e:=List.dropLast_concat_getLast hne
  have ih:=beN_deN k l.dropLast (by rw[List.length_dropLast,h];rfl)
  have hb:(l.getLast hne).toNat<256:=by omega
  rw[<-e,deN_snoc,show beN (k+1) (deN l.dropLast*256+(l.getLast hne).toNat)=beN k ((deN l.dropLast*256+(l.getLast hne).toNat)/256)++[byt (deN l.dropLast*256+(l.getLast hne).toNat)]from rfl,
   show(deN l.dropLast*256+(l.getLast hne).toNat)/256=deN l.dropLast by omega,ih]
  congr 2
  refine BitVec.eq_of_toNat_eq ?_
  rw[byt_nat];omega
def numPut(n:Int)(size:Int):List Byt × Int:=if 1<=size/\size<=4/\0<=n/\n<256^size.toNat then(beN size.toNat n.toNat,0)else([],1)
def numTake(l:List Byt)(size:Int):Int × Int:=if¬(1<=size/\size<=4)then(0,1)else if(l.length:Int)<size then(0,2)else(deN (l.take size.toNat),0)
theorem getD_left{l m:List Byt}{i:Nat}(h:i<l.length)(d:Byt):(l++m).getD i d=l.getD i d:=by
 rw[List.getD_eq_getElem?_getD,List.getElem?_append_left h,List.getD_eq_getElem?_getD]
theorem getD_right{l m:List Byt}{i:Nat}(h:l.length<=i)(d:Byt):(l++m).getD i d=m.getD (i-l.length) d:=by
 rw[List.getD_eq_getElem?_getD,List.getElem?_append_right h,List.getD_eq_getElem?_getD]
def gsize(n:Nat):Nat:=if n<128 then 1 else if n<16384 then 2 else if n<2097152 then 3 else 4
theorem gsize_bd(n:Nat):1<=gsize n/\gsize n<=4:=by unfold gsize;split<;>(try split)<;>(try split)<;>omega
def gmore:Nat->Nat->List Byt
 |0,_=>[]
 |k+1,n=>gmore k (n/128)++[byt (n%128+128)]
theorem gmore_len:∀(k n:Nat),(gmore k n).length=k
 |0,_=>rfl
 |k+1,n=>by unfold gmore;rw[List.length_append,gmore_len k];rfl
theorem gmore_cons:∀(k n:Nat),gmore (k+1) n=byt (n/128^k%128+128)::gmore k n
 |0,n=>by simp[gmore]
 |k+1,n=>by
  have h:=gmore_cons k (n/128)
  rw[show gmore (k+1+1) n=gmore (k+1) (n/128)++[byt (n%128+128)]from rfl,h,show gmore (k+1) n=gmore k (n/128)++[byt (n%128+128)]from rfl,Nat.div_div_eq_div_mul,Nat.pow_succ,Nat.mul_comm 128]
  rfl
def gput(n:Nat):List Byt:=gmore (gsize n-1) (n/128)++[byt (n%128)]
theorem gput_len(n:Nat):(gput n).length=gsize n:=by
 unfold gput
 have:=gsize_bd n
 rw[List.length_append,gmore_len]
 simp;omega
def gtk:Nat->Nat->List Byt->Nat × Nat × Int
 |i,_,[]=>if i=4 then(0,0,3)else(0,0,2)
 |i,v,c::r=>if i=0/\c=128#8 then(0,0,3)else if i=4 then(0,0,3)else if c.toNat<128 then(v*128+c.toNat%128,i+1,0)else gtk (i+1) (v*128+c.toNat%128) r
def gtake(l:List Byt):Nat × Nat × Int:=gtk 0 0 l
theorem gtk_four(v:Nat):∀l,gtk 4 v l=(0,0,3)
 |[]=>rfl
 |c::r=>by unfold gtk;rw[if_neg (by simp),if_pos rfl]
theorem gtk_ok:∀(l:List Byt) (i v n k:Nat),i<=4->gtk i v l=(n,k,0)->∃j:Nat,k=i+j+1/\j+i<4/\j<l.length/\(∀m:Nat,m<j->128<=(l.getD m 0).toNat)/\(l.getD j 0).toNat<128/\(i=0->l.getD 0 0≠128#8)/\
 n=(l.take (j+1)).foldl (fun v c=>v*128+c.toNat%128) v
 |[],i,v,n,k,_,h=>by unfold gtk at h;split at h<;>simp at h
 |c::r,i,v,n,k,hi,h=>by
  unfold gtk at h
  split at h
  ·simp at h
  ·rename_i h1
   split at h
   ·simp at h
   ·rename_i h2
    split at h
    ·rename_i h3
     simp only[Prod.mk.injEq]at h
     refine⟨0,by omega,by omega,by simp,fun m hm=>absurd hm (Nat.not_lt_zero m),by simpa using h3,fun h0 he=>h1 ⟨h0,by simpa using he⟩,?_⟩
     simp only[List.take_succ_cons,List.take_zero,List.foldl_cons,List.foldl_nil]
     exact h.1.symm
    ·rename_i h3
     obtain⟨j,g1,g2,g3,g4,g5,g6,g7⟩:=gtk_ok r (i+1) _ n k (by omega) h
     refine⟨j+1,by omega,by omega,by simpa using g3,fun m hm=>?_,by simpa using g5,fun h0 he=>h1 ⟨h0,by simpa using he⟩,?_⟩
     ·cases m with
      |zero=>simpa using h3
      |succ m=>simpa using g4 m (by omega)
     ·rw[List.take_succ_cons,List.foldl_cons];exact g7
theorem gtk_put:∀(j:Nat) (l r:List Byt) (i v:Nat),l.length=j+1->i+j<4->(∀m:Nat,m<j->128<=(l.getD m 0).toNat)->(l.getD j 0).toNat<128->(i=0->l.getD 0 0≠128#8)->
 gtk i v (l++r)=(l.foldl (fun v c=>v*128+c.toNat%128) v,i+j+1,0)
 |0,l,r,i,v,hl,hi,_,h2,h3=>by
  match l,hl with
  |[c],_=>
   simp only[List.getD_cons_zero]at h2 h3
   show gtk i v (c::r)=_
   unfold gtk
   rw[if_neg (fun h=>h3 h.1 h.2),if_neg (by omega),if_pos h2]
   rfl
 |j+1,l,r,i,v,hl,hi,h1,h2,h3=>by
  match l,hl with
  |c::t,hl=>
   have hc:=h1 0 (Nat.succ_pos j)
   simp only[List.getD_cons_zero]at hc h3
   have ih:=gtk_put j t r (i+1) (v*128+c.toNat%128) (by simpa using hl) (by omega) (fun m hm=>by simpa using h1 (m+1) (by omega)) (by simpa using h2) (fun h=>by omega)
   show gtk i v (c::(t++r))=_
   unfold gtk
   rw[if_neg (fun h=>h3 h.1 h.2),if_neg (by omega),if_neg (by omega),ih,List.foldl_cons]
   congr 2
   omega
def dg(l:List Byt)(v:Nat):Nat:=l.foldl (fun v c=>v*128+c.toNat%128) v
theorem dg_snoc(l:List Byt)(c:Byt)(v:Nat):dg (l++[c]) v=dg l v*128+c.toNat%128:=by unfold dg;rw[List.foldl_append];rfl
theorem dg_more:∀(k n:Nat),n<128^k->dg (gmore k n) 0=n
 |0,n,h=>by have h0:n=0:=(by simpa using h);rw[h0];rfl
 |k+1,n,h=>by
  rw[show gmore (k+1) n=gmore k (n/128)++[byt (n%128+128)]from rfl,dg_snoc,dg_more k (n/128) (by rw[Nat.pow_succ]at h;exact Nat.div_lt_of_lt_mul (by omega)),byt_nat]
  omega
theorem gsize_lt{n:Nat}(h:n<268435456):n/128<128^(gsize n-1):=by
 unfold gsize
 split
 ·simp;omega
 ·split
  ·simp;omega
  ·split
   ·simp;omega
   ·simp;omega
theorem dg_put{n:Nat}(h:n<268435456):dg (gput n) 0=n:=by
 unfold gput
 rw[dg_snoc,dg_more _ _ (gsize_lt h),byt_nat]
 omega
theorem gmore_get(k n m:Nat)(h:m<k):128<=((gmore k n).getD m 0).toNat:=by
 induction k generalizing n with
 |zero=>omega
 |succ k ih=>
  unfold gmore
  rcases Nat.lt_or_ge m k with g|g
  ·rw[getD_left (by rw[gmore_len];exact g)]
   exact ih _ g
  ·rw[getD_right (by rw[gmore_len];exact g),gmore_len,show m-k=0 by omega]
   show 128<=(byt (n%128+128)).toNat
   rw[byt_nat];omega
theorem gput_first{n:Nat}(h:n<268435456):(gput n).getD 0 0≠128#8:=by
 intro e
 have e2:=congrArg BitVec.toNat e
 unfold gput gsize at e2
 split at e2
 ·rename_i g
  simp[gmore,byt_nat]at e2
  omega
 ·split at e2
  ·simp[gmore,byt_nat]at e2
   omega
  ·split at e2
   ·simp[gmore,byt_nat]at e2
    omega
   ·simp[gmore,byt_nat]at e2
    omega
theorem gtake_gput{n:Nat}(h:n<268435456)(r:List Byt):gtake (gput n++r)=(n,gsize n,0):=by
 have hb:=gsize_bd n
 have hl:=gput_len n
 unfold gtake
 rw[gtk_put (gsize n-1) (gput n) r 0 0 (by rw[hl];omega) (by omega) (fun m hm=>?_) ?_ (fun _=>gput_first h)]
 ·rw[show(gput n).foldl (fun v c=>v*128+c.toNat%128) 0=n from dg_put h]
  congr 2
  omega
 ·unfold gput
  rw[getD_right (by rw[gmore_len];exact Nat.le_refl _),gmore_len,Nat.sub_self]
  show(byt (n%128)).toNat<128
  rw[byt_nat];omega
 ·unfold gput
  rw[getD_left (by rw[gmore_len];exact hm)]
  exact gmore_get _ _ _ hm
theorem dg_ge:∀(t:List Byt) (a:Nat),a*128^t.length<=dg t a
 |[],a=>by simp[dg]
 |c::t,a=>by
  have h:=dg_ge t (a*128+c.toNat%128)
  rw[List.length_cons,Nat.pow_succ]
  refine Nat.le_trans ?_ h
  have e:a*(128^t.length*128)=(a*128)*128^t.length:=by rw[Nat.mul_comm (128^t.length) 128,Nat.mul_assoc]
  rw[e]
  exact Nat.mul_le_mul_right _ (by omega)
theorem dg_lt:∀(k:Nat) (l:List Byt),l.length=k->dg l 0<128^k
 |0,l,h=>by rw[List.length_eq_zero_iff.1 h];decide
 |k+1,l,h=>by
  have hne:l≠[]:=fun e=>by rw[e]at h;cases h
  have e:=List.dropLast_concat_getLast hne
  have ih:=dg_lt k l.dropLast (by rw[List.length_dropLast,h];rfl)
  rw[<-e,dg_snoc]
  have:(dg l.dropLast 0+1)*128<=128^k*128:=Nat.mul_le_mul_right _ ih
  rw[Nat.pow_succ]
  omega
theorem gmore_dg:∀(k:Nat) (l:List Byt),l.length=k->(∀m:Nat,m<k->128<=(l.getD m 0).toNat)->gmore k (dg l 0)=l
 |0,l,h,_=>by rw[List.length_eq_zero_iff.1 h];rfl
 |k+1,l,h,hm=>by
  have hne:l≠[]:=fun e=>by rw[e]at h;cases h
  have e:=List.dropLast_concat_getLast hne
  have hdl:l.dropLast.length=k:=by rw[List.length_dropLast,h];rfl
  have ih:=gmore_dg k l.dropLast hdl fun m hmk=>by
   have:=hm m (by omega)
   rw[<-e,getD_left (by rw[hdl];exact hmk)]at this
   exact this
  have hb:(l.getLast hne).toNat<256:=by omega
  have hb2:128<=(l.getLast hne).toNat:=by
   have:=hm k (Nat.lt_succ_self k)
   rw[<-e,getD_right (by rw[hdl];exact Nat.le_refl _),hdl,Nat.sub_self]at this
   exact this
  rw[<-e,dg_snoc,show gmore (k+1) (dg l.dropLast 0*128+(l.getLast hne).toNat%128)=gmore k ((dg l.dropLast 0*128+(l.getLast hne).toNat%128)/128)++[byt ((dg l.dropLast 0*128+(l.getLast hne).toNat%128)%128+128)]from rfl,
   show(dg l.dropLast 0*128+(l.getLast hne).toNat%128)/128=dg l.dropLast 0 by omega,ih]
  congr 2
  refine BitVec.eq_of_toNat_eq ?_
  rw[byt_nat];omega
theorem gput_gtake{l:List Byt}{n k:Nat}(h:gtake l=(n,k,0)):k=gsize n/\n<268435456/\k<=l.length/\l.take k=gput n:=by
 obtain⟨j,h1,h2,h3,h4,h5,h6,h7⟩:=gtk_ok l 0 0 n k (by omega) h
 obtain rfl:k=j+1:=by omega
 have hn:n=dg (l.take (j+1)) 0:=h7
 have hlen:(l.take (j+1)).length=j+1:=by rw[List.length_take];omega
 have hlt:=dg_lt (j+1) _ hlen
 have hsn:l.take (j+1)=l.take j++[l[j]]:=List.take_succ_eq_append_getElem h3
 have hj5:l[j].toNat<128:=by rw[List.getD_eq_getElem?_getD,gE h3]at h5;exact h5
 have hmr:gmore j (dg (l.take j) 0)=l.take j:=gmore_dg j _ (by rw[List.length_take];omega) fun m hm=>by
  have:=h4 m hm
  rw[List.getD_eq_getElem?_getD]at*
  rw[List.getElem?_take_of_lt hm];exact this
 have hnv:n=dg (l.take j) 0*128+l[j].toNat:=by rw[hn,hsn,dg_snoc];omega
 have hd:=dg_lt j (l.take j) (by rw[List.length_take];omega)
 have hsz:gsize n=j+1:=by
  have hlow:0<j->128^j<=n:=fun hj=>by
   have h0:=h6 rfl
   have h40:=h4 0 hj
   have hf:1<=(l.getD 0 0).toNat%128:=by
    rcases Nat.eq_zero_or_pos ((l.getD 0 0).toNat%128)with g|g
    ·exfalso
     apply h0
     refine BitVec.eq_of_toNat_eq ?_
     show(l.getD 0 0).toNat=128
     have:=(l.getD 0 0).isLt
     omega
    ·exact g
   obtain⟨c,t,hct⟩:∃c t,l.take (j+1)=c::t:=by
    cases hh:l.take (j+1)with
    |nil=>rw[hh]at hlen;cases hlen
    |cons c t=>exact⟨c,t,rfl⟩
   have hc0:l.getD 0 0=c:=by
    have:(l.take (j+1)).getD 0 0=c:=by rw[hct];rfl
    rw[List.getD_eq_getElem?_getD,List.getElem?_take_of_lt (by omega)]at this
    rw[List.getD_eq_getElem?_getD];exact this
   rw[hn,hct]
   have htl:t.length=j:=by rw[hct]at hlen;simpa using hlen
   show 128^j<=dg t (0*128+c.toNat%128)
   rw[<-htl]
   refine Nat.le_trans ?_ (dg_ge t _)
   exact Nat.le_mul_of_pos_left _ (by rw[hc0]at hf;omega)
  unfold gsize
  have hj4:j<4:=by omega
  match j,hj4 with
  |0,_=>simp at hlt;rw[if_pos (by omega)]
  |1,_=>have:=hlow (by omega);simp at this hlt;rw[if_neg (by omega),if_pos (by omega)]
  |2,_=>have:=hlow (by omega);simp at this hlt;rw[if_neg (by omega),if_neg (by omega),if_pos (by omega)]
  |3,_=>have:=hlow (by omega);simp at this hlt;rw[if_neg (by omega),if_neg (by omega),if_neg (by omega)]
 refine⟨hsz.symm,?_,by omega,?_⟩
 ·have:128^(j+1)<=128^4:=Nat.pow_le_pow_right (by omega) (by omega)
  rw[hn];omega
 ·unfold gput
  rw[hsz,Nat.add_sub_cancel,show n/128=dg (l.take j) 0 by omega,hmr,hsn]
  congr 2
  refine BitVec.eq_of_toNat_eq ?_
  rw[byt_nat];omega
def poly:BitVec 32:=0x82F63B78#32
def crcBit(s:BitVec 32):BitVec 32:=(s>>>1)^^^(if s.getLsbD 0 then poly else 0#32)
def crcIt:Nat->BitVec 32->BitVec 32
 |0,s=>s
 |k+1,s=>crcIt k (crcBit s)
def crcStep(s:BitVec 32)(c:Byt):BitVec 32:=crcIt 8 (s^^^c.setWidth 32)
def crcAll(s:BitVec 32)(l:List Byt):BitVec 32:=l.foldl crcStep s
def crcMore(s:BitVec 32)(l:List Byt):BitVec 32:= ~~~ (crcAll (~~~ s) l)
def crcSum(l:List Byt):BitVec 32:=crcMore 0#32 l
theorem crcBit_xor(x y:BitVec 32):crcBit (x^^^y)=crcBit x^^^crcBit y:=by
 unfold crcBit
 rw[BitVec.ushiftRight_xor_distrib,BitVec.getLsbD_xor]
 have e:∀a b:BitVec 32,a^^^b=(a^^^poly)^^^(b^^^poly):=fun a b=>by
  rw[show a^^^poly^^^(b^^^poly)=(a^^^b)^^^(poly^^^poly)by ac_rfl,BitVec.xor_self,BitVec.xor_zero]
 cases x.getLsbD 0<;>cases y.getLsbD 0
 ·simp
 ·simp;ac_rfl
 ·simp;ac_rfl
 ·simpa using e (x>>>1) (y>>>1)
theorem crcIt_xor:∀(k:Nat) (x y:BitVec 32),crcIt k (x^^^y)=crcIt k x^^^crcIt k y
 |0,_,_=>rfl
 |k+1,x,y=>by show crcIt k (crcBit (x^^^y))=_;rw[crcBit_xor,crcIt_xor k];rfl
theorem crcIt_low:∀(k:Nat) (x:BitVec 32),(∀i,i<k->x.getLsbD i=false)->crcIt k x=x>>>k
 |0,x,_=>by simp[crcIt]
 |k+1,x,h=>by
  have h0:=h 0 (Nat.succ_pos k)
  have e:crcBit x=x>>>1:=by unfold crcBit;rw[h0];simp
  show crcIt k (crcBit x)=_
  rw[e,crcIt_low k (x>>>1) fun i hi=>by rw[BitVec.getLsbD_ushiftRight];exact h (1+i) (by omega)]
  refine BitVec.eq_of_getLsbD_eq fun i _=>?_
  rw[BitVec.getLsbD_ushiftRight,BitVec.getLsbD_ushiftRight,BitVec.getLsbD_ushiftRight]
  congr 1
  omega
theorem crcStep_table(s:BitVec 32)(c:Byt):crcStep s c=(s>>>8)^^^crcStep 0#32 (s.setWidth 8^^^c):=by
 have e1:s^^^c.setWidth 32=(s&&& ~~~ 255#32)^^^((0#32:BitVec 32)^^^((s.setWidth 8^^^c).setWidth 32:BitVec 32)):=by
  refine BitVec.eq_of_getLsbD_eq fun i hi=>?_
  simp only[BitVec.getLsbD_xor,BitVec.getLsbD_and,BitVec.getLsbD_setWidth,BitVec.getLsbD_not,BitVec.getLsbD_zero]
  have h255:(255#32).getLsbD i=decide (i<8):=by
   rcases Nat.lt_or_ge i 8 with g|g
   ·rw[dT g]
    match i,g with
    |0,_=>rfl
    |1,_=>rfl
    |2,_=>rfl
    |3,_=>rfl
    |4,_=>rfl
    |5,_=>rfl
    |6,_=>rfl
    |7,_=>rfl
   ·rw[dF (by omega),BitVec.getLsbD_ofNat]
    have:Nat.testBit 255 i=false:=Nat.testBit_lt_two_pow (Nat.lt_of_lt_of_le (by decide:255<2^8) (Nat.pow_le_pow_right (by omega) g))
    simp[this]
  rw[h255]
  by_cases g:i<8
  ·simp[g,hi]
  ·have:c.getLsbD i=false:=BitVec.getLsbD_of_ge c i (by omega)
   simp[g,hi,this]
 have e2:(s&&& ~~~ 255#32)>>>8=s>>>8:=by
  refine BitVec.eq_of_getLsbD_eq fun i hi=>?_
  simp only[BitVec.getLsbD_ushiftRight,BitVec.getLsbD_and,BitVec.getLsbD_not]
  by_cases g:8+i<32
  ·have h255:(255#32).getLsbD (8+i)=false:=by
    rw[BitVec.getLsbD_ofNat]
    have:Nat.testBit 255 (8+i)=false:=Nat.testBit_lt_two_pow (Nat.lt_of_lt_of_le (by decide:255<2^8) (Nat.pow_le_pow_right (by omega) (by omega)))
    simp[this]
   rw[h255,dT g]
   cases s.getLsbD (8+i)<;>rfl
  ·rw[BitVec.getLsbD_of_ge s (8+i) (by omega)];simp
 unfold crcStep
 rw[e1,crcIt_xor,crcIt_low 8 (s&&& ~~~ 255#32),e2]
 intro i hi
 rw[BitVec.getLsbD_and,BitVec.getLsbD_not]
 have:(255#32).getLsbD i=true:=by
  match i,hi with
  |0,_=>rfl
  |1,_=>rfl
  |2,_=>rfl
  |3,_=>rfl
  |4,_=>rfl
  |5,_=>rfl
  |6,_=>rfl
  |7,_=>rfl
 simp[this]
theorem xor_zero{x y:BitVec 32}(h:x^^^y=0#32):x=y:=by
 have h2:x^^^y^^^y=0#32^^^y:=by rw[h]
 rwa [BitVec.xor_assoc,BitVec.xor_self,BitVec.xor_zero,BitVec.zero_xor]at h2
def be4(n:BitVec 32):List Byt:=beN 4 n.toNat
theorem be4_len(n:BitVec 32):(be4 n).length=4:=beN_len 4 _
def fput(m:BitVec 32)(b:List Byt):List Byt:=be4 m++b++be4 (crcSum (be4 m++b))
theorem fput_len(m:BitVec 32)(b:List Byt):(fput m b).length=b.length+8:=by
 unfold fput
 rw[List.length_append,List.length_append,be4_len,be4_len];omega
def ftake(m:BitVec 32)(l:List Byt):List Byt × Int:=
 if l.length<8 then([],2)else if l.take 4≠be4 m then([],5)else if l.drop (l.length-4)≠be4 (crcSum (l.take (l.length-4)))then([],6)else((l.take (l.length-4)).drop 4,0)
theorem fput_parts(m:BitVec 32)(b:List Byt):(fput m b).take 4=be4 m/\(fput m b).take ((fput m b).length-4)=be4 m++b/\(fput m b).drop ((fput m b).length-4)=be4 (crcSum (be4 m++b)):=by
 have hl:(fput m b).length-4=(be4 m++b).length:=by rw[fput_len,List.length_append,be4_len];omega
 rw[hl]
 unfold fput
 refine⟨?_,List.take_left,List.drop_left⟩
 rw[List.append_assoc,List.take_append_of_le_length (by rw[be4_len];exact Nat.le_refl _),List.take_of_length_le (by rw[be4_len];exact Nat.le_refl _)]
theorem ftake_fput(m:BitVec 32)(b:List Byt):ftake m (fput m b)=(b,0):=by
 obtain⟨h1,h2,h3⟩:=fput_parts m b
 unfold ftake
 rw[if_neg (by rw[fput_len];omega),if_neg (by rw[h1];simp),if_neg (by rw[h2,h3];simp),h2]
 have e:(be4 m++b).drop 4=b:=by rw[List.drop_append_of_le_length (by rw[be4_len];exact Nat.le_refl _),List.drop_of_length_le (by rw[be4_len];exact Nat.le_refl _),List.nil_append]
 rw[e]
theorem fput_ftake{m:BitVec 32}{l b:List Byt}(h:ftake m l=(b,0)):l=fput m b:=by
 unfold ftake at h
 split at h
 ·simp at h
 ·rename_i h1
  split at h
  ·simp at h
  ·rename_i h2
   split at h
   ·simp at h
   ·rename_i h3
    have h2':=Classical.not_not.1 h2
    have h3':=Classical.not_not.1 h3
    simp only[Prod.mk.injEq,and_true]at h
    have e:l.take (l.length-4)=be4 m++b:=by
     rw[<-List.take_append_drop 4 (l.take (l.length-4)),h,List.take_take,Nat.min_eq_left (by omega),h2']
    unfold fput
    rw[<-e,<-h3',List.take_append_drop]
structure RulB(r:Rul):Prop where
 pl:0<=r.pl/\r.pl<256
 act:0<=r.act/\r.act<256
 nx:0<=r.nx/\r.nx<65536
def ruleB(r:Rul):List Byt:=be4 r.pa++(beN 1 r.pl.toNat++(beN 1 r.act.toNat++beN 2 r.nx.toNat))
theorem ruleB_len(r:Rul):(ruleB r).length=8:=by unfold ruleB;simp[be4_len,beN_len]
def rulOf(l:List Byt):Rul:=⟨BitVec.ofNat 32 (deN (l.take 4)),deN ((l.drop 4).take 1),deN ((l.drop 5).take 1),deN ((l.drop 6).take 2)⟩
theorem rulOf_ruleB{r:Rul}(h:RulB r)(t:List Byt):rulOf (ruleB r++t)=r:=by
 obtain⟨⟨p1,p2⟩,⟨a1,a2⟩,n1,n2⟩:=h
 have h4:=be4_len r.pa
 have e1:(ruleB r++t).take 4=be4 r.pa:=by
  unfold ruleB
  rw[List.append_assoc,List.take_append_of_le_length (by omega),List.take_of_length_le (by omega)]
 have e0:(ruleB r++t).drop 4=beN 1 r.pl.toNat++(beN 1 r.act.toNat++beN 2 r.nx.toNat)++t:=by
  unfold ruleB
  rw[List.append_assoc,List.drop_append_of_le_length (by omega),List.drop_of_length_le (by omega)];rfl
 have e2:((ruleB r++t).drop 4).take 1=beN 1 r.pl.toNat:=by
  rw[e0,List.append_assoc,List.take_append_of_le_length (by rw[beN_len];omega),List.take_of_length_le (by rw[beN_len];omega)]
 have e3:(ruleB r++t).drop 5=beN 1 r.act.toNat++beN 2 r.nx.toNat++t:=by
  rw[show 5=4+1 from rfl,<-List.drop_drop,e0,List.append_assoc,List.drop_append_of_le_length (by rw[beN_len];omega),List.drop_of_length_le (by rw[beN_len];omega)];rfl
 have e4:((ruleB r++t).drop 5).take 1=beN 1 r.act.toNat:=by
  rw[e3,List.append_assoc,List.take_append_of_le_length (by rw[beN_len];omega),List.take_of_length_le (by rw[beN_len];omega)]
 have e5:(ruleB r++t).drop 6=beN 2 r.nx.toNat++t:=by
  rw[show 6=5+1 from rfl,<-List.drop_drop,e3,List.append_assoc,List.drop_append_of_le_length (by rw[beN_len];omega),List.drop_of_length_le (by rw[beN_len];omega)];rfl
 have e6:((ruleB r++t).drop 6).take 2=beN 2 r.nx.toNat:=by
  rw[e5,List.take_append_of_le_length (by rw[beN_len];omega),List.take_of_length_le (by rw[beN_len];omega)]
 unfold rulOf
 rw[e1,e2,e4,e6]
 unfold be4
 rw[deN_beN 4 _ (by omega),deN_beN 1 _ (by omega),deN_beN 1 _ (by omega),deN_beN 2 _ (by omega),Int.toNat_of_nonneg p1,Int.toNat_of_nonneg a1,Int.toNat_of_nonneg n1]
 simp
theorem ruleB_rulOf{l:List Byt}(h:8<=l.length):RulB (rulOf l)/\ruleB (rulOf l)=l.take 8:=by
 have h1:=deN_lt 4 (l.take 4) (by rw[List.length_take];omega)
 have h2:=deN_lt 1 ((l.drop 4).take 1) (by rw[List.length_take,List.length_drop];omega)
 have h3:=deN_lt 1 ((l.drop 5).take 1) (by rw[List.length_take,List.length_drop];omega)
 have h4:=deN_lt 2 ((l.drop 6).take 2) (by rw[List.length_take,List.length_drop];omega)
 refine⟨⟨⟨by unfold rulOf;simp,by unfold rulOf;simp;omega⟩,⟨by unfold rulOf;simp,by unfold rulOf;simp;omega⟩,by unfold rulOf;simp,by unfold rulOf;simp;omega⟩,?_⟩
 unfold ruleB be4 rulOf
 simp only[Int.toNat_natCast,BitVec.toNat_ofNat]
 rw[Nat.mod_eq_of_lt (by omega),beN_deN 4 _ (by rw[List.length_take];omega),beN_deN 1 _ (by rw[List.length_take,List.length_drop];omega),beN_deN 1 _ (by rw[List.length_take,List.length_drop];omega),beN_deN 2 _ (by rw[List.length_take,List.length_drop];omega)]
 have e:∀(a b:Nat),l.take (a+b)=l.take a++(l.drop a).take b:=fun a b=>List.take_add
 rw[show(8:Nat)=4+4 from rfl,e 4 4]
 congr 1
 have e':∀(m:List Byt) (a b:Nat),m.take (a+b)=m.take a++(m.drop a).take b:=fun m a b=>List.take_add
 rw[show(4:Nat)=1+3 from rfl,e' (l.drop (1+3)) 1 3,List.drop_drop]
 congr 1
 rw[show(3:Nat)=1+2 from rfl,e' (l.drop (1+(1+2)+1)) 1 2,List.drop_drop]
def ruleOne(b:List Byt):Except Int (Rul × List Byt):=if b.length<8 then .error 2 else .ok (rulOf b,b.drop 8)
def bindE{α β:Type}(x:Except Int α)(f:α->Except Int β):Except Int β:=
 match x with
 | .error e=>.error e
 | .ok y=>f y
theorem bindE_ok{α β:Type}{x:Except Int α}{f:α->Except Int β}{z:β}(h:bindE x f=.ok z):∃y,x=.ok y/\f y=.ok z:=by
 cases x with
 |error e=>cases h
 |ok y=>exact⟨y,rfl,h⟩
theorem bindE_assoc{α β γ:Type}(x:Except Int α)(f:α->Except Int β)(g:β->Except Int γ):bindE (bindE x f) g=bindE x fun y=>bindE (f y) g:=by
 cases x<;>rfl
section
variable {α:Type} (one:List Byt->Except Int (α × List Byt))
def takeNs:Nat->List Byt->Except Int (List α × List Byt)
 |0,b=>.ok ([],b)
 |k+1,b=>bindE (one b) fun q=>bindE (takeNs k q.2) fun p=>.ok (q.1::p.1,p.2)
theorem takeNs_snoc:∀(k:Nat) (b:List Byt),takeNs one (k+1) b=bindE (takeNs one k b) fun p=>bindE (one p.2) fun q=>.ok (p.1++[q.1],q.2)
 |0,b=>by
  rw[takeNs]
  show bindE (one b) (fun q=>bindE (.ok ([],q.2)) fun p=>.ok (q.1::p.1,p.2))=bindE (one b) fun q=>.ok ([]++[q.1],q.2)
  cases one b<;>rfl
 |k+1,b=>by
  rw[takeNs,takeNs,bindE_assoc]
  congr 1
  funext q
  rw[takeNs_snoc k q.2,bindE_assoc,bindE_assoc]
  congr 1
  funext p
  rw[bindE_assoc]
  show _=bindE (one p.2) _
  congr 1
theorem takeNs_len:∀(k:Nat) (b:List Byt) {xs:List α} {r:List Byt},takeNs one k b=.ok (xs,r)->xs.length=k
 |0,b,xs,r,h=>by cases h;rfl
 |k+1,b,xs,r,h=>by
  obtain⟨q,h1,h2⟩:=bindE_ok h
  obtain⟨p,h3,h4⟩:=bindE_ok h2
  cases h4
  rw[List.length_cons,takeNs_len k _ h3]
theorem takeNs_bad{k m:Nat}{b:List Byt}{xs:List α}{r:List Byt}{e:Int}(h:takeNs one k b=.ok (xs,r))(ho:one r=.error e)(hk:k<m):takeNs one m b=.error e:=by
 obtain⟨d,rfl⟩:∃d,m=k+1+d:=⟨m-(k+1),by omega⟩
 induction d with
 |zero=>
  rw[Nat.add_zero,takeNs_snoc,h]
  show bindE (one r) _=_
  rw[ho];rfl
 |succ d ih=>rw[<-Nat.add_assoc,takeNs_snoc,ih (by omega)];rfl
def takeAllL(bound:Nat)(b:List Byt):Except Int (List α):=
 if(gtake b).2.2≠0 then .error (gtake b).2.2 else if bound<(gtake b).1 then .error 12 else
  bindE (takeNs one (gtake b).1 (b.drop (gtake b).2.1)) fun p=>if 0<p.2.length then .error 4 else .ok p.1
theorem takeNs_put{put:α->List Byt}:∀{l:List α} (t:List Byt),(∀x∈l,∀t,one (put x++t)=.ok (x,t))->takeNs one l.length (l.flatMap put++t)=.ok (l,t)
 |[],t,_=>rfl
 |x::l,t,h=>by
  rw[List.length_cons,takeNs,List.flatMap_cons,List.append_assoc,h x (List.mem_cons_self ..)]
  show bindE (takeNs one l.length (l.flatMap put++t)) _=_
  rw[takeNs_put t fun y hy=>h y (List.mem_cons_of_mem _ hy)];rfl
theorem takeAllL_put{put:α->List Byt}{l:List α}{bound:Nat}(hb:l.length<=bound)(hm:l.length<268435456)(h:∀x∈l,∀t,one (put x++t)=.ok (x,t)):takeAllL one bound (gput l.length++l.flatMap put)=.ok l:=by
 have hg:=gtake_gput hm (l.flatMap put)
 have hd:(gput l.length++l.flatMap put).drop (gsize l.length)=l.flatMap put:=by rw[<-gput_len,List.drop_left]
 have hp:=takeNs_put (one:=one) (put:=put) [] h
 rw[List.append_nil]at hp
 unfold takeAllL
 rw[hg]
 simp only
 rw[if_neg (by simp),if_neg (by omega),hd,hp]
 rfl
theorem takeNs_is{put:α->List Byt}{P:α->Prop}(h:∀b x r,one b=.ok (x,r)->b=put x++r/\P x):∀(k:Nat) (b:List Byt) {l:List α} {r:List Byt},takeNs one k b=.ok (l,r)->b=l.flatMap put++r/\∀x∈l,P x
 |0,b,l,r,hk=>by cases hk;exact⟨rfl,fun x hx=>by cases hx⟩
 |k+1,b,l,r,hk=>by
  obtain⟨q,h1,h2⟩:=bindE_ok hk
  obtain⟨p,h3,h4⟩:=bindE_ok h2
  cases h4
  obtain⟨g1,g2⟩:=h _ _ _ h1
  obtain⟨g3,g4⟩:=takeNs_is h k _ h3
  refine⟨by rw[List.flatMap_cons,List.append_assoc,<-g3];exact g1,fun y hy=>?_⟩
  rcases List.mem_cons.1 hy with rfl|hy
  ·exact g2
  ·exact g4 y hy
theorem takeAllL_is{put:α->List Byt}{P:α->Prop}(h:∀b x r,one b=.ok (x,r)->b=put x++r/\P x){bound:Nat}{b:List Byt}{l:List α}(hk:takeAllL one bound b=.ok l):b=gput l.length++l.flatMap put/\(∀x∈l,P x)/\l.length<=bound:=by
 unfold takeAllL at hk
 by_cases h1:(gtake b).2.2≠0
 ·rw[if_pos h1]at hk;cases hk
 rw[if_neg h1]at hk
 by_cases h2:bound<(gtake b).1
 ·rw[if_pos h2]at hk;cases hk
 rw[if_neg h2]at hk
 obtain⟨p,h3,h4⟩:=bindE_ok hk
 by_cases h5:0<p.2.length
 ·rw[if_pos h5]at h4;cases h4
 rw[if_neg h5]at h4
 cases h4
 have hr:p.2=[]:=List.eq_nil_of_length_eq_zero (by omega)
 obtain⟨g1,g2⟩:=takeNs_is one h _ _ h3
 have hl:=takeNs_len one _ _ h3
 have hg:gtake b=((gtake b).1,(gtake b).2.1,0):=by rw[<-Classical.not_not.1 h1]
 obtain⟨e1,e2,e3,e4⟩:=gput_gtake hg
 refine⟨?_,g2,by omega⟩
 rw[hr,List.append_nil]at g1
 rw[hl,<-e4,<-g1,List.take_append_drop]
end
def openL(tag:Byt)(b:List Byt):Except Int (List Byt × List Byt):=
 match b with
 |[]=>.error 2
 |c::t=>if c≠tag then .error 3 else if(gtake t).2.2≠0 then .error (gtake t).2.2 else
  if(t.drop (gtake t).2.1).length<(gtake t).1 then .error 2 else .ok ((t.drop (gtake t).2.1).take (gtake t).1,(t.drop (gtake t).2.1).drop (gtake t).1)
def sectB(tag:Byt)(b:List Byt):List Byt:=tag::(gput b.length++b)
theorem openL_sectB{tag:Byt}{b:List Byt}(h:b.length<268435456)(t:List Byt):openL tag (sectB tag b++t)=.ok (b,t):=by
 have hg:=gtake_gput h (b++t)
 have hd:(gput b.length++(b++t)).drop (gsize b.length)=b++t:=by rw[<-gput_len,List.drop_left]
 show openL tag (tag::(gput b.length++b++t))=_
 rw[List.append_assoc]
 unfold openL
 simp only
 rw[if_neg (by simp),hg]
 simp only
 rw[if_neg (by simp),hd,if_neg (by rw[List.length_append];omega),List.take_left,List.drop_left]
theorem sectB_openL{tag:Byt}{b x r:List Byt}(h:openL tag b=.ok (x,r)):b=sectB tag x++r/\x.length<268435456:=by
 unfold openL at h
 split at h
 ·cases h
 ·rename_i c t
  split at h
  ·cases h
  ·rename_i h1
   split at h
   ·cases h
   ·rename_i h2
    split at h
    ·cases h
    ·rename_i h3
     cases h
     have hg:gtake t=((gtake t).1,(gtake t).2.1,0):=by
      have:=Classical.not_not.1 h2
      rw[<-this]
     obtain⟨e1,e2,e3,e4⟩:=gput_gtake hg
     have hl:((t.drop (gtake t).2.1).take (gtake t).1).length=(gtake t).1:=by rw[List.length_take];omega
     unfold sectB
     rw[hl,Classical.not_not.1 h1]
     refine⟨?_,e2⟩
     rw[List.cons_append,List.append_assoc,List.take_append_drop,<-e4,List.take_append_drop]
def nodeB(l:List Rul):List Byt:=sectB 84#8 (gput l.length++l.flatMap ruleB)
def netB(ls:List (List Rul)):List Byt:=gput ls.length++ls.flatMap nodeB
def nodeOne(b:List Byt):Except Int (List Rul × List Byt):=bindE (openL 84#8 b) fun q=>bindE (takeAllL ruleOne 4096 q.1) fun l=>.ok (l,q.2)
def magN:BitVec 32:=0x46494231#32
def magC:BitVec 32:=0x43525431#32
def netTake(b:List Byt):Except Int (List (List Rul)):=
 if(ftake magN b).2≠0 then .error (ftake magN b).2 else
  bindE (takeAllL nodeOne 256 (ftake magN b).1) fun ls=>if netMayV ls≠0 then .error (netMayV ls)else .ok ls
def netPut(ls:List (List Rul)):List Byt:=fput magN (netB ls)
theorem flat8(l:List Rul):(l.flatMap ruleB).length=l.length*8:=by
 induction l with
 |nil=>rfl
 |cons r l ih=>rw[List.flatMap_cons,List.length_append,ih,ruleB_len,List.length_cons];omega
theorem ruleOne_put{r:Rul}(h:RulB r)(t:List Byt):ruleOne (ruleB r++t)=.ok (r,t):=by
 unfold ruleOne
 rw[if_neg (by rw[List.length_append,ruleB_len];omega),rulOf_ruleB h]
 have e:(ruleB r++t).drop 8=t:=by
  rw[List.drop_append_of_le_length (by rw[ruleB_len];exact Nat.le_refl _),List.drop_of_length_le (by rw[ruleB_len];exact Nat.le_refl _)]
  exact List.nil_append t
 rw[e]
theorem ruleOne_is(b:List Byt)(r:Rul)(t:List Byt)(h:ruleOne b=.ok (r,t)):b=ruleB r++t/\RulB r:=by
 unfold ruleOne at h
 split at h
 ·cases h
 ·cases h
  obtain⟨h1,h2⟩:=ruleB_rulOf (l:=b) (by omega)
  exact⟨by rw[h2,List.take_append_drop],h1⟩
theorem nodeOne_put{l:List Rul}(h:∀r∈l,RulB r)(hl:l.length<=4096)(t:List Byt):nodeOne (nodeB l++t)=.ok (l,t):=by
 have hg:=gput_len l.length
 have hb:=gsize_bd l.length
 unfold nodeOne nodeB
 rw[openL_sectB (by rw[List.length_append,flat8];omega)]
 show bindE (takeAllL ruleOne 4096 (gput l.length++l.flatMap ruleB)) _=_
 rw[takeAllL_put ruleOne hl (by omega) fun r hr t=>ruleOne_put (h r hr) t]
 rfl
theorem nodeOne_is(b:List Byt)(l:List Rul)(t:List Byt)(h:nodeOne b=.ok (l,t)):b=nodeB l++t/\(∀r∈l,RulB r)/\l.length<=4096:=by
 obtain⟨q,h1,h2⟩:=bindE_ok h
 obtain⟨l',h3,h4⟩:=bindE_ok h2
 cases h4
 obtain⟨g1,_⟩:=sectB_openL h1
 obtain⟨g2,g3,g4⟩:=takeAllL_is ruleOne ruleOne_is h3
 refine⟨?_,g3,g4⟩
 unfold nodeB
 rw[<-g2];exact g1
theorem rulB_may{r:Rul}{n:Int}(h:ruleMayV r n=0)(hn:n<=256):RulB r:=by
 unfold ruleMayV at h
 by_cases h0:mayV r.pa r.pl=0
 ·rw[if_neg (by simp[h0])]at h
  have hp:0<=r.pl/\r.pl<=32:=by
   unfold mayV at h0
   split at h0
   ·cases h0
   ·omega
  split at h
  ·split at h
   ·cases h
   ·rename_i ha hx
    exact⟨by omega,by omega,by omega⟩
  ·split at h
   ·split at h
    ·rename_i ha hx
     exact⟨by omega,by omega,by omega⟩
    ·cases h
   ·cases h
 ·rw[if_pos h0]at h;exact absurd h h0
theorem net_rulB{ls:List (List Rul)}(h:netMayV ls=0):∀l∈ls,(∀r∈l,RulB r)/\l.length<=4096:=by
 obtain⟨h1,h2,h3⟩:=netMay_tabs h
 intro l hl
 refine⟨fun r hr=>?_,?_⟩
 ·have ht:=h3 l hl
  have key:∀(l:List Rul) (p:Option Rul),tabG ls.length p l=0->∀r∈l,ruleMayV r ls.length=0:=by
   intro l
   induction l with
   |nil=>intro p _ r hr;cases hr
   |cons q l ih=>
    intro p h r hr
    unfold tabG at h
    by_cases hq:ruleMayV q ls.length=0
    ·rw[if_neg (by simp[hq])]at h
     split at h
     ·cases h
     ·rcases List.mem_cons.1 hr with rfl|hr
      ·exact hq
      ·exact ih _ h r hr
    ·rw[if_pos hq]at h;exact absurd h hq
  exact rulB_may (key l none ht r hr) (by omega)
 ·have:l.length<=sizeN ls:=by
   unfold sizeN
   have key:∀(m:List Nat) (x:Nat),x∈m->x<=m.sum:=by
    intro m
    induction m with
    |nil=>intro x hx;cases hx
    |cons y m ih=>
     intro x hx
     rw[List.sum_cons]
     rcases List.mem_cons.1 hx with rfl|hx
     ·omega
     ·have:=ih x hx;omega
   exact key _ _ (List.mem_map_of_mem hl)
  omega
theorem netTake_put{ls:List (List Rul)}(h:netMayV ls=0):netTake (netPut ls)=.ok ls:=by
 have hr:=net_rulB h
 have hn:=(netMay_tabs h).1
 unfold netTake netPut
 rw[ftake_fput]
 simp only
 rw[if_neg (by simp)]
 unfold netB
 rw[takeAllL_put nodeOne hn (by omega) fun l hl t=>nodeOne_put (hr l hl).1 (hr l hl).2 t]
 show(if netMayV ls≠0 then _ else _)=_
 rw[if_neg (by rw[h];simp)]
end Go.Proofs.YtjflkifodfncmaaGreatDoor
