/- Rule, Slice, Ruls, Table, Fit: these texts in one. Conditions: each theorem names its own. -/
import Derived.Test.YtjflkifodfncmaaGreatDoorGBase
import Derived.Deep.RegionHeld3
import Derived.Laws.AppendOwnNone
import Derived.Deep.AppendSrc
namespace Go.Proofs.YtjflkifodfncmaaGreatDoor
set_option maxHeartbeats 200000
open Go.RowKit
structure Rul where
 pa:BitVec 32
 pl:Int
 act:Int
 nx:Int
 deriving DecidableEq
abbrev Rul.cells(r:Rul):List Value:=[U r.pa,I r.pl,I r.act,I r.nx]
abbrev Rul.val(r:Rul):Value:=.agg #[U r.pa,I r.pl,I r.act,I r.nx]
structure Rul.Ok(r:Rul):Prop where
 pl:In64 r.pl
 act:In64 r.act
 nx:In64 r.nx
theorem r07Compare_any(a b:Rul)(w:World):
 Calls Tryz.prog 153 #[a.val,b.val] w fun e w'=>e=.returned (I (cmpV a.pa a.pl b.pa b.pl))/\Ext w w':=by
 go_enter Tryz.func153,Tryz.ntmps153
 go_wp2_with (go_at_call 189;refine(r06Compare_any _ _ _ _ _).mono ?_;rintro e w' ⟨rfl,rfl⟩)
 go_ret
 exact⟨rfl,((eR w).alloc _).alloc _⟩
theorem ruleCompare_any(a b:Rul)(w:World):
 Calls Tryz.prog 132 #[a.val,b.val] w fun e w'=>e=.returned (I (cmpV a.pa a.pl b.pa b.pl))/\Ext w w':=by
 go_enter Tryz.func132,Tryz.ntmps132
 go_wp2_with (go_at_call 171;refine(prefCompare_any _ _ _ _ _).mono ?_;rintro e w' ⟨rfl,rfl⟩)
 go_ret
 exact⟨rfl,((eR w).alloc _).alloc _⟩
def fitV(r:Rul)(nodes:Int):Rul:=
 {pa:=r.pa&&&maskV (r.pl%33),pl:=r.pl%33,act:=if r.act%3=0 then 3 else r.act%3,nx:=if r.act%3=1 then r.nx%nodes else 0}
def Reads(w:World)(s:Nat)(v:Value)(n:Nat)(xs:List Value):Prop:=
 xs.length=n*s/\∃a cap,v=.slice a n cap/\n<=cap/\cap<=maxLen/\(a=none->n=0/\cap=0)/\
  ∀b,a=some b->(b.spot=none\/xs=[])/\∀j u,xs[j]?=some u->w.cell? ⟨b.block,b.off+j,none⟩=some u
theorem Reads.later{w w':World}{s:Nat}{v:Value}{n:Nat}{xs:List Value}(h:Reads w s v n xs)(hx:Ext w w'):Reads w' s v n xs:=by
 obtain⟨h0,a,cap,h1,h2,h3,h4,h5⟩:=h
 exact⟨h0,a,cap,h1,h2,h3,h4,fun b hb=>⟨(h5 b hb).1,fun j u hj=>hx.cell ((h5 b hb).2 j u hj)⟩⟩
theorem Reads.nil(w:World)(s:Nat):Reads w s (.slice none 0 0) 0 []:=
 ⟨by simp,none,0,rfl,Nat.le_refl _,by unfold maxLen;omega,fun _=>⟨rfl,rfl⟩,fun _ h=>(by cases h)⟩
theorem Reads.made(w:World)(s:Nat)(e:TypeId)(n:Nat)(xs:List Value)(hn:xs.length=n*s)(hm:n<=maxLen):Reads (w.alloc (.cells xs.toArray e)) s (.slice (some ⟨w.heap.size,0,none⟩) n n) n xs:=
 ⟨hn,_,n,rfl,Nat.le_refl _,hm,fun h=>(by cases h),fun b hb=>(by
   cases hb
   refine⟨.inl rfl,fun j u hj=>?_⟩
   rw[(Blk.new w xs e).cells]
   simpa using hj)⟩
theorem Reads.of_own{w:World}{B:Nat}{e:TypeId}{s:Nat}{v:Value}{n:Nat}{xs:List Value}(h:w.ownsRow B e s v n xs):Reads w s v n xs:=by
 have hh:=h
 obtain⟨h0,h1⟩:=h
 refine⟨h0,?_⟩
 rcases h1 with⟨h1,h2⟩|⟨g,cap,cur,h1,h2,h3,h4,h5,h6,h7⟩
 ·subst h2;exact⟨none,0,h1,Nat.le_refl _,by unfold maxLen;omega,fun _=>⟨rfl,rfl⟩,fun _ h=>(by cases h)⟩
 ·refine⟨_,cap,h1,h4,h5,fun h=>(by cases h),fun b hb=>?_⟩
  cases hb
  refine⟨.inl rfl,fun j u hj=>?_⟩
  have hj':j<n*s:=by
   rw[<-h0]
   exact(List.getElem?_eq_some_iff.1 hj).1
  rw[<-h7,List.getElem?_take_of_lt hj']at hj
  simpa[World.cell?,h3]using hj
theorem own_later{w w':World}{B:Nat}{e:TypeId}{s:Nat}{v:Value}{n:Nat}{xs:List Value}(h:w.ownsRow B e s v n xs)(hx:Ext w w'):w'.ownsRow B e s v n xs:=by
 obtain⟨h0,h1⟩:=h
 refine⟨h0,?_⟩
 rcases h1 with h1|⟨g,cap,cur,h1,h2,h3,h4⟩
 ·exact .inl h1
 ·refine .inr ⟨g,cap,cur,h1,h2,?_,h4⟩
  have hg:g<w.heap.size:=by
   rcases Nat.lt_or_ge g w.heap.size with h'|h'
   ·exact h'
   ·simp[Array.getElem?_eq_none h']at h3
  rw[Below.block hx g hg,h3]
theorem own_made(w:World)(s:Nat)(e:TypeId)(n:Nat)(xs:List Value)(hn:xs.length=n*s)(hm:n<=maxLen):(w.alloc (.cells xs.toArray e)).ownsRow w.heap.size e s (.slice (some ⟨w.heap.size,0,none⟩) n n) n xs:=
 ⟨hn,.inr ⟨w.heap.size,n,xs.toArray,rfl,Nat.le_refl _,by unfold World.alloc;simp,Nat.le_refl _,hm,by simpa using hn,by rw[<-hn];simp⟩⟩
theorem own_low{w:World}{B B':Nat}{e:TypeId}{s:Nat}{v:Value}{n:Nat}{xs:List Value}(h:w.ownsRow B e s v n xs)(hB:B'<=B):w.ownsRow B' e s v n xs:=by
 obtain⟨h0,h1⟩:=h
 refine⟨h0,?_⟩
 rcases h1 with h1|⟨g,cap,cur,h1,h2,h3⟩
 ·exact .inl h1
 ·exact .inr ⟨g,cap,cur,h1,Nat.le_trans hB h2,h3⟩
def slv(s:Nat)(v:Value)(l h:Nat):Value:=
 match v with
 | .slice a _ cap=>sliced a l h cap s
 |v=>v
theorem take_drop_get{α:Type}{xs:List α}{p q j:Nat}{u:α}(hj:((xs.take q).drop p)[j]?=some u):xs[p+j]?=some u:=by
 rw[List.getElem?_drop]at hj
 rw[List.getElem?_take]at hj
 split at hj
 ·exact hj
 ·cases hj
theorem Reads.piece{w:World}{s:Nat}{v:Value}{n:Nat}{xs:List Value}(h:Reads w s v n xs){l k:Nat}(hl:l<=k)(hk:k<=n):
 Reads w s (slv s v l k) (k-l) ((xs.take (k*s)).drop (l*s)):=by
 obtain⟨h0,a,cap,rfl,h2,h3,h4,h5⟩:=h
 refine⟨?_,?_⟩
 ·have:k*s<=n*s:=Nat.mul_le_mul_right _ hk
  rw[List.length_drop,List.length_take,h0,Nat.min_eq_left this,Nat.sub_mul]
 ·refine⟨if cap=l then a else a.map (·.add (l*s)),cap-l,rfl,by omega,by omega,fun hn=>?_,fun b hb=>?_⟩
  ·by_cases hc:cap=l
   ·omega
   ·rw[if_neg hc]at hn
    have:a=none:=by cases a with
     |none=>rfl
     |some _=>cases hn
    have:=h4 this
    omega
  ·by_cases hc:cap=l
   ·rw[if_pos hc]at hb
    have hkl:k=l:=by omega
    subst hkl
    have hd:(xs.take (k*s)).drop (k*s)=[]:=List.drop_of_length_le (by rw[List.length_take];omega)
    refine⟨.inr hd,fun j u hj=>?_⟩
    rw[hd]at hj
    cases hj
   ·rw[if_neg hc]at hb
    cases a with
    |none=>cases hb
    |some a=>
     obtain⟨e1,e2⟩:=h5 a rfl
     simp only[Option.map_some,Option.some.injEq]at hb
     subst hb
     rcases e1 with e1|e1
     case inr=>
      subst e1
      exact⟨.inr (by simp),fun j u hj=>(by simp at hj)⟩
     have hadd:a.add (l*s)=⟨a.block,a.off+l*s,none⟩:=by
      unfold Addr.add
      split
      ·rename_i h0;rw[h0];cases a;simp_all
      ·rfl
     rw[hadd]
     refine⟨.inl rfl,fun j u hj=>?_⟩
     rw[Nat.add_assoc]
     exact e2 _ _ (take_drop_get hj)
section
variable {P:Program} {w:World} {ops:Array Oper} {rest:List Oper} {o:Oper} {a:Act} {Q:Exit->Act->World->Prop}
theorem wpList_of_run{v:Value}{w':World}(hgd:o.guard=none)(hr:(execOp a.eval o).run P w=.ok (.value v) w')(h:wpList P ops Q rest (a.put o.dst v) w'):wpList P ops Q (o::rest) a w:=by
 refine wpList_plain hgd fun K hK=>?_
 unfold Oper.wp
 rw[hr]
 exact hK _ _ h
theorem run_slice_from{x l:Operand}{t e:TypeId}{s:Nat}(ho:o.op=.slice t x (some l) none none)(ht:P.underlying t=some (.slice e))(hs:∀w,(sizeOf (P.elem t)).run P w=.ok s w)
 {ad:Option Addr} {n cap k:Nat} (hx:a.eval x=.slice ad n cap) (hl:a.eval l=.int .i64 (k:Int)) (hk:k<=n):
 (execOp a.eval o).run P w=.ok (.value (slv s (.slice ad n cap) k n)) w:=by
 simp only[execOp,ho,hx,hl,slv,Option.map_some,Option.map_none]
 simp[Instr.sliceAt,Instr.slice,run_underlying ht,Instr.sliceBounds,Instr.sliceBound,asIntOf,hk,sliced,Result.andThen]
 have:=hs w
 simp[Program.elem,ht]at this
 simp[this]
theorem run_slice_to{x h:Operand}{t e:TypeId}{s:Nat}(ho:o.op=.slice t x none (some h) none)(ht:P.underlying t=some (.slice e))(hs:∀w,(sizeOf (P.elem t)).run P w=.ok s w)
 {ad:Option Addr} {n cap k:Nat} (hx:a.eval x=.slice ad n cap) (hh:a.eval h=.int .i64 (k:Int)) (hk:k<=cap):
 (execOp a.eval o).run P w=.ok (.value (slv s (.slice ad n cap) 0 k)) w:=by
 simp only[execOp,ho,hx,hh,slv,Option.map_some,Option.map_none]
 simp[Instr.sliceAt,Instr.slice,run_underlying ht,Instr.sliceBounds,Instr.sliceBound,asIntOf,hk,sliced,Result.andThen]
 have:=hs w
 simp[Program.elem,ht]at this
 simp[this]
theorem Ext.grown{W w w':World}{B:Nat}{e:TypeId}{s:Nat}{v:Value}{n:Nat}{xs:List Value}(hx:Ext W w)(hg:w.grownBy w' v.ownBlock)(ho:w.ownsRow B e s v n xs)(hB:W.heap.size<=B):Ext W w':=
 Below.grown hx hg hx.size fun k hk=>Nat.le_trans hB (ho.lt k hk).1
theorem wpList_app(hgd:o.guard=none)(s x:Operand)(t:TypeId)
 (ho:o.op=.call {callee:=.builtin .append,args:=#[s,x],argTypes:=#[t,t]})
 (base:Nat) (e:TypeId) (z:Value) (size bytes:Nat) (ht:P.underlying t=some (.slice e)) (hi:(P.info? e).map (fun i=>(i.zero,i.size,i.bytes))=some (some z,size,bytes))
 (hzs:z.cells.size=size) (hsz:0<size) (hby:0<bytes)
 (v:Value) (n:Nat) (xs:List Value) (hs:a.eval s=v) (hown:w.ownsRow base e size v n xs)
 (sv:Value) (m:Nat) (news:List Value) (hx:a.eval x=sv) (hsrc:Reads w size sv m news) (h1:∀u∈news,u.oneCell'=true)
 (hbytes:(n+m)*bytes<=140737488355328) (hbase:base<=w.heap.size)
 (h:∀v' w',w'.ownsRow base e size v' (n+m) (xs++news)->w.grownBy w' v.ownBlock->wpList P ops Q rest (a.put o.dst v') w'):wpList P ops Q (o::rest) a w:=by
 obtain⟨i,hi0,hi1,hi2,hi3⟩:=info_parts hi
 obtain⟨h0,ao,cap,rfl,h2,h3,h4,h5⟩:=hsrc
 cases ao with
 |none=>
  obtain⟨rfl,rfl⟩:=h4 rfl
  have hn:news=[]:=List.eq_nil_of_length_eq_zero (by simpa using h0)
  subst hn
  refine wpList_append_own_none hgd s x t ho base e i size ht hi0 v n xs hs hown hx ?_
  exact h v w (by simpa using hown) ⟨rfl,rfl,rfl,Nat.le_refl _,fun _ _ _=>rfl⟩
 |some b=>
  obtain⟨e1,e2⟩:=h5 b rfl
  refine wpList_append_own w hgd s x t ho base e i z size bytes ht hi0 hi1 hi2 hi3 hzs hsz v n xs hs hown b m cap news hx h0 (fun j u hj=>?_) h1 ?_ hbytes hbase (fun v' w' g1 g2 _=>h v' w' g1 g2)
  ·have e3:b.spot=none:=by
    rcases e1 with e1|e1
    ·exact e1
    ·rw[e1]at hj;cases hj
   have:b.add j=⟨b.block,b.off+j,none⟩:=by
    unfold Addr.add
    split
    ·rename_i h0;rw[h0];cases b;simp_all
    ·rfl
   rw[this];exact e2 j u hj
  ·unfold maxLen
   have:(n+m)*1<=(n+m)*bytes:=Nat.mul_le_mul_left _ hby
   omega
end
theorem flat_get{α β:Type}(f:α->List β)(s:Nat)(hf:∀x,(f x).length=s):∀(l:List α) (i k:Nat) (x:α),l[i]?=some x->k<s->(l.flatMap f)[i*s+k]?=(f x)[k]?
 |[],_,_,_,h,_=>by simp at h
 |y::l,0,k,x,h,hk=>by
  simp at h;subst h
  rw[List.flatMap_cons,Nat.zero_mul,Nat.zero_add,List.getElem?_append_left (by rw[hf];exact hk)]
 |y::l,i+1,k,x,h,hk=>by
  simp at h
  rw[List.flatMap_cons,List.getElem?_append_right (by rw[hf,Nat.succ_mul];omega),hf,show(i+1)*s+k-s=i*s+k by rw[Nat.succ_mul];omega]
  exact flat_get f s hf l i k x h hk
theorem flat_len{α β:Type}(f:α->List β)(s:Nat)(hf:∀x,(f x).length=s):∀(l:List α),(l.flatMap f).length=l.length*s
 |[]=>by simp
 |y::l=>by rw[List.flatMap_cons,List.length_append,hf,flat_len f s hf l,List.length_cons,Nat.succ_mul];omega
theorem flat_take{α β:Type}(f:α->List β)(s:Nat)(hf:∀x,(f x).length=s):∀(l:List α) (k:Nat),(l.flatMap f).take (k*s)=(l.take k).flatMap f
 |[],_=>by simp
 |y::l,0=>by simp
 |y::l,k+1=>by
  rw[List.take_succ_cons,List.flatMap_cons,List.flatMap_cons,Nat.succ_mul,Nat.add_comm,<-hf y,List.take_length_add_append,hf y,flat_take f s hf l k]
theorem flat_drop{α β:Type}(f:α->List β)(s:Nat)(hf:∀x,(f x).length=s):∀(l:List α) (k:Nat),(l.flatMap f).drop (k*s)=(l.drop k).flatMap f
 |[],_=>by simp
 |y::l,0=>by simp
 |y::l,k+1=>by
  rw[List.drop_succ_cons,List.flatMap_cons,Nat.succ_mul,Nat.add_comm,<-hf y,List.drop_length_add_append,hf y,flat_drop f s hf l k]
def rcells(l:List Rul):List Value:=l.flatMap Rul.cells
theorem rcells_len(l:List Rul):(rcells l).length=l.length*4:=flat_len _ 4 (fun _=>rfl) l
theorem rcells_app(a b:List Rul):rcells (a++b)=rcells a++rcells b:=List.flatMap_append
theorem rcells_one(l:List Rul):∀u∈rcells l,u.oneCell'=true:=by
 intro u hu
 obtain⟨r,_,hr⟩:=List.mem_flatMap.1 hu
 simp only[Rul.cells,List.mem_cons,List.not_mem_nil,or_false]at hr
 rcases hr with rfl|rfl|rfl|rfl<;>rfl
def RulesAt(w:World)(v:Value)(l:List Rul):Prop:=Reads w 4 v l.length (rcells l)
theorem RulesAt.later{w w':World}{v:Value}{l:List Rul}(h:RulesAt w v l)(hx:Ext w w'):RulesAt w' v l:=Reads.later h hx
theorem RulesAt.form{w:World}{v:Value}{l:List Rul}(h:RulesAt w v l):
 ∃a cap,v=.slice a l.length cap/\l.length<=cap/\cap<=maxLen/\∀i r,l[i]?=some r->∃b off,a=some ⟨b,off,none⟩/\
  w.cell? ⟨b,off+i*4,none⟩=some (U r.pa)/\w.cell? ⟨b,off+i*4+1,none⟩=some (I r.pl)/\w.cell? ⟨b,off+i*4+2,none⟩=some (I r.act)/\w.cell? ⟨b,off+i*4+3,none⟩=some (I r.nx):=by
 obtain⟨h0,a,cap,h1,h2,h3,h4,h5⟩:=h
 refine⟨a,cap,h1,h2,h3,fun i r hi=>?_⟩
 have hil:=(List.getElem?_eq_some_iff.1 hi).1
 cases a with
 |none=>have:=h4 rfl;omega
 |some b=>
  obtain⟨e1,e2⟩:=h5 b rfl
  replace e1:b.spot=none:=by
   rcases e1 with e1|e1
   ·exact e1
   ·have:=rcells_len l;rw[e1]at this;simp at this;omega
  have g:∀k,k<4->(rcells l)[i*4+k]?=r.cells[k]?:=fun k hk=>flat_get Rul.cells 4 (fun _=>rfl) l i k r hi hk
  obtain⟨bb,bo,bs⟩:=b
  simp only at e1
  subst e1
  refine⟨bb,bo,rfl,?_,?_,?_,?_⟩
  ·have:=e2 (i*4+0) (U r.pa) (by rw[g 0 (by omega)];rfl);simpa using this
  ·have:=e2 (i*4+1) (I r.pl) (by rw[g 1 (by omega)];rfl);simpa[Nat.add_assoc]using this
  ·have:=e2 (i*4+2) (I r.act) (by rw[g 2 (by omega)];rfl);simpa[Nat.add_assoc]using this
  ·have:=e2 (i*4+3) (I r.nx) (by rw[g 3 (by omega)];rfl);simpa[Nat.add_assoc]using this
theorem RulesAt.piece{w:World}{v:Value}{l:List Rul}(h:RulesAt w v l){j k:Nat}(hj:j<=k)(hk:k<=l.length):RulesAt w (slv 4 v j k) ((l.take k).drop j):=by
 have:=Reads.piece h hj hk
 unfold RulesAt
 unfold rcells at*
 rw[flat_take Rul.cells 4 (fun _=>rfl),flat_drop Rul.cells 4 (fun _=>rfl)]at this
 rw[List.length_drop,List.length_take,Nat.min_eq_left hk]
 exact this
@[go_sem high] theorem rule_eql(r s:Rul)(w:World):(binOp .eql 39 (.agg #[U r.pa,I r.pl,I r.act,I r.nx]) (.agg #[U s.pa,I s.pl,I s.act,I s.nx])).run Tryz.prog w=.ok (.bool (decide (r=s))) w:=by
  go_simp
  cases r;cases s
  simp only[Rul.mk.injEq]
  repeat' split<;>simp_all
@[go_sem high] theorem rule_neq(r s:Rul)(w:World):(binOp .neq 39 (.agg #[U r.pa,I r.pl,I r.act,I r.nx]) (.agg #[U s.pa,I s.pl,I s.act,I s.nx])).run Tryz.prog w=.ok (.bool (!decide (r=s))) w:=by
  go_simp
  cases r;cases s
  simp only[Rul.mk.injEq]
  repeat' split<;>simp_all
theorem take_same{α:Type}{a b:List α}{k:Nat}(h:a.take k=b.take k)(ha:k<a.length)(hb:k<b.length)(he:a[k]=b[k]):a.take (k+1)=b.take (k+1):=by
 rw[List.take_succ_eq_append_getElem ha,List.take_succ_eq_append_getElem hb,h,he]
def RulesOk(l:List Rul):Prop:=∀r∈l,r.Ok
def zeroR:Rul:=⟨0#32,0,0,0⟩
def better(a:BitVec 32)(best:Option Rul)(r:Rul):Bool:=holdsV r.pa r.pl a&&best.all fun b=>decide (b.pl<r.pl)
def findStep(a:BitVec 32)(best:Option Rul)(r:Rul):Option Rul:=if better a best r then some r else best
def findL(l:List Rul)(a:BitVec 32):Option Rul:=l.foldl (findStep a) none
def resR(o:Option Rul):Rul:=o.getD zeroR
abbrev foundV(o:Option Rul):Value:=.tuple #[(resR o).val,.bool o.isSome]
theorem findL_step(l:List Rul)(a:BitVec 32)(k:Nat)(h:k<l.length):findL (l.take (k+1)) a=findStep a (findL (l.take k) a) l[k]:=by
 unfold findL
 rw[List.take_succ_eq_append_getElem h,List.foldl_append];rfl
theorem tableFind_any(lv:Value)(l:List Rul)(a:BitVec 32)(w:World)(hl:RulesAt w lv l)(hok:RulesOk l):
 Calls Tryz.prog 58 #[lv,U a] w fun e w'=>e=.returned (foundV (findL l a))/\Ext w w':=by
 obtain⟨ad,cap,rfl,a1,a2,a3⟩:=hl.form
 have A3:=Hd a3
 clear a3
 unfold maxLen at a2
 go_enter Tryz.func58,Tryz.ntmps58
 go_wp2
 go_step3
 go_wp2
 go_step3
 go_wp2
 go_loopw[7,12] (fun f i wr=>∃(k:Nat) (best:Option Rul),k<=l.length/\i=I k/\f=.bool best.isSome/\Hid (best=findL (l.take k) a)/\Hid (∀r,best=some r->r.Ok)/\
  Blk wr w.heap.size zeroR.cells 39/\Blk wr (w.heap.size+1) (resR best).cells 39/\Ext w wr) (fun _ i _=>l.length-(intOf i).toNat)
 case atStart=>exact⟨0,none,by omega,rfl,rfl,rfl,(fun r h=>by cases h),(Blk.newAt zeroR.cells rfl).old _,Blk.newAt zeroR.cells (by simp),by(repeat with_reducible first|exact eR _|assumption|refine eA ?_ _|refine eD ?_|refine eW ?_ _|(refine eS ?_ ?_;focus(first|(simp;done)|(simp;omega)|omega)))⟩
 case round=>
  obtain⟨k,best,hk,rfl,rfl,hbest,hbok,hz,hb,hx⟩:=hrel
  have hzc:=hz.cells
  have hbf:=hb.frozen
  have hsz:=hb.lt
  by_cases hlt:k<l.length
  ·obtain⟨b0,o0,rfl,p0,p1,p2,p3⟩:=A3.out k l[k] (gE hlt)
   replace p0:=hx.cell p0
   replace p1:=hx.cell p1
   replace p2:=hx.cell p2
   replace p3:=hx.cell p3
   have hok1:=Hd (hok l[k] (List.getElem_mem hlt))
   have hst:=Hd (findL_step l a k hlt)
   rw[show findL (l.take k) a=best from hbest.out.symm]at hst
   clear hbest
   by_cases hh:holdsV l[k].pa l[k].pl a=true
   ·cases best with
    |none=>
     replace hb:Blk wr (w.heap.size+1) zeroR.cells 39:=hb
     have hbc:=hb.cells
     have hn:=Hd (show findStep a none l[k]=some l[k]by unfold findStep;rw[if_pos];unfold better;rw[hh];rfl)
     go_wp2_with (first|(go_at_call 119;refine(holds_any _ _ _ _ hok1.out.pl).mono ?_;rintro e w' ⟨rfl,rfl⟩))
     go_roundw
     case rel=>
      refine⟨k+1,some l[k],by omega,by go_num,rfl,(hst.out.trans hn.out).symm,(fun r h=>by cases h;exact hok1.out),?_,?_,by(repeat with_reducible first|exact eR _|assumption|refine eA ?_ _|refine eD ?_|refine eW ?_ _|(refine eS ?_ ?_;focus(first|(simp;done)|(simp;omega)|omega)))⟩
      ·(repeat(first|with_reducible assumption|with_reducible refine Blk.old ?_ _|with_reducible refine Blk.drew ?_|(with_reducible refine Blk.otherP ?_ ?_;focus(first|(simp;done)|(simp;omega)))|with_reducible exact Row4.of (by with_reducible assumption)|refine Blk.set4 ?_|with_reducible refine Row4.old ?_ _))
      ·(repeat(first|with_reducible assumption|with_reducible refine Blk.old ?_ _|with_reducible refine Blk.drew ?_|(with_reducible refine Blk.otherP ?_ ?_;focus(first|(simp;done)|(simp;omega)))|with_reducible exact Row4.of (by with_reducible assumption)|refine Blk.set4 ?_|with_reducible refine Row4.old ?_ _))
     case measure=>simp[intOf];omega
    |some bb=>
     replace hb:Blk wr (w.heap.size+1) bb.cells 39:=hb
     have hbc:=hb.cells
     by_cases hc:l[k].pl<=bb.pl
     ·have hn:=Hd (show findStep a (some bb) l[k]=some bb by unfold findStep;rw[if_neg];unfold better;rw[hh];simp;omega)
      have hcd:decide (l[k].pl<=bb.pl)=true:=by simpa using hc
      go_wp2_with (first|(go_at_call 119;refine(holds_any _ _ _ _ hok1.out.pl).mono ?_;rintro e w' ⟨rfl,rfl⟩))
      go_roundw
      case rel=>
       refine⟨k+1,some bb,by omega,by go_num,rfl,(hst.out.trans hn.out).symm,hbok,?_,?_,by(repeat with_reducible first|exact eR _|assumption|refine eA ?_ _|refine eD ?_|refine eW ?_ _|(refine eS ?_ ?_;focus(first|(simp;done)|(simp;omega)|omega)))⟩
       ·(repeat(first|with_reducible assumption|with_reducible refine Blk.old ?_ _|with_reducible refine Blk.drew ?_|(with_reducible refine Blk.otherP ?_ ?_;focus(first|(simp;done)|(simp;omega)))|with_reducible exact Row4.of (by with_reducible assumption)|refine Blk.set4 ?_|with_reducible refine Row4.old ?_ _))
       ·exact hb.old _
      case measure=>simp[intOf];omega
     ·have hn:=Hd (show findStep a (some bb) l[k]=some l[k]by unfold findStep;rw[if_pos];unfold better;rw[hh];simp;omega)
      have hcd:decide (l[k].pl<=bb.pl)=false:=by simpa using hc
      go_wp2_with (first|(go_at_call 119;refine(holds_any _ _ _ _ hok1.out.pl).mono ?_;rintro e w' ⟨rfl,rfl⟩))
      go_roundw
      case rel=>
       refine⟨k+1,some l[k],by omega,by go_num,rfl,(hst.out.trans hn.out).symm,(fun r h=>by cases h;exact hok1.out),?_,?_,by(repeat with_reducible first|exact eR _|assumption|refine eA ?_ _|refine eD ?_|refine eW ?_ _|(refine eS ?_ ?_;focus(first|(simp;done)|(simp;omega)|omega)))⟩
       ·(repeat(first|with_reducible assumption|with_reducible refine Blk.old ?_ _|with_reducible refine Blk.drew ?_|(with_reducible refine Blk.otherP ?_ ?_;focus(first|(simp;done)|(simp;omega)))|with_reducible exact Row4.of (by with_reducible assumption)|refine Blk.set4 ?_|with_reducible refine Row4.old ?_ _))
       ·(repeat(first|with_reducible assumption|with_reducible refine Blk.old ?_ _|with_reducible refine Blk.drew ?_|(with_reducible refine Blk.otherP ?_ ?_;focus(first|(simp;done)|(simp;omega)))|with_reducible exact Row4.of (by with_reducible assumption)|refine Blk.set4 ?_|with_reducible refine Row4.old ?_ _))
      case measure=>simp[intOf];omega
   ·have hn:=Hd (show findStep a best l[k]=best by unfold findStep;rw[if_neg];unfold better;simp only[hh];simp)
    have hhd:holdsV l[k].pa l[k].pl a=false:=by simpa using hh
    clear hh
    go_wp2_with (first|(go_at_call 119;refine(holds_any _ _ _ _ hok1.out.pl).mono ?_;rintro e w' ⟨rfl,rfl⟩))
    go_roundw
    case rel=>
     refine⟨k+1,best,by omega,by go_num,rfl,(hst.out.trans hn.out).symm,hbok,?_,?_,by(repeat with_reducible first|exact eR _|assumption|refine eA ?_ _|refine eD ?_|refine eW ?_ _|(refine eS ?_ ?_;focus(first|(simp;done)|(simp;omega)|omega)))⟩
     ·(repeat(first|with_reducible assumption|with_reducible refine Blk.old ?_ _|with_reducible refine Blk.drew ?_|(with_reducible refine Blk.otherP ?_ ?_;focus(first|(simp;done)|(simp;omega)))|with_reducible exact Row4.of (by with_reducible assumption)|refine Blk.set4 ?_|with_reducible refine Row4.old ?_ _))
     ·(repeat(first|with_reducible assumption|with_reducible refine Blk.old ?_ _|with_reducible refine Blk.drew ?_|(with_reducible refine Blk.otherP ?_ ?_;focus(first|(simp;done)|(simp;omega)))|with_reducible exact Row4.of (by with_reducible assumption)|refine Blk.set4 ?_|with_reducible refine Row4.old ?_ _))
    case measure=>simp[intOf];omega
  ·have hn:=Hd (show best=findL l a by rw[hbest.out,List.take_of_length_le (by omega)])
   have hbc:=hb.cells
   have hzf:=hz.frozen
   go_wp2
   rw[Exit.noGoto_ret]
   refine bodyPost_ret (v:=foundV best) ?_ rfl ⟨by rw[hn.out],by(repeat with_reducible first|exact eR _|assumption|refine eA ?_ _|refine eD ?_|refine eW ?_ _|(refine eS ?_ ?_;focus(first|(simp;done)|(simp;omega)|omega)))⟩
   simp[results,Tryz.results58,go_sem,hzc]
def cmpR(a b:Rul):Int:=cmpV a.pa a.pl b.pa b.pl
def ltR(r:Rul)(x:Rul):Bool:=decide (cmpR x r<0)
def insAt(out:List Rul)(r:Rul):Nat:=(out.takeWhile (ltR r)).length
def ins(out:List Rul)(r:Rul):List Rul:=
 if(out[insAt out r]?).any (fun x=>cmpR x r==0)then out else out.take (insAt out r)++r::out.drop (insAt out r)
def fitL(l:List Rul)(nodes:Int):List Rul:=(l.take 20).foldl (fun out r=>ins out (fitV r nodes)) []
theorem tw_lt{α:Type}(p:α->Bool):∀(l:List α) (j:Nat) (_h:j<(l.takeWhile p).length) (h':j<l.length),p l[j]=true
 |[],_,h,_=>by simp at h
 |x::l,j,h,h'=>by
  by_cases hp:p x=true
  ·rw[List.takeWhile_cons_of_pos hp]at h
   cases j with
   |zero=>simpa using hp
   |succ j=>simp at h ⊢;exact tw_lt p l j h (by simpa using h')
  ·rw[List.takeWhile_cons_of_neg hp]at h;simp at h
theorem tw_end{α:Type}(p:α->Bool):∀(l:List α) (h':(l.takeWhile p).length<l.length),p l[(l.takeWhile p).length]=false
 |[],h=>by simp at h
 |x::l,h=>by
  by_cases hp:p x=true
  ·simp only[List.takeWhile_cons_of_pos hp,List.length_cons,List.getElem_cons_succ]at h ⊢
   exact tw_end p l (by omega)
  ·simp only[List.takeWhile_cons_of_neg hp,List.length_nil,List.getElem_cons_zero];simpa using hp
theorem infoRule:(Tryz.prog.info? 39).map (fun i=>(i.zero,i.size,i.bytes))=some (some (.agg #[.int .u32 0,.int .i64 0,.int .i64 0,.int .i64 0]),4,32):=by kernel_rfl
end Go.Proofs.YtjflkifodfncmaaGreatDoor
