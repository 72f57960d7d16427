/- Base, Region, Region2, Region3, Pure, Pure2, Mask06: these texts in one. Conditions: each theorem names its own. -/
import Derived.Test.YtjflkifodfncmaaGreatDoorProg
import Derived.WalkKit
import Derived.WalkSpells
import Derived.WalkLawsBesides
import Derived.Outline
import Derived.Lib.Hide
import Derived.Deep.QuietTactic
import Derived.BigQuiet
import Derived.Deep.DeepFit
import Derived.Deep.DeepMust
import Derived.Deep.DeepCutAuto
import Derived.Deep.CutBlock
import Derived.StillTail
namespace Go.Proofs.YtjflkifodfncmaaGreatDoor
set_option maxHeartbeats 400000
open Go.RowKit
def uv(a:BitVec 32):Int:=(a.toNat:Int)
theorem uv_nonneg(a:BitVec 32):0<=uv a:=by unfold uv;omega
theorem uv_lt(a:BitVec 32):uv a<4294967296:=by unfold uv;omega
theorem uv_bd(a:BitVec 32):0<=uv a/\uv a<4294967296:=⟨uv_nonneg a,uv_lt a⟩
@[simp,go_sem] theorem ofInt_uv(a:BitVec 32):BitVec.ofInt 32 (uv a)=a:=by simp[uv]
theorem uv_ofInt(n:Int)(h0:0<=n)(h1:n<4294967296):uv (BitVec.ofInt 32 n)=n:=by
 unfold uv;rw[BitVec.toNat_ofInt];omega
theorem uv_inj{a b:BitVec 32}(h:uv a=uv b):a=b:=by
 rw[<-ofInt_uv a,<-ofInt_uv b,h]
abbrev U(a:BitVec 32):Value:=.int .u32 (uv a)
abbrev I(n:Int):Value:=.int .i64 n
theorem wrap_u32_nat(r:BitVec 32):IntKind.u32.wrap (r.toNat:Int)=uv r:=by
 have:=r.isLt
 rw[IntKind.wrap_u32'];unfold uv;omega
theorem bits_u32(op:BinOp)(x y:Int)(f:BitVec 32->BitVec 32->BitVec 32)
 (h:bits op .u32 x y=IntKind.u32.wrap ((f (BitVec.ofInt 32 x) (BitVec.ofInt 32 y)).toNat:Int)):
 bits op .u32 x y=uv (f (BitVec.ofInt 32 x) (BitVec.ofInt 32 y)):=by rw[h,wrap_u32_nat]
@[go_sem high] theorem bits_and_uv(a b:BitVec 32):bits .and .u32 (uv a) (uv b)=uv (a&&&b):=by
  have:=bits_u32 .and (uv a) (uv b) (· &&& ·) rfl;simpa using this
@[go_sem high] theorem bits_or_uv(a b:BitVec 32):bits .or .u32 (uv a) (uv b)=uv (a|||b):=by
  have:=bits_u32 .or (uv a) (uv b) (· ||| ·) rfl;simpa using this
@[go_sem high] theorem bits_xor_uv(a b:BitVec 32):bits .xor .u32 (uv a) (uv b)=uv (a^^^b):=by
  have:=bits_u32 .xor (uv a) (uv b) (· ^^^ ·) rfl;simpa using this
@[go_sem high] theorem bits_andNot_uv(a b:BitVec 32):bits .andNot .u32 (uv a) (uv b)=uv (a&&& ~~~b):=by
  have:=bits_u32 .andNot (uv a) (uv b) (fun x y=>x&&& ~~~y) rfl;simpa using this
@[go_sem high] theorem bits_and_uv_lit(a:BitVec 32)(n:Int):bits .and .u32 (uv a) n=uv (a&&&BitVec.ofInt 32 n):=by
  have:=bits_u32 .and (uv a) n (· &&& ·) rfl;simpa using this
@[go_sem high] theorem bits_xor_lit_uv(a:BitVec 32)(n:Int):bits .xor .u32 n (uv a)=uv (BitVec.ofInt 32 n^^^a):=by
  have:=bits_u32 .xor n (uv a) (· ^^^ ·) rfl;simpa using this
@[go_sem high] theorem wrap_u32_uv(a:BitVec 32):IntKind.u32.wrap (uv a)=uv a:=by have:=uv_bd a;rw[IntKind.wrap_u32'];omega
@[go_sem high] theorem wrap_i64_uv(a:BitVec 32):IntKind.i64.wrap (uv a)=uv a:=by have:=uv_bd a;rw[IntKind.wrap_i64];omega
@[go_sem high] theorem uv_beq(a b:BitVec 32):(uv a==uv b)=(a==b):=by
  by_cases h:a=b
  ·subst h;simp
  ·have:uv a≠uv b:=fun e=>h (uv_inj e)
   rw[beq_eq_false_iff_ne.2 this,beq_eq_false_iff_ne.2 h]
@[go_sem high] theorem uv_beq_zero(a:BitVec 32):(uv a==0)=(a==0#32):=uv_beq a 0#32
@[go_sem high] theorem uv_bne(a b:BitVec 32):(uv a !=uv b)=(a !=b):=by rw[bne,bne,uv_beq]
@[go_sem high] theorem uv_bne_zero(a:BitVec 32):(uv a !=0)=(a !=0#32):=uv_bne a 0#32
theorem wrap_of_toNat{n:Int}{r:BitVec 32}(h:n%4294967296=uv r):IntKind.u32.wrap n=uv r:=by rw[IntKind.wrap_u32',h]
@[go_sem high] theorem wrap_uv_add_uv(a b:BitVec 32):IntKind.u32.wrap (uv a+uv b)=uv (a+b):=by
  refine wrap_of_toNat ?_;unfold uv;rw[BitVec.toNat_add];omega
@[go_sem high] theorem wrap_uv_sub_uv(a b:BitVec 32):IntKind.u32.wrap (uv a-uv b)=uv (a-b):=by
  refine wrap_of_toNat ?_;unfold uv;rw[BitVec.toNat_sub];have:=a.isLt;have:=b.isLt;omega
theorem uv_add_lit(a:BitVec 32)(n:Int):IntKind.u32.wrap (uv a+n)=uv (a+BitVec.ofInt 32 n):=by
 refine wrap_of_toNat ?_;unfold uv;rw[BitVec.toNat_add,BitVec.toNat_ofInt];have:=a.isLt;omega
@[go_sem high] theorem wrap_uv_add1(a:BitVec 32):IntKind.u32.wrap (uv a+1)=uv (a+1#32):=uv_add_lit a 1
@[go_sem high] theorem wrap_uv_sub1(a:BitVec 32):IntKind.u32.wrap (uv a-1)=uv (a-1#32):=by
  refine wrap_of_toNat ?_;unfold uv;rw[BitVec.toNat_sub];have:=a.isLt;simp;omega
@[go_sem high] theorem wrap_uv_mul2(a:BitVec 32):IntKind.u32.wrap (uv a*2)=uv (a*2#32):=by
  refine wrap_of_toNat ?_;unfold uv;rw[BitVec.toNat_mul];simp
@[go_sem high] theorem wrap_uv_shl(a:BitVec 32)(k:Nat):IntKind.u32.wrap (uv a*2^k)=uv (a<<<k):=by
  refine wrap_of_toNat ?_;unfold uv;rw[BitVec.toNat_shiftLeft,Nat.shiftLeft_eq];simp
theorem ret_int{k:IntKind}{a b:Int}(h:a=b):Ending.returned (.int k a)=.returned (.int k b):=by rw[h]
theorem ret_bool{a b:Bool}(h:a=b):Ending.returned (.bool a)=.returned (.bool b):=by rw[h]
def Ext(w w':World):Prop:=Below w.heap.size w w'
theorem Ext.refl(w:World):Ext w w:=Below.refl _ _
theorem Ext.size{a b:World}(h:Ext a b):a.heap.size<=b.heap.size:=Below.size h
theorem Ext.trans{a b c:World}(h:Ext a b)(k:Ext b c):Ext a c:=Below.trans h (Below.mono k h.size)
theorem Ext.below{w w':World}(h:Ext w w'):Below w.heap.size w w':=h
theorem Ext.cell{w w':World}(h:Ext w w'){p:Addr}{v:Value}(hp:w.cell? p=some v):w'.cell? p=some v:=by
 have hb:p.block<w.heap.size:=by
  rcases Nat.lt_or_ge p.block w.heap.size with h'|h'
  ·exact h'
  ·simp[World.cell?,Array.getElem?_eq_none h']at hp
 rw[Below.cell h hb];exact hp
theorem Ext.cells{w w':World}(h:Ext w w'):∀b o,b<w.heap.size->w'.cell? ⟨b,o,none⟩=w.cell? ⟨b,o,none⟩:=fun b o hb=>Below.cell (p:=⟨b,o,none⟩) h hb
theorem Ext.frozens{w w':World}(h:Ext w w'):∀b o,b<w.heap.size->w'.frozen? ⟨b,o,none⟩=w.frozen? ⟨b,o,none⟩:=fun b o hb=>Below.frozen (p:=⟨b,o,none⟩) h hb
theorem Ext.alloc{a w:World}(h:Ext a w)(o:Obj):Ext a (w.alloc o):=Below.alloc h h.size o
theorem Ext.drew{a w:World}(h:Ext a w):Ext a w.drew:=Below.drew h
theorem Ext.drewN{a w:World}(h:Ext a w)(n:Nat):Ext a (w.drewN n):=⟨h.os,h.tape,h.output,h.size,h.block⟩
theorem Ext.setCell{a w:World}(h:Ext a w){p:Addr}(hp:a.heap.size<=p.block)(u:Value):Ext a (w.setCell p u):=Below.setCell h hp u
theorem Ext.setCellP{a w:World}{p:Addr}{u:Value}(hp:a.heap.size<=p.block)(h:Ext a w):Ext a (w.setCell p u):=h.setCell hp u
def Blk(w:World)(b:Nat)(cs:List Value)(T:TypeId):Prop:=w.heap[b]?=some (.cells cs.toArray T (0,0))
theorem Blk.cells{w:World}{b:Nat}{cs:List Value}{T:TypeId}(h:Blk w b cs T):∀o,w.cell? ⟨b,o,none⟩=cs[o]?:=fun o=>by
 unfold Blk at h;simp[World.cell?,h]
theorem Blk.frozen{w:World}{b:Nat}{cs:List Value}{T:TypeId}(h:Blk w b cs T):∀o,w.frozen? ⟨b,o,none⟩=false:=fun o=>by
 unfold Blk at h;simp[World.frozen?,h]
theorem Blk.lt{w:World}{b:Nat}{cs:List Value}{T:TypeId}(h:Blk w b cs T):b<w.heap.size:=by
 unfold Blk at h
 rcases Nat.lt_or_ge b w.heap.size with h'|h'
 ·exact h'
 ·simp[Array.getElem?_eq_none h']at h
theorem Blk.later{w w':World}{b:Nat}{cs:List Value}{T:TypeId}(h:Blk w b cs T)(hx:Ext w w'):Blk w' b cs T:=by
 have:=Below.block hx b h.lt
 unfold Blk at*
 rw[this];exact h
theorem Blk.new(w:World)(cs:List Value)(T:TypeId):Blk (w.alloc (.cells cs.toArray T)) w.heap.size cs T:=by
 unfold Blk World.alloc;simp
theorem Blk.newAt{w:World}{b:Nat}(cs:List Value){T:TypeId}(hb:w.heap.size=b):Blk (w.alloc (.cells cs.toArray T)) b cs T:=hb▸Blk.new w cs T
theorem Blk.old{w:World}{b:Nat}{cs:List Value}{T:TypeId}(h:Blk w b cs T)(o:Obj):Blk (w.alloc o) b cs T:=h.later ((Ext.refl w).alloc o)
theorem Blk.set{w:World}{b:Nat}{cs:List Value}{T:TypeId}(h:Blk w b cs T)(o:Nat)(v:Value):Blk (w.setCell ⟨b,o,none⟩ v) b (cs.set o v) T:=by
 unfold Blk at*
 simp[World.setCell,Array.getElem?_modify,h]
def Row4(w:World)(b:Nat)(T:TypeId):Prop:=∃cs,cs.length=4/\Blk w b cs T
theorem Row4.of{w:World}{b:Nat}{x0 x1 x2 x3:Value}{T:TypeId}(h:Blk w b [x0,x1,x2,x3] T):Row4 w b T:=⟨_,rfl,h⟩
theorem Row4.old{w:World}{b:Nat}{T:TypeId}(h:Row4 w b T)(o:Obj):Row4 (w.alloc o) b T:=let⟨cs,h1,h2⟩:=h;⟨cs,h1,h2.old o⟩
theorem Blk.set4{w:World}{b:Nat}{T:TypeId}(h:Row4 w b T){v0 v1 v2 v3:Value}:
 Blk ((((w.setCell ⟨b,0,none⟩ v0).setCell ⟨b,1,none⟩ v1).setCell ⟨b,2,none⟩ v2).setCell ⟨b,3,none⟩ v3) b [v0,v1,v2,v3] T:=by
 obtain⟨cs,h1,h2⟩:=h
 match cs,h1 with
 |[x0,x1,x2,x3],_=>exact(((h2.set 0 v0).set 1 v1).set 2 v2).set 3 v3
theorem Blk.other{w:World}{b:Nat}{cs:List Value}{T:TypeId}(h:Blk w b cs T){p:Addr}(hp:p.block≠b)(v:Value):Blk (w.setCell p v) b cs T:=by
 unfold Blk at*
 simp only[World.setCell,Array.getElem?_modify,hp,if_false,h]
theorem Blk.otherP{w:World}{b:Nat}{cs:List Value}{T:TypeId}{p:Addr}{v:Value}(hp:p.block≠b)(h:Blk w b cs T):Blk (w.setCell p v) b cs T:=h.other hp v
theorem Blk.drew{w:World}{b:Nat}{cs:List Value}{T:TypeId}(h:Blk w b cs T):Blk w.drew b cs T:=h
theorem Blk.keep{w:World}{b:Nat}{cs:List Value}{T:TypeId}(h:Blk w b cs T):∀w',Ext w w'->∀o,w'.cell? ⟨b,o,none⟩=cs[o]?:=fun _ hx=>(h.later hx).cells
theorem Blk.keepF{w:World}{b:Nat}{cs:List Value}{T:TypeId}(h:Blk w b cs T):∀w',Ext w w'->∀o,w'.frozen? ⟨b,o,none⟩=false:=fun _ hx=>(h.later hx).frozen
theorem Ext.keep{w:World}{p:Addr}{v:Value}(h:w.cell? p=some v):∀w',Ext w w'->w'.cell? p=some v:=fun _ hx=>hx.cell h
@[simp,go_sem] theorem Ext.allocS{a w:World}(h:Ext a w)(o:Obj):Ext a (w.alloc o):=h.alloc o
@[simp,go_sem] theorem Ext.drewS{a w:World}(h:Ext a w):Ext a w.drew:=h.drew
@[simp,go_sem] theorem Ext.drewNS{a w:World}(h:Ext a w)(n:Nat):Ext a (w.drewN n):=h.drewN n
theorem hideW{Φ:World->Prop}(Ψ:World->Prop){w:World}(h1:Ψ w)(h:∀W,Ψ W->Φ W):Φ w:=h w h1
theorem Hd{p:Prop}(h:p):Hid p:=h
theorem hWp{P:Program}{c:Code}{Q:Exit->Act->World->Prop}{a:Act}(Ψ:World->Prop){w:World}(h1:Ψ w)(h:∀W,Ψ W->Code.wp P c Q a W):Code.wp P c Q a w:=h w h1
theorem hBk{P:Program}{c:Code}{Q:Exit->Act->World->Prop}{a:Act}(w:World)(cs:List Value)(T:TypeId)(h:∀W,Ext w W/\Blk W w.heap.size cs T->Code.wp P c Q a W):Code.wp P c Q a (w.alloc (.cells cs.toArray T)):=h _ ⟨(Ext.refl w).alloc _,Blk.new w cs T⟩
theorem eR(w:World):Ext w w:=Ext.refl w
theorem eA{a w:World}(h:Ext a w)(o:Obj):Ext a (w.alloc o):=h.alloc o
theorem eD{a w:World}(h:Ext a w):Ext a w.drew:=h.drew
theorem eW{a w:World}(h:Ext a w)(n:Nat):Ext a (w.drewN n):=h.drewN n
theorem eS{a w:World}{p:Addr}{u:Value}(hp:a.heap.size<=p.block)(h:Ext a w):Ext a (w.setCell p u):=h.setCell hp u
theorem dT{p:Prop}[Decidable p](h:p):decide p=true:=decide_eq_true h
theorem dF{p:Prop}[Decidable p](h:¬p):decide p=false:=decide_eq_false h
theorem gE{α:Type}{l:List α}{i:Nat}(h:i<l.length):l[i]?=some l[i]:=List.getElem?_eq_getElem h
section
variable {P:Program} {ops:Array Oper}
def NoWay:Exit->Act->World->Prop:=fun _ _ _=>False
theorem Oper.wp_of_noWay{Q:Exit->Act->World->Prop}{o:Oper}{a:Act}{w:World}{K:Act->World->Prop}(hh:o.wp P a w K NoWay):o.wp P a w K Q:=by
 unfold Oper.wp at*
 generalize (execOp a.eval o).run P w=r at*
 cases r with
 |ok n w'=>
  cases n<;>simp only[Oper.upon]at hh ⊢ <;>
   first
    |exact hh
    |exact Calls.mono hh (fun e w'' he=>by cases e<;>first|exact he|exact False.elim he|(obtain⟨_,_,hf⟩:=he;exact False.elim hf))
    |exact Rows.mono hh (fun _ _ he=>he)
 |halt x w'=>cases x<;>simp only[Oper.upon]at hh ⊢ <;>exact False.elim hh
theorem wpOp_of_noWay{Q:Exit->Act->World->Prop}{i:Nat}{a:Act}{w:World}{K:Act->World->Prop}(hh:wpOp P ops NoWay i K a w):wpOp P ops Q i K a w:=by
 unfold wpOp at*
 split
 ·simpa[*]using hh
 ·rename_i o ho
  simp only[ho]at hh
  split
  ·rename_i hw
   simp only[hw,if_true]at hh
   rcases hh with hh|⟨_,_,_,hf⟩
   ·exact .inl (Oper.wp_of_noWay hh)
   ·exact False.elim hf
  ·rename_i hw
   simp only[hw]at hh
   exact hh
def Oper.quietE(P:Program)(w1:World)(v:Value):Result Next->Prop
 | .ok (.value u) w'=>Ext w1 w'/\u=v
 | .ok .skip w'=>Ext w1 w'/\v=undef
 | .ok (.enter f args) w'=>Ext w1 w'/\Calls P f args w' (fun e w''=>e=.returned v/\Ext w1 w'')
 |_=>False
attribute [go_sem] Oper.quietE
attribute [simp,go_sem] Ext.refl
def YieldsE(P:Program)(ops:Array Oper)(o:Oper)(v:Value)(a:Act)(w:World):Prop:=
 (Region.wanted o (yielded ops a.tmps)=true/\∀w1,Ext w w1->Oper.quietE P w1 v ((execOp a.eval o).run P w1))\/
 (Region.wanted o (yielded ops a.tmps)=false/\v=undef)
theorem YieldsE.later{o:Oper}{v:Value}{a:Act}{w w':World}(h:YieldsE P ops o v a w)(hx:Ext w w'):YieldsE P ops o v a w':=
 h.imp (fun⟨h1,h2⟩=>⟨h1,fun w1 h3=>h2 w1 (hx.trans h3)⟩) id
theorem YieldsE.of_same{o:Oper}{v:Value}{a a':Act}{w:World}(hy:YieldsE P ops o v a w)(he:execOp a'.eval o=execOp a.eval o)
 (hw:Region.wanted o (yielded ops a'.tmps)=Region.wanted o (yielded ops a.tmps)):YieldsE P ops o v a' w:=by
 unfold YieldsE at*
 rw[he,hw]
 exact hy
theorem YieldsE.wpOp{i:Nat}{o:Oper}{v:Value}{a:Act}{w w1:World}(hi:ops[i]?=some o)(hy:YieldsE P ops o v a w)(hx:Ext w w1)
 {K:Act->World->Prop} (h:∀w',Ext w1 w'->K (a.put o.dst v) w'):wpOp P ops NoWay i K a w1:=by
 unfold Go.wpOp
 simp only[hi]
 rcases hy with⟨hw,hv⟩|⟨hw,rfl⟩
 ·simp only[hw,if_true]
  refine .inl ?_
  have h3:=hv w1 hx
  unfold Oper.wp
  generalize (execOp a.eval o).run P w1=r at*
  cases r with
  |ok n w'=>
   cases n<;>simp only[Oper.quietE]at h3<;>simp only[Oper.upon]
   case value u=>obtain⟨e1,e2⟩:=h3;rw[e2];exact h _ e1
   case skip=>obtain⟨e1,e2⟩:=h3;rw[<-e2];exact h _ e1
   case enter f args=>
    obtain⟨_,hc⟩:=h3
    exact hc.mono fun e w'' ⟨he,hw''⟩=>by subst he;exact h _ hw''
  |halt x w'=>simp only[Oper.quietE]at h3
 ·simp only[hw,Bool.false_eq_true,if_false]
  exact h _ (Ext.refl _)
theorem wpOp_putE{j:Nat}{oi oj:Oper}{v:Value}(hj:ops[j]?=some oj)(hap:oi.apart ops oj=true)
 (hsi:∀cs b,oi.op≠ .select cs b) (hsj:∀cs b,oj.op≠ .select cs b) {K:Act->World->Prop} {a:Act} {w0 w:World}
 (hy:YieldsE P ops oi v a w0) (h:wpOp P ops NoWay j K (a.put oi.dst v) w):
 wpOp P ops NoWay j (fun a' w'=>YieldsE P ops oi v a' w0/\K (a'.put oi.dst v) w') a w:=by
 obtain⟨h1,h2,h3⟩:=Oper.apart_spec hap
 have keep:∀(a:Act),YieldsE P ops oi v a w0->∀u,YieldsE P ops oi v (a.put oj.dst u) w0:=fun a hy u=>
  hy.of_same (execOp_put oi hsi a oj.dst u h3) (wanted_put oi a oj.dst u h3)
 have keepD:∀d,YieldsE P ops oi v {a with defers:=d::a.defers} w0:=fun d=>hy.of_same rfl rfl
 unfold wpOp at*
 simp only[hj]at*
 rw[wanted_put oj a oi.dst v h1]at h
 split
 ·rename_i hw
  simp only[hw,if_true]at h
  rcases h with h|⟨_,_,_,hf⟩
  case inr=>exact False.elim hf
  refine .inl ?_
  unfold Oper.wp at*
  rw[execOp_put oj hsj a oi.dst v h1]at h
  generalize (execOp a.eval oj).run P w=r at*
  cases r with
  |ok n w'=>
   cases n<;>simp only[Oper.upon]at h ⊢
   case value u=>exact⟨keep a hy u,by rw[<-Act.put_comm a v u h2];exact h⟩
   case skip=>exact⟨keep a hy _,by rw[<-Act.put_comm a v undef h2];exact h⟩
   case defer d=>
    refine⟨keep _ (keepD d) _,?_⟩
    rw[<-Act.put_comm _ v undef h2,<-Act.put_defers]
    exact h
   case enter f args=>
    refine Calls.mono h fun e w'' he=>?_
    cases e with
    |returned u=>exact⟨keep a hy u,by rw[<-Act.put_comm a v u h2];exact he⟩
    |panicked c=>exact he
    |outgrown=>exact he
   case row row args=>exact Rows.mono h fun u w'' he=>⟨keep a hy u,by rw[<-Act.put_comm a v u h2];exact he⟩
  |halt x w'=>cases x<;>simp only[Oper.upon]at h ⊢;exact h
 ·rename_i hw
  simp only[hw]at h
  exact⟨keep a hy _,by rw[<-Act.put_comm a v undef h2];exact h⟩
def headE(P:Program)(ops:Array Oper)(n:Nat)(L:Array Bool->Act->World->Prop):Nat->Array Bool->Act->World->Prop
 |0,listed,a,w=>∀w1,Ext w w1->L listed a w1
 |f+1,listed,a,w=>Region.ready .any ops listed≠[]/\∀i∈Region.ready .any ops listed,i<n/\
   ∀w1,Ext w w1->wpOp P ops NoWay i (fun a' w'=>Ext w1 w'/\headE P ops n L f (listed.setIfInBounds i true) a' w') a w1
theorem headE_later{n:Nat}{L:Array Bool->Act->World->Prop}:∀(f:Nat) {listed:Array Bool} {a:Act} {w w':World},headE P ops n L f listed a w->Ext w w'->headE P ops n L f listed a w'
 |0,_,_,_,_,h,hx=>fun w1 h1=>h w1 (hx.trans h1)
 |_+1,_,_,_,_,h,hx=>⟨h.1,fun i hi=>⟨(h.2 i hi).1,fun w1 h1=>(h.2 i hi).2 w1 (hx.trans h1)⟩⟩
theorem wpAny_of_headE{n g:Nat}{L:Array Bool->Act->World->Prop}{Q:Exit->Act->World->Prop}(hL:∀listed a w,L listed a w->wpAny P .any ops Q g listed a w):
 ∀(f:Nat) (listed:Array Bool) (a:Act) (w:World),headE P ops n L f listed a w->wpAny P .any ops Q (f+g) listed a w
 |0,listed,a,w,h=>by rw[Nat.zero_add];exact hL _ _ _ (h w (Ext.refl w))
 |f+1,listed,a,w,h=>by
  rw[show f+1+g=(f+g)+1 by omega]
  exact⟨fun h0=>absurd h0 h.1,fun i hi=>wpOp_mono (fun a' w' h'=>wpAny_of_headE hL f _ a' w' h'.2) (wpOp_of_noWay ((h.2 i hi).2 w (Ext.refl w)))⟩
theorem headE_first{n i:Nat}{oi:Oper}{v:Value}{L:Array Bool->Act->World->Prop}(hi:ops[i]?=some oi)(hsel:∀(j:Nat) (o:Oper) cs b,ops[j]?=some o->o.op≠ .select cs b)
 (hs:Region.sinkB .any ops n=true) (hc:Region.chainB .any ops n=true) (hn:n<ops.size) (hin:i<n)
 (hdone:∀listed a w,L listed a w->∀j∈Region.ready .any ops listed,n<=j):
 ∀(f:Nat) (listed:Array Bool) (a:Act) (w:World),HeadInv .any ops n listed->
  (∀j oj,ops[j]?=some oj->j≠i->listed.getD j true=false->(∀e∈oj.after,Region.binds .any e=true->e.on≠i)->oi.apart ops oj=true)->
  i∈Region.ready .any ops listed->YieldsE P ops oi v a w->
  headE P ops n L f (listed.setIfInBounds i true) (a.put oi.dst v) w->headE P ops n L (f+1) listed a w:=by
 intro f
 induction f with
 |zero=>
  intro listed a w inv _ hr hy H
  have hun:=(mem_ready.1 hr).1
  refine⟨fun h=>(by rw[h]at hr;cases hr),fun j hj=>?_⟩
  have hjn:j<n:=by
   rcases Nat.lt_or_ge j n with h|h
   ·exact h
   ·exact absurd hj (tail_waits hs hc hn inv _ i rfl hin hun j h)
  refine⟨hjn,fun w1 hx=>?_⟩
  by_cases hji:j=i
  ·subst hji
   exact hy.wpOp hi hx fun w' hw'=>⟨hw',headE_later 0 H (hx.trans hw')⟩
  ·have:=hdone _ _ _ (H w (Ext.refl w)) j (ready_mono hj hji)
   omega
 |succ f ih=>
  intro listed a w inv hfree hr hy H
  have hun:=(mem_ready.1 hr).1
  refine⟨fun h=>(by rw[h]at hr;cases hr),fun j hj=>?_⟩
  have hjn:j<n:=by
   rcases Nat.lt_or_ge j n with h|h
   ·exact h
   ·exact absurd hj (tail_waits hs hc hn inv _ i rfl hin hun j h)
  refine⟨hjn,fun w1 hx=>?_⟩
  by_cases hji:j=i
  ·subst hji
   exact hy.wpOp hi hx fun w' hw'=>⟨hw',headE_later _ H (hx.trans hw')⟩
  ·have h1:=(H.2 j (ready_mono hj hji)).2 w1 hx
   obtain⟨hjun,oj,hoj,hall⟩:=mem_ready.1 hj
   have hnot:∀e∈oj.after,Region.binds .any e=true->e.on≠i:=fun e he hb heq=>by
    have h1:=hall e he hb
    rw[heq,getD_both hun]at h1
    cases h1
   have h2:=wpOp_putE hoj (hfree j oj hoj hji hjun hnot) (fun cs b=>hsel i oi cs b hi) (fun cs b=>hsel j oj cs b hoj) (hy.later hx) h1
   have hfree':∀k ok,ops[k]?=some ok->k≠i->(listed.setIfInBounds j true).getD k true=false->
    (∀e∈ok.after,Region.binds .any e=true->e.on≠i)->oi.apart ops ok=true:=fun k ok hk hki hun hno=>by
    refine hfree k ok hk hki ?_ hno
    by_cases hjk:j=k
    ·subst hjk;exact hjun
    ·rw[getD_set_ne true hjk]at hun;exact hun
   refine wpOp_mono (fun a' w' h3=>⟨h3.2.1,ih (listed.setIfInBounds j true) a' w' (inv.set hj hjn) hfree' (ready_mono hr (Ne.symm hji)) (h3.1.later h3.2.1) ?_⟩) h2
   rw[Array.setIfInBounds_comm _ _ hji]
   exact h3.2.2
def okE(ops:Array Oper)(n:Nat):Bool:=Region.noSelect ops&&decide (n<ops.size)&&Region.sinkB .any ops n&&Region.chainB .any ops n
def WE(P:Program)(l:List Oper)(n:Nat)(Q:Exit->Act->World->Prop)(f:Nat)(listed:Array Bool)(a:Act)(w:World):Prop:=
 okE l.toArray n=true->HeadInv .any l.toArray n listed->headE P l.toArray n (fun listed' a' w'=>Region.seqB .any l.toArray (l.length-n) n listed'=true/\wpList P l.toArray Q (l.drop n) a' w') f listed a w
variable {l:List Oper} {n:Nat} {Q:Exit->Act->World->Prop} {f:Nat} {listed:Array Bool} {a:Act} {w:World}
theorem WE_take(i:Nat){oi:Oper}{v:Value}(hi:l[i]?=some oi)(hin:i<n)
 (hf:(Region.free .any l.toArray listed i&&(Region.ready .any l.toArray listed).contains i)=true) (hy:YieldsE P l.toArray oi v a w)
 (h:WE P l n Q f (listed.setIfInBounds i true) (a.put oi.dst v) w):WE P l n Q (f+1) listed a w:=by
 intro hk inv
 have hk':=hk
 simp only[okE,Bool.and_eq_true,decide_eq_true_eq]at hk
 obtain⟨⟨⟨hsel,hn⟩,hs⟩,hc⟩:=hk
 simp only[Bool.and_eq_true]at hf
 have hr:i∈Region.ready .any l.toArray listed:=by simpa using hf.2
 have hi':l.toArray[i]?=some oi:=by simpa using hi
 exact headE_first hi' (Region.noSelect_spec hsel) hs hc hn hin (fun listed' _ _ hL=>seqB_ready hL.1) f listed a w inv (Region.free_spec hi' hf.1) hr hy (h hk' (inv.set hr hin))
theorem WE_q(i:Nat){oi:Oper}(hi:l[i]?=some oi)(hin:i<n)
 (hf:(Region.free .any l.toArray listed i&&(Region.ready .any l.toArray listed).contains i)=true) (hw:Region.wanted oi (yielded l.toArray a.tmps)=true)
 (h:∃v,(∀w1,Ext w w1->Oper.quietE P w1 v ((execOp a.eval oi).run P w1))/\WE P l n Q f (listed.setIfInBounds i true) (a.put oi.dst v) w):WE P l n Q (f+1) listed a w:=
 let⟨_,h1,h2⟩:=h
 WE_take i hi hin hf (.inl ⟨hw,h1⟩) h2
theorem WE_s(i:Nat){oi:Oper}(hi:l[i]?=some oi)(hin:i<n)
 (hf:(Region.free .any l.toArray listed i&&(Region.ready .any l.toArray listed).contains i)=true) (hw:Region.wanted oi (yielded l.toArray a.tmps)=false)
 (h:WE P l n Q f (listed.setIfInBounds i true) (a.put oi.dst undef) w):WE P l n Q (f+1) listed a w:=
 WE_take i hi hin hf (.inr ⟨hw,rfl⟩) h
def WEi(P:Program)(l:List Oper)(n:Nat)(Q:Exit->Act->World->Prop)(f:Nat)(listed:Array Bool)(a:Act)(w:World)(_i:Nat):Prop:=WE P l n Q f listed a w
theorem WEi_at(i:Nat)(h:WEi P l n Q f listed a w i):WE P l n Q f listed a w:=h
theorem WEi_out{i:Nat}(h:WE P l n Q f listed a w):WEi P l n Q f listed a w i:=h
theorem WEi_q{i:Nat}{oi:Oper}(hi:l[i]?=some oi)(hin:i<n)
 (hf:(Region.free .any l.toArray listed i&&(Region.ready .any l.toArray listed).contains i)=true) (hw:Region.wanted oi (yielded l.toArray a.tmps)=true)
 (h:∃v,(∀w1,Ext w w1->Oper.quietE P w1 v ((execOp a.eval oi).run P w1))/\WEi P l n Q f (listed.setIfInBounds i true) (a.put oi.dst v) w (i+1)):WEi P l n Q (f+1) listed a w i:=
 WE_q i hi hin hf hw h
theorem WEi_s{i:Nat}{oi:Oper}(hi:l[i]?=some oi)(hin:i<n)
 (hf:(Region.free .any l.toArray listed i&&(Region.ready .any l.toArray listed).contains i)=true) (hw:Region.wanted oi (yielded l.toArray a.tmps)=false)
 (h:WEi P l n Q f (listed.setIfInBounds i true) (a.put oi.dst undef) w (i+1)):WEi P l n Q (f+1) listed a w i:=
 WE_s i hi hin hf hw h
theorem WE_do(i:Nat){oi:Oper}(hi:l[i]?=some oi)(hin:i<n)(hr:Region.ready .any l.toArray listed=[i])(hg:oi.guard=none)
 (h:∀w1,Ext w w1->∀K:Act->World->Prop,(∀a' w',Ext w1 w'->WE P l n Q f (listed.setIfInBounds i true) a' w'->K a' w')->oi.wp P a w1 K NoWay):WE P l n Q (f+1) listed a w:=by
 intro hk inv
 refine⟨fun h0=>(by rw[hr]at h0;cases h0),fun j hj=>?_⟩
 have hj':=hj
 rw[hr]at hj'
 have hji:j=i:=by simpa using hj'
 subst hji
 refine⟨hin,fun w1 hx=>?_⟩
 unfold wpOp
 have hi':l.toArray[j]?=some oi:=by simpa using hi
 simp only[hi']
 rw[if_pos (by simp[Region.wanted,hg])]
 exact .inl (h w1 hx _ fun _ _ h1 h2=>⟨h1,h2 hk (inv.set hj hin)⟩)
theorem WE_done(hq:Region.seqB .any l.toArray (l.length-n) n listed=true)(h:∀w1,Ext w w1->wpList P l.toArray Q (l.drop n) a w1):WE P l n Q 0 listed a w:=
 fun _ _ w1 hx=>⟨hq,h w1 hx⟩
theorem wp_region_E{id:Nat}(n:Nat){m:Nat}(hlen:l.length=m)(hm:P.follows .mixedOrders=true)(hk:okE l.toArray n=true)
 (h:WE P l n Q n (Array.replicate m false) a w):(Code.region id l.toArray true).wp P Q a w:=by
 subst hlen
 have hk':=hk
 simp only[okE,Bool.and_eq_true,decide_eq_true_eq]at hk'
 obtain⟨⟨⟨hsel,hn⟩,hs⟩,hc⟩:=hk'
 have hn':n<l.length:=by simpa using hn
 have inv0:HeadInv .any l.toArray n (Array.replicate l.length false):=
  ⟨by simp,fun j oj _ hl=>(by rw[getD_replicate_false]at hl;cases hl),fun t _ ht=>getD_in (by simpa using ht) (getD_replicate_false _ _)⟩
 refine wp_region_any hm ?_
 have hx:Ext w {w with drawn:=w.drawn+1}:=⟨rfl,rfl,rfl,Nat.le_refl _,fun _ _=>rfl⟩
 have H:=headE_later _ (h hk inv0) hx
 have:=wpAny_of_headE (Q:=Q) (g:=l.length-n) (fun listed' a' w' hL=>by
  have:=wpAny_of_seq (md:=.any) (Q':=Q) (l.drop n) n listed' a' w' (fun j=>by simp[List.getElem?_drop]) (by rw[List.length_drop];exact hL.1) hL.2
  rwa [List.length_drop]at this) _ _ _ _ H
 rw[show n+(l.length-n)=l.toArray.size by simp;omega]at this
 simpa using this
end
section
variable {P:Program} {l:List Oper} {n:Nat} {Q:Exit->Act->World->Prop} {f:Nat} {listed:Array Bool} {a:Act} {w:World}
def WE1(P:Program)(l:List Oper)(n:Nat)(Q:Exit->Act->World->Prop)(f:Nat)(listed:Array Bool)(a:Act)(w:World)(i:Nat)(oi:Oper):Prop:=
 ∀w1,Ext w w1->∀K:Act->World->Prop,(∀a' w',Ext w1 w'->WE P l n Q f (listed.setIfInBounds i true) a' w'->K a' w')->oi.wp P a w1 K NoWay
theorem WE1.step{i:Nat}{oi:Oper}(hi:l[i]?=some oi)(hin:i<n)(hw:Region.wanted oi (yielded l.toArray a.tmps)=true)(h:WE1 P l n Q f listed a w i oi)
 (hk:okE l.toArray n=true) (inv:HeadInv .any l.toArray n listed) (hr:i∈Region.ready .any l.toArray listed):
 i<n/\∀w1,Ext w w1->wpOp P l.toArray NoWay i (fun a' w'=>Ext w1 w'/\headE P l.toArray n (fun listed' a' w'=>Region.seqB .any l.toArray (l.length-n) n listed'=true/\wpList P l.toArray Q (l.drop n) a' w') f (listed.setIfInBounds i true) a' w') a w1:=by
 refine⟨hin,fun w1 hx=>?_⟩
 unfold wpOp
 have hi':l.toArray[i]?=some oi:=by simpa using hi
 simp only[hi']
 rw[if_pos hw]
 exact .inl (h w1 hx _ fun _ _ h1 h2=>⟨h1,h2 hk (inv.set hr hin)⟩)
theorem wp_of_list{o:Oper}{ops:Array Oper}{K:Act->World->Prop}(hw:Region.wanted o (yielded ops a.tmps)=true)(h:wpList P ops (fun x a' w'=>x=.normal/\K a' w') [o] a w):o.wp P a w K NoWay:=by
 unfold wpList at h
 rw[if_pos hw]at h
 rcases h with h|⟨_,_,_,h,_⟩
 ·unfold Oper.wp at*
  generalize (execOp a.eval o).run P w=r at*
  cases r with
  |ok n w'=>
   cases n<;>simp only[Oper.upon]at h ⊢ <;>
    first
     |exact h.2
     |exact Calls.mono h (fun e w'' he=>by cases e<;>first|exact he.2|(cases he.1)|(obtain⟨_,_,hf,_⟩:=he;cases hf))
     |exact Rows.mono h (fun _ _ he=>he.2)
     |exact False.elim h
  |halt x w'=>cases x<;>simp only[Oper.upon]at h ⊢ <;>first|(cases h.1)|exact h
 ·cases h
end
section
variable {P:Program} {ops:Array Oper} {R:World->World->Prop}
structure Pre(R:World->World->Prop):Prop where
 refl:∀w,R w w
 trans:∀{a b c},R a b->R b c->R a c
theorem preBelow(B:Nat):Pre (fun w w'=>B<=w.heap.size->Below B w w'/\B<=w'.heap.size):=
 ⟨fun _ h=>⟨Below.refl _ _,h⟩,fun h1 h2 h=>⟨(h1 h).1.trans (h2 (h1 h).2).1,(h2 (h1 h).2).2⟩⟩
def YieldsR(R:World->World->Prop)(P:Program)(ops:Array Oper)(o:Oper)(v:Value)(a:Act)(w:World):Prop:=
 (Region.wanted o (yielded ops a.tmps)=true/\∀w1,R w w1->(execOp a.eval o).run P w1=.ok (.value v) w1)\/
 (Region.wanted o (yielded ops a.tmps)=false/\v=undef)
theorem YieldsR.later(hR:Pre R){o:Oper}{v:Value}{a:Act}{w w':World}(h:YieldsR R P ops o v a w)(hx:R w w'):YieldsR R P ops o v a w':=
 h.imp (fun⟨h1,h2⟩=>⟨h1,fun w1 h3=>h2 w1 (hR.trans hx h3)⟩) id
theorem YieldsR.of_same{o:Oper}{v:Value}{a a':Act}{w:World}(hy:YieldsR R P ops o v a w)(he:execOp a'.eval o=execOp a.eval o)
 (hw:Region.wanted o (yielded ops a'.tmps)=Region.wanted o (yielded ops a.tmps)):YieldsR R P ops o v a' w:=by
 unfold YieldsR at*
 rw[he,hw]
 exact hy
theorem YieldsR.wpOp(hR:Pre R){i:Nat}{o:Oper}{v:Value}{a:Act}{w:World}(hi:ops[i]?=some o)(hy:YieldsR R P ops o v a w)
 {K:Act->World->Prop} (h:K (a.put o.dst v) w):wpOp P ops NoWay i K a w:=by
 unfold Go.wpOp
 simp only[hi]
 rcases hy with⟨hw,hv⟩|⟨hw,rfl⟩
 ·simp only[hw,if_true]
  refine .inl ?_
  have h3:=hv w (hR.refl w)
  unfold Oper.wp
  rw[h3]
  exact h
 ·simp only[hw,Bool.false_eq_true,if_false]
  exact h
theorem wpOp_putR{j:Nat}{oi oj:Oper}{v:Value}(hj:ops[j]?=some oj)(hap:oi.apart ops oj=true)
 (hsi:∀cs b,oi.op≠ .select cs b) (hsj:∀cs b,oj.op≠ .select cs b) {K:Act->World->Prop} {a:Act} {w0 w:World}
 (hy:YieldsR R P ops oi v a w0) (h:wpOp P ops NoWay j K (a.put oi.dst v) w):
 wpOp P ops NoWay j (fun a' w'=>YieldsR R P ops oi v a' w0/\K (a'.put oi.dst v) w') a w:=by
 obtain⟨h1,h2,h3⟩:=Oper.apart_spec hap
 have keep:∀(a:Act),YieldsR R P ops oi v a w0->∀u,YieldsR R P ops oi v (a.put oj.dst u) w0:=fun a hy u=>
  hy.of_same (execOp_put oi hsi a oj.dst u h3) (wanted_put oi a oj.dst u h3)
 have keepD:∀d,YieldsR R P ops oi v {a with defers:=d::a.defers} w0:=fun d=>hy.of_same rfl rfl
 unfold wpOp at*
 simp only[hj]at*
 rw[wanted_put oj a oi.dst v h1]at h
 split
 ·rename_i hw
  simp only[hw,if_true]at h
  rcases h with h|⟨_,_,_,hf⟩
  case inr=>exact False.elim hf
  refine .inl ?_
  unfold Oper.wp at*
  rw[execOp_put oj hsj a oi.dst v h1]at h
  generalize (execOp a.eval oj).run P w=r at*
  cases r with
  |ok n w'=>
   cases n<;>simp only[Oper.upon]at h ⊢
   case value u=>exact⟨keep a hy u,by rw[<-Act.put_comm a v u h2];exact h⟩
   case skip=>exact⟨keep a hy _,by rw[<-Act.put_comm a v undef h2];exact h⟩
   case defer d=>
    refine⟨keep _ (keepD d) _,?_⟩
    rw[<-Act.put_comm _ v undef h2,<-Act.put_defers]
    exact h
   case enter f args=>
    refine Calls.mono h fun e w'' he=>?_
    cases e with
    |returned u=>exact⟨keep a hy u,by rw[<-Act.put_comm a v u h2];exact he⟩
    |panicked c=>exact he
    |outgrown=>exact he
   case row row args=>exact Rows.mono h fun u w'' he=>⟨keep a hy u,by rw[<-Act.put_comm a v u h2];exact he⟩
  |halt x w'=>cases x<;>simp only[Oper.upon]at h ⊢;exact h
 ·rename_i hw
  simp only[hw]at h
  exact⟨keep a hy _,by rw[<-Act.put_comm a v undef h2];exact h⟩
def headR(R:World->World->Prop)(P:Program)(ops:Array Oper)(n:Nat)(L:Array Bool->Act->World->Prop):Nat->Array Bool->Act->World->Prop
 |0,listed,a,w=>L listed a w
 |f+1,listed,a,w=>Region.ready .any ops listed≠[]/\∀i∈Region.ready .any ops listed,i<n/\
   wpOp P ops NoWay i (fun a' w'=>R w w'/\headR R P ops n L f (listed.setIfInBounds i true) a' w') a w
theorem wpAny_of_headR{n g:Nat}{L:Array Bool->Act->World->Prop}{Q:Exit->Act->World->Prop}(hL:∀listed a w,L listed a w->wpAny P .any ops Q g listed a w):
 ∀(f:Nat) (listed:Array Bool) (a:Act) (w:World),headR R P ops n L f listed a w->wpAny P .any ops Q (f+g) listed a w
 |0,listed,a,w,h=>by rw[Nat.zero_add];exact hL _ _ _ h
 |f+1,listed,a,w,h=>by
  rw[show f+1+g=(f+g)+1 by omega]
  exact⟨fun h0=>absurd h0 h.1,fun i hi=>wpOp_mono (fun a' w' h'=>wpAny_of_headR hL f _ a' w' h'.2) (wpOp_of_noWay (h.2 i hi).2)⟩
theorem headR_first(hR:Pre R){n i:Nat}{oi:Oper}{v:Value}{L:Array Bool->Act->World->Prop}(hi:ops[i]?=some oi)(hsel:∀(j:Nat) (o:Oper) cs b,ops[j]?=some o->o.op≠ .select cs b)
 (hs:Region.sinkB .any ops n=true) (hc:Region.chainB .any ops n=true) (hn:n<ops.size) (hin:i<n)
 (hdone:∀listed a w,L listed a w->∀j∈Region.ready .any ops listed,n<=j):
 ∀(f:Nat) (listed:Array Bool) (a:Act) (w:World),HeadInv .any ops n listed->
  (∀j oj,ops[j]?=some oj->j≠i->listed.getD j true=false->(∀e∈oj.after,Region.binds .any e=true->e.on≠i)->oi.apart ops oj=true)->
  i∈Region.ready .any ops listed->YieldsR R P ops oi v a w->
  headR R P ops n L f (listed.setIfInBounds i true) (a.put oi.dst v) w->headR R P ops n L (f+1) listed a w:=by
 intro f
 induction f with
 |zero=>
  intro listed a w inv _ hr hy H
  have hun:=(mem_ready.1 hr).1
  refine⟨fun h=>(by rw[h]at hr;cases hr),fun j hj=>?_⟩
  have hjn:j<n:=by
   rcases Nat.lt_or_ge j n with h|h
   ·exact h
   ·exact absurd hj (tail_waits hs hc hn inv _ i rfl hin hun j h)
  refine⟨hjn,?_⟩
  by_cases hji:j=i
  ·subst hji
   exact hy.wpOp hR hi ⟨hR.refl w,H⟩
  ·have:=hdone _ _ _ H j (ready_mono hj hji)
   omega
 |succ f ih=>
  intro listed a w inv hfree hr hy H
  have hun:=(mem_ready.1 hr).1
  refine⟨fun h=>(by rw[h]at hr;cases hr),fun j hj=>?_⟩
  have hjn:j<n:=by
   rcases Nat.lt_or_ge j n with h|h
   ·exact h
   ·exact absurd hj (tail_waits hs hc hn inv _ i rfl hin hun j h)
  refine⟨hjn,?_⟩
  by_cases hji:j=i
  ·subst hji
   exact hy.wpOp hR hi ⟨hR.refl w,H⟩
  ·have h1:=(H.2 j (ready_mono hj hji)).2
   obtain⟨hjun,oj,hoj,hall⟩:=mem_ready.1 hj
   have hnot:∀e∈oj.after,Region.binds .any e=true->e.on≠i:=fun e he hb heq=>by
    have h1:=hall e he hb
    rw[heq,getD_both hun]at h1
    cases h1
   have h2:=wpOp_putR hoj (hfree j oj hoj hji hjun hnot) (fun cs b=>hsel i oi cs b hi) (fun cs b=>hsel j oj cs b hoj) hy h1
   have hfree':∀k ok,ops[k]?=some ok->k≠i->(listed.setIfInBounds j true).getD k true=false->
    (∀e∈ok.after,Region.binds .any e=true->e.on≠i)->oi.apart ops ok=true:=fun k ok hk hki hun hno=>by
    refine hfree k ok hk hki ?_ hno
    by_cases hjk:j=k
    ·subst hjk;exact hjun
    ·rw[getD_set_ne true hjk]at hun;exact hun
   refine wpOp_mono (fun a' w' h3=>⟨h3.2.1,ih (listed.setIfInBounds j true) a' w' (inv.set hj hjn) hfree' (ready_mono hr (Ne.symm hji)) (h3.1.later hR h3.2.1) ?_⟩) h2
   rw[Array.setIfInBounds_comm _ _ hji]
   exact h3.2.2
def WR(R:World->World->Prop)(P:Program)(l:List Oper)(n:Nat)(Q:Exit->Act->World->Prop)(f:Nat)(listed:Array Bool)(a:Act)(w:World):Prop:=
 okE l.toArray n=true->HeadInv .any l.toArray n listed->headR R P l.toArray n (fun listed' a' w'=>Region.seqB .any l.toArray (l.length-n) n listed'=true/\wpList P l.toArray Q (l.drop n) a' w') f listed a w
variable {l:List Oper} {n:Nat} {Q:Exit->Act->World->Prop} {f:Nat} {listed:Array Bool} {a:Act} {w:World}
theorem WR_take(hR:Pre R)(i:Nat){oi:Oper}{v:Value}(hi:l[i]?=some oi)(hin:i<n)
 (hf:(Region.free .any l.toArray listed i&&(Region.ready .any l.toArray listed).contains i)=true) (hy:YieldsR R P l.toArray oi v a w)
 (h:WR R P l n Q f (listed.setIfInBounds i true) (a.put oi.dst v) w):WR R P l n Q (f+1) listed a w:=by
 intro hk inv
 have hk':=hk
 simp only[okE,Bool.and_eq_true,decide_eq_true_eq]at hk
 obtain⟨⟨⟨hsel,hn⟩,hs⟩,hc⟩:=hk
 simp only[Bool.and_eq_true]at hf
 have hr:i∈Region.ready .any l.toArray listed:=by simpa using hf.2
 have hi':l.toArray[i]?=some oi:=by simpa using hi
 exact headR_first hR hi' (Region.noSelect_spec hsel) hs hc hn hin (fun listed' _ _ hL=>seqB_ready hL.1) f listed a w inv (Region.free_spec hi' hf.1) hr hy (h hk' (inv.set hr hin))
theorem WR_q(hR:Pre R)(i:Nat){oi:Oper}(hi:l[i]?=some oi)(hin:i<n)
 (hf:(Region.free .any l.toArray listed i&&(Region.ready .any l.toArray listed).contains i)=true) (hw:Region.wanted oi (yielded l.toArray a.tmps)=true)
 (h:∃v,(∀w1,R w w1->(execOp a.eval oi).run P w1=.ok (.value v) w1)/\WR R P l n Q f (listed.setIfInBounds i true) (a.put oi.dst v) w):WR R P l n Q (f+1) listed a w:=
 let⟨_,h1,h2⟩:=h
 WR_take hR i hi hin hf (.inl ⟨hw,h1⟩) h2
def WRi(R:World->World->Prop)(P:Program)(l:List Oper)(n:Nat)(Q:Exit->Act->World->Prop)(f:Nat)(listed:Array Bool)(a:Act)(w:World)(_i:Nat):Prop:=WR R P l n Q f listed a w
theorem WRi_at(i:Nat)(h:WRi R P l n Q f listed a w i):WR R P l n Q f listed a w:=h
theorem WRi_out{i:Nat}(h:WR R P l n Q f listed a w):WRi R P l n Q f listed a w i:=h
theorem WRi_q(hR:Pre R){i:Nat}{oi:Oper}(hi:l[i]?=some oi)(hin:i<n)
 (hf:(Region.free .any l.toArray listed i&&(Region.ready .any l.toArray listed).contains i)=true) (hw:Region.wanted oi (yielded l.toArray a.tmps)=true)
 (h:∃v,(∀w1,R w w1->(execOp a.eval oi).run P w1=.ok (.value v) w1)/\WRi R P l n Q f (listed.setIfInBounds i true) (a.put oi.dst v) w (i+1)):WRi R P l n Q (f+1) listed a w i:=
 WR_q hR i hi hin hf hw h
def WR1(R:World->World->Prop)(P:Program)(l:List Oper)(n:Nat)(Q:Exit->Act->World->Prop)(f:Nat)(listed:Array Bool)(a:Act)(w:World)(i:Nat)(oi:Oper):Prop:=
 ∀K:Act->World->Prop,(∀a' w',R w w'->WR R P l n Q f (listed.setIfInBounds i true) a' w'->K a' w')->oi.wp P a w K NoWay
theorem WR1.step{i:Nat}{oi:Oper}(hi:l[i]?=some oi)(hin:i<n)(hw:Region.wanted oi (yielded l.toArray a.tmps)=true)(h:WR1 R P l n Q f listed a w i oi)
 (hk:okE l.toArray n=true) (inv:HeadInv .any l.toArray n listed) (hr:i∈Region.ready .any l.toArray listed):
 i<n/\wpOp P l.toArray NoWay i (fun a' w'=>R w w'/\headR R P l.toArray n (fun listed' a' w'=>Region.seqB .any l.toArray (l.length-n) n listed'=true/\wpList P l.toArray Q (l.drop n) a' w') f (listed.setIfInBounds i true) a' w') a w:=by
 refine⟨hin,?_⟩
 unfold wpOp
 have hi':l.toArray[i]?=some oi:=by simpa using hi
 simp only[hi']
 rw[if_pos hw]
 exact .inl (h _ fun _ _ h1 h2=>⟨h1,h2 hk (inv.set hr hin)⟩)
theorem WR_one(i:Nat){oi:Oper}(hi:l[i]?=some oi)(hin:i<n)(hr:Region.ready .any l.toArray listed=[i])(hw:Region.wanted oi (yielded l.toArray a.tmps)=true)
 (h:WR1 R P l n Q f listed a w i oi):WR R P l n Q (f+1) listed a w:=by
 intro hk inv
 refine⟨fun h0=>(by rw[hr]at h0;cases h0),fun j hj=>?_⟩
 have hj':=hj
 rw[hr]at hj'
 obtain rfl:j=i:=by simpa using hj'
 exact h.step hi hin hw hk inv hj
theorem WR_two(i j:Nat){oi oj:Oper}(hi:l[i]?=some oi)(hj:l[j]?=some oj)(hin:i<n)(hjn:j<n)(hr:Region.ready .any l.toArray listed=[i,j])
 (hwi:Region.wanted oi (yielded l.toArray a.tmps)=true) (hwj:Region.wanted oj (yielded l.toArray a.tmps)=true)
 (h1:WR1 R P l n Q f listed a w i oi) (h2:WR1 R P l n Q f listed a w j oj):WR R P l n Q (f+1) listed a w:=by
 intro hk inv
 refine⟨fun h0=>(by rw[hr]at h0;cases h0),fun k hk2=>?_⟩
 have hk':=hk2
 rw[hr]at hk'
 rcases(by simpa using hk':k=i\/k=j)with rfl|rfl
 ·exact h1.step hi hin hwi hk inv hk2
 ·exact h2.step hj hjn hwj hk inv hk2
theorem WR_done(hq:Region.seqB .any l.toArray (l.length-n) n listed=true)(h:wpList P l.toArray Q (l.drop n) a w):WR R P l n Q 0 listed a w:=
 fun _ _=>⟨hq,h⟩
theorem wp_region_R(R:World->World->Prop){id:Nat}(n:Nat){m:Nat}(hlen:l.length=m)(hm:P.follows .mixedOrders=true)(hk:okE l.toArray n=true)
 (h:∀w0,Ext w w0->WR R P l n Q n (Array.replicate m false) a w0):(Code.region id l.toArray true).wp P Q a w:=by
 subst hlen
 have hk':=hk
 simp only[okE,Bool.and_eq_true,decide_eq_true_eq]at hk'
 obtain⟨⟨⟨hsel,hn⟩,hs⟩,hc⟩:=hk'
 have hn':n<l.length:=by simpa using hn
 have inv0:HeadInv .any l.toArray n (Array.replicate l.length false):=
  ⟨by simp,fun j oj _ hl=>(by rw[getD_replicate_false]at hl;cases hl),fun t _ ht=>getD_in (by simpa using ht) (getD_replicate_false _ _)⟩
 refine wp_region_any hm ?_
 have hx:Ext w {w with drawn:=w.drawn+1}:=⟨rfl,rfl,rfl,Nat.le_refl _,fun _ _=>rfl⟩
 have H:=h _ hx hk inv0
 have:=wpAny_of_headR (Q:=Q) (g:=l.length-n) (fun listed' a' w' hL=>by
  have:=wpAny_of_seq (md:=.any) (Q':=Q) (l.drop n) n listed' a' w' (fun j=>by simp[List.getElem?_drop]) (by rw[List.length_drop];exact hL.1) hL.2
  rwa [List.length_drop]at this) _ _ _ _ H
 rw[show n+(l.length-n)=l.toArray.size by simp;omega]at this
 simpa using this
end
def RB(B:Nat):World->World->Prop:=fun w w'=>B<=w.heap.size->Below B w w'/\B<=w'.heap.size
theorem preRB(B:Nat):Pre (RB B):=preBelow B
theorem RB.ext{B:Nat}{w w':World}(h:Ext w w'):RB B w w':=fun hB=>⟨Below.mono h hB,Nat.le_trans hB h.size⟩
theorem RB.below{B:Nat}{w w':World}(hB:B<=w.heap.size)(h:Below B w w'):RB B w w':=fun _=>⟨h,Nat.le_trans hB h.size⟩
theorem RB.cell{B:Nat}{w w':World}(hB:B<=w.heap.size)(h:RB B w w'){p:Addr}(hp:p.block<B):w'.cell? p=w.cell? p:=(h hB).1.cell hp
theorem RB.keep{B:Nat}{w:World}(hB:B<=w.heap.size){p:Addr}{v:Value}(hp:p.block<B)(h:w.cell? p=some v):∀w',RB B w w'->w'.cell? p=some v:=fun _ hx=>by rw[RB.cell hB hx hp];exact h
theorem blk_below{w w':World}{b B:Nat}{cs:List Value}{T:TypeId}(h:Blk w b cs T)(hb:b<B)(hx:Below B w w'):Blk w' b cs T:=by
 unfold Blk at*;rw[hx.block b hb];exact h
def In64(n:Int):Prop:= -9223372036854775808<=n/\n<=9223372036854775807
def clamp(n:Int):Nat:=if n<0 then 0 else if 32<n then 32 else n.toNat
def maskV(n:Int):BitVec 32:=BitVec.allOnes 32<<<(32-clamp n)
theorem clamp_neg{n:Int}(h:n<0):clamp n=0:=by simp[clamp,h]
theorem clamp_big{n:Int}(h:32<n):clamp n=32:=by unfold clamp;rw[if_neg (by omega),if_pos h]
theorem clamp_mid{n:Int}(h0:0<=n)(h:n<=32):clamp n=n.toNat:=by unfold clamp;rw[if_neg (by omega),if_neg (by omega)]
theorem clamp_le(n:Int):clamp n<=32:=by unfold clamp;split<;>(try split)<;>omega
theorem mask_val(k:Nat):IntKind.u32.wrap (4294967295*2^k)=uv (BitVec.allOnes 32<<<k):=by
 rw[IntKind.wrap_u32'];unfold uv
 rw[BitVec.toNat_shiftLeft,Nat.shiftLeft_eq];simp
theorem mask_val'(k:Nat):(4294967295:Int)*2^k%4294967296=uv (BitVec.allOnes 32<<<k):=by
 rw[<-mask_val,IntKind.wrap_u32']
theorem maskV_neg{n:Int}(h:n<0):uv (maskV n)=0:=by unfold maskV;rw[clamp_neg h];rfl
theorem maskV_big{n:Int}(h:32<n):uv (maskV n)=4294967295:=by unfold maskV;rw[clamp_big h];rfl
theorem mask_any(n:Int)(w:World)(h:In64 n):
 Calls Tryz.prog 159 #[I n] w fun e w'=>e=.returned (U (maskV n))/\w=w':=by
 obtain⟨h0,h1⟩:=h
 by_cases hn:n<0
 ·have H:=Lib.hid (maskV_neg hn)
  go_enter Tryz.func159,Tryz.ntmps159
  go_wp2
  go_ret
  exact⟨ret_int H.out.symm,rfl⟩
 ·by_cases hm:32<n
  ·have H:=Lib.hid (maskV_big hm)
   go_enter Tryz.func159,Tryz.ntmps159
   go_wp2
   go_ret
   exact⟨ret_int H.out.symm,rfl⟩
  ·have H:=Lib.hid (show maskV n=BitVec.allOnes 32<<<(32-n).toNat by
    unfold maskV;rw[clamp_mid (by omega) (by omega),show 32-n.toNat=(32-n).toNat by omega])
   go_enter Tryz.func159,Tryz.ntmps159
   go_wp2
   go_ret
   exact⟨ret_int (by rw[H.out,mask_val']),rfl⟩
def holdsV(a:BitVec 32)(n:Int)(b:BitVec 32):Bool:=((a^^^b)&&&maskV n)==0#32
theorem holds_any(a b:BitVec 32)(n:Int)(w:World)(h:In64 n):
 Calls Tryz.prog 119 #[U a,I n,U b] w fun e w'=>e=.returned (.bool (holdsV a n b))/\w=w':=by
 go_enter Tryz.func119,Tryz.ntmps119
 go_wp2_with (go_at_call 159;refine(mask_any _ _ h).mono ?_;rintro e w' ⟨rfl,rfl⟩)
 go_ret
 exact⟨rfl,rfl⟩
def lowV(a:BitVec 32)(n:Int):BitVec 32:=a&&&maskV n
def highV(a:BitVec 32)(n:Int):BitVec 32:=a||| ~~~maskV n
theorem ends_any(a:BitVec 32)(n:Int)(w:World)(h:In64 n):
 Calls Tryz.prog 138 #[U a,I n] w fun e w'=>e=.returned (.tuple #[U (lowV a n),U (highV a n)])/\w=w':=by
 go_enter Tryz.func138,Tryz.ntmps138
 go_wp2_with (go_at_call 159;refine(mask_any _ _ h).mono ?_;rintro e w' ⟨rfl,rfl⟩)
 go_outline
 go_ret2
 exact⟨rfl,rfl⟩
def mayV(a:BitVec 32)(n:Int):Int:=if n<0\/32<n then 1 else if(a&&& ~~~maskV n)=0#32 then 0 else 8
theorem may_any(a:BitVec 32)(n:Int)(w:World)(h:In64 n):
 Calls Tryz.prog 170 #[U a,I n] w fun e w'=>e=.returned (I (mayV a n))/\w=w':=by
 have hb:=h
 obtain⟨h0,h1⟩:=h
 by_cases hn:n<0
 ·have H:=Lib.hid (show mayV a n=1 by unfold mayV;rw[if_pos (.inl hn)])
  go_enter Tryz.func170,Tryz.ntmps170
  go_wp2
  go_ret
  exact⟨ret_int H.out.symm,rfl⟩
 ·by_cases hm:32<n
  ·have H:=Lib.hid (show mayV a n=1 by unfold mayV;rw[if_pos (.inr hm)])
   go_enter Tryz.func170,Tryz.ntmps170
   go_wp2
   go_ret
   exact⟨ret_int H.out.symm,rfl⟩
  ·by_cases hz:(a&&& ~~~maskV n)=0#32
   ·have H:=Lib.hid (show mayV a n=0 by unfold mayV;rw[if_neg (by omega),if_pos hz])
    have hz':((a&&& ~~~maskV n) !=0#32)=false:=by simpa using hz
    clear hz
    go_enter Tryz.func170,Tryz.ntmps170
    go_wp2_with (go_at_call 159;refine(mask_any _ _ hb).mono ?_;rintro e w' ⟨rfl,rfl⟩)
    go_ret
    exact⟨ret_int H.out.symm,rfl⟩
   ·have H:=Lib.hid (show mayV a n=8 by unfold mayV;rw[if_neg (by omega),if_neg hz])
    have hz':((a&&& ~~~maskV n) !=0#32)=true:=by simpa using hz
    clear hz
    go_enter Tryz.func170,Tryz.ntmps170
    go_wp2_with (go_at_call 159;refine(mask_any _ _ hb).mono ?_;rintro e w' ⟨rfl,rfl⟩)
    go_ret
    exact⟨ret_int H.out.symm,rfl⟩
def cmpI(x y:Int):Int:=if x<y then-1 else if y<x then 1 else 0
theorem cmpU_any(a b:BitVec 32)(w:World):
 Calls Tryz.prog 198 #[U a,U b] w fun e w'=>e=.returned (I (cmpI (uv a) (uv b)))/\w=w':=by
 rcases Int.lt_trichotomy (uv a) (uv b)with h|h|h
 ·have H:=Lib.hid (show cmpI (uv a) (uv b)= -1 by unfold cmpI;rw[if_pos h])
  go_enter Tryz.func198,Tryz.ntmps198
  go_wp2
  go_ret
  exact⟨ret_int H.out.symm,rfl⟩
 ·have H:=Lib.hid (show cmpI (uv a) (uv b)=0 by unfold cmpI;rw[if_neg (by omega),if_neg (by omega)])
  have hab:=uv_inj h
  subst hab
  go_enter Tryz.func198,Tryz.ntmps198
  go_wp2
  go_ret
  exact⟨ret_int H.out.symm,rfl⟩
 ·have H:=Lib.hid (show cmpI (uv a) (uv b)=1 by unfold cmpI;rw[if_neg (by omega),if_pos h])
  go_enter Tryz.func198,Tryz.ntmps198
  go_wp2
  go_ret
  exact⟨ret_int H.out.symm,rfl⟩
theorem cmpI_any(a b:Int)(w:World):
 Calls Tryz.prog 199 #[I a,I b] w fun e w'=>e=.returned (I (cmpI a b))/\w=w':=by
 rcases Int.lt_trichotomy a b with h|h|h
 ·have H:=Lib.hid (show cmpI a b= -1 by unfold cmpI;rw[if_pos h])
  go_enter Tryz.func199,Tryz.ntmps199
  go_wp2
  go_ret
  exact⟨ret_int H.out.symm,rfl⟩
 ·have H:=Lib.hid (show cmpI a b=0 by unfold cmpI;rw[if_neg (by omega),if_neg (by omega)])
  subst h
  go_enter Tryz.func199,Tryz.ntmps199
  go_wp2
  go_ret
  exact⟨ret_int H.out.symm,rfl⟩
 ·have H:=Lib.hid (show cmpI a b=1 by unfold cmpI;rw[if_neg (by omega),if_pos h])
  go_enter Tryz.func199,Tryz.ntmps199
  go_wp2
  go_ret
  exact⟨ret_int H.out.symm,rfl⟩
def cmpV(a:BitVec 32)(m:Int)(b:BitVec 32)(n:Int):Int:=if a=b then cmpI m n else cmpI (uv a) (uv b)
theorem prefCompare_any(a b:BitVec 32)(m n:Int)(w:World):
 Calls Tryz.prog 171 #[U a,I m,U b,I n] w fun e w'=>e=.returned (I (cmpV a m b n))/\w=w':=by
 by_cases h:a=b
 ·subst h
  have H:=Lib.hid (show cmpV a m a n=cmpI m n by unfold cmpV;rw[if_pos rfl])
  go_enter Tryz.func171,Tryz.ntmps171
  go_wp2_with (go_at_call 199;refine(cmpI_any _ _ _).mono ?_;rintro e w' ⟨rfl,rfl⟩)
  go_ret
  exact⟨ret_int H.out.symm,rfl⟩
 ·have H:=Lib.hid (show cmpV a m b n=cmpI (uv a) (uv b)by unfold cmpV;rw[if_neg h])
  have hb:(a !=b)=true:=by simpa using h
  clear h
  go_enter Tryz.func171,Tryz.ntmps171
  go_wp2_with (go_at_call 198;refine(cmpU_any _ _ _).mono ?_;rintro e w' ⟨rfl,rfl⟩)
  go_ret
  exact⟨ret_int H.out.symm,rfl⟩
theorem cmpV_eq(a b:BitVec 32)(m n:Int):cmpV a m b n=if uv a<uv b\/a=b/\m<n then-1 else if a=b/\m=n then 0 else 1:=by
 by_cases h:a=b
 ·subst h
  unfold cmpV cmpI
  have:¬uv a<uv a:=by omega
  simp only[if_true,this,false_or,true_and]
  repeat' split<;>(try omega)
 ·have hn:uv a≠uv b:=fun e=>h (uv_inj e)
  unfold cmpV cmpI
  simp only[h,if_false,false_and,or_false]
  repeat' split<;>(try omega)
theorem r06Compare_any(a b:BitVec 32)(m n:Int)(w:World):
 Calls Tryz.prog 189 #[U a,I m,U b,I n] w fun e w'=>e=.returned (I (cmpV a m b n))/\w=w':=by
 by_cases h:a=b
 ·subst h
  have hb:decide (uv a<uv a)=false:=by simp
  rcases Int.lt_trichotomy m n with g|g|g
  ·have H:=Lib.hid (show cmpV a m a n= -1 by rw[cmpV_eq,if_pos (.inr ⟨rfl,g⟩)])
   go_enter Tryz.func189,Tryz.ntmps189
   go_wp2
   go_ret
   exact⟨ret_int H.out.symm,rfl⟩
  ·have H:=Lib.hid (show cmpV a m a n=0 by rw[cmpV_eq,if_neg (by omega),if_pos ⟨rfl,g⟩])
   subst g
   go_enter Tryz.func189,Tryz.ntmps189
   go_wp2
   go_ret
   exact⟨ret_int H.out.symm,rfl⟩
  ·have H:=Lib.hid (show cmpV a m a n=1 by rw[cmpV_eq,if_neg (by omega),if_neg (by omega)])
   go_enter Tryz.func189,Tryz.ntmps189
   go_wp2
   go_ret
   exact⟨ret_int H.out.symm,rfl⟩
 ·have hn:uv a≠uv b:=fun e=>h (uv_inj e)
  have hb:(a==b)=false:=by simpa using h
  rcases Int.lt_trichotomy (uv a) (uv b)with g|g|g
  ·have H:=Lib.hid (show cmpV a m b n= -1 by rw[cmpV_eq,if_pos (.inl g)])
   clear hn h
   go_enter Tryz.func189,Tryz.ntmps189
   go_wp2
   go_ret
   exact⟨ret_int H.out.symm,rfl⟩
  ·exact absurd g hn
  ·have H:=Lib.hid (show cmpV a m b n=1 by rw[cmpV_eq,if_neg (by rintro(q|q);omega;exact h q.1),if_neg (fun q=>h q.1)])
   clear hn h
   go_enter Tryz.func189,Tryz.ntmps189
   go_wp2
   go_ret
   exact⟨ret_int H.out.symm,rfl⟩
def bitV(a:BitVec 32)(i:Int):Int:=if i<0\/31<i then 0 else uv ((a>>>(31-i).toNat)&&&1#32)
@[go_sem high] theorem fdiv_uv(a:BitVec 32)(k:Nat):(uv a).fdiv (2^k)=uv (a>>>k):=by
  unfold uv
  rw[BitVec.toNat_ushiftRight,Nat.shiftRight_eq_div_pow,Int.fdiv_eq_ediv_of_nonneg _ (by exact Int.le_of_lt (Int.pow_pos (by omega)))]
  simp
@[go_sem high] theorem div_uv(a:BitVec 32)(k:Nat):(uv a)/(2^k)=uv (a>>>k):=by
  unfold uv
  rw[BitVec.toNat_ushiftRight,Nat.shiftRight_eq_div_pow]
  simp
theorem bit_any(a:BitVec 32)(i:Int)(w:World)(h:In64 i):
 Calls Tryz.prog 201 #[U a,I i] w fun e w'=>e=.returned (I (bitV a i))/\w=w':=by
 obtain⟨h0,h1⟩:=h
 by_cases hn:i<0
 ·have H:=Lib.hid (show bitV a i=0 by unfold bitV;rw[if_pos (.inl hn)])
  go_enter Tryz.func201,Tryz.ntmps201
  go_wp2
  go_ret
  exact⟨ret_int H.out.symm,rfl⟩
 ·by_cases hm:31<i
  ·have H:=Lib.hid (show bitV a i=0 by unfold bitV;rw[if_pos (.inr hm)])
   go_enter Tryz.func201,Tryz.ntmps201
   go_wp2
   go_ret
   exact⟨ret_int H.out.symm,rfl⟩
  ·have H:=Lib.hid (show bitV a i=uv ((a>>>(31-i).toNat)&&&1#32)by unfold bitV;rw[if_neg (by omega)])
   go_enter Tryz.func201,Tryz.ntmps201
   go_wp2
   go_ret
   exact⟨ret_int H.out.symm,rfl⟩
def mk(n:Int):Nat->BitVec 32
 |0=>0#32
 |k+1=>if(k:Int)<n then mk n k*2#32+1#32 else mk n k*2#32
end Go.Proofs.YtjflkifodfncmaaGreatDoor
