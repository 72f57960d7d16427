/- GTxt, GExp: these texts in one. Conditions: each theorem names its own. -/
import Derived.Lib.ItoaNum
import Derived.Shelf.Strconv.Itoa3
import Derived.WalkSmall
import Derived.Lib.AppendIntMem
import Derived.Lib.LaidTab
import Derived.Lib.ItoaLen
import Derived.Test.YtjflkifodfncmaaGreatDoorGAtB
import Derived.Test.YtjflkifodfncmaaGreatDoorGNTk
namespace Go.Proofs.YtjflkifodfncmaaGreatDoor
set_option maxHeartbeats 4000000
set_option maxRecDepth 100000
abbrev dd(n:Nat):List UInt8:=Lib.decDigits n
theorem dd_1{n:Nat}(h:n<10):dd n=[UInt8.ofNat (48+n)]:=by unfold dd;rw[Lib.decDigits,dif_pos h]
theorem dd_2{n:Nat}(h:¬n<10):dd n=dd (n/10)++[UInt8.ofNat (48+n%10)]:=by unfold dd;rw[Lib.decDigits,dif_neg h]
def isDig(c:UInt8):Bool:=decide (48<=c.toNat)&&decide (c.toNat<=57)
def dval(l:List UInt8):Nat:=l.foldl (fun v c=>v*10+(c.toNat-48)) 0
theorem dd_len{n:Nat}:∀k:Nat,1<=k->n<10^k->(dd n).length<=k:=by
 intro k
 induction k generalizing n with
 |zero=>intro h;omega
 |succ k ih=>
  intro _ hn
  by_cases h:n<10
  ·rw[dd_1 h];simp
  ·rw[dd_2 h,List.length_append]
   have hk:1<=k:=by
    rcases Nat.eq_zero_or_pos k with e|e
    ·subst e;simp at hn;omega
    ·exact e
   have:=ih (n:=n/10) hk (by rw[Nat.pow_succ]at hn;omega)
   simp;omega
def byteK(a k:Nat):Nat:=a/256^k%256
def join4(p q r s:List UInt8):List UInt8:=p++46::(q++46::(r++46::s))
def prN(a:Nat):List UInt8:=join4 (dd (byteK a 3)) (dd (byteK a 2)) (dd (byteK a 1)) (dd (byteK a 0))
abbrev Digs(l:List UInt8):Prop:=∀c∈l,isDig c=true
theorem byteK_lt(a k:Nat):byteK a k<256:=Nat.mod_lt _ (by decide)
theorem prN_len(a:Nat):(prN a).length<=15:=by
 have h:=fun k=>dd_len (n:=byteK a k) 3 (by omega) (by have:=byteK_lt a k;omega)
 have h0:=h 0
 have h1:=h 1
 have h2:=h 2
 have h3:=h 3
 unfold prN join4
 simp only[List.length_append,List.length_cons]
 omega
def pstep(st:Nat × Nat)(c:UInt8):Option (Nat × Nat):=
 if c=46 then some ((st.1*256+st.2)%4294967296,0)
 else if isDig c then(if st.2*10+(c.toNat-48)>255 then none else some (st.1,st.2*10+(c.toNat-48)))else none
def rstep(st:Nat × Nat)(c:UInt8):Nat × Nat:=
 if c=46 then((st.1*256+st.2)%4294967296,0)else(st.1,(st.2*10+c.toNat+4294967248)%4294967296)
def Says(l:List UInt8)(a:Nat):Prop:=a<4294967296/\prN a=l
open Go.RowKit
def Tab10(w : World) : Prop := Lib.TabIs Tryz.prog w "internal/strconv.uint64pow10" .u64 Lib.pow10Tab
theorem gTab10 : (Tryz.prog.globalNamed "internal/strconv.uint64pow10").isSome = true := by kernel_rfl
theorem Tab10.later{w w':World}(h:Tab10 w)(hx:Ext w w'):Tab10 w':=by
 obtain⟨g,hg⟩:=Option.isSome_iff_exists.1 gTab10
 unfold Tab10 Lib.TabIs at*
 refine var?_below hx hg ?_ h
 unfold World.var? at h
 simp only[hg,Option.bind_some]at h
 rcases Nat.lt_or_ge g w.heap.size with k|k
 ·exact k
 ·rw[Array.getElem?_eq_none k]at h;cases h
theorem Ext.grown'{w:World}(k:Nat)(os:Array Obj):Ext w (Sort.grow (w.drewN k) os):=Lib.below_grow _ w (Nat.le_refl _) k os
abbrev S(l:List UInt8):Value:=.string ⟨l.toArray⟩
theorem itoa_nat(n:Nat):Lib.itoa (n:Int)=dd n:=by
 unfold Lib.itoa;rw[if_neg (by omega),Int.toNat_natCast]
theorem itoa_any(n:Int)(w:World)(h:In64 n)(ht:Tab10 w):
 Calls Tryz.prog 23 #[I n] w fun e w'=>e=.returned (S (Lib.itoa n))/\Ext w w':=
 (Tryz.strconv_Itoa n h.1 h.2 w ht).mono fun e w' ⟨he,k,os,hw⟩=>⟨he,by rw[hw];exact Ext.grown' k os⟩
theorem itoaN_any(n:Nat)(w:World)(h:n<9223372036854775808)(ht:Tab10 w):
 Calls Tryz.prog 23 #[I n] w fun e w'=>e=.returned (S (dd n))/\Ext w w':=by
 have:=itoa_any n w ⟨by omega,by omega⟩ ht
 rwa [itoa_nat]at this
@[go_sem high] theorem strApp(a b:List UInt8):(⟨a.toArray⟩:ByteArray)++⟨b.toArray⟩=⟨(a++b).toArray⟩:=by
  apply ByteArray.ext;simp
theorem byte_uv(a:BitVec 32)(k:Nat):uv ((a>>>(8*k))&&&BitVec.ofInt 32 255)=(byteK a.toNat k:Int):=by
 unfold uv byteK
 rw[BitVec.toNat_and,BitVec.toNat_ushiftRight,Nat.shiftRight_eq_div_pow,show(BitVec.ofInt 32 255).toNat=2^8-1 from rfl,Nat.and_two_pow_sub_one_eq_mod,Nat.pow_mul]
theorem wrap64_uv(a:BitVec 32):wrap64 (uv a)=uv a:=by have:=uv_bd a;unfold wrap64;omega
theorem byte_lit3(a:BitVec 32):wrap64 (bits .and .u32 (uv a/(16777216:Int)) 255)=(byteK a.toNat 3:Nat):=by
 have e:uv a/(16777216:Int)=uv (a>>>24):=div_uv a 24
 rw[e,bits_and_uv_lit];refine(wrap64_uv _).trans ?_;exact byte_uv a 3
theorem byte_lit2(a:BitVec 32):wrap64 (bits .and .u32 (uv a/(65536:Int)) 255)=(byteK a.toNat 2:Nat):=by
 have e:uv a/(65536:Int)=uv (a>>>16):=div_uv a 16
 rw[e,bits_and_uv_lit];refine(wrap64_uv _).trans ?_;exact byte_uv a 2
theorem byte_lit1(a:BitVec 32):wrap64 (bits .and .u32 (uv a/(256:Int)) 255)=(byteK a.toNat 1:Nat):=by
 have e:uv a/(256:Int)=uv (a>>>8):=div_uv a 8
 rw[e,bits_and_uv_lit];refine(wrap64_uv _).trans ?_;exact byte_uv a 1
theorem byte_lit0(a:BitVec 32):uv (a&&&255#32)=(byteK a.toNat 0:Nat):=by
 have:=byte_uv a 0
 simpa using this
theorem itoa_is(n:Nat)(x:Int)(w:World)(h:x=n)(hn:n<9223372036854775808)(ht:Tab10 w):
 Calls Tryz.prog 23 #[I x] w fun e w'=>e=.returned (S (dd n))/\Ext w w':=by subst h;exact itoaN_any n w hn ht
def prTo(a j:Nat):List UInt8:=
 match j with
 |0=>[]
 |1=>dd (byteK a 3)++[46]
 |2=>(dd (byteK a 3)++[46])++dd (byteK a 2)++[46]
 |3=>((dd (byteK a 3)++[46])++dd (byteK a 2)++[46])++dd (byteK a 1)++[46]
 |_=>prN a
theorem dd3(a k:Nat):(dd (byteK a k)).length<=3:=dd_len 3 (by omega) (by have:=byteK_lt a k;omega)
theorem prTo_len(a j:Nat):(prTo a j).length<=15:=by
 have h1:=dd3 a 3
 have h2:=dd3 a 2
 have h3:=dd3 a 1
 unfold prTo
 split
 ·simp
 ·simp;omega
 ·simp;omega
 ·simp;omega
 ·exact prN_len a
theorem ret_S{a b:List UInt8}(h:a=b):Ending.returned (S a)=Ending.returned (S b):=by rw[h]
theorem S_congr{a b:List UInt8}(h:a=b):S a=S b:=by rw[h]
theorem print_any(a:BitVec 32)(w:World)(ht:Tab10 w):
 Calls Tryz.prog 120 #[U a] w fun e w'=>e=.returned (S (prN a.toNat))/\Ext w w':=by
 have HT:=Hd ht
 clear ht
 go_enter Tryz.func120,Tryz.ntmps120
 go_wp2_with fail
 go_loopw[3,4] (fun t i wr=>∃j:Nat,j<=4/\i=I (24-8*j)/\t=S (prTo a.toNat j)/\Ext w wr) (fun _ i _=>(intOf i+8).toNat)
 case atStart=>exact⟨0,by omega,rfl,rfl,eR w⟩
 case round=>
  obtain⟨j,hj,rfl,rfl,hx⟩:=hrel
  have hl:=prTo_len a.toNat j
  obtain rfl|rfl|rfl|rfl|rfl:j=0\/j=1\/j=2\/j=3\/j=4:=by omega
  ·have hd:=dd3 a.toNat 3
   go_wp2_with (first
    |(go_at_call 23;with_reducible refine(itoa_is (byteK a.toNat 3) _ _ (byte_lit3 a) (by have:=byteK_lt a.toNat 3;omega) (HT.out.later hx)).mono ?_;rintro e w1 ⟨rfl,hx1⟩))
   go_roundw
   case rel=>exact⟨1,by omega,rfl,rfl,hx.trans hx1⟩
   case measure=>decide
  ·have hd:=dd3 a.toNat 2
   go_wp2_with (first
    |(go_at_call 23;with_reducible refine(itoa_is (byteK a.toNat 2) _ _ (byte_lit2 a) (by have:=byteK_lt a.toNat 2;omega) (HT.out.later hx)).mono ?_;rintro e w1 ⟨rfl,hx1⟩))
   go_roundw
   case rel=>exact⟨2,by omega,rfl,S_congr (by simp[prTo]),hx.trans hx1⟩
   case measure=>decide
  ·have hd:=dd3 a.toNat 1
   go_wp2_with (first
    |(go_at_call 23;with_reducible refine(itoa_is (byteK a.toNat 1) _ _ (byte_lit1 a) (by have:=byteK_lt a.toNat 1;omega) (HT.out.later hx)).mono ?_;rintro e w1 ⟨rfl,hx1⟩))
   go_roundw
   case rel=>exact⟨3,by omega,rfl,S_congr (by simp[prTo]),hx.trans hx1⟩
   case measure=>decide
  ·have hd:=dd3 a.toNat 0
   go_wp2_with (first
    |(go_at_call 23;with_reducible refine(itoa_is (byteK a.toNat 0) _ _ (byte_lit0 a) (by have:=byteK_lt a.toNat 0;omega) (HT.out.later hx)).mono ?_;rintro e w1 ⟨rfl,hx1⟩))
   go_roundw
   case rel=>exact⟨4,by omega,rfl,S_congr (by unfold prTo prN join4;simp),hx.trans hx1⟩
   case measure=>decide
  ·go_wp2
   go_ret
   exact⟨rfl,hx⟩
def prefL(a:Nat)(n:Int):List UInt8:=prN a++47::Lib.itoa n
theorem prefPrint_any(a:BitVec 32)(n:Int)(w:World)(h:In64 n)(ht:Tab10 w):
 Calls Tryz.prog 59 #[U a,I n] w fun e w'=>e=.returned (S (prefL a.toNat n))/\Ext w w':=by
 have HT:=Hd ht
 clear ht
 have hl:=prN_len a.toNat
 have hl2:=Lib.itoa_length_le n h.1 h.2
 go_enter Tryz.func59,Tryz.ntmps59
 go_wp2_with (first
  |(go_at_call 120;with_reducible refine(print_any a _ HT.out).mono ?_;rintro e w1 ⟨rfl,hx1⟩)
  |(go_at_call 23;with_reducible refine(itoa_any _ _ h (HT.out.later hx1)).mono ?_;rintro e w2 ⟨rfl,hx2⟩))
 go_ret
 exact⟨ret_S (by unfold prefL;simp),hx1.trans hx2⟩
theorem prefL_len(a:Nat){n:Int}(h:In64 n):(prefL a n).length<=40:=by
 have h1:=prN_len a
 have h2:=Lib.itoa_length_le n h.1 h.2
 unfold prefL
 rw[List.length_append,List.length_cons]
 omega
def wordL:List (List UInt8):=[[],[110,101,120,116],[100,101,108,105,118,101,114],[100,114,111,112]]
def Words(w : World) : Prop := w.var? Tryz.prog "theseus/tool.words" = some (wordL.map S).toArray
theorem gWords : (Tryz.prog.globalNamed "theseus/tool.words") = some 0 := by kernel_rfl
theorem Words.later{w w':World}(h:Words w)(hx:Ext w w'):Words w':=by
 unfold Words at*
 refine var?_below hx gWords ?_ h
 unfold World.var? at h
 simp only[gWords,Option.bind_some]at h
 rcases Nat.lt_or_ge 0 w.heap.size with k|k
 ·exact k
 ·rw[Array.getElem?_eq_none k]at h;cases h
theorem Words.cell{w:World}(h:Words w){i:Nat}{t:List UInt8}(hi:wordL[i]? =some t):w.cell? ⟨0,i,none⟩=some (S t):=by
 have hil:=(List.getElem?_eq_some_iff.1 hi).1
 have:=World.var?_cell gWords h i
 simpa[hi]using this
open Go Go.Maps Go.Proofs
def saidL(r:Rul):List UInt8:=prefL r.pa.toNat r.pl++[32]++wordL.getD r.act.toNat []++(if r.act=1 then 32::Lib.itoa r.nx else [])
def explT(l:List Rul)(a:BitVec 32):List UInt8:=
 match findL l a with
 |none=>[45]
 |some r=>saidL r
theorem rul_act{r:Rul}{n:Int}(h:ruleMayV r n=0):(r.act=1\/r.act=2\/r.act=3)/\In64 r.pl/\(r.act=1->0<=r.nx/\r.nx<n):=by
 unfold ruleMayV at h
 by_cases h0:mayV r.pa r.pl=0
 ·rw[if_neg (by simp[h0])]at h
  have hp:0<=r.pl/\r.pl<=32:=by
   unfold mayV at h0
   split at h0
   ·cases h0
   ·omega
  have hi:In64 r.pl:=by unfold In64;omega
  split at h
  ·split at h
   ·cases h
   ·rename_i ha hx
    exact⟨.inl ha,hi,fun _=>by omega⟩
  ·split at h
   ·rename_i ha _
    rename_i hb
    exact⟨.inr (by omega),hi,fun e=>absurd e (by omega)⟩
   ·cases h
 ·rw[if_pos h0]at h;exact absurd h h0
theorem explain_any(lv:Value)(l:List Rul)(a:BitVec 32)(n:Nat)(w:World)(hl:RulesAt w lv l)(hok:RulesOk l)(hm:∀r∈l,ruleMayV r n=0)(hn:n<=256)(ht:Tab10 w)(hw:Words w):
 Calls Tryz.prog 20 #[lv,U a] w fun e w'=>e=.returned (S (explT l a))/\Ext w w':=by
 have HF:=Hd (tableFind_any lv l a w hl hok)
 have HT:=Hd ht
 have HW:=Hd hw
 have HM:=Hd (fun r (h:findL l a=some r)=>rul_act (hm r (findL_mem h)))
 have HE:=Hd (show explT l a=match findL l a with|none=>[45]|some r=>saidL r from rfl)
 clear hl hok hm ht hw
 cases hf:findL l a with
 |none=>
  rw[hf]at HF HE
  clear hf HM
  go_enter Tryz.func20,Tryz.ntmps20
  go_upto_region 2 with(first
   |(go_at_call 58;(with_reducible refine HF.out.mono ?_);rintro e w2 ⟨he,hx⟩;subst he;have HX2:=Hd hx;clear hx))
  refine hWp (fun W=>Ext w2 W) (by(repeat with_reducible first|exact eR _|assumption|refine eA ?_ _|refine eD ?_|refine eW ?_ _|(refine eS ?_ ?_;focus(first|(simp;done)|(simp;omega)|omega)))) (fun W3 hW3=>?_)
  have HX3:=Hd (HX2.out.trans hW3)
  clear hW3
  go_wp2_with fail
  go_ret
  rw[HE.out]
  exact⟨rfl,HX3.out⟩
 |some r=>
  obtain⟨hact,hpl,hnx⟩:=HM.out r hf
  rw[hf]at HF HE
  clear hf HM
  have HPL:=Hd hpl
  have hlen:=prefL_len r.pa.toNat hpl
  have HPP:=Hd (fun W (h:Ext w W)=>prefPrint_any r.pa r.pl W hpl (HT.out.later h))
  have HSD:=Hd (show saidL r=prefL r.pa.toNat r.pl++[32]++wordL.getD r.act.toNat []++(if r.act=1 then 32::Lib.itoa r.nx else [])from rfl)
  clear hpl
  generalize prefL r.pa.toNat r.pl=P at*
  go_enter Tryz.func20,Tryz.ntmps20
  go_upto_region 2 with(first
   |(go_at_call 58;(with_reducible refine HF.out.mono ?_);rintro e w2 ⟨he,hx⟩;subst he;have HX2:=Hd hx;clear hx))
  refine hBk w2 [U r.pa,I r.pl,I r.act,I r.nx] 39 (fun W3 hW3=>?_)
  obtain⟨hx3,hb3⟩:=hW3
  have HX3:=Hd (HX2.out.trans hx3)
  have HB3:=Hd hb3
  have hrc:=hb3.cells
  clear hx3 hb3
  generalize w2.heap.size=rb at*
  go_upto_region 5 with(first
   |(go_at_call 59;(with_reducible refine(HPP.out _ HX3.out).mono ?_);rintro e w4 ⟨he,hx⟩;subst he;have HX4:=Hd (HX3.out.trans hx);have HB4:=Hd (HB3.out.later hx);clear hx hrc))
  have hrc:=HB4.out.cells
  have HW4:=Hd (HW.out.later HX4.out)
  have HB4':=HB4
  rcases hact with ha|ha|ha
  ·have HIN:=Hd (show In64 r.nx by have:=hnx ha;unfold In64;omega)
   rw[ha]at hrc HSD
   clear hnx
   have hl5:=Lib.itoa_length_le r.nx HIN.out.1 HIN.out.2
   have hwc:w4.cell? ⟨0,1,none⟩=some (S [110,101,120,116]):=HW4.out.cell rfl
   go_wp2_with (first
    |(go_at_call 23;(with_reducible refine(itoa_any _ _ HIN.out (HT.out.later HX4.out)).mono ?_);rintro e w5 ⟨he,hx⟩;subst he;have HX5:=Hd (HX4.out.trans hx);clear hx))
   go_ret
   rw[HE.out]
   show _=Ending.returned (S (saidL r))/\_
   rw[HSD.out]
   exact⟨ret_S (by simp[wordL]),HX5.out⟩
  ·rw[ha]at hrc HSD
   clear hnx
   have hwc:w4.cell? ⟨0,2,none⟩=some (S [100,101,108,105,118,101,114]):=HW4.out.cell rfl
   go_wp2_with fail
   go_ret
   rw[HE.out]
   show _=Ending.returned (S (saidL r))/\_
   rw[HSD.out]
   exact⟨ret_S (by simp[wordL]),HX4.out⟩
  ·rw[ha]at hrc HSD
   clear hnx
   have hwc:w4.cell? ⟨0,3,none⟩=some (S [100,114,111,112]):=HW4.out.cell rfl
   go_wp2_with fail
   go_ret
   rw[HE.out]
   show _=Ending.returned (S (saidL r))/\_
   rw[HSD.out]
   exact⟨ret_S (by simp[wordL]),HX4.out⟩
def OwnS(w:World)(B:Nat)(v:Value)(ls:List (List UInt8)):Prop:=w.ownsRow B 9 1 v ls.length (ls.map S)
theorem infoStr:(Tryz.prog.info? 9).map (fun i=>(i.zero,i.size,i.bytes))=some (some (.string ⟨#[]⟩),1,16):=by kernel_rfl
def ExOut(w:World)(l:List Byt)(a:BitVec 32)(e:Ending)(w':World):Prop:=
 (match netTake l with
  | .error z=>z≠0/\e=.returned (.tuple #[.slice none 0 0,I z])
  | .ok ls=>∃u,e=.returned (.tuple #[u,I 0])/\OwnS w' w.heap.size u (ls.map fun t=>explT t a))/\Ext w w'
theorem expl_step(ls:List (List Rul))(a:BitVec 32){k:Nat}(h:k<ls.length):(ls.take (k+1)).map (fun t=>explT t a)=(ls.take k).map (fun t=>explT t a)++[explT ls[k] a]:=by
 rw[List.take_succ_eq_append_getElem h,List.map_append];rfl
theorem net_rules{ls:List (List Rul)}(h:netMayV ls=0):∀l∈ls,∀r∈l,ruleMayV r ls.length=0:=fun l hl=>(tabG_spec ls.length l none ((netMay_tabs h).2.2 l hl)).1
theorem toolExplain_any(v:Value)(l:List Byt)(a:BitVec 32)(w:World)(h:BsAt w v l)(hl:l.length<=1000000000)(ht:Tab10 w)(hw:Words w):Calls Tryz.prog 8 #[v,U a] w (ExOut w l a):=by
 have HN:=Hd (netfileTake_any v l w h hl)
 have HTT:=Hd ht
 have HWW:=Hd hw
 obtain⟨a0,cap,rfl,-⟩:=h.form
 clear h ht hw
 cases ht:netTake l with
 |error z=>
  have HT:=Hd ht
  clear ht
  go_enter Tryz.func8,Tryz.ntmps8
  go_upto_region 2 with(first
   |(go_at_call 14
     go_loud(
      (with_reducible refine HN.out.mono ?_)
      rintro e w2 ⟨h1,hx⟩
      rw[HT.out]at h1
      obtain⟨hz,he⟩:=h1
      subst he
      have HX2:=Hd hx
      have HZ:=Hd hz
      clear hx hz)))
  refine hWp (fun W=>Ext w2 W) (by(repeat with_reducible first|exact eR _|assumption|refine eA ?_ _|refine eD ?_|refine eW ?_ _|(refine eS ?_ ?_;focus(first|(simp;done)|(simp;omega)|omega)))) (fun W3 hW3=>?_)
  have HX3:=Hd (HX2.out.trans hW3)
  have hzb:(z !=0)=true:=by simp[HZ.out]
  clear hW3
  go_wp2_with fail
  go_ret2
  unfold ExOut
  rw[HT.out]
  exact⟨⟨HZ.out,rfl⟩,HX3.out⟩
 |ok ls=>
  have HT:=Hd ht
  have HM:=Hd (netTake_may ht)
  clear ht
  have hlen:=(netMay_tabs HM.out).1
  obtain⟨i8,hi8,hz8,hs8,hb8⟩:=info_parts infoStr
  have HI8:=Hd hi8
  have HZ8:=Hd hz8
  have HS8:=Hd hs8
  clear hi8 hz8 hs8
  go_enter Tryz.func8,Tryz.ntmps8
  go_upto_region 2 with(first
   |(go_at_call 14
     go_loud(
      (with_reducible refine HN.out.mono ?_)
      rintro e w2 ⟨h1,hx⟩
      rw[HT.out]at h1
      obtain⟨u2,he,ho⟩:=h1
      obtain⟨va,vc,hue,-⟩:=ho.read.form
      subst hue
      subst he
      have HX2:=Hd hx
      have HR2:=Hd ho.read
      clear hx ho)))
  refine hBk w2 [.slice va ls.length vc] 43 (fun W3 hW3=>?_)
  obtain⟨hx3,hb3⟩:=hW3
  have HX3:=Hd (HX2.out.trans hx3)
  have HB3:=Hd hb3
  obtain⟨a1,c1,hf1,-,-,hv1⟩:=(HR2.out.later hx3).form
  cases hf1
  have HVF:=Hd hv1
  clear hv1
  have hbc:=hb3.cells
  clear hx3 hb3
  generalize w2.heap.size=nb at*
  go_upto_region 5 with(at_make;go_loud(refine wpList_make_own _ rfl _ _ 29 rfl W3.heap.size 9 i8 (.string ⟨#[]⟩) 1 Tryz.underlying29 HI8.out HZ8.out HS8.out .i64 .i64 _ ls.length rfl rfl (by omega) (by rw[hb8];omega) (by unfold maxLen;omega) (Nat.le_refl _) ?_);intro w4 hown1 hgrow1;have HO4:=Hd (show OwnS w4 W3.heap.size _ []from hown1);have HY4:=Hd (show Ext W3 w4 from Below.grown (eR W3) hgrow1 (Nat.le_refl _) (fun j hj=>by cases hj));have hbc4:=(blk_grownK HB3.out (fun g e=>by cases e) hgrow1).cells;clear hown1 hgrow1)
  clear hbc
  go_wp2_with fail
  go_loopw[8,26] (fun u i wr=>∃(k:Nat),k<=ls.length/\i=I k/\Hid (OwnS wr W3.heap.size u ((ls.take k).map fun t=>explT t a))/\Hid (Ext W3 wr)) (fun _ i _=>ls.length-(intOf i).toNat)
  case atStart=>exact⟨0,Nat.zero_le _,rfl,HO4,HY4⟩
  case round=>
   obtain⟨k,hk,rfl,HO,HX⟩:=hrel
   clear hbc4
   have HKL:=Hd (show((ls.take k).map fun t=>explT t a).length=k by rw[List.length_map,List.length_take];omega)
   by_cases hlt:k<ls.length
   ·have HST:=Hd (expl_step ls a hlt)
    have HLT:=Hd hlt
    obtain⟨b,o,x,he,hc,hx⟩:=HVF.out k _ (gE hlt)
    subst he
    replace hc:=HX.out.cell hc
    have HEX:=Hd (explain_any x ls[k] a ls.length wr (hx.later HX.out) ((may_ok HM.out).at hlt) (net_rules HM.out _ (List.getElem_mem hlt)) hlen (HTT.out.later (HX3.out.trans HX.out)) (HWW.out.later (HX3.out.trans HX.out)))
    obtain⟨xa,xc,hxf,-⟩:=hx.form
    subst hxf
    clear hx
    generalize explT ls[k] a=T at*
    generalize (ls.take k).map (fun t=>explT t a)=L at*
    obtain⟨ua,uc,huf,ub1,ub2⟩:∃ad c,u8=.slice ad L.length c/\L.length<=c/\c<=maxLen:=own_bds HO.out
    subst huf
    go_wp2_with (first
     |(go_at_call 20;(with_reducible refine HEX.out.mono ?_);rintro e w6 ⟨he,hx⟩;subst he;have HX6:=Hd (HX.out.trans hx);have HO6:=Hd (show OwnS (w6.alloc (.cells #[S T] 9)) W3.heap.size _ L from own_later HO.out (hx.alloc _));have HSC:=Hd (show(w6.alloc (.cells #[S T] 9)).cell? ⟨w6.heap.size,0,none⟩=some (S T)from(Blk.new w6 [S T] 9).cells 0);have HXA:=Hd (HX6.out.alloc (.cells #[S T] 9));clear hx)
     |(at_builtin
       refine wpList_app1 rfl (.tmp 30) (.tmp 34) 29 rfl W3.heap.size 9 (.string ⟨#[]⟩) 16 Tryz.underlying29 infoStr rfl (by decide) _ _ _ rfl HO6.out w6.heap.size rfl (S T) HSC.out rfl (by have:=HKL.out;omega) HXA.out.size ?_
       intro v7 w7 ho7 hg7 hl7
       have HX7:=Hd (Ext.grown HXA.out hg7 HO6.out (Nat.le_refl _))
       have HO7:=Hd (show OwnS w7 W3.heap.size v7 (L++[T])from by unfold OwnS;rw[List.map_append,List.length_append];exact ho7)
       clear ho7 hg7 hl7))
    go_roundw
    case rel=>exact⟨k+1,HLT.out,by go_num,by rw[HST.out];exact HO7,HX7⟩
    case measure=>have:=HLT.out;simp[intOf];omega
   ·obtain rfl:k=ls.length:=by omega
    have HO':=Hd (show OwnS wr W3.heap.size u8 (ls.map fun t=>explT t a)by have h:=HO.out;rw[List.take_length]at h;exact h)
    go_wp2_with fail
    go_ret2
    unfold ExOut
    rw[HT.out]
    exact⟨⟨_,rfl,own_low HO'.out HX3.out.size⟩,HX3.out.trans HX.out⟩
end Go.Proofs.YtjflkifodfncmaaGreatDoor
