/- Common, Bits0, Ref05a, Ref06a, Ref06b, PrefN: these texts in one. Conditions: each theorem names its own. -/
import Derived.Test.YtjflkifodfncmaaGreatDoorGBase
import Derived.Shelf.Small.Bits
import Derived.Test.YtjflkifodfncmaaGreatDoorShelf
namespace Go.Proofs.YtjflkifodfncmaaGreatDoor
set_option maxHeartbeats 1000000
open Go.RowKit
theorem uv_toNat(a:BitVec 32):(uv a).toNat=a.toNat:=by unfold uv;simp
def commonV(a b:BitVec 32):Int:=32-(Lib.bitLen (a^^^b).toNat:Int)
theorem bitLen_le(a:BitVec 32):Lib.bitLen a.toNat<=32:=by
 have:=Any.bitLen_le32 (uv a) (uv_nonneg a) (by have:=uv_lt a;omega)
 rwa [uv_toNat]at this
theorem common_bd(a b:BitVec 32):0<=commonV a b/\commonV a b<=32:=by
 have:=bitLen_le (a^^^b)
 unfold commonV;omega
theorem common_any(a b:BitVec 32)(w:World):
 Calls Tryz.prog 210 #[U a,U b] w fun e w'=>e=.returned (I (commonV a b))/\w=w':=by
 go_enter Tryz.func210,Tryz.ntmps210
 go_wp2_with (first|(go_at_call 221;refine(Tryz.bits_LeadingZeros32 (uv (a^^^b)) _ (uv_nonneg _) (by have:=uv_lt (a^^^b);omega)).mono ?_;rintro e w' ⟨rfl,rfl⟩))
 go_ret
 exact⟨ret_int (by unfold commonV;rw[<-uv_toNat]),rfl⟩
theorem mask_msb(n:Int)(i:Nat):(maskV n).getMsbD i=decide (i<clamp n):=by
 have:=clamp_le n
 unfold maskV
 rw[BitVec.getMsbD_shiftLeft,BitVec.getMsbD_allOnes]
 simp;omega
theorem msb_ext{a b:BitVec 32}(h:∀i,i<32->a.getMsbD i=b.getMsbD i):a=b:=BitVec.eq_of_getMsbD_eq h
theorem and_mask_eq(a b:BitVec 32)(n:Int):(a&&&maskV n=b&&&maskV n)↔∀i,i<clamp n->a.getMsbD i=b.getMsbD i:=by
 constructor
 ·intro h i hi
  have:=congrArg (fun x=>BitVec.getMsbD x i) h
  simpa[mask_msb,hi]using this
 ·intro h
  refine msb_ext fun i _=>?_
  rw[BitVec.getMsbD_and,BitVec.getMsbD_and,mask_msb]
  by_cases hc:i<clamp n
  ·rw[h i hc]
  ·simp[hc]
theorem valid_iff(pa:BitVec 32)(n:Int):(pa&&&maskV n=pa)↔∀i,clamp n<=i->pa.getMsbD i=false:=by
 constructor
 ·intro h i hi
  have:=congrArg (fun x=>BitVec.getMsbD x i) h
  simp only[BitVec.getMsbD_and,mask_msb]at this
  rw[<-this,dF (by omega),Bool.and_false]
 ·intro h
  refine msb_ext fun i _=>?_
  rw[BitVec.getMsbD_and,mask_msb]
  by_cases hc:i<clamp n
  ·simp[hc]
  ·rw[h i (by omega)];simp
theorem xor_mask_zero(a b:BitVec 32)(n:Int):((a^^^b)&&&maskV n=0#32)↔∀i,i<clamp n->a.getMsbD i=b.getMsbD i:=by
 constructor
 ·intro h i hi
  have:=congrArg (fun x=>BitVec.getMsbD x i) h
  simp only[BitVec.getMsbD_and,BitVec.getMsbD_xor,mask_msb,BitVec.getMsbD_zero,hi,decide_true,Bool.and_true]at this
  simpa using this
 ·intro h
  refine msb_ext fun i _=>?_
  simp only[BitVec.getMsbD_and,BitVec.getMsbD_xor,mask_msb,BitVec.getMsbD_zero]
  by_cases hc:i<clamp n
  ·rw[h i hc];simp
  ·simp[hc]
theorem holds_iff(a b:BitVec 32)(n:Int):holdsV a n b=true↔∀i,i<clamp n->a.getMsbD i=b.getMsbD i:=by
 unfold holdsV;rw[beq_iff_eq,xor_mask_zero]
theorem bit_msb(a:BitVec 32)(i:Int)(h0:0<=i)(h1:i<=31):bitV a i=if a.getMsbD i.toNat then 1 else 0:=by
 have e:((a>>>(31-i).toNat)&&&1#32)=if a.getMsbD i.toNat then 1#32 else 0#32:=by
  have hb:a.getMsbD i.toNat=a.getLsbD (31-i).toNat:=by
   rw[BitVec.getMsbD_eq_getLsbD,dT (by omega),Bool.true_and]
   congr 1;omega
  rw[hb]
  apply BitVec.eq_of_getLsbD_eq
  intro j hj
  rw[BitVec.getLsbD_and,BitVec.getLsbD_ushiftRight]
  by_cases hz:j=0
  ·subst hz
   cases a.getLsbD ((31-i).toNat+0)<;>simp_all
  ·have:(1#32).getLsbD j=false:=by
    rw[BitVec.getLsbD_one];simp[hz]
   rw[this,Bool.and_false]
   split
   ·exact this.symm
   ·simp
 unfold bitV
 rw[if_neg (by omega),e]
 split<;>rfl
theorem bitLen_bound:∀(k x:Nat),k<=63->Lib.bitLen x<=k->x<2^64->x<2^k
 |0,x,_,h,hx=>by
  rcases Nat.eq_zero_or_pos x with e|e
  ·subst e;decide
  ·rw[Lib.bitLen_half x (by omega) hx]at h;omega
 |k+1,x,hk,h,hx=>by
  rcases Nat.eq_zero_or_pos x with e|e
  ·subst e;exact Nat.pow_pos (by omega)
  ·rw[Lib.bitLen_half x (by omega) hx]at h
   have:=bitLen_bound k (x/2) (by omega) (by omega) (by omega)
   rw[Nat.pow_succ];omega
theorem common_msb(a b:BitVec 32):(∀i:Nat,(i:Int)<commonV a b->a.getMsbD i=b.getMsbD i)/\(commonV a b<32->a.getMsbD (commonV a b).toNat≠b.getMsbD (commonV a b).toNat):=by
 have hl:=bitLen_le (a^^^b)
 have hx:=(a^^^b).isLt
 have hu:=bitLen_bound (Lib.bitLen (a^^^b).toNat) (a^^^b).toNat (by omega) (Nat.le_refl _) (by omega)
 constructor
 ·intro i hi
  unfold commonV at hi
  have:(a^^^b).getMsbD i=false:=by
   rw[BitVec.getMsbD_eq_getLsbD,BitVec.getLsbD,Nat.testBit_lt_two_pow (Nat.lt_of_lt_of_le hu (Nat.pow_le_pow_right (by omega) (by omega)))]
   simp
  rw[BitVec.getMsbD_xor]at this
  simpa using this
 ·intro hc
  unfold commonV at hc ⊢
  have h1:1<=Lib.bitLen (a^^^b).toNat:=by omega
  have h2:2^(Lib.bitLen (a^^^b).toNat-1)<=(a^^^b).toNat:=by
   rcases Nat.lt_or_ge (a^^^b).toNat (2^(Lib.bitLen (a^^^b).toNat-1))with h|h
   ·have:=Lib.bitLen_le _ _ (by omega) h;omega
   ·exact h
  have h3:(a^^^b).getMsbD (32-(Lib.bitLen (a^^^b).toNat:Int)).toNat=true:=by
   rw[BitVec.getMsbD_eq_getLsbD,BitVec.getLsbD,dT (by omega),Bool.true_and]
   rw[show 32-1-(32-(Lib.bitLen (a^^^b).toNat:Int)).toNat=Lib.bitLen (a^^^b).toNat-1 by omega]
   exact Nat.testBit_of_two_pow_le_and_two_pow_add_one_gt h2 (by rw[show Lib.bitLen (a^^^b).toNat-1+1=Lib.bitLen (a^^^b).toNat by omega];exact hu)
  rw[BitVec.getMsbD_xor]at h3
  intro e
  rw[e]at h3
  simp at h3
theorem common_bits(a b:BitVec 32)(h:commonV a b<32):bitV a (commonV a b)≠bitV b (commonV a b):=by
 have h1:=common_bd a b
 have h2:=(common_msb a b).2 h
 rw[bit_msb _ _ h1.1 (by omega),bit_msb _ _ h1.1 (by omega)]
 cases e1:a.getMsbD (commonV a b).toNat<;>cases e2:b.getMsbD (commonV a b).toNat<;>simp_all
theorem common_comm(a b:BitVec 32):commonV a b=commonV b a:=by unfold commonV;rw[BitVec.xor_comm]
theorem bit01(a:BitVec 32)(i:Int):bitV a i=0\/bitV a i=1:=by
 unfold bitV
 split
 ·exact .inl rfl
 ·have:((a>>>(31-i).toNat)&&&1#32)=0#32\/((a>>>(31-i).toNat)&&&1#32)=1#32:=by
   generalize a>>>(31-i).toNat=x
   have h:=BitVec.toNat_and x 1#32
   have h2:x.toNat&&&(1#32).toNat=x.toNat%2:=Nat.and_one_is_mod _
   rw[h2]at h
   rcases Nat.mod_two_eq_zero_or_one x.toNat with e|e
   ·left;apply BitVec.eq_of_toNat_eq;rw[h,e];rfl
   ·right;apply BitVec.eq_of_toNat_eq;rw[h,e];rfl
  rcases this with h|h
  ·left;rw[h];rfl
  ·right;rw[h];rfl
def Valid(pa:BitVec 32)(n:Int):Prop:=0<=n/\n<=32/\pa&&&maskV n=pa
theorem Valid.in64{pa:BitVec 32}{n:Int}(h:Valid pa n):In64 n:=by obtain⟨h1,h2,_⟩:=h;unfold In64;omega
theorem clamp_id{n:Int}(h0:0<=n)(h1:n<=32):(clamp n:Int)=n:=by
 unfold clamp
 split
 ·omega
 ·split<;>omega
theorem r05Bit_any(a:BitVec 32)(i:Int)(w:World)(h:In64 i):
 Calls Tryz.prog 121 #[U a,I i] w fun e w'=>e=.returned (I (bitV a i))/\w=w':=by
 obtain⟨h0,h1⟩:=h
 by_cases hn:i<0
 ·have H:=Hd (show bitV a i=0 by unfold bitV;rw[if_pos (.inl hn)])
  go_enter Tryz.func121,Tryz.ntmps121
  go_wp2
  go_ret
  exact⟨ret_int H.out.symm,rfl⟩
 ·by_cases hm:31<i
  ·have H:=Hd (show bitV a i=0 by unfold bitV;rw[if_pos (.inr hm)])
   go_enter Tryz.func121,Tryz.ntmps121
   go_wp2
   go_ret
   exact⟨ret_int H.out.symm,rfl⟩
  ·have H:=Hd (show bitV a i=uv ((a>>>(31-i).toNat)&&&1#32)by unfold bitV;rw[if_neg (by omega)])
   go_enter Tryz.func121,Tryz.ntmps121
   go_wp2
   go_ret
   exact⟨ret_int H.out.symm,rfl⟩
theorem bit_nat(a:BitVec 32){k:Nat}(hk:k<32):bitV a k=if a.getMsbD k then 1 else 0:=by
 rw[bit_msb a k (by omega) (by omega),Int.toNat_natCast]
theorem bit_same{a b:BitVec 32}{k:Nat}(hk:k<32):bitV a k=bitV b k↔a.getMsbD k=b.getMsbD k:=by
 rw[bit_nat a hk,bit_nat b hk]
 cases a.getMsbD k<;>cases b.getMsbD k<;>simp
theorem bit_one{a:BitVec 32}{k:Nat}(hk:k<32):bitV a k=1↔a.getMsbD k=true:=by
 rw[bit_nat a hk];cases a.getMsbD k<;>simp
theorem bit_zero{a:BitVec 32}{k:Nat}(hk:k<32):bitV a k=0↔a.getMsbD k=false:=by
 rw[bit_nat a hk];cases a.getMsbD k<;>simp
theorem rest_zero(a:BitVec 32)(n:Int):(a&&& ~~~maskV n)=0#32↔∀i,clamp n<=i->a.getMsbD i=false:=by
 constructor
 ·intro h i hi
  rcases Nat.lt_or_ge i 32 with g|g
  ·have:=congrArg (fun x=>BitVec.getMsbD x i) h
   simp only[BitVec.getMsbD_and,BitVec.getMsbD_not,mask_msb,BitVec.getMsbD_zero]at this
   rw[dT g,dF (by omega)]at this
   simpa using this
  ·simp[BitVec.getMsbD,Nat.not_lt.2 g]
 ·intro h
  refine msb_ext fun i hi=>?_
  simp only[BitVec.getMsbD_and,BitVec.getMsbD_not,mask_msb,BitVec.getMsbD_zero]
  by_cases hc:i<clamp n
  ·simp[hc]
  ·rw[h i (by omega)];simp
theorem mayV_host{a:BitVec 32}{n:Int}(h0:0<=n)(h1:n<=32){k:Nat}(hn:n<=k)(hk:k<32)(hb:bitV a k=1):mayV a n=8:=by
 unfold mayV
 rw[if_neg (by omega),if_neg]
 rw[rest_zero]
 intro h
 have:=h k (by have:=clamp_id h0 h1;omega)
 rw[(bit_one hk).1 hb]at this;cases this
theorem mayV_fine{a:BitVec 32}{n:Int}(h0:0<=n)(h1:n<=32)(h:∀j:Nat,n<=j->j<32->bitV a j≠1):mayV a n=0:=by
 unfold mayV
 rw[if_neg (by omega),if_pos]
 rw[rest_zero]
 intro i hi
 have c:=clamp_id h0 h1
 rcases Nat.lt_or_ge i 32 with g|g
 ·have h2:=h i (by omega) g
  cases e:a.getMsbD i with
  |false=>rfl
  |true=>exact absurd ((bit_one g).2 e) h2
 ·simp[BitVec.getMsbD,Nat.not_lt.2 g]
theorem r06May_any(a:BitVec 32)(n:Int)(w:World)(h:In64 n):
 Calls Tryz.prog 188 #[U a,I n] w fun e w'=>e=.returned (I (mayV a n))/\w=w':=by
 obtain⟨h0,h1⟩:=h
 by_cases hn:n<0
 ·have H:=Hd (show mayV a n=1 by unfold mayV;rw[if_pos (.inl hn)])
  go_enter Tryz.func188,Tryz.ntmps188
  go_wp2
  go_ret
  exact⟨ret_int H.out.symm,rfl⟩
 ·by_cases hm:32<n
  ·have H:=Hd (show mayV a n=1 by unfold mayV;rw[if_pos (.inr hm)])
   go_enter Tryz.func188,Tryz.ntmps188
   go_wp2
   go_ret
   exact⟨ret_int H.out.symm,rfl⟩
  ·have g0:0<=n:=by omega
   have g1:n<=32:=by omega
   clear h0 h1 hn hm
   go_enter Tryz.func188,Tryz.ntmps188
   go_wp2_with fail
   go_loop [5] (fun i=>∃k:Nat,k<=32/\n<=k/\i=I k/\Hid (∀j:Nat,n<=j->j<k->bitV a j≠1)) (fun i=>32-(intOf i).toNat)
   case atStart=>exact⟨n.toNat,by omega,by omega,by rw[Int.toNat_of_nonneg g0],fun j hj hk=>by omega⟩
   case round=>
    obtain⟨k,hk,hnk,rfl,HB⟩:=hrel
    by_cases hlt:k<32
    ·have hin:In64 k:=by unfold In64;omega
     by_cases he:bitV a k=1
     ·have hd:(bitV a k==1)=true:=by simpa using he
      have HE:=Hd (mayV_host g0 g1 hnk hlt he)
      clear he
      go_wp2_with (first|(go_at_call 121;with_reducible refine(r05Bit_any _ _ _ hin).mono ?_;rintro e w' ⟨rfl,rfl⟩))
      go_ret
      exact⟨ret_int HE.out.symm,rfl⟩
     ·have hd:(bitV a k==1)=false:=by simpa using he
      have HE:=Hd (show∀j:Nat,n<=j->j<k+1->bitV a j≠1 from fun j hj hjk=>by
       rcases Nat.lt_or_eq_of_le (Nat.le_of_lt_succ hjk)with g|g
       ·exact HB.out j hj g
       ·subst g;exact he)
      clear he
      go_wp2_with (first|(go_at_call 121;with_reducible refine(r05Bit_any _ _ _ hin).mono ?_;rintro e w' ⟨rfl,rfl⟩))
      go_round
      case rel=>exact⟨k+1,by omega,by omega,by go_num,HE.out⟩
      case measure=>simp[intOf];omega
    ·have HE:=Hd (mayV_fine (a:=a) g0 g1 fun j hj hj2=>HB.out j hj (by omega))
     go_wp2
     go_ret
     exact⟨ret_int HE.out.symm,rfl⟩
theorem holdsV_no{a b:BitVec 32}{n:Int}{k:Nat}(hk:k<32)(hn:(k:Int)<n)(h:bitV a k≠bitV b k):holdsV a n b=false:=by
 cases e:holdsV a n b with
 |false=>rfl
 |true=>
  have:=(holds_iff a b n).1 e k (by unfold clamp;split<;>(try split)<;>omega)
  exact absurd ((bit_same hk).2 this) h
theorem holdsV_yes{a b:BitVec 32}{n:Int}(h:∀j:Nat,j<32->(j:Int)<n->bitV a j=bitV b j):holdsV a n b=true:=by
 rw[holds_iff]
 intro i hi
 have h1:=clamp_le n
 have h2:(i:Int)<n:=by unfold clamp at hi;split at hi<;>(try split at hi)<;>omega
 exact(bit_same (by omega)).1 (h i (by omega) h2)
theorem r06Holds_any(a b:BitVec 32)(n:Int)(w:World)(h:In64 n):
 Calls Tryz.prog 60 #[U a,I n,U b] w fun e w'=>e=.returned (.bool (holdsV a n b))/\w=w':=by
 obtain⟨h0,h1⟩:=h
 go_enter Tryz.func60,Tryz.ntmps60
 go_wp2_with fail
 go_loop [7] (fun i=>∃k:Nat,k<=32/\i=I k/\Hid (∀j:Nat,j<k->(j:Int)<n->bitV a j=bitV b j)) (fun i=>32-(intOf i).toNat)
 case atStart=>exact⟨0,by omega,rfl,fun j hk=>by omega⟩
 case round=>
  obtain⟨k,hk,rfl,HB⟩:=hrel
  by_cases hlt:k<32
  ·by_cases hkn:(k:Int)<n
   ·have hin:In64 k:=by unfold In64;omega
    by_cases he:bitV a k=bitV b k
    ·have hd:(bitV a k !=bitV b k)=false:=by simpa using he
     have HE:=Hd (show∀j:Nat,j<k+1->(j:Int)<n->bitV a j=bitV b j from fun j hjk hj=>by
      rcases Nat.lt_or_eq_of_le (Nat.le_of_lt_succ hjk)with g|g
      ·exact HB.out j g hj
      ·subst g;exact he)
     clear he
     go_wp2_with (first|(go_at_call 121;with_reducible refine(r05Bit_any _ _ _ hin).mono ?_;rintro e w' ⟨rfl,rfl⟩))
     go_round
     case rel=>exact⟨k+1,by omega,by go_num,HE.out⟩
     case measure=>simp[intOf];omega
    ·have hd:(bitV a k !=bitV b k)=true:=by simpa using he
     have HE:=Hd (holdsV_no hlt hkn he)
     clear he
     go_wp2_with (first|(go_at_call 121;with_reducible refine(r05Bit_any _ _ _ hin).mono ?_;rintro e w' ⟨rfl,rfl⟩))
     go_ret
     exact⟨ret_bool HE.out.symm,rfl⟩
   ·have HE:=Hd (holdsV_yes (a:=a) (b:=b) (n:=n) fun j hj hjn=>HB.out j (by omega) hjn)
    go_wp2
    go_ret
    exact⟨ret_bool HE.out.symm,rfl⟩
  ·have HE:=Hd (holdsV_yes (a:=a) (b:=b) (n:=n) fun j hj hjn=>HB.out j (by omega) hjn)
   go_wp2
   go_ret
   exact⟨ret_bool HE.out.symm,rfl⟩
theorem shr_step(x:BitVec 32){k:Nat}(hk:k<32):x>>>(32-(k+1))=(x>>>(32-k))*2#32+(if x.getMsbD k then 1#32 else 0#32):=by
 apply BitVec.eq_of_toNat_eq
 have h1:x.getMsbD k=decide (x.toNat/2^(31-k)%2=1):=by
  rw[BitVec.getMsbD_eq_getLsbD,dT hk,Bool.true_and,<-BitVec.testBit_toNat,Nat.testBit_eq_decide_div_mod_eq]
 rw[BitVec.toNat_add,BitVec.toNat_mul,BitVec.toNat_ushiftRight,BitVec.toNat_ushiftRight,Nat.shiftRight_eq_div_pow,Nat.shiftRight_eq_div_pow,h1]
 have h2:2^(32-k)=2^(32-(k+1))*2:=by rw[<-Nat.pow_succ];congr 1;omega
 have h3:31-k=32-(k+1):=by omega
 rw[h2,<-Nat.div_div_eq_div_mul,h3]
 have h4:x.toNat/2^(32-(k+1))<=x.toNat:=Nat.div_le_self _ _
 have h5:=x.isLt
 generalize x.toNat/2^(32-(k+1))=y at*
 by_cases e:y%2=1
 ·rw[dT e];simp;omega
 ·rw[dF e];simp;omega
theorem shr_all(x:BitVec 32):x>>>(32-0)=0#32:=by
 apply BitVec.eq_of_toNat_eq
 rw[BitVec.toNat_ushiftRight,Nat.shiftRight_eq_div_pow]
 exact Nat.div_eq_of_lt x.isLt
theorem ret_UU{a b c d:BitVec 32}(h1:a=c)(h2:b=d):Ending.returned (.tuple #[U a,U b])=.returned (.tuple #[U c,U d]):=by rw[h1,h2]
theorem low_msb(a:BitVec 32)(n:Int)(i:Nat):(lowV a n).getMsbD i=(a.getMsbD i&&decide (i<clamp n)):=by
 unfold lowV;rw[BitVec.getMsbD_and,mask_msb]
theorem high_msb(a:BitVec 32)(n:Int){i:Nat}(hi:i<32):(highV a n).getMsbD i=(a.getMsbD i||!decide (i<clamp n)):=by
 unfold highV;rw[BitVec.getMsbD_or,BitVec.getMsbD_not,mask_msb,dT hi,Bool.true_and]
theorem clamp_lt{n:Int}{k:Nat}(hk:k<32):k<clamp n↔(k:Int)<n:=by
 unfold clamp;split<;>(try split)<;>omega
theorem r06Ends_any(a:BitVec 32)(n:Int)(w:World)(h:In64 n):
 Calls Tryz.prog 154 #[U a,I n] w fun e w'=>e=.returned (.tuple #[U (lowV a n),U (highV a n)])/\w=w':=by
 obtain⟨h0,h1⟩:=h
 go_enter Tryz.func154,Tryz.ntmps154
 go_wp2_with fail
 go_loop [6,7,8] (fun x y i=>∃(k:Nat) (p q:BitVec 32),k<=32/\i=I k/\x=U p/\y=U q/\Hid (p=lowV a n>>>(32-k))/\Hid (q=highV a n>>>(32-k))) (fun _ _ i=>32-(intOf i).toNat)
 case atStart=>exact⟨0,0#32,0#32,by omega,rfl,rfl,rfl,(shr_all _).symm,(shr_all _).symm⟩
 case round=>
  obtain⟨k,p,q,hk,rfl,rfl,rfl,HP,HQ⟩:=hrel
  by_cases hlt:k<32
  ·have hin:In64 k:=by unfold In64;omega
   have SP:=Hd (shr_step (lowV a n) hlt)
   have SQ:=Hd (shr_step (highV a n) hlt)
   have LP:=Hd (low_msb a n k)
   have LQ:=Hd (high_msb a n hlt)
   by_cases hkn:(k:Int)<n
   ·have HC:=Hd ((clamp_lt hlt).2 hkn)
    cases hb:a.getMsbD k with
    |false=>
     have hv:bitV a k=0:=(bit_zero hlt).2 hb
     have EP:=Hd (show lowV a n>>>(32-(k+1))=p*2#32 by rw[SP.out,LP.out,hb,HP.out];simp)
     have EQ:=Hd (show highV a n>>>(32-(k+1))=q*2#32 by rw[SQ.out,LQ.out,hb,HQ.out,dT HC.out];simp)
     clear hb HP HQ SP SQ LP LQ
     go_wp2_with (first|(go_at_call 121;with_reducible refine(r05Bit_any _ _ _ hin).mono ?_;rintro e w' ⟨rfl,rfl⟩))
     go_round
     case rel=>exact⟨k+1,p*2#32,q*2#32,by omega,by go_num,rfl,rfl,EP.out.symm,EQ.out.symm⟩
     case measure=>simp[intOf];omega
    |true=>
     have hv:bitV a k=1:=(bit_one hlt).2 hb
     have EP:=Hd (show lowV a n>>>(32-(k+1))=p*2#32+1#32 by rw[SP.out,LP.out,hb,HP.out,dT HC.out];simp)
     have EQ:=Hd (show highV a n>>>(32-(k+1))=q*2#32+1#32 by rw[SQ.out,LQ.out,hb,HQ.out];simp)
     clear hb HP HQ SP SQ LP LQ
     go_wp2_with (first|(go_at_call 121;with_reducible refine(r05Bit_any _ _ _ hin).mono ?_;rintro e w' ⟨rfl,rfl⟩))
     go_round
     case rel=>exact⟨k+1,p*2#32+1#32,q*2#32+1#32,by omega,by go_num,rfl,rfl,EP.out.symm,EQ.out.symm⟩
     case measure=>simp[intOf];omega
   ·have HC:=Hd (show¬k<clamp n from fun g=>hkn ((clamp_lt hlt).1 g))
    have EP:=Hd (show lowV a n>>>(32-(k+1))=p*2#32 by rw[SP.out,LP.out,HP.out,dF HC.out];simp)
    have EQ:=Hd (show highV a n>>>(32-(k+1))=q*2#32+1#32 by rw[SQ.out,LQ.out,HQ.out,dF HC.out];simp)
    clear HP HQ SP SQ LP LQ
    go_wp2_with (first|(go_at_call 121;with_reducible refine(r05Bit_any _ _ _ hin).mono ?_;rintro e w' ⟨rfl,rfl⟩))
    go_round
    case rel=>exact⟨k+1,p*2#32,q*2#32+1#32,by omega,by go_num,rfl,rfl,EP.out.symm,EQ.out.symm⟩
    case measure=>simp[intOf];omega
  ·have EP:=Hd (show p=lowV a n by rw[HP.out,show 32-k=0 by omega];simp)
   have EQ:=Hd (show q=highV a n by rw[HQ.out,show 32-k=0 by omega];simp)
   go_wp2
   go_ret2
   exact⟨ret_UU EP.out EQ.out,rfl⟩
def cutV(a:BitVec 32)(n:Int):BitVec 32:=a&&&maskV n
theorem low_nat(a:BitVec 32)(n:Int):(lowV a n).toNat=a.toNat/2^(32-clamp n)*2^(32-clamp n):=by
 have e:lowV a n=(a>>>(32-clamp n))<<<(32-clamp n):=by
  refine msb_ext fun i hi=>?_
  have hc:=clamp_le n
  rw[low_msb,BitVec.getMsbD_shiftLeft,BitVec.getMsbD_ushiftRight]
  by_cases h:i<clamp n
  ·have h1:¬(i+(32-clamp n)<32-clamp n):=by omega
   have h2:i+(32-clamp n)<32:=by omega
   have h3:i+(32-clamp n)-(32-clamp n)=i:=by omega
   simp[h,h2,h3]
  ·have h2:¬i+(32-clamp n)<32:=by omega
   simp[h,h2]
 rw[e,BitVec.toNat_shiftLeft,BitVec.toNat_ushiftRight,Nat.shiftRight_eq_div_pow,Nat.shiftLeft_eq]
 apply Nat.mod_eq_of_lt
 have:=Nat.div_mul_le_self a.toNat (2^(32-clamp n))
 have:=a.isLt
 omega
theorem high_nat(a:BitVec 32)(n:Int):(highV a n).toNat=a.toNat/2^(32-clamp n)*2^(32-clamp n)+(2^(32-clamp n)-1):=by
 have e:highV a n=lowV a n|||(BitVec.allOnes 32>>>clamp n):=by
  refine msb_ext fun i hi=>?_
  have hc:=clamp_le n
  rw[high_msb a n hi,BitVec.getMsbD_or,low_msb,BitVec.getMsbD_ushiftRight,BitVec.getMsbD_allOnes]
  by_cases h:i<clamp n
  ·simp[h]
  ·have:i-clamp n<32:=by omega
   simp[h,this,hi]
 have hc:=clamp_le n
 have h1:(BitVec.allOnes 32>>>clamp n).toNat=2^(32-clamp n)-1:=by
  generalize clamp n=c at*
  have:∀c:Fin 33,(BitVec.allOnes 32>>>c.val).toNat=2^(32-c.val)-1:=by decide+kernel
  exact this ⟨c,by omega⟩
 rw[e,BitVec.toNat_or,h1,low_nat]
 have h2:=Nat.two_pow_pos (32-clamp n)
 have:=Nat.shiftLeft_add_eq_or_of_lt (b:=2^(32-clamp n)-1) (i:=32-clamp n) (by omega) (a.toNat/2^(32-clamp n))
 rw[Nat.shiftLeft_eq]at this
 exact this.symm
theorem holds_nat(a b:BitVec 32)(n:Int):holdsV a n b=true↔a.toNat/2^(32-clamp n)=b.toNat/2^(32-clamp n):=by
 have h1:holdsV a n b=true↔lowV a n=lowV b n:=by
  rw[holds_iff]
  unfold lowV
  rw[and_mask_eq]
 rw[h1]
 constructor
 ·intro h
  have:=congrArg BitVec.toNat h
  rw[low_nat,low_nat]at this
  exact Nat.eq_of_mul_eq_mul_right (Nat.two_pow_pos _) this
 ·intro h
  apply BitVec.eq_of_toNat_eq
  rw[low_nat,low_nat,h]
theorem holds_ends(a b:BitVec 32)(n:Int):holdsV a n b=true↔(lowV a n).toNat<=b.toNat/\b.toNat<=(highV a n).toNat:=by
 rw[holds_nat,low_nat,high_nat]
 have h:=Nat.two_pow_pos (32-clamp n)
 generalize 2^(32-clamp n)=s at*
 have h1:=Nat.div_add_mod b.toNat s
 have h2:=Nat.mod_lt b.toNat h
 constructor
 ·intro e
  rw[e,Nat.mul_comm]
  omega
 ·rintro⟨g1,g2⟩
  refine Nat.le_antisymm ?_ ?_
  ·exact(Nat.le_div_iff_mul_le h).2 g1
  ·exact Nat.le_of_lt_succ ((Nat.div_lt_iff_lt_mul h).2 (by rw[Nat.succ_mul];omega))
end Go.Proofs.YtjflkifodfncmaaGreatDoor
