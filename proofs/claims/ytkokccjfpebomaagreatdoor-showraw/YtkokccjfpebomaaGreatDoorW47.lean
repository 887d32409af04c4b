/- The document's Unquote. -/
import Derived.Test.YtkokccjfpebomaaGreatDoorM8
set_option linter.all false
set_option maxHeartbeats 4000000
set_option maxRecDepth 8000
namespace Go.AL
def BX(r:Tx)(k j n:Nat):Prop:=(j=0∧n=0)∨(j=1∧∃ a x,r[k+2]?=some a∧YY a=some x∧n=x)∨(j=2∧∃ a x b y,r[k+2]?=some a∧r[k+3]?=some b∧YY a=some x∧YY b=some y∧n=16*x+y)
theorem Un{r:Tx}{i:Nat}{a:UInt8}(h:r[i]?=some a):r.drop i=a::r.drop (i+1):=by
 obtain⟨h1,h2⟩:=List.getElem?_eq_some_iff.1 h;rw[List.drop_eq_getElem_cons h1,h2]
theorem dh(w:Tx):Js (120::w)=(match w with
  | [] =>.error 11
  | a::r=>match YY a with
   | none =>.error 10
   | some x=>match r with
    | [] =>.error 11
    | b::_=>match YY b with
     | none =>.error 10
     | some y =>.ok (UInt8.ofNat (16*x+y),3)):=rfl
theorem aE{r:Tx}{k j n:Nat}(h:BX r k j n)(hj:j<2)(he:r.length≤k+2+j):Js (120::r.drop (k+1+1)) = .error 11:=by
 rw[dh];rcases h with⟨rfl,rfl⟩ | ⟨rfl,a,x,h1,h2,rfl⟩ | ⟨rfl,_⟩
 ·rw[List.drop_of_length_le (by omega)]
 ·rw[Un h1,List.drop_of_length_le (show r.length≤k+2+1 by omega)];simp only[h2]
 ·omega
theorem oB{r:Tx}{k j n:Nat}(h:BX r k j n)(hj:j<2)(hl:k+2+j<r.length)(hq:YY r[k+2+j]=none):Js (120::r.drop (k+1+1)) = .error 10:=by
 rw[dh];rcases h with⟨rfl,rfl⟩ | ⟨rfl,a,x,h1,h2,rfl⟩ | ⟨rfl,_⟩
 ·rw[List.drop_eq_getElem_cons (show k+1+1<r.length by omega)];have hq':YY r[k+1+1]=none:=hq;simp only[hq']
 ·rw[Un h1,List.drop_eq_getElem_cons (show k+2+1<r.length by omega)];have hq':YY r[k+2+1]=none:=hq;simp only[h2,hq']
 ·omega
theorem AR{r:Tx}{k j n:Nat}(h:BX r k j n)(hj:j<2):n<16:=by
 rcases h with⟨rfl,rfl⟩ | ⟨rfl,a,x,h1,h2,rfl⟩ | ⟨rfl,_⟩
 ·omega
 ·exact (LH h2).2
 ·omega
theorem fQ{r:Tx}{k j n v:Nat}(h:BX r k j n)(hj:j<2)(hl:k+2+j<r.length)(hq:YY r[k+2+j]=some v):BX r k (j+1) (16*n+v):=by
 rcases h with⟨rfl,rfl⟩ | ⟨rfl,a,x,h1,h2,rfl⟩ | ⟨rfl,_⟩
 ·exact .inr (.inl ⟨rfl,r[k+2],v,by rw[List.getElem?_eq_getElem],hq,by omega⟩)
 ·exact .inr (.inr ⟨rfl,a,_,r[k+3],v,h1,by rw[List.getElem?_eq_getElem],h2,hq,rfl⟩)
 ·omega
theorem bS{r:Tx}{k j n:Nat}(h:BX r k j n)(hj:¬ j<2):Js (120::r.drop (k+1+1)) = .ok (UInt8.ofNat n,3)∧j=2∧k+3<r.length:=by
 rcases h with⟨rfl,rfl⟩ | ⟨rfl,_⟩ | ⟨rfl,a,x,b,y,h1,h2,h3,h4,rfl⟩
 ·omega
 ·omega
 ·refine⟨?_,rfl,(List.getElem?_eq_some_iff.1 h2).1⟩;rw[dh,Un h1,Un h2];simp only[h3,h4]
end Go.AL
namespace Go.Proofs
open Go Go.AL Tryz
theorem jz{P:UInt8→Prop}(h:∀ n:Fin 256,P (UInt8.ofNat n.1))(c:UInt8):P c:=by
 have:=h ⟨c.toNat,c.toNat_lt⟩;simpa using this
theorem fz:∀ c:UInt8,c<32→c≠92∧YK c=false:=jz (by decide +kernel)
theorem tW:∀ c:UInt8,126<c→c≠92∧YK c=false:=jz (by decide +kernel)
theorem nA:∀ c:UInt8,¬ c<32→¬ 126<c→c≠34→c≠92→YK c=true:=jz (by decide +kernel)
theorem B0(b:Tx)(x:UInt8):b.map QY++[.sc (.int .u8 x.toNat)]=(b++[x]).map QY:=by rw[xmA];rfl
theorem xH{c:UInt8}{v:Int}(hv:v7 c=v){K:SV→St→Prop}{st:St}(hk:K (.sc (.int .i64 v)) st):ACalls prog 84 [.sc (.int .u8 c.toNat)] K st:=by
 subst hv;exact ik hk
theorem yN{s:Tx}(hs:s.length≤100000){K:SV→St→Prop}{st:St}(hk:K (.tuple [.sc (.string (ba (YG s).1)),.sc (.int .i64 (YG s).2.1),.sc (.int .i64 (YG s).2.2)]) st):ACalls prog 54 [.sc (.string (ba s))] K st:=by
 refine zd [] func54 rfl results54 ntmps54 ?_;cases s with
 | nil =>
  have c1:(((0:Nat):Int)==0)=true:=rfl;simp only[go_sem,zg,xlN,c1];exact zD (qB _ _ _ _) hk
 | cons q r =>
 have hs':r.length+1≤100000:=hs;have c1:(((r.length+1:Nat):Int)==0)=false:=by rw[beq_eq_false_iff_ne];omega
 have hgt:(ba (q::r)).get! 0=q:=rfl;have e1:=DN q 34 34 rfl;by_cases hq:q=34
 rotate_left
 ·have f1:(q != 34)=true:=by simp[hq]
  have hE:YG (q::r)=([],0,14):=by simp[YG,Wc,hq]
  rw[hE] at hk;simp only[go_sem,c1,hgt,e1,f1,zg,xlC];exact⟨by omega,zD (qB _ _ _ _) hk⟩
 have f1:(q != 34)=false:=by simp[hq]
 have hE:YG (q::r)=gk (Yb (r.length+1) r [] 1):=by simp[YG,gk,Wc,hq]
 rw[hE] at hk;simp only[go_sem,c1,hgt,e1,f1,zg,xlC];refine⟨by omega,?_⟩;refine Gd 5 1 0 rfl ?_;simp only[go_sem];refine zx [] (fun m env s'=>∃ (k:Nat) (b:Tx) (ver:Nat),Yb (r.length+1) r [] 1=Yb m (r.drop k) b (k+1)∧r.length+1≤m+k∧k≤r.length∧b.length≤k∧env=[.sc (.string (ba (q::r))),.any,.any,.any,.any,.slice (.own st.length ver) 1 (b.map QY),.sc (.int .i64 ((k+1:Nat):Int)),.any,.any,.any,.any,.any,.any,.any,.any,.any,.any,.any,.any,.any,.any,.any,.any,.any,.any,.any,.any,.any,.any,.any,.any,.any,.any,.any,.any,.any,.any,.any,.any,.any,.any,.any,.any,.any,.any,.any,.any,.any,.any,.any,.any,.any,.any,.any,.any,.any,.any,.any,.any,.any,.any,.any,.any,.any,.any,.any,.any,.any,.any,.any,.any,.any,.any,.any,.any,.any,.any,.any,.any,.any,.any,.any,.any,.any,.any,.any,.any,.any,.any,.any,.any,.any,.any,.any,.any,.any,.any,.any,.any,.any,.any,.any,.any,.any,.any,.any,.any,.any,.any,.any,.any]∧s'=st++[.tok ver]) (n:=r.length+1) ?_ ⟨0,[],0,rfl,by omega,by omega,by simp,rfl,rfl⟩ ?_
 ·exact qu
 rintro m env s' ⟨k,b,ver,hu,hm,hkl,hbl,rfl,rfl⟩;cases m with
 | zero=>omega
 | succ m =>
 by_cases hlt:k<r.length
 rotate_left
 ·have d0:decide (((k+1:Nat):Int)<((r.length+1:Nat):Int))=false:=by simp;omega
  have d1:decide (((r.length+1:Nat):Int)≤((k+1:Nat):Int))=true:=by simp;omega
  rw[hu,List.drop_of_length_le (by omega)] at hk;simp only[go_sem,zg,xlC,d0,d1,ge_iff_le];exact zF (qB _ _ _ _) hk
 have d0:decide (((k+1:Nat):Int)<((r.length+1:Nat):Int))=true:=by simp;omega
 have d1:decide (((r.length+1:Nat):Int)≤((k+1:Nat):Int))=false:=by simp;omega
 have hgk:(ba (q::r)).get! (k+1)=r[k]:=ZJ (s:=q::r) (i:=k+1) (by simp;omega);rw[Yd hlt,unq_step] at hu;generalize hc:r[k]=c at *;have n34:=DN c 34 34 rfl;have g10:=ZC c 10 10 rfl;have g32:=NM c 32 32 rfl;have g126:=MM c 126 126 rfl;have g92:=DN c 92 92 rfl;have hw:IntKind.i64.wrap (((k+1:Nat):Int)+1)=((k+2:Nat):Int):=by rw[IntWalk.i64_in _ (by omega)];rfl
 by_cases h34:c=34
 ·have f34:(c != 34)=false:=by simp[h34]
  rw[if_neg (by rw[h34];decide),if_pos h34] at hu;by_cases h60:60<b.length
  ·have c3:decide ((60:Int)<(b.length:Int))=true:=by simp;omega
   rw[hu,if_pos h60] at hk;simp only[go_sem,zg,xlC,d0,hgk,n34,gt_iff_lt,f34,ge_iff_le,d1,c3];exact⟨by omega,zF (qB _ _ _ _) hk⟩
  ·have c3:decide ((60:Int)<(b.length:Int))=false:=by simp;omega
   rw[hu,if_neg h60] at hk;simp only[go_sem,zg,xlC,d0,hgk,n34,gt_iff_lt,f34,ge_iff_le,d1,c3,hw];refine⟨by omega,Kc b,?_⟩;rw[VZ];exact zF (qB _ _ _ _) hk
 have f34:(c != 34)=true:=by simp[h34]
 by_cases h10:c=10
 ·have f10:(c==10)=true:=by simp[h10]
  rw[hu,if_pos h10] at hk;simp only[go_sem,zg,xlC,d0,hgk,n34,gt_iff_lt,f34,g10,f10];exact⟨by omega,by omega,zF (qB _ _ _ _) hk⟩
 have f10:(c==10)=false:=by simp[h10]
 rw[if_neg h10,if_neg h34] at hu;by_cases h32:c<32
 ·obtain⟨i1,i2⟩:=fz c h32;have f32:decide (c<32)=true:=by simp[h32]
  rw[if_neg i1,if_neg (by rw[i2];decide)] at hu;rw[hu] at hk;simp only[go_sem,zg,xlC,d0,hgk,n34,gt_iff_lt,f34,g10,f10,g32,f32];exact⟨by omega,by omega,zF (qB _ _ _ _) hk⟩
 have f32:decide (c<32)=false:=by simp only[decide_eq_false_iff_not];exact h32
 by_cases h126:126<c
 ·obtain⟨i1,i2⟩:=tW c h126;have f126:decide (126<c)=true:=by simp[h126]
  rw[if_neg i1,if_neg (by rw[i2];decide)] at hu;rw[hu] at hk;simp only[go_sem,zg,xlC,d0,hgk,n34,gt_iff_lt,f34,g10,f10,g32,f32,g126,f126];exact⟨by omega,by omega,zF (qB _ _ _ _) hk⟩
 have f126:decide (126<c)=false:=by simp only[decide_eq_false_iff_not];exact h126
 by_cases h92:c=92
 rotate_left
 ·have f92:(c != 92)=true:=by simp[h92]
  rw[if_neg h92,if_pos (nA c h32 h126 h34 h92)] at hu;simp only[go_sem,zg,xlC,d0,hgk,n34,gt_iff_lt,f34,g10,f10,g32,f32,g126,f126,hw,g92,f92];refine⟨by omega,by omega,WI (by omega),m,_,by omega,?_,k+1,b++[c],ver+1,hu,by omega,by omega,by simp only[xlA,xlC,xlN];omega,by rw[←B0],rfl⟩;exact qu
 have f92:(c != 92)=false:=by simp[h92]
 rw[if_pos h92] at hu;by_cases hlt2:k+1<r.length
 rotate_left
 ·have d2:decide (((r.length+1:Nat):Int)≤((k+2:Nat):Int))=true:=by simp;omega
  rw[List.drop_of_length_le (show r.length≤k+1 by omega)] at hu;rw[hu] at hk;simp only[go_sem,zg,xlC,d0,hgk,n34,gt_iff_lt,f34,g10,f10,g32,f32,g126,f126,hw,g92,f92,ge_iff_le,d2];exact⟨by omega,by omega,zF (qB _ _ _ _) hk⟩
 have d2:decide (((r.length+1:Nat):Int)≤((k+2:Nat):Int))=false:=by simp;omega
 have hgk2:(ba (q::r)).get! (k+2)=r[k+1]:=ZJ (s:=q::r) (i:=k+2) (by simp;omega);rw[Yd hlt2] at hu;generalize hd:r[k+1]=e at *;have m110:=ZC e 110 110 rfl;have m34:=ZC e 34 34 rfl;have m92:=ZC e 92 92 rfl;have m120:=ZC e 120 120 rfl;have hw3:IntKind.i64.wrap (((k+2:Nat):Int)+1)=((k+3:Nat):Int):=by rw[IntWalk.i64_in _ (by omega)];rfl
 have step:∀ x:UInt8,Js (e::r.drop (k+1+1)) = .ok (x,1)→Yb (r.length+1) r [] 1=Yb m (r.drop (k+2)) (b++[x]) (k+2+1):=fun x hx=>by
  rw[hx] at hu;exact hu
 by_cases h110:e=110
 ·have v110:(e==110)=true:=by simp[h110]
  have hu2:=step 10 (by rw[h110];rfl);simp only[go_sem,zg,xlC,d0,hgk,n34,gt_iff_lt,f34,g10,f10,g32,f32,g126,f126,hw,g92,f92,ge_iff_le,d2,hgk2,m110,v110,hw3];refine⟨by omega,by omega,by omega,WI (by omega),m,_,by omega,?_,k+2,b++[10],ver+1,hu2,by omega,by omega,by simp only[xlA,xlC,xlN];omega,by rw[←B0],rfl⟩;exact qu
 have v110:(e==110)=false:=by simp[h110]
 by_cases h34e:e=34
 ·have v34:(e==34)=true:=by simp[h34e]
  have hu2:=step e (by rw[h34e];rfl);simp only[go_sem,zg,xlC,d0,hgk,n34,gt_iff_lt,f34,g10,f10,g32,f32,g126,f126,hw,g92,f92,ge_iff_le,d2,hgk2,m110,v110,hw3,m34,v34];refine⟨by omega,by omega,by omega,WI (by omega),m,_,by omega,?_,k+2,b++[e],ver+1,hu2,by omega,by omega,by simp only[xlA,xlC,xlN];omega,by rw[←B0],rfl⟩;exact qu
 have v34:(e==34)=false:=by simp[h34e]
 by_cases h92e:e=92
 ·have v92:(e==92)=true:=by simp[h92e]
  have hu2:=step e (by rw[h92e];rfl);simp only[go_sem,zg,xlC,d0,hgk,n34,gt_iff_lt,f34,g10,f10,g32,f32,g126,f126,hw,g92,f92,ge_iff_le,d2,hgk2,m110,v110,hw3,m34,v34,m92,v92];refine⟨by omega,by omega,by omega,WI (by omega),m,_,by omega,?_,k+2,b++[e],ver+1,hu2,by omega,by omega,by simp only[xlA,xlC,xlN];omega,by rw[←B0],rfl⟩;exact qu
 have v92:(e==92)=false:=by simp[h92e]
 by_cases h120:e=120
 rotate_left
 ·have v120:(e==120)=false:=by simp[h120]
  have hE:Js (e::r.drop (k+1+1)) = .error 10:=by
   unfold Js;dsimp only;rw[if_neg h110,if_neg h34e,if_neg h92e,if_pos h120]
  rw[hE] at hu;rw[hu] at hk;simp only[go_sem,zg,xlC,d0,hgk,n34,gt_iff_lt,f34,g10,f10,g32,f32,g126,f126,hw,g92,f92,ge_iff_le,d2,hgk2,m110,v110,hw3,m34,v34,m92,v92,m120,v120];exact⟨by omega,by omega,by omega,zF (qB _ _ _ _) hk⟩
 have v120:(e==120)=true:=by simp[h120]
 rw[h120] at hu;simp only[go_sem,zg,xlC,d0,hgk,n34,gt_iff_lt,f34,g10,f10,g32,f32,g126,f126,hw,g92,f92,ge_iff_le,d2,hgk2,m110,v110,hw3,m34,v34,m92,v92,m120,v120];refine⟨by omega,by omega,by omega,?_⟩;refine zx [] (fun m2 env s'=>∃ (j n:Nat),m2+j=2∧BX r k j n∧env=[.sc (.string (ba (q::r))),.any,.any,.any,.any,.slice (.own st.length ver) 1 (b.map QY),.sc (.int .i64 ((k+(3+j):Nat):Int)),.any,.any,.sc (.int .i64 n),.sc (.int .i64 j),.any,.any,.any,.any,.any,.any,.any,.any,.any,.any,.any,.any,.any,.any,.any,.any,.any,.any,.any,.any,.any,.any,.any,.any,.any,.any,.any,.any,.any,.any,.any,.any,.any,.any,.any,.any,.any,.any,.any,.any,.any,.any,.any,.any,.any,.any,.any,.any,.any,.any,.any,.any,.any,.any,.any,.any,.any,.any,.any,.any,.any,.any,.any,.any,.any,.any,.any,.any,.any,.any,.any,.any,.any,.any,.any,.any,.any,.any,.any,.any,.any,.any,.any,.any,.any,.any,.any,.any,.any,.any,.any,.any,.any,.any,.any,.any,.any,.any,.any,.any]∧s'=st++[.tok ver]) (n:=2) ?_ ⟨0,0,rfl,.inl ⟨rfl,rfl⟩,rfl,rfl⟩ ?_
 ·exact qu
 rintro m2 env s' ⟨j,n,hj,hx,rfl,rfl⟩;by_cases hj2:j<2
 ·have y0:decide ((j:Int)<2)=true:=by simp;omega
  by_cases hend:r.length≤k+2+j
  ·have y1:decide (((r.length+1:Nat):Int)≤((k+(3+j):Nat):Int))=true:=by simp;omega
   have hE:Js (120::r.drop (k+1+1)) = .error 11:=aE hx hj2 hend;rw[hE] at hu;rw[hu] at hk;simp only[go_sem,y0,zg,xlC,ge_iff_le,y1];exact zF (qB _ _ _ _) hk
  ·have y1:decide (((r.length+1:Nat):Int)≤((k+(3+j):Nat):Int))=false:=by simp;omega
   have hlt3:k+2+j<r.length:=by omega
   have hgj:(ba (q::r)).get! (k+(3+j))=r[k+2+j]:=by
    have:=ZJ (s:=q::r) (i:=k+2+j+1) (by simp;omega);rw[show k+(3+j)=k+2+j+1 by omega];exact this
   generalize hcj:r[k+2+j]=cj at hgj;cases hq2:YY cj with
   | none =>
    have hv:=mq hq2;rw[←hcj] at hq2;have hE:Js (120::r.drop (k+1+1)) = .error 10:=oB hx hj2 hlt3 hq2;rw[hE] at hu;rw[hu] at hk;simp only[go_sem,y0,zg,xlC,ge_iff_le,y1,hgj];refine⟨by omega,?_⟩;refine xH hv ?_;simp only[go_sem,m1];exact zF (qB _ _ _ _) hk
   | some v =>
    obtain⟨hv,hv16⟩:=LH hq2;rw[←hcj] at hq2;have y2:decide ((v:Int)<0)=false:=by simp
    have hn:=AR hx hj2;have w1:IntKind.i64.wrap (16*(n:Int))=((16*n:Nat):Int):=by rw[IntWalk.i64_in _ (by omega)];omega
    have w2:IntKind.i64.wrap (((16*n:Nat):Int)+(v:Int))=((16*n+v:Nat):Int):=by rw[IntWalk.i64_in _ (by omega)];omega
    have w3:IntKind.i64.wrap (((k+(3+j):Nat):Int)+1)=((k+(3+(j+1)):Nat):Int):=by rw[IntWalk.i64_in _ (by omega)];omega
    have w4:IntKind.i64.wrap ((j:Int)+1)=((j+1:Nat):Int):=by rw[IntWalk.i64_in _ (by omega)];rfl
    simp only[go_sem,y0,zg,xlC,ge_iff_le,y1,hgj];refine⟨by omega,?_⟩;refine xH hv ?_;simp only[go_sem,y2,w1,w2,w3,w4];refine⟨m2-1,_,by omega,?_,j+1,16*n+v,by omega,fQ hx hj2 hlt3 hq2,rfl⟩;exact qu
 ·have y0:decide ((j:Int)<2)=false:=by simp;omega
  obtain⟨hE,hj3,hlt4⟩:=bS hx hj2;subst hj3;rw[hE] at hu;have hw8:IntKind.u8.wrap (n:Int)=((UInt8.ofNat n).toNat:Int):=by
   simp[IntKind.wrap,show IntKind.u8.signed=false from rfl,show IntKind.u8.bits=8 from rfl]
  have cv:Jm prog 5 (.sc (.int .i64 (n:Int))) = .sc (.int .u8 ((UInt8.ofNat n).toNat:Int)):=by rw[X4 (k' :=.u8) _ _ Tryz.i5,hw8]
  have co:Yk prog 3 5 (.sc (.int .i64 (n:Int)))=True:=eq_true ⟨by rw[Tryz.i3];rfl,.inl (by rw[Tryz.i5];rfl)⟩;simp only[go_sem,y0,cv,co];refine⟨WI (by omega),m,_,by omega,?_,k+4,b++[UInt8.ofNat n],ver+1,?_,by omega,by omega,by simp only[xlA,xlC,xlN];omega,by rw[←B0],rfl⟩
  ·exact qu
  ·rw[hu];show Yb m ((120::r.drop (k+1+1)).drop 3) (b++[UInt8.ofNat n]) (k+1+1+3)=_;rw[show (120::r.drop (k+1+1):Tx).drop 3=(r.drop (k+2)).drop 2 from rfl,List.drop_drop]
end Go.Proofs
