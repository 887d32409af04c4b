/- The lexer: run, skip. -/
import Derived.Test.YtkokccjfpebomaaGreatDoorM1
set_option linter.all false
set_option maxHeartbeats 4000000
set_option maxRecDepth 8000
namespace Go.AL
def rL(s:Tx)(a:Nat):List SV:=[.sc (.string (ba s)),.sc (.int .i64 a)]
def DJ(s:Tx)(rid:Nat)(a:Nat)(st:St):Prop:=st[rid]?=some (.cells (rL s a))
theorem V5{s:Tx}{rid a:Nat}{st:St}(h:DJ s rid a st):Ex st rid=True∧ZH st rid=True∧qF st rid=[.sc (.string (ba s)),.sc (.int .i64 a)]:=zI h
theorem jk{s:Tx}{rid a b:Nat}{st:St}(h:DJ s rid a st):DJ s rid b (st.set rid (.cells (rL s b))):=qm (zk h)
theorem BN{s:Tx}{rid a b:Nat}{st ex:St}(h:DJ s rid a st):DJ s rid b (st.set rid (.cells (rL s b))++ex):=VP (jk h) ex
theorem Kf{s:Tx}{rid a:Nat}{st ex:St}(h:DJ s rid a st):DJ s rid a (st++ex):=VP h ex
theorem jN{s:Tx}{rid a:Nat}{st:St}(h:DJ s rid a st):st.set rid (.cells (rL s a))=st:=by
 obtain⟨h1,h2⟩:=List.getElem?_eq_some_iff.1 h;rw[←h2,List.set_getElem_self]
theorem nn(n:Nat)(s:Tx)(a:Nat):ObIds n (.cells (rL s a)):=by
 rw[DF];intro x hx;simp only[rL,List.mem_cons,List.not_mem_nil,or_false] at hx;rcases hx with rfl | rfl <;> exact .sc _
theorem Dm{s:Tx}{rid a:Nat}{st:St}{K:SV→St→Prop}{x y:SV}{ex:St}(hi:∀ n,Ids n y=True)(hk:K y (st.set rid (.cells (rL s a))))(hx:norm x=y):YW st K x (st.set rid (.cells (rL s a))++ex):=by
 subst hx;exact⟨_,ex,rfl,(Mod.refl _).set _ _ (nn _ _ _),by rw[hi];trivial,hk⟩
theorem EL{s:Tx}{rid a:Nat}{st:St}{K:SV→St→Prop}{x y:SV}(hi:∀ n,Ids n y=True)(hk:K y (st.set rid (.cells (rL s a))))(hx:norm x=y):YW st K x (st.set rid (.cells (rL s a))):=by
 have:=Dm (ex:=[]) hi hk hx;rwa[xaN] at this
theorem zg(s:Tx):(ba s).size=s.length:=by simp[ba,ByteArray.size]
theorem Xs{p q:Prop}(hq:q)(hp:p:=by first | omega | (simp only[xsA,xlA,xlC,xlN,zg];omega)):p∧q:=⟨hp,hq⟩
theorem ZJ{s:Tx}{i:Nat}(h:i<s.length):(ba s).get! i=s[i]:=by
 show s.toArray[i]! = s[i];simp[h]
theorem qM(s:Tx)(a b:Nat):(ba s).extract a b=ba ((s.drop a).take (b-a)):=by
 apply ByteArray.ext
 rw[ByteArray.data_extract];apply Array.ext'
 simp[ba,List.extract_eq_take_drop]
theorem V0(p:UInt8→Bool):∀ l:Tx,zY p l≤l.length
 | []=>Nat.le_refl _
 | c::r=>by
  unfold zY;have:=V0 p r;split <;> simp <;> omega
theorem WO{p:UInt8→Bool}{c:UInt8}{r:Tx}(h:p c=true):zY p (c::r)=zY p r+1:=by rw[zY,if_pos h]
theorem jA{p:UInt8→Bool}{c:UInt8}{r:Tx}(h:p c=false):zY p (c::r)=0:=by rw[zY,if_neg (by rw[h];decide)]
theorem Yd{s:Tx}{a:Nat}(h:a<s.length):s.drop a=s[a]::s.drop (a+1):=List.drop_eq_getElem_cons h
end Go.AL
namespace Go.Proofs
open Go Go.AL Tryz
def HB(g:FuncId)(pr:UInt8→Bool):Prop:=∀ (c:UInt8) (K:SV→St→Prop) (st:St),K (.sc (.bool (pr c))) st→ACalls prog g [.sc (.int .u8 c.toNat)] K st
theorem MQ{s:Tx}(hs:s.length≤1000000){rid a:Nat}(ha:a≤s.length){g:FuncId}{pr:UInt8→Bool}(hg:HB g pr)(hb:zG prog g=true){K:SV→St→Prop}{st:St}(hr:DJ s rid a st)
  (hk:K (.sc (.string (ba ((s.drop a).take (zY pr (s.drop a)))))) (st.set rid (.cells (rL s (a+zY pr (s.drop a)))))):ACalls prog 114 [.ptr rid 0,.func (.func g) [] []] K st:=by
 refine zp [] func114 rfl results114 ntmps114 ?_;have y:=V5 hr;simp only[go_sem,y.1,y.2.1,y.2.2];refine zx [] (fun m env st'=>∃ b:Nat,m+b=s.length∧a≤b∧b+zY pr (s.drop b)=a+zY pr (s.drop a)∧env=[.ptr rid 0,.func (.func g) [] [],.any,.any,.any,.sc (.int .i64 a),.any,.any,.any,.any,.any,.any,.any,.any,.any,.any,.any,.any,.any,.any,.any,.any,.any,.any,.any,.any,.any,.any,.any,.any,.any,.any,.any,.any,.any,.any,.any,.any,.any,.any,.any,.any,.any,.any,.any,.any,.any,.any,.any,.any]∧st'=st.set rid (.cells (rL s b))) (n:=s.length-a) ?_ ⟨a,by omega,Nat.le_refl _,rfl,rfl,(jN hr).symm⟩ ?_
 ·exact qu
 rintro m env st' ⟨b,hm,hab,hz,rfl,rfl⟩;have y:=V5 (jk (b:=b) hr);by_cases hlt:b<s.length
 ·have c1:decide ((b:Int)<(s.length:Int))=true:=by simp;omega
  rw[Yd hlt] at hz;have hgt:=ZJ hlt;have hw:IntKind.i64.wrap ((b:Int)+1)=((b+1:Nat):Int):=by rw[IntWalk.i64_in _ (by omega)];rfl
  simp only[go_sem];refine zC [] mixed rfl ?_;simp only[go_sem,y.1,y.2.1,y.2.2,zg,c1];refine⟨by omega,?_⟩;rw[dA];refine⟨by simp only[go_sem],.sc (.bool (pr s[b])),fun _=>?_,?_⟩
  ·simp only[go_sem,hgt,hb];exact hg _ _ _ ⟨⟨[],by simp⟩,.sc _,.inl rfl⟩
  simp only[go_sem,hw];refine⟨fun hc=>?_,fun hc=>?_⟩
  ·refine⟨m-1,_,by omega,?_,b+1,by omega,by omega,?_,rfl,rfl⟩
   ·exact qu
   ·rw[←hz,WO hc];omega
  ·have hz':b=a+zY pr (s.drop a):=by rw[←hz,jA hc];rfl
   refine zC [] mixed rfl ?_;simp only[go_sem,y.1,y.2.1,y.2.2,zg,qM];refine⟨by omega,?_⟩;rw[show b-a=zY pr (s.drop a) by omega];rw[←hz'] at hk;exact EL (zi _) hk rfl
 ·have c1:decide ((b:Int)<(s.length:Int))=false:=by simp;omega
  simp only[go_sem];refine zC [] mixed rfl ?_;simp only[go_sem,y.1,y.2.1,y.2.2,zg,c1];rw[dA];refine⟨by simp only[go_sem],.sc (.bool false),(fun h=>by cases h),?_⟩;have hz':b=a+zY pr (s.drop a):=by
   rw[←hz,List.drop_of_length_le (by omega)];rfl
  refine zC [] mixed rfl ?_;simp only[go_sem,y.1,y.2.1,y.2.2,zg,qM];refine⟨by omega,?_⟩;rw[show b-a=zY pr (s.drop a) by omega];rw[←hz'] at hk;exact EL (zi _) hk rfl
theorem En:HB 94 qb:=fun _ _ _ h=>Vd h
theorem Hx:HB 117 zL:=fun _ _ _ h=>oU h
end Go.Proofs
namespace Go.AL
theorem UZ{c:UInt8}{r:Tx}(h:c=32∨c=9∨c=10):qo false (c::r)=qo false r+1:=by rw[qo,if_pos h]
theorem LO{c:UInt8}{r:Tx}(h:¬ (c=32∨c=9∨c=10))(h2:¬ c=35):qo false (c::r)=0:=by rw[qo,if_neg h,if_neg h2]
theorem gj:∀ r:Tx,qo true r=(if Lib.indexByte r 10<0 then r.length else (Lib.indexByte r 10).toNat+qo false (r.drop (Lib.indexByte r 10).toNat))
 | []=>rfl
 | c::r=>by
  have ih:=gj r;have hge:=Lib.indexByte_ge r 10;rw[show qo true (c::r)=if c=10 then qo false r+1 else qo true r+1 from rfl,show Lib.indexByte (c::r) 10=if c==10 then 0 else if Lib.indexByte r 10 == -1 then -1 else Lib.indexByte r 10+1 by rw[Lib.indexByte]];by_cases hc:c=10
  ·subst hc;simp[UZ]
  ·have hb:(c==10)=false:=by simp[hc]
   rw[if_neg hc,ih];simp only[hb,XU,if_false];by_cases h1:Lib.indexByte r 10<0
   ·have h2:Lib.indexByte r 10 = -1:=by omega
    simp[h2]
   ·have h2:¬ Lib.indexByte r 10 = -1:=by omega
    have h3:(Lib.indexByte r 10+1).toNat=(Lib.indexByte r 10).toNat+1:=by omega
    have h4:¬ Lib.indexByte r 10+1<0:=by omega
    simp only[beq_iff_eq,h2,h1,h3,h4,if_false,List.drop_succ_cons];omega
theorem mf{r:Tx}:qo false (35::r)=(if Lib.indexByte (35::r) 10<0 then r.length+1 else (Lib.indexByte (35::r) 10).toNat+qo false ((35::r).drop (Lib.indexByte (35::r) 10).toNat)):=by
 have hge:=Lib.indexByte_ge r 10;have e:Lib.indexByte (35::r) 10=if Lib.indexByte r 10 == -1 then -1 else Lib.indexByte r 10+1:=by
  rw[Lib.indexByte];rfl
 rw[show qo false (35::r)=qo true r+1 by rw[qo,if_neg (by decide),if_pos rfl],gj,e];by_cases h1:Lib.indexByte r 10<0
 ·have h2:Lib.indexByte r 10 = -1:=by omega
  simp[h2]
 ·have h2:¬ Lib.indexByte r 10 = -1:=by omega
  have h3:(Lib.indexByte r 10+1).toNat=(Lib.indexByte r 10).toNat+1:=by omega
  have h4:¬ Lib.indexByte r 10+1<0:=by omega
  simp only[beq_iff_eq,h2,h1,h3,h4,if_false,List.drop_succ_cons];omega
theorem V2:∀ (b:Bool) (l:Tx),qo b l≤l.length
 | b,[]=>by cases b <;> exact Nat.le_refl _
 | true,c::r=>by
  have h1:=V2 false r;have h2:=V2 true r;unfold qo;split <;> simp <;> omega
 | false,c::r=>by
  have h1:=V2 false r;have h2:=V2 true r;unfold qo;split
  ·simp;omega
  ·split <;> simp <;> omega
theorem nK{l:Tx}{c:UInt8}:Lib.indexByte l c<l.length:=by
 induction l with
 | nil=>show (-1:Int)<0;decide
 | cons b l ih =>
  unfold Lib.indexByte;simp only[xlC];split
  ·omega
  ·split
   ·omega
   ·omega
theorem We(s:Tx)(b:Nat):(s.drop b).take (s.length-b)=s.drop b:=List.take_of_length_le (by simp)
end Go.AL
namespace Go.Proofs
open Go Go.AL Tryz
theorem A3{s:Tx}(hs:s.length≤1000000){rid a:Nat}(ha:a≤s.length){K:SV→St→Prop}{st:St}(hr:DJ s rid a st)
  (hk:∀ x,K x (st.set rid (.cells (rL s (a+qo false (s.drop a)))))):ACalls prog 92 [.ptr rid 0] K st:=by
 refine zp [] func92 rfl results92 ntmps92 ?_;refine mB (BJ (M:=[]) ?_);simp only[go_sem];refine zx [] (fun m env st'=>∃ b:Nat,m+b=s.length∧b+qo false (s.drop b)=a+qo false (s.drop a)∧env=[.ptr rid 0,.any,.any,.any,.any,.any,.any,.any,.any,.any,.any,.any,.any,.any,.any,.any,.any,.any,.any,.any,.any,.any,.any,.any,.any,.any,.any,.any,.any,.any,.any,.any,.any,.any,.any,.any,.any,.any,.any,.any,.any,.any,.any,.any,.any,.any,.any,.any,.any,.any,.any,.any,.any,.any,.any,.any,.any,.any,.any,.any,.any,.any,.any,.any,.any]∧st'=st.set rid (.cells (rL s b))) (n:=s.length-a) ?_ ⟨a,by omega,rfl,rfl,(jN hr).symm⟩ ?_
 ·exact qu
 rintro m env st' ⟨b,hm,hz,rfl,rfl⟩;have y:=V5 (jk (b:=b) hr);by_cases hlt:b<s.length
 ·have c1:decide ((b:Int)<(s.length:Int))=true:=by simp;omega
  have hgt:=ZJ hlt;rw[Yd hlt] at hz;have e1:=ZC s[b] 32 32 rfl;have e2:=ZC s[b] 9 9 rfl;have e3:=ZC s[b] 10 10 rfl;have e4:=ZC s[b] 35 35 rfl;have hw:IntKind.i64.wrap ((b:Int)+1)=((b+1:Nat):Int):=by rw[IntWalk.i64_in _ (by omega)];rfl
  by_cases hbl:s[b]=32∨s[b]=9∨s[b]=10
  ·rw[UZ hbl] at hz;by_cases k1:s[b]=32
   ·have f1:(s[b]==32)=true:=by simp[k1]
    simp only[go_sem];refine zC [] mixed rfl ?_;simp only[go_sem,y.1,y.2.1,y.2.2,zg,c1];refine zC [] mixed rfl ?_;simp only[go_sem,y.1,y.2.1,y.2.2,zg,c1];refine⟨by omega,?_⟩;simp only[go_sem,hgt,e1,f1,y.1,y.2.1,y.2.2,hw];refine⟨m-1,_,by omega,?_,b+1,by omega,by omega,rfl,rfl⟩;exact qu
   ·have f1:(s[b]==32)=false:=by simp[k1]
    by_cases k2:s[b]=9
    ·have f2:(s[b]==9)=true:=by simp[k2]
     simp only[go_sem];refine zC [] mixed rfl ?_;simp only[go_sem,y.1,y.2.1,y.2.2,zg,c1];refine zC [] mixed rfl ?_;simp only[go_sem,y.1,y.2.1,y.2.2,zg,c1];refine⟨by omega,?_⟩;simp only[go_sem,hgt,e1,e2,f1,f2,y.1,y.2.1,y.2.2,hw];refine⟨m-1,_,by omega,?_,b+1,by omega,by omega,rfl,rfl⟩;exact qu
    ·have f2:(s[b]==9)=false:=by simp[k2]
     have f3:(s[b]==10)=true:=by
      rcases hbl with h | h | h
      ·exact absurd h k1
      ·exact absurd h k2
      ·simp[h]
     simp only[go_sem];refine zC [] mixed rfl ?_;simp only[go_sem,y.1,y.2.1,y.2.2,zg,c1];refine zC [] mixed rfl ?_;simp only[go_sem,y.1,y.2.1,y.2.2,zg,c1];refine⟨by omega,?_⟩;simp only[go_sem,hgt,e1,e2,e3,f1,f2,f3,y.1,y.2.1,y.2.2,hw];refine⟨m-1,_,by omega,?_,b+1,by omega,by omega,rfl,rfl⟩;exact qu
  ·have f1:(s[b]==32)=false:=by simp;exact fun h=>hbl (.inl h)
   have f2:(s[b]==9)=false:=by simp;exact fun h=>hbl (.inr (.inl h))
   have f3:(s[b]==10)=false:=by simp;exact fun h=>hbl (.inr (.inr h))
   by_cases k4:s[b]=35
   ·have f4:(s[b]==35)=true:=by simp[k4]
    have hd:s.drop b=35::s.drop (b+1):=by rw[Yd hlt,k4]
    rw[k4,mf,←hd] at hz;have hge:=Lib.indexByte_ge (s.drop b) 10;have hlt2:=nK (l:=s.drop b) (c:=10);have hpos:Lib.indexByte (s.drop b) 10≠0:=by
     rw[hd,Lib.indexByte,if_neg (by decide)];have:=Lib.indexByte_ge (s.drop (b+1)) 10;split
     ·decide
     ·rename_i h;simp at h;omega
    simp only[List.length_drop] at hz hlt2;by_cases h0:Lib.indexByte (s.drop b) 10<0
    ·have c2:decide (Lib.indexByte (s.drop b) 10<0)=true:=by simp[h0]
     rw[if_pos h0] at hz;simp only[go_sem];refine zC [] mixed rfl ?_;simp only[go_sem,y.1,y.2.1,y.2.2,zg,c1];refine zC [] mixed rfl ?_;simp only[go_sem,y.1,y.2.1,y.2.2,zg,c1];refine⟨by omega,?_⟩;simp only[go_sem,hgt,e1,e2,e3,e4,f1,f2,f3,f4,y.1,y.2.1,y.2.2,hw];refine zC [] mixed rfl ?_;simp only[go_sem,y.1,y.2.1,y.2.2,zg,qM,We];refine⟨by omega,?_⟩;rw[zt];refine⟨.sc (.int .i64 (Lib.indexByte (s.drop b) 10)),?_,?_⟩
     ·simp only[go_sem];exact VQ (c:=10) ⟨⟨[],by simp⟩,.sc _,.inl rfl⟩
     have hw2:IntKind.i64.wrap ((s.length:Int)-(b:Int))=((s.length-b:Nat):Int):=by rw[IntWalk.i64_in _ (by omega)];omega
     have hw3:IntKind.i64.wrap ((b:Int)+((s.length-b:Nat):Int))=((s.length:Nat):Int):=by rw[IntWalk.i64_in _ (by omega)];omega
     simp only[go_sem,c2];refine zC [] mixed rfl ?_;simp only[go_sem,y.1,y.2.1,y.2.2,zg,hw2,hw3];refine⟨0,_,by omega,?_,s.length,by omega,by rw[List.drop_of_length_le (Nat.le_refl _)];show s.length+0=_;omega,rfl,rfl⟩;exact qu
    ·have c2:decide (Lib.indexByte (s.drop b) 10<0)=false:=by simp[h0]
     rw[if_neg h0,List.drop_drop] at hz;simp only[go_sem];refine zC [] mixed rfl ?_;simp only[go_sem,y.1,y.2.1,y.2.2,zg,c1];refine zC [] mixed rfl ?_;simp only[go_sem,y.1,y.2.1,y.2.2,zg,c1];refine⟨by omega,?_⟩;simp only[go_sem,hgt,e1,e2,e3,e4,f1,f2,f3,f4,y.1,y.2.1,y.2.2,hw];refine zC [] mixed rfl ?_;simp only[go_sem,y.1,y.2.1,y.2.2,zg,qM,We];refine⟨by omega,?_⟩;rw[zt];refine⟨.sc (.int .i64 (Lib.indexByte (s.drop b) 10)),?_,?_⟩
     ·simp only[go_sem];exact VQ (c:=10) ⟨⟨[],by simp⟩,.sc _,.inl rfl⟩
     have hw4:IntKind.i64.wrap ((b:Int)+Lib.indexByte (s.drop b) 10)=((b+(Lib.indexByte (s.drop b) 10).toNat:Nat):Int):=by rw[IntWalk.i64_in _ (by omega)];omega
     simp only[go_sem,c2,y.1,y.2.1,y.2.2,hw4];refine⟨m-(Lib.indexByte (s.drop b) 10).toNat,_,by omega,?_,b+(Lib.indexByte (s.drop b) 10).toNat,by omega,by omega,rfl,rfl⟩;exact qu
   ·have f4:(s[b]==35)=false:=by simp[k4]
    rw[LO hbl k4] at hz;simp only[go_sem];refine zC [] mixed rfl ?_;simp only[go_sem,y.1,y.2.1,y.2.2,zg,c1];refine zC [] mixed rfl ?_;simp only[go_sem,y.1,y.2.1,y.2.2,zg,c1];refine⟨by omega,?_⟩;simp only[go_sem,hgt,e1,e2,e3,e4,f1,f2,f3,f4,y.1,y.2.1,y.2.2];rw[←hz] at hk;exact EL Xw (hk _) rfl
 ·have c1:decide ((b:Int)<(s.length:Int))=false:=by simp;omega
  rw[List.drop_of_length_le (show s.length≤b by omega)] at hz;simp only[go_sem];refine zC [] mixed rfl ?_;simp only[go_sem,y.1,y.2.1,y.2.2,zg,c1];rw[←hz] at hk;exact EL Xw (hk _) rfl
end Go.Proofs
namespace Go.AL
def UC(gid:Nat)(m:Int)(st:St):Prop:=st[gid]?=some (.glob 0 (.int .i64 m))
theorem tZ(a b:Tx):ba a++ba b=ba (a++b):=by
 apply ByteArray.ext
 rw[ByteArray.data_append];apply Array.ext'
 simp[ba]
theorem lg(s:Tx):(⟨#[32]⟩++ba s++⟨#[32]⟩:ByteArray)=ba (32::(s++[32])):=by
 rw[show (⟨#[32]⟩:ByteArray)=ba [32] from rfl,tZ,tZ];rfl
theorem JJ{gid:Nat}{m:Int}{st ex:St}(h:UC gid m st):UC gid m (st++ex):=VP h ex
end Go.AL
namespace Go.Proofs
open Go Go.AL Tryz
theorem sn{gid:Nat}{m:Int}{s:Tx}(hs:s.length≤1000)(h1:s≠[])(hb:∀ c∈s,c≠32){K:SV→St→Prop}{st:St}(hg:UC gid m st)(hk:K (.sc (.bool (decide (s∈keysL)))) st):ACalls prog 118 [.sc (.string (ba s))] K st:=by
 refine zd [] func118 rfl results118 ntmps118 ?_;have c1:(s==[])=false:=by simp[h1]
 simp only[go_sem,c1];refine BA (p:=[32]) rfl hg (by omega) ?_;rw[tY s hb];simp only[go_sem,c1];refine⟨by simp;omega,by simp;omega,?_⟩;rw[lg];refine BA (s:=Bg) (p:=32::(s++[32])) rfl hg (by decide) ?_;rw[eU s hb];simp only[go_sem,c1];exact zD (zi _ _) hk
def DV(tid:Nat)(t:Tk)(st:St):Prop:=st[tid]?=some (.cells [.sc (.int .i64 t.kind),.sc (.string (ba t.text)),.sc (.int .i64 t.num),.sc (.int .i64 t.pos)])
def wC(t:Tk):List SV:=[.sc (.int .i64 t.kind),.sc (.string (ba t.text)),.sc (.int .i64 t.num),.sc (.int .i64 t.pos)]
theorem Cg(n:Nat)(t:Tk):ObIds n (.cells (wC t)):=by
 rw[DF];intro x hx;simp only[wC,List.mem_cons,List.not_mem_nil,or_false] at hx;rcases hx with rfl | rfl | rfl | rfl <;> exact .sc _
def gb(st:St)(rid tid:Nat)(s:Tx)(a:Nat)(t:Tk):St:=(st.set tid (.cells (wC t))).set rid (.cells (rL s a))
theorem uP{s:Tx}{rid tid a:Nat}(hne:rid≠tid){X:Ob}{st:St}(h:DJ s rid a st):DJ s rid a (st.set tid X):=by
 unfold DJ;rw[List.getElem?_set_ne (fun e=>hne e.symm)];exact h
theorem bj{t:Tk}{rid tid:Nat}(hne:rid≠tid){X:Ob}{st:St}(h:DV tid t st):DV tid t (st.set rid X):=by
 unfold DV;rw[List.getElem?_set_ne hne];exact h
theorem hM{s:Tx}{rid tid a:Nat}{t:Tk}{st:St}{K:SV→St→Prop}{x y:SV}(hi:∀ n,Ids n y=True)(hk:K y (gb st rid tid s a t))(hx:norm x=y):YW st K x ((st.set tid (.cells (wC t))).set rid (.cells (rL s a))):=by
 subst hx;exact⟨_,[],(xaN _).symm,((Mod.refl _).set _ _ (Cg _ _)).set _ _ (nn _ _ _),by rw[hi];trivial,hk⟩
theorem oz{s:Tx}{a:Nat}(h:Lib.hasPrefix (s.drop a) [45,62]=true):a+2≤s.length:=by
 unfold Lib.hasPrefix at h;have:=(List.isPrefixOf_iff_prefix.1 h).length_le;simp at this;omega
theorem Np{rid tid:Nat}{K:SV→St→Prop}{st:St}(hk:K (.sc (.int .i64 10)) st):ACalls prog 93 [.ptr rid 0,.ptr tid 0] K st:=by
 refine zd [] func93 rfl results93 ntmps93 ?_;simp only[go_sem];exact zD (zi _ _) hk
theorem iu{s:Tx}(hs:s.length≤1000000){rid tid a:Nat}(hne:rid≠tid)(ha:a<s.length){t:Tk}{K:SV→St→Prop}{st:St}(hr:DJ s rid a st)(ht:DV tid t st)(n:Nat)(hn:n=if Lib.hasPrefix (s.drop a) [45,62] then 2 else 1)
  (hk:K (.sc (.int .i64 0)) (gb st rid tid s (a+n) ⟨5,(s.drop a).take n,t.num,t.pos⟩)):ACalls prog 101 [.ptr rid 0,.ptr tid 0] K st:=by
 refine zp [] func101 rfl results101 ntmps101 ?_;have y:=V5 hr;have z:=zI ht;cases hb:Lib.hasPrefix (s.drop a) [45,62] with
 | true =>
  rw[hb] at hn;simp only[if_true] at hn;subst hn;simp only[go_sem];refine zC [] mixed rfl ?_;simp only[go_sem,y.1,y.2.1,y.2.2,zg,qM,We];refine⟨by omega,?_⟩;rw[zt];refine⟨.sc (.bool true),?_,?_⟩
  ·simp only[go_sem];refine DG (p:=[45,62]) ?_;rw[hb];exact⟨⟨[],by simp⟩,.sc _,.inl rfl⟩
  have hl2:=oz hb;simp only[go_sem];have hw:IntKind.i64.wrap ((a:Int)+2)=((a+2:Nat):Int):=by rw[IntWalk.i64_in _ (by omega)];rfl
  have q:=fun X=>V5 (uP hne (X:=X) hr);have q1:=fun X=>(q X).1;have q2:=fun X=>(q X).2.1;have q3:=fun X=>(q X).2.2;refine zB [] [(0,[]),(0,[22]),(0,[]),(0,[]),(0,[]),(0,[]),(0,[]),(0,[]),(0,[]),(0,[]),(0,[]),(0,[]),(0,[]),(0,[]),(0,[22]),(0,[22]),(0,[22]),(0,[]),(0,[]),(1,[22]),(0,[]),(0,[]),(1,[23])] mixed rfl ?_;simp only[go_sem,y.1,y.2.1,y.2.2,z.1,z.2.1,z.2.2,q1,q2,q3,zg,qM,hw];refine⟨⟨by omega,by omega⟩,⟨by omega,by omega⟩,?_⟩;rw[show a+2-a=2 by omega];exact hM (zi _) hk rfl
 | false =>
  rw[hb] at hn;simp only[XU,if_false] at hn;subst hn;simp only[go_sem];refine zC [] mixed rfl ?_;simp only[go_sem,y.1,y.2.1,y.2.2,zg,qM,We];refine⟨by omega,?_⟩;rw[zt];refine⟨.sc (.bool false),?_,?_⟩
  ·simp only[go_sem];refine DG (p:=[45,62]) ?_;rw[hb];exact⟨⟨[],by simp⟩,.sc _,.inl rfl⟩
  simp only[go_sem];have hw:IntKind.i64.wrap ((a:Int)+1)=((a+1:Nat):Int):=by rw[IntWalk.i64_in _ (by omega)];rfl
  have q:=fun X=>V5 (uP hne (X:=X) hr);have q1:=fun X=>(q X).1;have q2:=fun X=>(q X).2.1;have q3:=fun X=>(q X).2.2;refine zB [] [(0,[]),(0,[22]),(0,[]),(0,[]),(0,[]),(0,[]),(0,[]),(0,[]),(0,[]),(0,[]),(0,[]),(0,[]),(0,[]),(0,[]),(0,[22]),(0,[22]),(0,[22]),(0,[]),(0,[]),(1,[22]),(0,[]),(0,[]),(1,[23])] mixed rfl ?_;simp only[go_sem,y.1,y.2.1,y.2.2,z.1,z.2.1,z.2.2,q1,q2,q3,zg,qM,hw];refine⟨⟨by omega,by omega⟩,⟨by omega,by omega⟩,?_⟩;rw[show a+1-a=1 by omega];exact hM (zi _) hk rfl
end Go.Proofs
namespace Go.AL
def FG(w:Tx)(t:Tk):Int×Tk :=
 if 16<w.length then (12,⟨t.kind,w,t.num,t.pos⟩) else if qS (w.headD 0) then (0,⟨4,w,t.num,t.pos⟩) else if w∈keysL then (0,⟨6,w,t.num,t.pos⟩) else (0,⟨3,w,t.num,t.pos⟩)
theorem pL(p:UInt8→Bool)(l:Tx):(l.take (zY p l)).length=zY p l:=by
 rw[List.length_take];have:=V0 p l;omega
theorem rC{w:Tx}(h:w≠[]):(ba w).get! 0=w.headD 0:=by
 cases w with
 | nil=>exact absurd rfl h
 | cons c r=>rfl
end Go.AL
namespace Go.Proofs
open Go Go.AL Tryz
theorem K4{s:Tx}(hs:s.length≤1000000){rid a:Nat}(ha:a≤s.length){g:FuncId}{pr:UInt8→Bool}(hg:HB g pr)(hb:zG prog g=true){K:SV→St→Prop}{st:St}(hr:DJ s rid a st){z:Nat}{w:Tx}(hz:zY pr (s.drop a)=z)(hw:(s.drop a).take z=w)
  (hk:K (.sc (.string (ba w))) (st.set rid (.cells (rL s (a+z))))):ACalls prog 114 [.ptr rid 0,.func (.func g) [] []] K st:=by
 subst hz;subst hw;exact MQ hs ha hg hb hr hk
theorem Eu{s:Tx}{rid tid a:Nat}{t:Tk}(hne:rid≠tid){st:St}{K:SV→St→Prop}{x y:SV}(hi:∀ n,Ids n y=True)(hk:K y (gb st rid tid s a t))(hx:norm x=y):YW st K x ((st.set rid (.cells (rL s a))).set tid (.cells (wC t))):=by
 rw[List.set_comm _ _ hne];exact hM hi hk hx
theorem A8{s:Tx}(hs:s.length≤1000000){rid tid gid a:Nat}{m:Int}(hne:rid≠tid)(hgr:gid≠rid)(hgt:gid≠tid)(ha:a<s.length)(hin:zL s[a]=true){t:Tk}{K:SV→St→Prop}{st:St}(hg:UC gid m st)(hr:DJ s rid a st)(ht:DV tid t st)
  (hk:K (.sc (.int .i64 (FG ((s.drop a).take (zY zL (s.drop a))) t).1)) (gb st rid tid s (a+zY zL (s.drop a)) (FG ((s.drop a).take (zY zL (s.drop a))) t).2)):ACalls prog 99 [.ptr rid 0,.ptr tid 0] K st:=by
 refine zp [] func99 rfl results99 ntmps99 ?_;have hlen:=pL zL (s.drop a);have hpos:0<zY zL (s.drop a):=by rw[Yd ha,WO hin];omega
 have hle:=V0 zL (s.drop a);have hall:=dZ (l:=s.drop a);have hne0:(s.drop a).take (zY zL (s.drop a))≠[]:=by intro e;rw[e] at hlen;simp at hlen;omega
 have hhd:=rC hne0;simp only[List.length_drop] at hle;generalize hz:zY zL (s.drop a)=z at *;generalize hw:(s.drop a).take z=w at *;have z1:=zI (bj (rid:=rid) (X :=.cells (rL s (a+z))) hne ht);have g1:UC gid m (st.set rid (.cells (rL s (a+z)))):=by unfold UC;rw[List.getElem?_set_ne (fun e=>hgr e.symm)];exact hg
 have g2:∀ X,UC gid m ((st.set rid (.cells (rL s (a+z)))).set tid X):=fun X=>by unfold UC;rw[List.getElem?_set_ne (fun e=>hgt e.symm)];exact g1
 unfold FG at hk;by_cases h16:16<w.length
 ·have c1:decide ((16:Int)<(w.length:Int))=true:=by simp;omega
  rw[if_pos h16] at hk;simp only[go_sem];refine K4 hs (by omega) Hx rfl hr hz hw ?_;simp only[go_sem,z1.1,z1.2.1,z1.2.2,zg,gt_iff_lt,c1];exact Eu hne (zi _) hk rfl
 ·have c1:decide ((16:Int)<(w.length:Int))=false:=by simp;omega
  rw[if_neg h16] at hk;cases hL:qS (w.headD 0) with
  | true =>
   rw[hL,if_pos rfl] at hk;simp only[go_sem];refine K4 hs (by omega) Hx rfl hr hz hw ?_;simp only[go_sem,z1.1,z1.2.1,z1.2.2,zg,gt_iff_lt,c1,hhd];refine⟨by omega,?_⟩;first | (unfold zf;simp only[ze,zc,zl,xsS,xsZ,xgS,xgZ]) | skip
   refine Vf ?_;simp only[go_sem,hL,z1.1,z1.2.1,z1.2.2];exact Eu hne (zi _) hk rfl
  | false =>
   rw[hL,if_neg (by decide)] at hk;by_cases hK:w∈keysL
   ·have c2:decide (w∈keysL)=true:=by simp[hK]
    rw[if_pos hK] at hk;simp only[go_sem];refine K4 hs (by omega) Hx rfl hr hz hw ?_;simp only[go_sem,z1.1,z1.2.1,z1.2.2,zg,gt_iff_lt,c1,hhd];refine⟨by omega,?_⟩;first | (unfold zf;simp only[ze,zc,zl,xsS,xsZ,xgS,xgZ]) | skip
    refine Vf ?_;simp only[go_sem,hL,z1.1,z1.2.1,z1.2.2];first | (unfold zf;simp only[ze,zc,zl,xsS,xsZ,xgS,xgZ]) | skip
    refine sn (by omega) hne0 (fun c hc=>vD (hall c hc)) (g2 _) ?_;simp only[go_sem,c2,z1.1,z1.2.1,z1.2.2];exact Eu hne (zi _) hk rfl
   ·have c2:decide (w∈keysL)=false:=by simp[hK]
    rw[if_neg hK] at hk;simp only[go_sem];refine K4 hs (by omega) Hx rfl hr hz hw ?_;simp only[go_sem,z1.1,z1.2.1,z1.2.2,zg,gt_iff_lt,c1,hhd];refine⟨by omega,?_⟩;first | (unfold zf;simp only[ze,zc,zl,xsS,xsZ,xgS,xgZ]) | skip
    refine Vf ?_;simp only[go_sem,hL,z1.1,z1.2.1,z1.2.2];first | (unfold zf;simp only[ze,zc,zl,xsS,xsZ,xgS,xgZ]) | skip
    refine sn (by omega) hne0 (fun c hc=>vD (hall c hc)) (g2 _) ?_;simp only[go_sem,c2,z1.1,z1.2.1,z1.2.2];exact Eu hne (zi _) hk rfl
end Go.Proofs
