/- The document's parser: app. Written by gen_w65.py. -/
import Derived.Test.YtkokccjfpebomaaGreatDoorN3
set_option maxHeartbeats 4000000
set_option linter.unusedSimpArgs false
set_option linter.unusedVariables false
set_option maxRecDepth 8000
namespace Go.AL
def keysK:List Tx:=[[112,114,105,110,116],[114,97,105,115,101],[115,112,97,119,110],[97,116,111,109,105,99,97,108,108,121],[116,118,97,114],[114,101,97,100],[119,114,105,116,101],[111,114,101,108,115,101]]
def kindsK:List Int:=[15,16,17,18,21,22,23,20]
theorem gQ:∀ i:Fin 8,Qm (keysK.getD i.1 [])=(kindsK.getD i.1 0,if 6≤i.1 then 2 else 1):=by decide
theorem yl:∀ i j:Fin 8,keysK.getD i.1 []=keysK.getD j.1 []→i=j:=by decide
theorem Gq {t:Tk} {i:Nat} (hi:i<8) (h:isT t (keysK.getD i [])=true):YD t=(kindsK.getD i 0,if 6≤i then 2 else 1):=by
 obtain⟨h1,h2⟩:=Qi.1 h
 unfold YD
 rw[if_pos h1,h2]
 exact gQ ⟨i,hi⟩
theorem xg {s:Tx} (h:0<(Qm s).1):∃ i,i<8∧s=keysK.getD i []:=by
 unfold Qm at h
 repeat' split at h
 ·exact⟨0,by omega,by assumption⟩
 ·exact⟨1,by omega,by assumption⟩
 ·exact⟨2,by omega,by assumption⟩
 ·exact⟨3,by omega,by assumption⟩
 ·exact⟨4,by omega,by assumption⟩
 ·exact⟨5,by omega,by assumption⟩
 ·exact⟨6,by omega,by assumption⟩
 ·exact⟨7,by omega,by assumption⟩
 ·exact absurd h (by decide)
theorem yM {t:Tk} (h:0<(YD t).1):∃ i,i<8∧isT t (keysK.getD i [])=true:=by
 unfold YD at h
 by_cases c:t.kind=5∨t.kind=6
 ·rw[if_pos c] at h
  obtain⟨i,hi,hs⟩:=xg h
  exact⟨i,hi,Qi.2 ⟨c,hs⟩⟩
 ·rw[if_neg c] at h;exact absurd h (by decide)
theorem Gz:∀ i:Fin 8,0<(kindsK.getD i.1 0):=by decide
theorem HJ {i:Nat} (h:i<8):(keysK.map qD).getD i .any = .sc (.string (ba (keysK.getD i []))):=by
 have hl:i<keysK.length:=h
 simp[List.getD_eq_getElem?_getD,hl,qD]
theorem vd {i:Nat} (h:i<8):(kindsK.map fun n=>SV.sc (.int .i64 n)).getD i .any = .sc (.int .i64 (kindsK.getD i 0)):=by
 have hl:i<kindsK.length:=h
 simp[List.getD_eq_getElem?_getD,hl]
end Go.AL
namespace Go.Proofs
open Go Go.AL Tryz
def DE (T:List Tk) (pid:Nat) (f:FuncId) (e:PM Nd):Prop:=∀ (p:PS) (t:Tk) (r:Nd) (p':PS),zR T p=some t→t.kind=4→e p=some (r,p')→(r.names=[]∧r.kids=[])∧∀ (K:SV→St→Prop) (st:St),YR T pid p st→K (yv r) (st.set pid (.cells (qN T p')))→ACalls prog f [.ptr pid 0] K st
theorem dO {T:List Tk} (hT:T.length≤100000) {pid:Nat} {at':PM Nd} (ha:DC T pid 142 at') {p p':PS} {t:Tk} {r:Nd} (ht:zR T p=some t) (hc:0<(YD t).1)
  (h:((ZA T p).bind fun r=>(at' r.2).bind fun q=>if (YD t).2=2 then (at' q.2).map fun u=>(zT (YD t).1 r.1.pos [] [q.1,u.1],u.2) else some (zT (YD t).1 r.1.pos [] [q.1],q.2))=some (r,p')) {K:SV→St→Prop} {st:St} (hp:YR T pid p st) (hk:K (zJ r) (st.set pid (.cells (qN T p')))):ACalls prog 127 [.ptr pid 0] K st:=by
 obtain⟨i0,hi0,hb0⟩:=yM hc
 have hkr:=Gq hi0 hb0
 rw[hkr] at h
 refine zM (zE [] func127 rfl results127 ntmps127 ?_)
 simp only[go_sem]
 refine zN [] (fun k env s=>∃ i:Nat,k+i=8∧i≤i0∧env=[.ptr pid 0,.any,.ptr st.length 0,.slice .full 1 (keysK.map qD),.slice .full 1 (kindsK.map fun n=>SV.sc (.int .i64 n)),.sc (.int .i64 i),.any,.any,.any,.any,.any,.any,.any,.any,.any,.any,.any,.any,.any,.any,.any,.any,.any,.any,.any,.any,.any,.any,.any,.any,.any,.any,.any,.any,.any,.any,.any,.any,.any,.any,.any,.any,.any,.any,.any,.any,.any,.any,.any,.any,.any,.any,.any,.any,.any,.any,.any,.any,.any,.any,.any,.any,.any,.any,.any,.any,.any,.any,.any,.any,.any,.any,.any,.any,.any,.any,.any,.any,.any,.any,.any,.any,.any,.any,.any]∧s=st++[.cells qK]) (n:=8) ?_ ⟨0,by omega,Nat.zero_le _,rfl,rfl⟩ ?_
 ·repeat (first | exact zj | refine zk _ ?_ | refine zg _ ?_ | refine zf _ ?_)
 rintro k env s ⟨i,hi,hinv,rfl,rfl⟩
 have hk8:(keysK.length:Int)=8:=rfl
 have hk8':(kindsK.length:Int)=8:=rfl
 have hlt:i<8:=by omega
 have c3:decide ((i:Int)<8)=true:=by simp;omega
 have w1:IntKind.i64.wrap ((i:Int)+1)=((i+1:Nat):Int):=by rw[IntWalk.i64_in _ (by omega)];rfl
 have g:=HJ hlt
 have g2:=vd hlt
 cases hb:isT t (keysK.getD i []) with
 | false =>
  have hne:i≠i0:=by rintro rfl;rw[hb0] at hb;cases hb
  simp only[go_sem,List.length_map,hk8,hk8',c3,g]
  refine⟨by omega,?_⟩
  refine qx ht hb (zF hp) ?_
  simp only[go_sem,w1]
  refine⟨k-1,_,by omega,?_,i+1,by omega,by omega,rfl⟩
  repeat (first | exact zj | refine zk _ ?_ | refine zg _ ?_ | refine zf _ ?_)
 | true =>
  have hii:i=i0:=by
   have e1:=(Qi.1 hb).2
   have e2:=(Qi.1 hb0).2
   have:=yl ⟨i,hlt⟩ ⟨i0,hi0⟩ (e1.symm.trans e2)
   exact congrArg Fin.val this
  subst hii
  simp only[Option.bind_eq_some_iff,Prod.exists] at h
  obtain⟨u,p1,h1,x,p2,h2,h⟩:=h
  simp only[go_sem,List.length_map,hk8,hk8',c3,g]
  refine⟨by omega,?_⟩
  refine qx ht hb (zF hp) ?_
  simp only[go_sem]
  refine qS hT h1 (zF hp) ?_
  simp only[go_sem,zb hp]
  refine zP [] [(0,[8]),(0,[8]),(0,[8]),(0,[8]),(0,[8]),(0,[8]),(0,[8]),(3,[8]),(1,[9])] mixed rfl ?_
  simp only[go_sem,zy,zu,zw,zt,zr,zG,zH,zx,zh,List.length_map,hk8,hk8',g2]
  refine⟨by omega,?_⟩
  rw[zL]
  refine⟨.agg [.sc (.int .i64 (kindsK.getD i 0)),.sc (.string ⟨#[]⟩),.sc (.int .i64 0),.sc (.int .i64 u.pos),.slice .full 0 [],.slice .full 0 []],?_,?_⟩
  ·simp only[go_sem]
   exact⟨⟨[],by simp⟩,KX (t:=[]) (ql (.inr rfl) (fun x hx=>by cases hx)),.inl rfl⟩
  refine⟨_,_,⟨rfl,rfl⟩,?_⟩
  simp only[go_sem,zy,zu,zw,zt,zr,zG,zH,zx,zh,List.length_map,hk8,hk8',g2]
  refine⟨⟨?_,by omega⟩,?_⟩
  ·rw[zL]
   refine⟨_,?_,rfl⟩
   simp only[go_sem]
   exact⟨⟨[],by simp⟩,KX (t:=[]) (ql (.inr rfl) (fun x hx=>by cases hx)),.inl rfl⟩
  refine Z1 (st.length+2) 5 6 0 (Zg 2) (by simp) rfl ?_
  rw[QA]
  simp only[List.length_append,Xn,List.length_cons,List.length_nil,List.set_cons_succ,List.set_cons_zero,List.append_assoc,List.cons_append,List.nil_append,Nat.zero_add,Nat.reduceAdd]
  refine zP [] [(0,[5]),(0,[5]),(0,[]),(3,[5]),(0,[]),(3,[7]),(0,[]),(1,[8])] mixed rfl ?_
  simp only[go_sem,zy,zu,zw,zt,zr,zG,zH,zx,zh]
  refine⟨_,_,ha _ _ _ h2 _ _ (zA hp) ⟨rfl,rfl⟩,?_⟩
  simp only[go_sem,zy,zu,zw,zt,zr,zG,zH,zx,zh,zb hp]
  rw[zL]
  refine⟨.slice .full 6 [zJ x],?_,?_⟩
  ·simp only[go_sem]
   exact⟨⟨[],by simp⟩,qb _ _ (.inr rfl) _ [_],.inl rfl⟩
  simp only[go_sem,zy,zu,zw,zt,zr,zG,zH,zx,zh]
  refine⟨_,_,⟨Tryz.app6d (by simp),rfl,rfl⟩,?_⟩
  by_cases h6:6≤i
  ·have c6:decide ((6:Int)≤(i:Int))=true:=by simp;omega
   simp only[if_pos h6,if_true,Option.map_eq_some_iff,Prod.exists,Prod.mk.injEq] at h
   obtain⟨y,p3,h3,rfl,rfl⟩:=h
   simp only[go_sem,ge_iff_le,c6]
   refine zP [] [(0,[5]),(0,[5]),(0,[]),(3,[5]),(0,[]),(3,[7]),(0,[]),(1,[8])] mixed rfl ?_
   simp only[go_sem,zy,zu,zw,zt,zr,zG,zH,zx,zh]
   refine⟨_,_,ha _ _ _ h3 _ _ (zA hp) ⟨rfl,rfl⟩,?_⟩
   simp only[go_sem,zy,zu,zw,zt,zr,zG,zH,zx,zh,zb hp]
   rw[zL]
   refine⟨.slice .full 6 [zJ y],?_,?_⟩
   ·simp only[go_sem]
    exact⟨⟨[],by simp⟩,qb _ _ (.inr rfl) _ [_],.inl rfl⟩
   simp only[go_sem,zy,zu,zw,zt,zr,zG,zH,zx,zh]
   refine⟨_,_,⟨Tryz.app6d (by simp),rfl,rfl⟩,?_⟩
   simp only[go_sem]
   exact⟨by decide,Qx (nd:=zT (kindsK.getD i 0) u.pos [] [x,y]) hk rfl⟩
  ·have c6:decide ((6:Int)≤(i:Int))=false:=by simp;omega
   rw[if_neg (by rw[if_neg h6];decide)] at h
   cases h
   simp only[go_sem,ge_iff_le,c6]
   exact⟨by decide,Qx (nd:=zT (kindsK.getD i 0) u.pos [] [x]) hk rfl⟩
theorem dz {T:List Tk} (hT:T.length≤100000) {pid:Nat} {e pt:PM Nd} (ha:DC T pid 142 (YU T e pt)) (hE:DE T pid 142 (YU T e pt)) {p p':PS} {t:Tk} {r:Nd} (ht:zR T p=some t) (hc:¬ 0<(YD t).1) (h4:t.kind=4)
  (h:((YU T e pt p).bind fun r=>WL T e pt (T.length+2) true r.1 r.2)=some (r,p')) {K:SV→St→Prop} {st:St} (hp:YR T pid p st) (hk:K (zJ r) (st.set pid (.cells (qN T p')))):ACalls prog 127 [.ptr pid 0] K st:=by
 simp only[Option.bind_eq_some_iff,Prod.exists] at h
 obtain⟨n0,p1,h1,hL⟩:=h
 have c4:(t.kind==4)=true:=by simp[h4]
 obtain⟨hnm0,hE⟩:=hE _ _ _ _ ht h4 h1
 refine zM (zE [] func127 rfl results127 ntmps127 ?_)
 simp only[go_sem]
 refine zN [] (fun k env s=>∃ i:Nat,k+i=8∧True∧env=[.ptr pid 0,.any,.ptr st.length 0,.slice .full 1 (keysK.map qD),.slice .full 1 (kindsK.map fun n=>SV.sc (.int .i64 n)),.sc (.int .i64 i),.any,.any,.any,.any,.any,.any,.any,.any,.any,.any,.any,.any,.any,.any,.any,.any,.any,.any,.any,.any,.any,.any,.any,.any,.any,.any,.any,.any,.any,.any,.any,.any,.any,.any,.any,.any,.any,.any,.any,.any,.any,.any,.any,.any,.any,.any,.any,.any,.any,.any,.any,.any,.any,.any,.any,.any,.any,.any,.any,.any,.any,.any,.any,.any,.any,.any,.any,.any,.any,.any,.any,.any,.any,.any,.any,.any,.any,.any,.any]∧s=st++[.cells qK]) (n:=8) ?_ ⟨0,by omega,trivial,rfl,rfl⟩ ?_
 ·repeat (first | exact zj | refine zk _ ?_ | refine zg _ ?_ | refine zf _ ?_)
 rintro k env s ⟨i,hi,hinv,rfl,rfl⟩
 have hk8:(keysK.length:Int)=8:=rfl
 have hk8':(kindsK.length:Int)=8:=rfl
 by_cases hlt:i<8
 ·have c3:decide ((i:Int)<8)=true:=by simp;omega
  have w1:IntKind.i64.wrap ((i:Int)+1)=((i+1:Nat):Int):=by rw[IntWalk.i64_in _ (by omega)];rfl
  have g:=HJ hlt
  have hb:isT t (keysK.getD i [])=false:=by
   cases hb:isT t (keysK.getD i []) with
   | false=>rfl
   | true =>
    exfalso;apply hc
    rw[Gq hlt hb]
    exact Gz ⟨i,hlt⟩
  simp only[go_sem,List.length_map,hk8,hk8',c3,g]
  refine⟨by omega,?_⟩
  refine qx ht hb (zF hp) ?_
  simp only[go_sem,w1]
  refine⟨k-1,_,by omega,?_,i+1,by omega,rfl⟩
  repeat (first | exact zj | refine zk _ ?_ | refine zg _ ?_ | refine zf _ ?_)
 have c3:decide ((i:Int)<8)=false:=by simp;omega
 simp only[go_sem,c3]
 refine qr ht (zF hp) ?_
 simp only[go_sem,c4]
 refine hE _ _ (zF hp) ?_
 rw[BN hnm0]
 unfold qK
 simp only[go_sem,zb hp,c4]
 refine Z1 (st.length+1) 5 6 0 (Zg 1) (by simp) rfl ?_
 rw[QA]
 simp only[List.length_append,Xn,List.length_cons,List.length_nil,List.set_cons_succ,List.set_cons_zero,List.append_assoc,List.cons_append,List.nil_append,Nat.zero_add,Nat.reduceAdd]
 refine zN [] (fun m env s=>∃ (nd:Nd) (q:PS) (k:Nat) (ex:St),WL T e pt m true nd q=some (r,p')∧m+nd.kids.length≤T.length+2∧nd.names=[]∧env=[.ptr pid 0,.any,.ptr st.length 0,.any,.any,.any,.any,.any,.any,.sc (.bool true),.ptr (st.length+1) 0,.any,.any,.any,.any,.any,.any,.any,.any,.any,.any,.any,.any,.any,.any,.any,.any,.any,.any,.any,.any,.any,.any,.any,.any,.any,.any,.any,.any,.any,.any,.any,.any,.any,.any,.any,.any,.any,.any,.any,.any,.any,.any,.any,.any,.any,.any,.any,.any,.any,.any,.any,.any,.any,.any,.any,.any,.any,.any,.any,.any,.any,.any,.any,.any,.any,.any,.any,.any,.any,.any,.any,.any,.any,.any] ∧
  s=st.set pid (.cells (qN T q))++(.cells qK :: .cells (qw (st.length+2) k nd) :: .tok k::ex)) (n:=T.length+2) ?_ ⟨n0,_,0,[],hL,by rw[hnm0.2];simp,hnm0.1,rfl,by unfold qw;rw[hnm0.2];rfl⟩ ?_
 ·repeat (first | exact zj | refine zk _ ?_ | refine zg _ ?_ | refine zf _ ?_)
 rintro m env s ⟨nd,q,k,ex,hl,hm,hnm,rfl,rfl⟩
 cases m with
 | zero=>cases hl
 | succ m =>
 unfold WL at hl
 rw[Option.bind_eq_some_iff] at hl
 obtain⟨t,ht,hl⟩:=hl
 unfold qw qK
 cases hb:ZD t with
 | false =>
  rw[if_neg (by rw[hb];decide)] at hl
  cases hl
  simp only[go_sem]
  refine Vu ht hb (zA hp) ?_
  simp only[go_sem]
  exact Qx hk hnm
 | true =>
  rw[if_pos hb,if_pos rfl] at hl
  by_cases l4:nd.kids.length=4
  ·have l1:((nd.kids.length:Int)==4)=true:=by simp[l4]
   rw[if_pos l4,Option.map_eq_some_iff] at hl
   obtain⟨p2,h6,hl⟩:=hl
   cases hl
   simp only[go_sem]
   refine Vu ht hb (zA hp) ?_
   simp only[go_sem,List.length_map,l1]
   first | (unfold zl;simp only[ze,zc,zq,List.set_cons_succ,List.set_cons_zero,List.getD_cons_succ,List.getD_cons_zero]) | skip
   refine Qg h6 (zA hp) fun _=>?_
   simp only[go_sem,zb hp]
   exact Qx hk hnm
  ·have l1:((nd.kids.length:Int)==4)=false:=by simp;omega
   rw[if_neg l4,Option.bind_eq_some_iff] at hl
   obtain⟨⟨x,p2⟩,h6,hl⟩:=hl
   simp only[go_sem]
   refine Vu ht hb (zA hp) ?_
   simp only[go_sem,List.length_map,l1]
   refine zP [] [(0,[5]),(0,[5]),(0,[]),(3,[5]),(0,[]),(3,[7]),(0,[]),(1,[8])] mixed rfl ?_
   simp only[go_sem,zy,zu,zw,zt,zr,zG,zH,zx,zh]
   refine⟨_,_,ha _ _ _ h6 _ _ (zA hp) ⟨rfl,rfl⟩,?_⟩
   simp only[go_sem,zy,zu,zw,zt,zr,zG,zH,zx,zh,zb hp]
   rw[zL]
   refine⟨.slice .full 6 [zJ x],?_,?_⟩
   ·simp only[go_sem]
    exact⟨⟨[],by simp⟩,qb _ _ (.inr rfl) _ [_],.inl rfl⟩
   simp only[go_sem,zy,zu,zw,zt,zr,zG,zH,zx,zh]
   refine⟨_,_,⟨Tryz.app6d (by omega),rfl,rfl⟩,?_⟩
   simp only[go_sem]
   refine⟨m,_,by omega,?_,nd.addKid x,p2,k+1,_,hl,by rw[qc];simp;omega,by rw[qs];exact hnm,rfl,by rw[qV,qU,Zq,Zp,qc,List.map_append];rfl⟩
   repeat (first | exact zj | refine zk _ ?_ | refine zg _ ?_ | refine zf _ ?_)
theorem nW {T:List Tk} (hT:T.length≤100000) {pid:Nat} {e pt:PM Nd} (ha:DC T pid 142 (YU T e pt)) {p p':PS} {t:Tk} {r:Nd} (ht:zR T p=some t) (hc:¬ 0<(YD t).1) (h4:t.kind≠4)
  (h:((YU T e pt p).bind fun r=>WL T e pt (T.length+2) false r.1 r.2)=some (r,p')) {K:SV→St→Prop} {st:St} (hp:YR T pid p st) (hk:K (zJ r) (st.set pid (.cells (qN T p')))):ACalls prog 127 [.ptr pid 0] K st:=by
 simp only[Option.bind_eq_some_iff,Prod.exists] at h
 obtain⟨n0,p1,h1,hL⟩:=h
 have c4:(t.kind==4)=false:=by simp[h4]
 refine zM (zE [] func127 rfl results127 ntmps127 ?_)
 simp only[go_sem]
 refine zN [] (fun k env s=>∃ i:Nat,k+i=8∧True∧env=[.ptr pid 0,.any,.ptr st.length 0,.slice .full 1 (keysK.map qD),.slice .full 1 (kindsK.map fun n=>SV.sc (.int .i64 n)),.sc (.int .i64 i),.any,.any,.any,.any,.any,.any,.any,.any,.any,.any,.any,.any,.any,.any,.any,.any,.any,.any,.any,.any,.any,.any,.any,.any,.any,.any,.any,.any,.any,.any,.any,.any,.any,.any,.any,.any,.any,.any,.any,.any,.any,.any,.any,.any,.any,.any,.any,.any,.any,.any,.any,.any,.any,.any,.any,.any,.any,.any,.any,.any,.any,.any,.any,.any,.any,.any,.any,.any,.any,.any,.any,.any,.any,.any,.any,.any,.any,.any,.any]∧s=st++[.cells qK]) (n:=8) ?_ ⟨0,by omega,trivial,rfl,rfl⟩ ?_
 ·repeat (first | exact zj | refine zk _ ?_ | refine zg _ ?_ | refine zf _ ?_)
 rintro k env s ⟨i,hi,hinv,rfl,rfl⟩
 have hk8:(keysK.length:Int)=8:=rfl
 have hk8':(kindsK.length:Int)=8:=rfl
 by_cases hlt:i<8
 ·have c3:decide ((i:Int)<8)=true:=by simp;omega
  have w1:IntKind.i64.wrap ((i:Int)+1)=((i+1:Nat):Int):=by rw[IntWalk.i64_in _ (by omega)];rfl
  have g:=HJ hlt
  have hb:isT t (keysK.getD i [])=false:=by
   cases hb:isT t (keysK.getD i []) with
   | false=>rfl
   | true =>
    exfalso;apply hc
    rw[Gq hlt hb]
    exact Gz ⟨i,hlt⟩
  simp only[go_sem,List.length_map,hk8,hk8',c3,g]
  refine⟨by omega,?_⟩
  refine qx ht hb (zF hp) ?_
  simp only[go_sem,w1]
  refine⟨k-1,_,by omega,?_,i+1,by omega,rfl⟩
  repeat (first | exact zj | refine zk _ ?_ | refine zg _ ?_ | refine zf _ ?_)
 have c3:decide ((i:Int)<8)=false:=by simp;omega
 simp only[go_sem,c3]
 refine qr ht (zF hp) ?_
 simp only[go_sem,c4]
 refine ha _ _ _ h1 _ _ (zF hp) ?_
 unfold qK
 simp only[go_sem,zb hp,c4]
 refine Vb [] (st.length+1) (fun m env s=>∃ (nd:Nd) (q:PS) (ex:St),WL T e pt m false nd q=some (r,p')∧env=[.ptr pid 0,.any,.ptr st.length 0,.any,.any,.any,.any,.any,.any,.sc (.bool false),.ptr (st.length+1) 0,.any,.any,.any,.any,.any,.any,.any,.any,.any,.any,.any,.any,.any,.any,.any,.any,.any,.any,.any,.any,.any,.any,.any,.any,.any,.any,.any,.any,.any,.any,.any,.any,.any,.any,.any,.any,.any,.any,.any,.any,.any,.any,.any,.any,.any,.any,.any,.any,.any,.any,.any,.any,.any,.any,.any,.any,.any,.any,.any,.any,.any,.any,.any,.any,.any,.any,.any,.any,.any,.any,.any,.any,.any,.any] ∧
  s=st.set pid (.cells (qN T q))++(.cells qK :: .cells (zD nd)::ex)) (n:=T.length+2) ?_ ⟨_,_,Zg 1,X' _,n0,_,[],hL,rfl,by rw[QA,zd];rfl⟩ ?_
 ·repeat (first | exact zj | refine zk _ ?_ | refine zg _ ?_ | refine zf _ ?_)
 rintro m env s ⟨nd,q,ex,hl,rfl,rfl⟩
 cases m with
 | zero=>cases hl
 | succ m =>
 unfold WL at hl
 rw[Option.bind_eq_some_iff] at hl
 obtain⟨t,ht,hl⟩:=hl
 unfold zD qK
 cases hb:ZD t with
 | false =>
  rw[if_neg (by rw[hb];decide)] at hl
  cases hl
  simp only[go_sem]
  refine Vu ht hb (zA hp) ?_
  simp only[go_sem]
  exact Q8 (m1 :=.imm) (m2 :=.imm) (z1:=1) (z2:=6) hk (.inl rfl) (.inl rfl)
 | true =>
  rw[if_pos hb,if_neg (by decide),Option.bind_eq_some_iff] at hl
  obtain⟨⟨x,p2⟩,h6,hl⟩:=hl
  simp only[go_sem]
  refine Vu ht hb (zA hp) ?_
  simp only[go_sem]
  refine zP [] [(0,[7]),(0,[7]),(0,[7]),(0,[]),(3,[7]),(0,[]),(0,[]),(1,[8])] mixed rfl ?_
  simp only[go_sem,zy,zu,zw,zt,zr,zG,zH,zx,zh]
  refine⟨_,_,ha _ _ _ h6 _ _ (zA hp) ⟨rfl,rfl⟩,?_⟩
  simp only[go_sem,zy,zu,zw,zt,zr,zG,zH,zx,zh,zb hp]
  rw[zL]
  refine⟨.slice .full 6 [.agg (zD nd),zJ x],?_,?_⟩
  ·unfold zD
   simp only[go_sem]
   exact⟨⟨[],by simp⟩,X5 _ nd x,.inl rfl⟩
  rw[zL]
  refine⟨.agg [.sc (.int .i64 7),.sc (.string ⟨#[]⟩),.sc (.int .i64 0),.sc (.int .i64 nd.pos),.slice .full 0 [],.slice .full 6 [.agg (zD nd),zJ x]],?_,?_⟩
  ·unfold zD
   simp only[go_sem]
   exact⟨⟨[],by simp⟩,KX (t:=[]) (X5 _ nd x),.inl rfl⟩
  unfold zD
  simp only[go_sem,zy,zu,zw,zt,zr,zG,zH,zx,zh]
  refine⟨_,_,Nat.lt_succ_self _,?_,_,_,Zg 1,kU (t:=[]),zT 7 nd.pos [] [nd,x],p2,_,hl,rfl,rfl⟩
  repeat (first | exact zj | refine zk _ ?_ | refine zg _ ?_ | refine zf _ ?_)
theorem oT {T:List Tk} (hT:T.length≤100000) {pid:Nat} {e pt:PM Nd} (ha:DC T pid 142 (YU T e pt)) (hE:DE T pid 142 (YU T e pt)):DC T pid 127 (ji T e pt):=by
 intro p r p' h K st hp hk
 unfold ji at h
 rw[Option.bind_eq_some_iff] at h
 obtain⟨t,ht,h⟩:=h
 by_cases hc:0<(YD t).1
 ·rw[if_pos hc] at h
  exact dO hT ha ht hc h hp hk
 ·rw[if_neg hc] at h
  by_cases h4:t.kind=4
  ·rw[show (t.kind==4)=true by simp[h4]] at h
   exact dz hT ha hE ht hc h4 h hp hk
  ·rw[show (t.kind==4)=false by simp[h4]] at h
   exact nW hT ha ht hc h4 h hp hk
end Go.Proofs
